/-
  Lemmas that the theorem journalDamage_upto_card needs (part 1 of 8).
-/
import Derived.WalkKit
import Derived.TacticsIn
import Derived.CallsIn
import Derived.KernelRfl
import Derived.Below
import Derived.RangeFuncCalls
import Derived.RangeFuncLeaves
import Derived.OrdersIn
import Derived.Sort.LoopGhostIn
import Derived.RangeFuncOne
import Derived.Laws.Small
import Derived.Maps.AppendAt
import Derived.Laws.Cover3
set_option maxHeartbeats 64000000
theorem Go.Proofs.I.{u} {α:Sort u} {a:α}:a=a:=rfl
theorem Go.Proofs.tO:True:=trivial
theorem Go.Proofs.fTr {α:Type} {x:Option α} {a b:α} (h:x=some a) (e:a=b):x=some b:=h.trans (congrArg some e)
theorem Go.Proofs.dT {p:Prop} [Decidable p] (h:p):decide p=true:=decide_eq_true h
theorem Go.Proofs.dF {p:Prop} [Decidable p] (h: ¬p):decide p=false:=decide_eq_false h
namespace Go.Am
open Go
structure TI where
 agg:Bool:=false
 size:Nat:=1
 fields:List (Nat×Nat×Bool):=[]
 elem:Nat:=0
 elemSize:Nat:=0
 kind:Nat:=0
abbrev Tbl:=List (TypeId×TI)
def find (T:Tbl) (t:TypeId):Option TI:=
 match T with
 |[]=>none
 |(u,i)::r=>if Nat.beq u t then some i else find r t
def Xz (P:Program) (t:TypeId):Bool:=
 match P.underlying t with
 |some (.struct _)|some (.array _ _)=>true
 |_=>false
def J4 (P:Program) (t:TypeId) (n:Nat):Bool:=
 match P.info? t with
 |some i=>i.size==n
 |none=>false
def Hi (P:Program) (t:TypeId) (i:TI):Bool:=
 J4 P t i.size&&
 (match P.underlying t with
 |some (.struct fs)=>i.agg&&i.kind==4&&fs.toList.length==i.fields.length&&
   ((fs.toList.zip i.fields).all fun(f,(off,size,ag))=>f.offset==off&&J4 P f.type size&&size !=0&&Xz P f.type==ag&&(P.underlying f.type).isSome)
 |some (.array _ e)=>i.agg&&i.kind==3&&i.elem==e&&J4 P e i.elemSize
 |some (.slice e)=> !i.agg&&i.kind==2&&i.elem==e&&J4 P e i.elemSize
 |some .string=> !i.agg&&i.kind==1
 |some _=> !i.agg&&i.kind==0
 |none=>false)
def okB (P:Program) (T:Tbl):Bool:=T.all fun(t,i)=>Hi P t i
theorem B8 {P:Program} {t:TypeId} {i:TI}: ∀ {T:Tbl},okB P T=true->find T t=some i->Hi P t i=true
 |[],_,h=>by simp[find] at h
 |(u,j)::r,h,hf=>by
  simp only[okB,List.all_cons,Bool.and_eq_true] at h
  unfold find at hf
  by_cases e:Nat.beq u t=true
  ·rw[if_pos e] at hf
   cases hf
   have:u=t:=Nat.eq_of_beq_eq_true e
   subst this
   exact h.1
  ·rw[if_neg e] at hf
   exact B8 (T:=r) h.2 hf
theorem Ev {P:Program} {t:TypeId} {n:Nat} (h:J4 P t n=true) (w:World):(sizeOf t).run P w= .ok n w:=by
 unfold J4 at h
 cases hi:P.info? t with
 |none=>rw[hi] at h;cases h
 |some i=>rw[hi] at h;simp at h;simp[sizeOf,typeInfo,hi,h]
theorem JA {P:Program} {t:TypeId} {i:TI} (h:Hi P t i=true) (w:World):(sizeOf t).run P w= .ok i.size w:=by
 simp only[Hi,Bool.and_eq_true] at h
 exact Ev h.1 w
theorem Q5 {P:Program} {t:TypeId} {b:Bool} (h:Xz P t=b) (hu:(P.underlying t).isSome=true) (w:World):(isAgg t).run P w= .ok b w:=by
 unfold Xz at h
 cases hu':P.underlying t with
 |none=>rw[hu'] at hu;cases hu
 |some d=>
  rw[hu'] at h
  unfold isAgg
  simp only[Sem.run_bind,run_underlying hu',Result.andThen_ok]
  cases d<;>simp at h<;>subst h<;>rfl
theorem VF {P:Program} {t:TypeId} {i:TI} (h:Hi P t i=true):(P.underlying t).isSome=true:=by
 simp only[Hi,Bool.and_eq_true] at h
 cases hu:P.underlying t with
 |none=>have:=h.2;rw[hu] at this;cases this
 |some d=>rfl
theorem Uk {P:Program} {t:TypeId} {i:TI} (h:Hi P t i=true) (w:World):(isAgg t).run P w= .ok i.agg w:=by
 refine Q5 ?_ (VF h) w
 have h2:=h
 simp only[Hi,Bool.and_eq_true] at h2
 obtain⟨_,h2⟩:=h2
 unfold Xz
 cases hu:P.underlying t with
 |none=>rw[hu] at h2;cases h2
 |some d=>
  rw[hu] at h2
  cases d<;>simp at h2<;>simp[h2]
end Go.Am
namespace Go.Am
open Go
def TX (a b:IntKind):Bool:=decide (a=b)
def bL (op:BinOp) (k:IntKind) (a b:Int):Option Value:=
 match op with
 | .add=>some (.int k (k.wrap (a+b)))
 | .sub=>some (.int k (k.wrap (a-b)))
 | .mul=>some (.int k (k.wrap (a*b)))
 | .eql=>some (.bool (a==b))
 | .neq=>some (.bool (a !=b))
 | .lss=>some (.bool (decide (a<b)))
 | .leq=>some (.bool (decide (a<=b)))
 | .gtr=>some (.bool (decide (a>b)))
 | .geq=>some (.bool (decide (a≥b)))
 |_=>none
def bU (op:BinOp) (a b:ByteArray):Option Value:=
 match op with
 | .eql=>some (.bool (a.toList==b.toList))
 | .neq=>some (.bool (!(a.toList==b.toList)))
 |_=>none
def Pt (op:BinOp) (x y:Value):Option Value:=
 match x,y with
 | .int k a, .int k' b=>match TX k k' with|true=>bL op k a b|false=>none
 | .string a, .string b=>bU op a b
 |_,_=>none
def SR (op:UnOp) (x:Value):Option Value:=
 match op,x with
 | .not, .bool b=>some (.bool (!b))
 | .neg, .int k n=>some (.int k (k.wrap (0-n)))
 |_,_=>none
def Cl (ρ:Operand->Option Value):List Operand->Option (List Value)
 |[]=>some []
 |x::r=>match ρ x with
  |some v=>match Cl ρ r with
   |some l=>some (v::l)
   |none=>none
  |none=>none
def WG:Value->List Value->Option Value
 | .int k x, .int k' y::r=>match TX k k' with|true=>WG (.int k (if y>x then y else x)) r|false=>none
 | .int k x,[]=>some (.int k x)
 |_,_=>none
def WZ:Value->List Value->Option Value
 | .int k x, .int k' y::r=>match TX k k' with|true=>WZ (.int k (if y<x then y else x)) r|false=>none
 | .int k x,[]=>some (.int k x)
 |_,_=>none
def Rb (T:Tbl) (b:Builtin) (ts:Array TypeId) (vs:List Value):Option Value:=
 match b,ts.toList,vs with
 | .len,t::_,x::_=>match find T t with
  |none=>none
  |some i=>match i.kind,x with
   |1, .string s=>some (.int .i64 s.size)
   |2, .slice _ n _=>some (.int .i64 n)
   |_,_=>none
 | .cap,t::_,x::_=>match find T t with
  |none=>none
  |some i=>match i.kind,x with
   |2, .slice _ _ c=>some (.int .i64 c)
   |_,_=>none
 | .max,_,x::r=>WG x r
 | .min,_,x::r=>WZ x r
 |_,_,_=>none
def nth {α:Type}:List α->Nat->Option α
 |[],_=>none
 |a::_,0=>some a
 |_::l,n+1=>nth l n
theorem AT {α:Type}: ∀(l:List α) (n:Nat),nth l n=l[n]?
 |[],_=>rfl
 |_::_,0=>rfl
 |_::l,n+1=>by simp[nth,AT l n]
def AD (T:Tbl) (ρ:Operand->Option Value):Op->Option Value
 | .move x| .assign x=>ρ x
 | .pick c a b=>match ρ c with
  |some (.bool true)=>ρ a
  |some (.bool false)=>ρ b
  |_=>none
 | .binOp op _ x y _=>match ρ x with
  |some a=>match ρ y with
   |some b=>Pt op a b
   |none=>none
  |none=>none
 | .unOp op _ x=>match ρ x with
  |some a=>SR op a
  |none=>none
 | .fieldAddr s x f=>match find T s with
  |none=>none
  |some i=>match i.kind,nth i.fields f,ρ x with
   |4,some (off,_,_),some (.pointer (some ⟨b,o,none⟩))=>some (.pointer (some ⟨b,o+off,none⟩))
   |_,_,_=>none
 | .field s x f=>match find T s with
  |none=>none
  |some i=>match i.kind,nth i.fields f,ρ x with
   |4,some (off,size,ag),some (.agg cs)=>match ag with
    |true=>some (.agg ((cs.toList.drop off).take size).toArray)
    |false=>nth cs.toList off
   |_,_,_=>none
 | .extract x i=>match ρ x with
  |some (.tuple vs)=>nth vs.toList i
  |_=>none
 | .makeFunc fn first capt=>match Cl ρ first.toList with
  |some l=>match Cl ρ capt.toList with
   |some m=>some (.func fn l.toArray m.toArray)
   |none=>none
  |none=>none
 | .call c=>match c.callee with
  | .builtin b=>match Cl ρ c.args.toList with
   |some vs=>Rb T b c.argTypes vs
   |none=>none
  |_=>none
 |_=>none
theorem LP {ρ:Operand->Option Value} {ρ':Operand->Value} (hρ: ∀x v,ρ x=some v->ρ' x=v): ∀ {l:List Operand} {vs:List Value},Cl ρ l=some vs->l.map ρ'=vs
 |[],vs,h=>by cases h;rfl
 |x::r,vs,h=>by
  unfold Cl at h
  split at h
  ·rename_i v hv
   split at h
   ·rename_i l hl
    cases h
    simp[hρ _ _ hv,LP hρ hl]
   ·cases h
  ·cases h
theorem DG {ρ:Operand->Option Value} {ρ':Operand->Value} (hρ: ∀x v,ρ x=some v->ρ' x=v) {xs:Array Operand} {vs:List Value} (h:Cl ρ xs.toList=some vs):xs.map ρ'=vs.toArray:=by
 have e:=LP hρ h
 apply Array.toList_inj.1
 rw[Array.toList_map,e]
theorem Ud {P:Program} {op:BinOp} {k:IntKind} {a b:Int} {v:Value} (t:TypeId) (x y:Operand) (h:bL op k a b=some v) (w:World):
  ((do eqGuard op t x y (.int k a) (.int k b);binOp op t (.int k a) (.int k b)):Sem Value).run P w= .ok v w:=by
 unfold bL at h
 cases op<;>simp at h<;>subst h<;>simp[eqGuard,binOp,Op.intArith,Op.intCmp]
theorem TG {P:Program} {op:BinOp} {a b:ByteArray} {v:Value} (t:TypeId) (x y:Operand) (h:bU op a b=some v) (w:World):
  ((do eqGuard op t x y (.string a) (.string b);binOp op t (.string a) (.string b)):Sem Value).run P w= .ok v w:=by
 unfold bU at h
 cases op<;>simp at h<;>subst h<;>simp[eqGuard,binOp,Op.stringOp]
theorem Rp {P:Program} {op:BinOp} {a b v:Value} (t:TypeId) (x y:Operand) (h:Pt op a b=some v) (w:World):
  ((do eqGuard op t x y a b;binOp op t a b):Sem Value).run P w= .ok v w:=by
 unfold Pt at h
 split at h
 ·rename_i k a k' b
  split at h
  ·rename_i hk
   have:k=k':=of_decide_eq_true hk
   subst this
   exact Ud t x y h w
  ·cases h
 ·exact TG t x y h w
 ·cases h
theorem Ua {P:Program} {op:UnOp} {a v:Value} (h:SR op a=some v) (w:World):(Op.unary op a).run P w= .ok v w:=by
 unfold SR at h
 split at h<;>cases h<;>simp[Op.unary,Op.intArith]
theorem QS {P:Program} (w:World): ∀(r:List Value) (x v:Value),WG x r=some v->(r.foldlM Builtin.max2 x:Sem Value).run P w= .ok v w
 |[],x,v,h=>by
  cases x<;>simp[WG] at h<;>subst h<;>simp[List.foldlM]
 |y::r,x,v,h=>by
  cases x<;>cases y<;>simp[WG] at h
  rename_i k a k' b
  split at h
  ·rename_i hk
   have:k=k':=of_decide_eq_true hk
   subst this
   have:=QS (P:=P) w r _ v h
   simp only[List.foldlM,Sem.run_bind,Builtin.max2,Sem.run_pure,Result.andThen_ok]
   exact this
  ·cases h
theorem Q8 {P:Program} (w:World): ∀(r:List Value) (x v:Value),WZ x r=some v->(r.foldlM Builtin.min2 x:Sem Value).run P w= .ok v w
 |[],x,v,h=>by
  cases x<;>simp[WZ] at h<;>subst h<;>simp[List.foldlM]
 |y::r,x,v,h=>by
  cases x<;>cases y<;>simp[WZ] at h
  rename_i k a k' b
  split at h
  ·rename_i hk
   have:k=k':=of_decide_eq_true hk
   subst this
   have:=Q8 (P:=P) w r _ v h
   simp only[List.foldlM,Sem.run_bind,Builtin.min2,Sem.run_pure,Result.andThen_ok]
   exact this
  ·cases h
theorem E1 {P:Program} {t:TypeId} {i:TI} (h:Hi P t i=true) (hk:i.kind=1):P.underlying t=some .string:=by
 simp only[Hi,Bool.and_eq_true] at h
 cases hu:P.underlying t with
 |none=>have:=h.2;rw[hu] at this;cases this
 |some d=>have h2:=h.2;rw[hu] at h2;cases d<;>simp[hk] at h2<;>first|rfl|(exfalso;omega)
theorem Gy {P:Program} {t:TypeId} {i:TI} (h:Hi P t i=true) (hk:i.kind=2):P.underlying t=some (.slice i.elem)/\J4 P i.elem i.elemSize=true:=by
 simp only[Hi,Bool.and_eq_true] at h
 cases hu:P.underlying t with
 |none=>have:=h.2;rw[hu] at this;cases this
 |some d=>have h2:=h.2;rw[hu] at h2;cases d<;>simp[hk] at h2<;>first|(obtain⟨⟨_,h3⟩,h4⟩:=h2;subst h3;exact⟨rfl,h4⟩)|(exfalso;omega)
theorem JU {P:Program} {t:TypeId} {i:TI} (h:Hi P t i=true) (hk:i.kind=4): ∃fs,P.underlying t=some (.struct fs)/\
  ∀(f:Nat) (x:Nat×Nat×Bool),i.fields[f]? =some x-> ∃g,fs[f]? =some g/\g.offset=x.1/\J4 P g.type x.2.1=true/\x.2.1≠0/\Xz P g.type=x.2.2/\(P.underlying g.type).isSome=true:=by
 simp only[Hi,Bool.and_eq_true] at h
 cases hu:P.underlying t with
 |none=>have:=h.2;rw[hu] at this;cases this
 |some d=>
  have h2:=h.2;rw[hu] at h2
  cases d with
  |struct fs=>
   simp only[Bool.and_eq_true,List.all_eq_true] at h2
   obtain⟨⟨_,hl⟩,ha⟩:=h2
   have hl:fs.toList.length=i.fields.length:=by simpa using hl
   refine⟨fs,rfl,fun f x hx=> ?_⟩
   have hf:f<i.fields.length:=by
    rcases Nat.lt_or_ge f i.fields.length with h'|h'
    ·exact h'
    ·rw[List.getElem?_eq_none h'] at hx;cases hx
   have hf2:f<fs.size:=by rw[Array.length_toList] at hl;omega
   refine⟨fs[f],by simp[hf2], ?_⟩
   have hx':i.fields[f]=x:=by rw[List.getElem?_eq_getElem hf] at hx;exact Option.some.inj hx
   have hm:(fs[f],x)∈fs.toList.zip i.fields:=by
    rw[<-hx']
    have:(fs.toList.zip i.fields)[f]'(by simp;omega)=(fs[f],i.fields[f]):=by simp
    rw[<-this]
    exact List.getElem_mem _
   have:=ha _ hm
   simp only at this
   obtain⟨⟨⟨⟨h1,h3⟩,h4⟩,h5⟩,h6⟩:=this
   exact⟨by simpa using h1,h3,by simpa using h4,by simpa using h5,h6⟩
  |_=>simp[hk] at h2
theorem IX {P:Program} {T:Tbl} {ρ:Operand->Option Value} {ρ':Operand->Value} (hT:okB P T=true) (hρ: ∀x v,ρ x=some v->ρ' x=v)
  {o:Oper} {v:Value} (h:AD T ρ o.op=some v) (w:World):(execOp ρ' o).run P w= .ok (.value v) w:=by
 unfold execOp
 cases ho:o.op<;>rw[ho] at h<;>simp only[AD] at h<;>try (cases h;done)
 case move x=>simp[hρ _ _ h]
 case assign x=>simp[hρ _ _ h]
 case pick c a b=>
  split at h
  ·rename_i hc;simp[hρ _ _ hc,asBool,hρ _ _ h]
  ·rename_i hc;simp[hρ _ _ hc,asBool,hρ _ _ h]
  ·cases h
 case binOp op t x y u=>
  split at h
  ·rename_i a ha
   split at h
   ·rename_i b hb
    have:=Rp (P:=P) t x y h w
    simp only[hρ _ _ ha,hρ _ _ hb]
    simp only[Sem.run_bind] at this⊢
    simp[this]
   ·cases h
  ·cases h
 case unOp op t x=>
  split at h
  ·rename_i a ha
   have:=Ua (P:=P) h w
   simp only[hρ _ _ ha,Sem.run_bind]
   simp[this]
  ·cases h
 case fieldAddr s x f=>
  split at h
  ·cases h
  ·rename_i i hi
   have hr:=B8 hT hi
   split at h
   ·rename_i off _ _ b o' hk hn hx
    cases h
    obtain⟨fs,hu,hf⟩:=JU hr hk
    rw[AT] at hn
    obtain⟨g,hg,h1,h2,h3,_⟩:=hf _ _ hn
    simp only at h1 h2 h3
    simp only[Instr.fieldAt,Sem.run_bind,run_underlying hu,Result.andThen_ok,hg,hρ _ _ hx,Instr.sureAddr,Sem.run_pure,fieldPlace,Ev h2]
    rw[if_neg h3]
    simp only[Sem.run_pure,Result.andThen_ok,Addr.add,h1]
    by_cases h0:off=0<;>simp[h0]
   ·cases h
 case field s x f=>
  split at h
  ·cases h
  ·rename_i i hi
   have hr:=B8 hT hi
   split at h
   ·rename_i off size ag cs hk hn hx
    obtain⟨fs,hu,hf⟩:=JU hr hk
    rw[AT] at hn
    obtain⟨g,hg,h1,h2,h3,h4,h5⟩:=hf _ _ hn
    simp only at h1 h2 h3 h4
    have hag:=Q5 h4 h5 w
    simp only[Instr.field,Sem.run_bind,run_underlying hu,Result.andThen_ok,hg,hρ _ _ hx,asAgg,Sem.run_pure,part,hag,h1]
    cases ag
    ·simp only[Bool.false_eq_true,if_false]
     rw[AT] at h
     have:cs[off]? =some v:=by simpa using h
     simp[this]
    ·simp only[if_true,Sem.run_bind,Ev h2,Result.andThen_ok,Sem.run_pure]
     cases h
     have:cs.extract off (off+size)=((cs.toList.drop off).take size).toArray:=by
      rw[<-Array.toList_inj]
      simp[List.extract_eq_take_drop]
     rw[this]
   ·cases h
 case extract x i=>
  split at h
  ·rename_i vs hx
   rw[AT] at h
   simp only[hρ _ _ hx,Instr.extract]
   have:vs[i]? =some v:=by simpa using h
   simp[this]
  ·cases h
 case makeFunc fn first capt=>
  split at h
  ·rename_i l hl
   split at h
   ·rename_i m hm
    cases h
    simp[Instr.makeFunc,DG hρ hl,DG hρ hm]
   ·cases h
  ·cases h
 case call c=>
  split at h
  ·rename_i b hb
   split at h
   ·rename_i vs hvs
    simp only[resolve,hb,Sem.run_bind,Sem.run_pure,Result.andThen_ok,invoke,DG hρ hvs]
    unfold Rb at h
    split at h
    ·rename_i t ts x vs' hts
     split at h
     ·cases h
     ·rename_i i hi
      have hr:=B8 hT hi
      have ht:c.argTypes[0]? =some t:=by
       have:=congrArg (·[0]?) hts;simpa using this
      split at h
      ·rename_i s hk
       cases h
       have:=E1 hr hk
       simp[builtin,Builtin.len_,ht,run_underlying this,goInt]
      ·rename_i n _ hk
       cases h
       have:=(Gy hr hk).1
       simp[builtin,Builtin.len_,ht,run_underlying this,goInt]
      ·cases h
    ·rename_i t ts x vs' hts
     split at h
     ·cases h
     ·rename_i i hi
      have hr:=B8 hT hi
      have ht:c.argTypes[0]? =some t:=by
       have:=congrArg (·[0]?) hts;simpa using this
      split at h
      ·rename_i _ n hk
       cases h
       have:=(Gy hr hk).1
       simp[builtin,Builtin.cap_,ht,run_underlying this,goInt]
      ·cases h
    ·rename_i x r
     have:=QS (P:=P) w r _ v h
     simp[builtin,Builtin.max_,this]
    ·rename_i x r
     have:=Q8 (P:=P) w r _ v h
     simp[builtin,Builtin.min_,this]
    ·cases h
   ·cases h
  ·cases h
end Go.Am
namespace Go.Am
open Go Go.RowKit
inductive Raw
 |obj (o:Obj)
 |grp (l:List (Nat×Obj))
structure Bx where
 b:Nat
 ty:TypeId
 cells:List Value
 on:Bool:=true
 raw:Option Raw:=none
def Bx.obj (B:Bx):Obj:=match B.raw with
 |some (.obj o)=>o
 |_=> .cells B.cells.toArray B.ty (0,0)
def Bx.blk (B:Bx):List (Nat×Obj):=match B.on,B.raw with
 |false,_=>[]
 |true,some (.grp l)=>l
 |true,_=>[(B.b,B.obj)]
def Bx.sole (B:Bx):Bool:=match B.on,B.raw with
 |false,_=>false
 |true,some (.grp _)=>false
 |true,_=>true
def Bx.row (B:Bx):Bool:=B.on&&B.raw.isNone
theorem Bx.sole_blk {B:Bx} (h:B.sole=true):B.blk=[(B.b,B.obj)]:=by
 obtain⟨b,ty,c,on,raw⟩:=B
 cases on
 ·cases h
 ·cases raw with
  |none=>rfl
  |some r=>cases r with
   |obj o=>rfl
   |grp l=>cases h
theorem Bx.row_on {B:Bx} (h:B.row=true):B.sole=true/\B.obj= .cells B.cells.toArray B.ty (0,0):=by
 obtain⟨b,ty,c,on,raw⟩:=B
 cases on<;>cases raw<;>simp[Bx.row] at h
 exact⟨rfl,rfl⟩
def GY:Obj:= .deferred (some [])
structure Own (n:Nat) (bxs:List Bx) (W:World):Prop where
 cell: ∀(k:Nat) (B:Bx),bxs[k]? =some B-> ∀p∈B.blk,W.heap[p.1]? =some p.2/\n<=p.1
 nd: ∀(k:Nat) (B:Bx),bxs[k]? =some B->(B.blk.map (·.1)).Nodup
 apart: ∀(i j:Nat) (B C:Bx),bxs[i]? =some B->bxs[j]? =some C->i≠j-> ∀p∈B.blk, ∀q∈C.blk,p.1≠q.1
structure Hp (W0:World) (bxs:List Bx) (W:World):Prop where
 below:Below W0.heap.size W0 W
 own:Own W0.heap.size bxs W
abbrev As (W W':World) (bxs:List Bx):Prop:=Own W.heap.size bxs W'
theorem Own.nil (n:Nat) (W:World):Own n [] W:=⟨fun _ _ h=>by simp at h,fun _ _ h=>by simp at h,fun _ _ _ _ h=>by simp at h⟩
theorem As.nil (W W':World):As W W' []:=Own.nil _ _
theorem Hp.start (W:World):Hp W [] W:=⟨Below.refl _ _,Own.nil _ _⟩
theorem Own.lt {n:Nat} {bxs:List Bx} {W:World} (h:Own n bxs W) {k:Nat} {B:Bx} (hk:bxs[k]? =some B) {p:Nat×Obj} (hp:p∈B.blk):p.1<W.heap.size:=
 (Array.getElem?_eq_some_iff.1 (h.cell k B hk p hp).1).1
theorem Own.sole {n:Nat} {bxs:List Bx} {W:World} (h:Own n bxs W) (k:Nat) (B:Bx) (hk:bxs[k]? =some B) (ho:B.sole=true):W.heap[B.b]? =some B.obj/\n<=B.b:=
 h.cell k B hk (B.b,B.obj) (by rw[Bx.sole_blk ho];exact List.mem_cons_self ..)
theorem Hp.at_ {W0 W:World} {bxs:List Bx} (h:Hp W0 bxs W) (k:Nat) (B:Bx) (hk:bxs[k]? =some B) (ho:B.sole=true):W.heap[B.b]? =some B.obj/\W0.heap.size<=B.b:=h.own.sole k B hk ho
theorem Own.grow {n:Nat} {bxs:List Bx} {W W':World} (h:Own n bxs W) (hb:Below W.heap.size W W'):Own n bxs W':=
 ⟨fun k B hk p hp=>⟨(hb.block _ (h.lt hk hp)).trans (h.cell k B hk p hp).1,(h.cell k B hk p hp).2⟩,h.nd,h.apart⟩
theorem Hp.grow {W0 W W':World} {bxs:List Bx} (h:Hp W0 bxs W) (hb:Below W.heap.size W W'):Hp W0 bxs W':=
 ⟨h.below.trans (hb.mono h.below.size),h.own.grow hb⟩
theorem G7 {α:Type} {l m:List α} {k:Nat} {x:α} (h:(l++m)[k]? =some x):(k<l.length/\l[k]? =some x)\/(l.length<=k/\m[k-l.length]? =some x):=by
 rcases Nat.lt_or_ge k l.length with hk|hk
 ·rw[List.getElem?_append_left hk] at h;exact .inl ⟨hk,h⟩
 ·rw[List.getElem?_append_right hk] at h;exact .inr ⟨hk,h⟩
theorem Own.append {n:Nat} {bxs nb:List Bx} {W W':World} (h:Own n bxs W) (hs:n<=W.heap.size) (hb:Below W.heap.size W W') (hn:As W W' nb):Own n (bxs++nb) W':=by
 have h':=h.grow hb
 refine⟨fun k B hk p hp=> ?_,fun k B hk=> ?_,fun i j B C hi hj hne p hp q hq=> ?_⟩
 ·rcases G7 hk with⟨_,hk⟩|⟨_,hk⟩
  ·exact h'.cell _ _ hk p hp
  ·have:=hn.cell _ _ hk p hp
   exact⟨this.1,Nat.le_trans hs this.2⟩
 ·rcases G7 hk with⟨_,hk⟩|⟨_,hk⟩
  ·exact h.nd _ _ hk
  ·exact hn.nd _ _ hk
 ·rcases G7 hi with⟨_,hi⟩|⟨hli,hi⟩<;>rcases G7 hj with⟨_,hj⟩|⟨hlj,hj⟩
  ·exact h.apart _ _ _ _ hi hj hne p hp q hq
  ·have h1:=h.lt hi hp
   have h2:=(hn.cell _ _ hj q hq).2
   omega
  ·have h1:=h.lt hj hq
   have h2:=(hn.cell _ _ hi p hp).2
   omega
  ·exact hn.apart _ _ _ _ hi hj (by omega) p hp q hq
theorem Hp.append {W0 W W':World} {bxs nb:List Bx} (h:Hp W0 bxs W) (hb:Below W.heap.size W W') (hn:As W W' nb):Hp W0 (bxs++nb) W':=
 ⟨(h.grow hb).below,h.own.append h.below.size hb hn⟩
theorem Own.one {n:Nat} {W:World} {B:Bx} (h: ∀p∈B.blk,W.heap[p.1]? =some p.2/\n<=p.1) (hn:(B.blk.map (·.1)).Nodup):Own n [B] W:=by
 have zero: ∀ {k:Nat} {C:Bx},[B][k]? =some C->k=0/\C=B:=fun {k C} hk=>by
  cases k with
  |zero=>simp at hk;exact⟨rfl,hk.symm⟩
  |succ k=>simp at hk
 refine⟨fun k C hk=> ?_,fun k C hk=> ?_,fun i j C E hi hj hne=> ?_⟩
 ·obtain⟨_,rfl⟩:=zero hk;exact h
 ·obtain⟨_,rfl⟩:=zero hk;exact hn
 ·exact absurd ((zero hi).1.trans (zero hj).1.symm) hne
theorem Own.one_sole {n:Nat} {W:World} {B:Bx} (ho:B.sole=true) (h:W.heap[B.b]? =some B.obj/\n<=B.b):Own n [B] W:=by
 refine Own.one (fun p hp=> ?_) ?_
 ·rw[Bx.sole_blk ho] at hp
  obtain rfl:=List.mem_singleton.1 hp
  exact h
 ·rw[Bx.sole_blk ho];exact List.nodup_cons.2 ⟨List.not_mem_nil,List.nodup_nil⟩
theorem Hp.alloc {W0 W:World} {bxs:List Bx} (h:Hp W0 bxs W) (t:TypeId) (c:List Value):Hp W0 (bxs++[⟨W.heap.size,t,c,true,none⟩]) (W.alloc (.cells c.toArray t)):=by
 refine h.append ((Below.refl _ _).alloc (Nat.le_refl _) _) (Own.one_sole rfl ⟨?_,Nat.le_refl _⟩)
 show(W.heap.push _)[W.heap.size]? =_
 rw[Array.getElem?_push_size]
 rfl
theorem Own.sub {n:Nat} {W:World} {l m:List Bx} (h:Own n l W) (f:Nat->Nat) (hf: ∀k B,m[k]? =some B->B.blk≠[]->l[f k]? =some B) (hi: ∀i j B C,m[i]? =some B->m[j]? =some C->f i=f j->i=j):Own n m W:=by
 have ne: ∀ {B:Bx} {p:Nat×Obj},p∈B.blk->B.blk≠[]:=fun {B p} hp e=>by rw[e] at hp;cases hp
 refine⟨fun k B hk p hp=>h.cell _ B (hf k B hk (ne hp)) p hp,fun k B hk=> ?_,fun i j B C hB hC hne p hp q hq=>h.apart _ _ B C (hf i B hB (ne hp)) (hf j C hC (ne hq)) (fun e=>hne (hi i j B C hB hC e)) p hp q hq⟩
 by_cases e:B.blk=[]
 ·rw[e];exact List.nodup_nil
 ·exact h.nd _ B (hf k B hk e)
theorem Hp.take {W0 W:World} {bxs nb:List Bx} (h:Hp W0 (bxs++nb) W):Hp W0 bxs W:=
 ⟨h.below,h.own.sub (fun k=>k) (fun k B hk _=>by rw[List.getElem?_append_left (List.getElem?_eq_some_iff.1 hk).1];exact hk) (fun _ _ _ _ _ _ h=>h)⟩
structure Upd (W W':World) (b:Nat) (o:Obj):Prop where
 os:W'.os=W.os
 tape:W'.tape=W.tape
 output:W'.output=W.output
 heap:W'.heap=W.heap.setIfInBounds b o
theorem Cw {l:List Bx} {k i:Nat} {X C:Bx} (h:(l.set k X)[i]? =some C):(i=k/\C=X)\/(i≠k/\l[i]? =some C):=by
 by_cases e:i=k
 ·subst e
  have hk:i<l.length:=by
   have:=(List.getElem?_eq_some_iff.1 h).1
   simpa using this
  rw[List.getElem?_set_self hk] at h
  exact .inl ⟨rfl,(Option.some.inj h).symm⟩
 ·rw[List.getElem?_set_ne (fun x=>e x.symm)] at h;exact .inr ⟨e,h⟩
theorem Hp.turn {W0 W W':World} {bxs:List Bx} (h:Hp W0 bxs W) {k:Nat} {B B':Bx} (hk:bxs[k]? =some B) (hsub: ∀p∈B'.blk,(∃q∈B.blk,q.1=p.1)\/W.heap.size<=p.1) (hnd:(B'.blk.map (·.1)).Nodup)
  (hos:W'.os=W.os) (hta:W'.tape=W.tape) (hou:W'.output=W.output) (hsz:W.heap.size<=W'.heap.size) (hnew: ∀p∈B'.blk,W'.heap[p.1]? =some p.2) (hold: ∀x,(∀q∈B.blk,q.1≠x)->x<W.heap.size->W'.heap[x]? =W.heap[x]?):Hp W0 (bxs.set k B') W':=by
 refine⟨⟨hos.trans h.below.os,hta.trans h.below.tape,hou.trans h.below.output,Nat.le_trans h.below.size hsz,fun i hi=> ?_⟩,fun i C hi p hp=> ?_,fun i C hi=> ?_,fun i j C E hi hj hne p hp q hq=> ?_⟩
 ·refine(hold i (fun q hq e=> ?_) (Nat.lt_of_lt_of_le hi h.below.size)).trans (h.below.block i hi)
  have:=(h.own.cell k B hk q hq).2
  omega
 ·rcases Cw hi with⟨rfl,rfl⟩|⟨hne,hi⟩
  ·rcases hsub p hp with⟨q,hq,e⟩|e
   ·exact⟨hnew p hp,e▸(h.own.cell i B hk q hq).2⟩
   ·exact⟨hnew p hp,Nat.le_trans h.below.size e⟩
  ·have:=h.own.cell i C hi p hp
   exact⟨(hold p.1 (fun q hq=>h.own.apart k i B C hk hi (fun e=>hne e.symm) q hq p hp) (h.own.lt hi hp)).trans this.1,this.2⟩
 ·rcases Cw hi with⟨rfl,rfl⟩|⟨hne,hi⟩
  ·exact hnd
  ·exact h.own.nd i C hi
 ·rcases Cw hi with⟨ei,eC⟩|⟨hne1,hi'⟩<;>rcases Cw hj with⟨ej,eE⟩|⟨hne2,hj'⟩
  ·exact absurd (ei.trans ej.symm) hne
  ·subst eC;subst ei
   rcases hsub p hp with⟨p',hp',e⟩|e
   ·rw[<-e];exact h.own.apart _ j B E hk hj' hne p' hp' q hq
   ·have:=h.own.lt hj' hq;omega
  ·subst eE;subst ej
   rcases hsub q hq with⟨q',hq',e⟩|e
   ·rw[<-e];exact h.own.apart i _ C B hi' hk hne p hp q' hq'
   ·have:=h.own.lt hi' hp;omega
  ·exact h.own.apart i j C E hi' hj' hne p hp q hq
theorem Hp.updO {W0 W W':World} {bxs:List Bx} (h:Hp W0 bxs W) {k:Nat} {B B':Bx} (hk:bxs[k]? =some B) (ho:B.sole=true) (hb':B'.b=B.b) (hu:Upd W W' B.b B'.obj) (ho':B'.sole=true:=by rfl):
  Hp W0 (bxs.set k B') W':=by
 have hlt:B.b<W.heap.size:=(Array.getElem?_eq_some_iff.1 (h.at_ k B hk ho).1).1
 refine h.turn hk (fun p hp=> ?_) ?_ hu.os hu.tape hu.output (by rw[hu.heap,Array.size_setIfInBounds];exact Nat.le_refl _) (fun p hp=> ?_) (fun x hx _=> ?_)
 ·rw[Bx.sole_blk ho'] at hp
  obtain rfl:=List.mem_singleton.1 hp
  exact .inl ⟨(B.b,B.obj),by rw[Bx.sole_blk ho];exact List.mem_cons_self ..,hb'.symm⟩
 ·rw[Bx.sole_blk ho'];exact List.nodup_cons.2 ⟨List.not_mem_nil,List.nodup_nil⟩
 ·rw[Bx.sole_blk ho'] at hp
  obtain rfl:=List.mem_singleton.1 hp
  show W'.heap[B'.b]? =some B'.obj
  rw[hu.heap,hb',Array.getElem?_setIfInBounds,if_pos rfl,if_pos hlt]
 ·have:=hx (B.b,B.obj) (by rw[Bx.sole_blk ho];exact List.mem_cons_self ..)
  rw[hu.heap,Array.getElem?_setIfInBounds,if_neg this]
theorem Hp.upd {W0 W W':World} {bxs:List Bx} (h:Hp W0 bxs W) {k:Nat} {B:Bx} (hk:bxs[k]? =some B) (ho:B.row=true) {c:List Value} (hu:Upd W W' B.b (.cells c.toArray B.ty (0,0))):
  Hp W0 (bxs.set k { B with cells:=c }) W':=by
 obtain⟨b,ty,cs,on,raw⟩:=B
 cases on<;>cases raw<;>simp[Bx.row] at ho
 exact h.updO hk rfl rfl hu
theorem Addr.add_none (b o i:Nat):(⟨b,o,none⟩:Addr).add i=⟨b,o+i,none⟩:=by
 unfold Addr.add;by_cases h:i=0<;>simp[h]
theorem GL {W:World} {b o:Nat} {c:List Value} {ty:TypeId} {fr:Nat×Nat} (h:W.heap[b]? =some (.cells c.toArray ty fr)):W.cell? ⟨b,o,none⟩=c[o]? :=by
 simp[World.cell?,h]
theorem O8 {W:World} {b o:Nat} {c:Array Value} {ty:TypeId} (h:W.heap[b]? =some (.cells c ty (0,0))):W.frozen? ⟨b,o,none⟩=false:=by
 simp[World.frozen?,h]
theorem Ef {P:Program} {W:World} {b o:Nat} {f:Nat->Option Value} (hc: ∀j,W.cell? ⟨b,o+j,none⟩=f j): ∀(n i:Nat) (acc:Array Value) (vs:List Value),vs.length=n->(∀j,j<n->f (i+j)=vs[j]?)->
  (loadCellsFrom ⟨b,o,none⟩ i n acc).run P W= .ok (acc++vs.toArray) W
 |0,i,acc,vs,hl,_=>by
  have:vs=[]:=List.length_eq_zero_iff.1 hl
  subst this;simp[loadCellsFrom]
 |n+1,i,acc,[],hl,_=>by simp at hl
 |n+1,i,acc,v::vs,hl,h=>by
  have h0:=h 0 (by omega)
  simp only[Nat.add_zero,List.getElem?_cons_zero] at h0
  have hrest:=Ef (P:=P) hc n (i+1) (acc.push v) vs (by simpa using hl) (fun j hj=>by
   have:=h (j+1) (by omega)
   rw[show i+1+j=i+(j+1) by omega]
   simpa using this)
  have h1:(load (⟨b,o+i,none⟩:Addr)).run P W= .ok v W:=by simp[load,Sem.run,hc,h0]
  simp only[loadCellsFrom,Sem.run_bind,Addr.add_none,h1,Result.andThen_ok,hrest]
  congr 1
  apply Array.toList_inj.1;simp
def DC (c:List Value) (o:Nat) (i:TI):Option Value:=
 match i.agg with
 |true=>match Nat.ble (o+i.size) c.length with
  |true=>some (.agg ((c.drop o).take i.size).toArray)
  |false=>none
 |false=>nth c o
theorem Sv {P:Program} {W:World} {b o:Nat} {c:List Value} {t:TypeId} {i:TI} {v:Value} (hr:Hi P t i=true) (hc: ∀j,j<c.length->W.cell? ⟨b,j,none⟩=c[j]?) (hv:DC c o i=some v):
  (loadVar t ⟨b,o,none⟩).run P W= .ok v W:=by
 unfold DC at hv
 simp only[loadVar,Sem.run_bind,Uk hr,Result.andThen_ok]
 split at hv
 ·rename_i ha
  split at hv
  ·rename_i hle
   cases hv
   have hle:o+i.size<=c.length:=Nat.le_of_ble_eq_true hle
   rw[ha]
   have:=Ef (P:=P) (W:=W) (b:=b) (o:=o) (f:=fun j=>W.cell? ⟨b,o+j,none⟩) (fun _=>rfl) i.size 0 #[] ((c.drop o).take i.size) (by simp;omega) (fun j hj=>by
    rw[Nat.zero_add,hc _ (by omega),List.getElem?_take,if_pos hj,List.getElem?_drop])
   simp only[if_true,Sem.run_bind,JA hr,Result.andThen_ok,loadCells,this,Sem.run_pure,List.append_toArray,List.nil_append]
  ·cases hv
 ·rename_i ha
  rw[ha]
  rw[AT] at hv
  have ho:o<c.length:=(List.getElem?_eq_some_iff.1 hv).1
  simp only[Bool.false_eq_true,if_false]
  simp[load,Sem.run,hc o ho,hv]
def BD (c:List Value) (o:Nat) (vs:List Value):List Value:=c.take o++vs++c.drop (o+vs.length)
def one:Value->Bool
 | .agg _=>false
 | .tuple _=>false
 |_=>true
def DI:List Value->Bool
 |[]=>true
 |v::r=>match one v with
  |true=>DI r
  |false=>false
theorem Pj {P:Program} {W:World} {b o:Nat} {c:List Value} {ty:TypeId} {v:Value} (hb:W.heap[b]? =some (.cells c.toArray ty (0,0))) (ho:o<c.length) (hv:one v=true):
  ∃W',(store (⟨b,o,none⟩:Addr) v).run P W= .ok () W'/\Upd W W' b (.cells (c.set o v).toArray ty (0,0)):=by
 refine⟨W.setCell ⟨b,o,none⟩ v, ?_,rfl,rfl,rfl, ?_⟩
 ·have h1:W.cell? ⟨b,o,none⟩=some c[o]:=by rw[GL hb];simp[ho]
  cases v<;>first|(simp[one] at hv;done)|simp[store,Sem.run,h1,O8 hb]
 ·simp only[World.setCell]
  have hlt:=(Array.getElem?_eq_some_iff.1 hb).1
  have hb':=(Array.getElem?_eq_some_iff.1 hb).2
  apply Array.ext_getElem?
  intro j
  rw[Array.getElem?_modify,Array.getElem?_setIfInBounds]
  by_cases e:b=j
  ·subst e
   simp[hlt,hb']
  ·simp[e]
theorem K2 (c:List Value) (k:Nat) (v:Value) (vs:List Value) (h:k<c.length):BD (c.set k v) (k+1) vs=BD c k (v::vs):=by
 unfold BD
 have h1:(c.set k v).take (k+1)=c.take k++[v]:=by
  rw[List.take_succ_eq_append_getElem (by simpa using h)]
  rw[List.take_set_of_le (Nat.le_refl _)]
  simp
 have h2:(c.set k v).drop (k+1+vs.length)=c.drop (k+(v::vs).length):=by
  rw[List.drop_set_of_lt (by omega)]
  congr 1
  simp;omega
 rw[h1,h2]
 simp
theorem LU (c:List Value) (k:Nat):BD c k []=c:=by simp[BD]
theorem Xp {W:World} {b:Nat} {o:Obj} (h:W.heap[b]? =some o):Upd W W b o:=by
 refine⟨rfl,rfl,rfl, ?_⟩
 have hlt:=(Array.getElem?_eq_some_iff.1 h).1
 have hb':=(Array.getElem?_eq_some_iff.1 h).2
 apply Array.ext_getElem?
 intro j
 rw[Array.getElem?_setIfInBounds]
 by_cases e:b=j
 ·subst e;simp[hlt,hb']
 ·simp[e]
theorem Upd.trans {W W1 W2:World} {b:Nat} {o o':Obj} (h:Upd W W1 b o) (h':Upd W1 W2 b o'):Upd W W2 b o':=by
 refine⟨h'.os.trans h.os,h'.tape.trans h.tape,h'.output.trans h.output, ?_⟩
 rw[h'.heap,h.heap]
 apply Array.ext_getElem?
 intro j
 simp only[Array.getElem?_setIfInBounds,Array.size_setIfInBounds]
 by_cases e:b=j<;>simp[e]
theorem H4 {P:Program} {b o:Nat} {ty:TypeId}: ∀(vs:List Value) (i:Nat) (c:List Value) (W:World),W.heap[b]? =some (.cells c.toArray ty (0,0))->o+i+vs.length<=c.length->DI vs=true->
  ∃W',(storeCells ⟨b,o,none⟩ vs i).run P W= .ok () W'/\Upd W W' b (.cells (BD c (o+i) vs).toArray ty (0,0))
 |[],i,c,W,hb,_,_=>by
  rw[LU]
  exact⟨W,by simp[storeCells],Xp hb⟩
 |v::vs,i,c,W,hb,hl,ha=>by
  simp only[List.length_cons] at hl
  have hv:one v=true:=by unfold DI at ha;split at ha<;>simp_all
  have hvs:DI vs=true:=by unfold DI at ha;split at ha<;>simp_all
  obtain⟨W1,h1,u1⟩:=Pj (P:=P) (o:=o+i) hb (by omega) hv
  have hlt:=(Array.getElem?_eq_some_iff.1 hb).1
  have hb1:W1.heap[b]? =some (.cells (c.set (o+i) v).toArray ty (0,0)):=by rw[u1.heap,Array.getElem?_setIfInBounds,if_pos rfl,if_pos hlt]
  obtain⟨W2,h2,u2⟩:=H4 (P:=P) (o:=o) vs (i+1) _ W1 hb1 (by rw[List.length_set];omega) hvs
  refine⟨W2, ?_, ?_⟩
  ·simp only[storeCells,Sem.run_bind,Addr.add_none,h1,Result.andThen_ok,h2]
  ·rw[<-K2 c (o+i) v vs (by omega)]
   exact u1.trans u2
theorem GR {P:Program} {W:World} {b o:Nat} {c:List Value} {ty t:TypeId} {i:TI} {v:Value} (hr:Hi P t i=true) (hb:W.heap[b]? =some (.cells c.toArray ty (0,0))) (hs:v.cells.toList.length=i.size) (hl:o+i.size<=c.length) (ha:DI v.cells.toList=true):
  ∃W',(storeVar t ⟨b,o,none⟩ v).run P W= .ok () W'/\Upd W W' b (.cells (BD c o v.cells.toList).toArray ty (0,0)):=by
 obtain⟨W',h1,h2⟩:=H4 (P:=P) (o:=o) v.cells.toList 0 c W hb (by omega) ha
 refine⟨W', ?_,by simpa using h2⟩
 have:v.cells.size=i.size:=by simpa using hs
 simp[storeVar,JA hr,this,h1]
end Go.Am
namespace Go.Am
open Go Go.RowKit
def Fw (r:Option Nat):Fence:= { Fence.wide with round:=r }
abbrev Env:=List (Nat×Value)
def ov (env:Env) (a:Act):Act:=env.foldr (fun p a=>a.put (some p.1) p.2) a
def VC:Env->Nat->Option Value
 |[],_=>none
 |(d,v)::r,t=>match Nat.beq d t with
  |true=>some v
  |false=>VC r t
def evO (N:Nat) (env:Env):Operand->Option Value
 | .tmp t=>match Nat.ble (t+1) N with
  |true=>VC env t
  |false=>none
 | .const v=>some v
 | .global g=>some (.pointer (some ⟨g,0,none⟩))
 | .func f=>some (.func (.func f) #[] #[])
theorem Eo (d:Nat) (v:Value) (env:Env) (a:Act):ov ((d,v)::env) a=(ov env a).put (some d) v:=rfl
theorem Uv (env:Env) (a:Act):(ov env a).tmps.size=a.tmps.size:=by
 induction env with
 |nil=>rfl
 |cons p r ih=>rw[<-ih];simp[ov,Act.put]
theorem Bl (env:Env) (a:Act):(ov env a).defers=a.defers:=by
 induction env with
 |nil=>rfl
 |cons p r ih=>rw[<-ih];simp[ov,Act.put]
theorem Ib (env:Env) (a b:Act) (h:a.tmps=b.tmps):(ov env a).tmps=(ov env b).tmps:=by
 induction env with
 |nil=>exact h
 |cons p r ih=>obtain⟨d,v⟩:=p;simp only[Eo,Act.put,ih]
theorem D8 {env:Env} {a:Act} {t:Nat} {v:Value} (h:VC env t=some v) (ht:t<a.tmps.size):(ov env a).tmps[t]? =some v:=by
 induction env with
 |nil=>cases h
 |cons p r ih=>
  obtain⟨d,u⟩:=p
  unfold VC at h
  rw[Eo]
  simp only[Act.put,Array.getElem?_setIfInBounds,Uv]
  split at h
  ·rename_i e
   have:d=t:=Nat.eq_of_beq_eq_true e
   subst this
   cases h
   simp[ht]
  ·rename_i e
   have:d≠t:=Nat.ne_of_beq_eq_false e
   simp[this,ih h]
theorem Fh {N:Nat} {env:Env} {t:Nat} {v:Value} (h:evO N env (.tmp t)=some v):t<N/\VC env t=some v:=by
 have h':(match Nat.ble (t+1) N with|true=>VC env t|false=>none)=some v:=h
 split at h'
 ·rename_i hle;exact⟨Nat.le_of_ble_eq_true hle,h'⟩
 ·cases h'
theorem A4 {N:Nat} {env:Env} {a:Act} (ha:a.tmps.size=N) (x:Operand) (v:Value) (h:evO N env x=some v):(ov env a).eval x=v:=by
 cases x with
 |tmp t=>
  obtain⟨ht,h⟩:=Fh h
  have:=D8 (a:=a) h (by omega)
  simp only[Act.eval,Array.getD_eq_getD_getElem?,this,Option.getD_some]
 |const v=>simpa[evO,Act.eval] using h
 |global g=>simpa[evO,Act.eval] using h
 |func f=>simpa[evO,Act.eval] using h
def Aj (ops:List Oper) (N:Nat) (env:Env) (o:Oper):Option Bool:=
 match o.guard with
 |none=>some true
 |some (j,want)=>match nth ops j with
  |none=>none
  |some oj=>match oj.dst with
   |none=>none
   |some d=>match evO N env (.tmp d) with
    |some (.bool b)=>match b,want with
     |true,true=>some true
     |false,false=>some true
     |true,false=>some false
     |false,true=>some false
    |some (.tuple _)=>some false
    |_=>none
theorem EP {ops:List Oper} {N:Nat} {env:Env} {o:Oper} {b:Bool} {a:Act} (ha:a.tmps.size=N) (h:Aj ops N env o=some b):
  Region.wanted o (yielded ops.toArray (ov env a).tmps)=b:=by
 unfold Aj at h
 unfold Region.wanted
 split at h
 ·rename_i hg;rw[hg];simpa using h
 ·rename_i j want hg
  rw[hg]
  split at h
  ·cases h
  ·rename_i oj hj
   split at h
   ·cases h
   ·rename_i d hd
    split at h
    ·rename_i b' hb
     have hv:=A4 ha _ _ hb
     obtain⟨ht,hb⟩:=Fh hb
     have:=D8 (a:=a) hb (by omega)
     rw[AT] at hj
     have hy:yielded ops.toArray (ov env a).tmps j=some b':=by simp[yielded,hj,hd,this]
     simp only[hy]
     revert h
     cases b'<;>cases want<;>simp
    ·rename_i u hb
     obtain⟨ht,hb⟩:=Fh hb
     have:=D8 (a:=a) hb (by omega)
     rw[AT] at hj
     have hy:yielded ops.toArray (ov env a).tmps j=none:=by simp[yielded,hj,hd,this]
     simp only[hy]
     cases h
     rfl
    ·cases h
section
variable {r:Option Nat} {n:Nat} {P:Program} {W0:World} {N:Nat} {D:List Deferred} {A:World->Prop}
structure WL (r:Option Nat) (n:Nat) (P:Program) (N:Nat) (D:List Deferred) (ops:List Oper) (Q:Exit->Act->World->Prop) (l:List Oper) (env:Env) (A:World->Prop):Prop where
 out: ∀(a:Act) (W:World),a.tmps.size=N->a.defers=D->A W->wpListIn (Fw r) n P ops.toArray Q l (ov env a) W
structure WC (r:Option Nat) (n:Nat) (P:Program) (N:Nat) (D:List Deferred) (c:Code) (Q:Exit->Act->World->Prop) (env:Env) (A:World->Prop):Prop where
 out: ∀(a:Act) (W:World),a.tmps.size=N->a.defers=D->A W->c.wpIn (Fw r) n P Q (ov env a) W
structure NE (N:Nat) (D:List Deferred) (Q:Exit->Act->World->Prop) (e:Exit) (env:Env) (A:World->Prop):Prop where
 out: ∀(a:Act) (W:World),a.tmps.size=N->a.defers=D->A W->Q e (ov env a) W
variable {ops:List Oper} {Q:Exit->Act->World->Prop} {o:Oper} {rest:List Oper} {env:Env} {bxs:List Bx}
theorem BU (h:NE N D Q .normal env A):WL r n P N D ops Q [] env A:= .mk fun a W h1 h2 h3=>h.out a W h1 h2 h3
theorem CK {id:Nat} {l:List Oper} (h:WL r n P N D l Q l env A):WC r n P N D (.region id l.toArray false) Q env A:=
 .mk fun a W h1 h2 h3=>wpIn_region_lit (h.out a W h1 h2 h3)
theorem EX {x y:Code} (h:WC r n P N D x (Exit.then (y.wpIn (Fw r) n P Q) Q) env A):WC r n P N D (.seq x y) Q env A:=
 .mk fun a W h1 h2 h3=>wpIn_seq (h.out a W h1 h2 h3)
theorem Le {y:Code} {Q':Exit->Act->World->Prop} (h:WC r n P N D y Q env A):NE N D (Exit.then (y.wpIn (Fw r) n P Q) Q') .normal env A:= .mk h.out
theorem aB (h:NE N D Q .normal env A):WC r n P N D .skip Q env A:= .mk fun a W h1 h2 h3=>wpIn_skip (h.out a W h1 h2 h3)
theorem Zq {id:Nat} (h:NE N D Q (.exit id) env A):WC r n P N D (.exit id) Q env A:= .mk fun a W h1 h2 h3=>wpIn_exit (h.out a W h1 h2 h3)
theorem dW (h:NE N D Q .ret env A):WC r n P N D .ret Q env A:= .mk fun a W h1 h2 h3=>wpIn_ret (h.out a W h1 h2 h3)
theorem Jq {id:Nat} {c:Code} (h:WC r n P N D c (Exit.inBlock id Q) env A):WC r n P N D (.block id c) Q env A:= .mk fun a W h1 h2 h3=>wpIn_block (h.out a W h1 h2 h3)
theorem Ps {K:Act->World->Prop} {id:Nat} (h:NE N D Q (.exit id) env A):NE N D (Exit.then K Q) (.exit id) env A:= .mk h.out
theorem Ry {K:Act->World->Prop} (h:NE N D Q .ret env A):NE N D (Exit.then K Q) .ret env A:= .mk h.out
theorem KR {id:Nat} (h:NE N D Q .normal env A):NE N D (Exit.inBlock id Q) .normal env A:= .mk h.out
theorem PM {id:Nat} (h:NE N D Q .ret env A):NE N D (Exit.inBlock id Q) .ret env A:= .mk h.out
theorem MU {id:Nat} (h:NE N D Q .normal env A):NE N D (Exit.inBlock id Q) (.exit id) env A:= .mk fun a W h1 h2 h3=>by
 simp only[Exit.inBlock,if_true];exact h.out a W h1 h2 h3
theorem Iq {id id':Nat} (hne:Nat.beq id' id=false) (h:NE N D Q (.exit id') env A):NE N D (Exit.inBlock id Q) (.exit id') env A:= .mk fun a W h1 h2 h3=>by
 have:id'≠id:=Nat.ne_of_beq_eq_false hne
 simp only[Exit.inBlock,if_neg this];exact h.out a W h1 h2 h3
theorem Je {c:Operand} {x y:Code} (hc:evO N env c=some (.bool true)) (h:WC r n P N D x Q env A):WC r n P N D (.cond c x y) Q env A:=
 .mk fun a W h1 h2 h3=>wpIn_cond_true (A4 h1 _ _ hc) (h.out a W h1 h2 h3)
theorem I0 {c:Operand} {x y:Code} (hc:evO N env c=some (.bool false)) (h:WC r n P N D y Q env A):WC r n P N D (.cond c x y) Q env A:=
 .mk fun a W h1 h2 h3=>wpIn_cond_false (A4 h1 _ _ hc) (h.out a W h1 h2 h3)
theorem Av {c:Operand} {x y:Code} {b:Bool} (hc:evO N env c=some (.bool b)) (ht:b=true->WC r n P N D x Q env A) (hf:b=false->WC r n P N D y Q env A):WC r n P N D (.cond c x y) Q env A:=by
 cases b
 ·exact I0 hc (hf rfl)
 ·exact Je hc (ht rfl)
theorem ED {a:Act} {t:Nat} {v:Value} (h:a.tmps[t]? =some v):a.put (some t) v=a:=by
 have:a.tmps.setIfInBounds t v=a.tmps:=by
  apply Array.ext_getElem?
  intro j
  rw[Array.getElem?_setIfInBounds]
  by_cases e:t=j
  ·subst e
   rw[if_pos rfl,h]
   rw[if_pos (Array.getElem?_eq_some_iff.1 h).1]
  ·rw[if_neg e]
 simp[Act.put,this]
theorem Fj {env':Env} {a:Act} (h: ∀p∈env',p.1<a.tmps.size->a.tmps[p.1]? =some p.2):ov env' a=a:=by
 induction env' with
 |nil=>rfl
 |cons p l ih=>
  obtain⟨d,v⟩:=p
  rw[Eo,ih (fun p hp=>h p (List.mem_cons_of_mem _ hp))]
  by_cases hd:d<a.tmps.size
  ·exact ED (h (d,v) List.mem_cons_self hd)
  ·simp only[Act.put]
   rw[Array.setIfInBounds_eq_of_size_le (by omega)]
theorem B5 (t:Nat) {b:Bool} (ht:evO N env (.tmp t)=some (.bool b)) (h1:b=true->WL r n P N D ops Q rest ((t, .bool true)::env) A) (h2:b=false->WL r n P N D ops Q rest ((t, .bool false)::env) A):
  WL r n P N D ops Q rest env A:= .mk fun a W ha hd hp=>by
 obtain⟨hlt,ht⟩:=Fh ht
 have:=D8 (a:=a) ht (by omega)
 cases b
 ·have h:=(h2 rfl).out a W ha hd hp
  rwa [Eo,ED this] at h
 ·have h:=(h1 rfl).out a W ha hd hp
  rwa [Eo,ED this] at h
theorem Ht {T:Tbl} {ρ:Operand->Option Value} {v:Value} (h:AD T ρ o.op=some v): ∀c,o.op≠ .defer c:=fun c e=>by rw[e] at h;cases h
theorem Hq (ρ:Operand->Value) (h: ∀c,o.op≠ .defer c):o.semAt r ρ=execOp ρ o:=by
 cases r with
 |none=>rfl
 |some l=>exact Oper.semAt_some l ρ o h
theorem By {a:Act} {W:World} (hg:Aj ops N env o=some true) (ha:a.tmps.size=N) (hnd: ∀c,o.op≠ .defer c)
  (h:o.uponIn (Fw r) n P (ov env a) (wpListIn (Fw r) n P ops.toArray Q rest) Q ((execOp (ov env a).eval o).run P W)):wpListIn (Fw r) n P ops.toArray Q (o::rest) (ov env a) W:=by
 unfold wpListIn
 rw[EP ha hg,if_pos rfl]
 refine⟨fun _ _=>trivial, ?_⟩
 show o.uponIn (Fw r) n P (ov env a) (wpListIn (Fw r) n P ops.toArray Q rest) Q ((o.semAt r (ov env a).eval).run P W)
 rw[Hq _ hnd]
 exact h
theorem BW {T:Tbl} {d:Nat} {v:Value} (hT:okB P T=true) (hg:Aj ops N env o=some true) (hd:o.dst=some d) (hv:AD T (evO N env) o.op=some v)
  (h:WL r n P N D ops Q rest ((d,v)::env) A):WL r n P N D ops Q (o::rest) env A:= .mk fun a W h1 h2 h3=>by
 refine By hg h1 (Ht hv) ?_
 rw[IX hT (A4 h1) hv]
 simp only[Oper.uponIn,hd]
 exact h.out a W h1 h2 h3
theorem Ac {d:Nat} (hg:Aj ops N env o=some false) (hd:o.dst=some d) (h:WL r n P N D ops Q rest ((d,undef)::env) A):WL r n P N D ops Q (o::rest) env A:= .mk fun a W h1 h2 h3=>by
 unfold wpListIn
 rw[EP h1 hg,if_neg (by simp),hd]
 exact⟨fun _ _=>trivial,h.out a W h1 h2 h3⟩
theorem Bf {d:Nat} {v:Value} (hg:Aj ops N env o=some true) (hd:o.dst=some d) (hnd: ∀c,o.op≠ .defer c)
  (hv: ∀(ρ:Operand->Value) (W:World),(∀x u,evO N env x=some u->ρ x=u)->A W->(execOp ρ o).run P W= .ok (.value v) W)
  (h:WL r n P N D ops Q rest ((d,v)::env) A):WL r n P N D ops Q (o::rest) env A:= .mk fun a W h1 h2 h3=>by
 refine By hg h1 hnd ?_
 rw[hv _ W (A4 h1) h3]
 simp only[Oper.uponIn,hd]
 exact h.out a W h1 h2 h3
theorem Ur {ρ:Operand->Value} {t u:TypeId} {x y:Operand} {k:IntKind} {a b:Int} (ho:o.op= .binOp .rem t x y u) (hx:ρ x= .int k a) (hy:ρ y= .int k b) (hb:b≠0) (W:World):(execOp ρ o).run P W= .ok (.value (.int k (a.tmod b))) W:=by
 simp[execOp,ho,hx,hy,eqGuard,binOp,Op.intDiv,hb]
theorem Uq {ρ:Operand->Value} {t u:TypeId} {x y:Operand} {k:IntKind} {a b:Int} (ho:o.op= .binOp .quo t x y u) (hx:ρ x= .int k a) (hy:ρ y= .int k b) (hb:b≠0) (W:World):(execOp ρ o).run P W= .ok (.value (.int k (k.wrap (a.tdiv b)))) W:=by
 simp[execOp,ho,hx,hy,eqGuard,binOp,Op.intDiv,hb]
theorem Ks {d:Nat} {t u:TypeId} {x y:Operand} {k:IntKind} {a b:Int} (hg:Aj ops N env o=some true) (hd:o.dst=some d) (ho:o.op= .binOp .rem t x y u)
  (hx:evO N env x=some (.int k a)) (hy:evO N env y=some (.int k b)) (hb:b≠0)
  (h:WL r n P N D ops Q rest ((d, .int k (a.tmod b))::env) A):WL r n P N D ops Q (o::rest) env A:=
 Bf hg hd (fun c e=>by rw[ho] at e;cases e) (fun _ W hρ _=>Ur ho (hρ _ _ hx) (hρ _ _ hy) hb W) h
theorem Kt {d:Nat} {t u:TypeId} {x y:Operand} {k:IntKind} {a b:Int} (hg:Aj ops N env o=some true) (hd:o.dst=some d) (ho:o.op= .binOp .quo t x y u)
  (hx:evO N env x=some (.int k a)) (hy:evO N env y=some (.int k b)) (hb:b≠0)
  (h:WL r n P N D ops Q rest ((d, .int k (k.wrap (a.tdiv b)))::env) A):WL r n P N D ops Q (o::rest) env A:=
 Bf hg hd (fun c e=>by rw[ho] at e;cases e) (fun _ W hρ _=>Uq ho (hρ _ _ hx) (hρ _ _ hy) hb W) h
theorem Ix {T:Tbl} {i:TI} {ρ:Operand->Value} {t:TypeId} {x y:Operand} {k:IntKind} {b off len cap:Nat} {z:Int} (hT:okB P T=true) (ho:o.op= .indexAddr t x y) (ht:find T t=some i) (hk:i.kind=2)
  (hx:ρ x= .slice (some ⟨b,off,none⟩) len cap) (hy:ρ y= .int k z) (h0:0<=z) (h1:z<len) (W:World):(execOp ρ o).run P W= .ok (.value (.pointer (some ⟨b,off+z.toNat*i.elemSize,none⟩))) W:=by
 obtain⟨hu,hs⟩:=Gy (B8 hT ht) hk
 simp[execOp,ho,hx,hy,Instr.indexAt,asIntOf,run_underlying hu,Ev hs,h0,h1,Addr.add_none]
theorem Qn {T:Tbl} {i:TI} {d:Nat} {t:TypeId} {x y:Operand} {k:IntKind} {b off len cap:Nat} {z:Int} (hT:okB P T=true) (hg:Aj ops N env o=some true) (hd:o.dst=some d) (ho:o.op= .indexAddr t x y)
  (ht:find T t=some i) (hk:i.kind=2) (hx:evO N env x=some (.slice (some ⟨b,off,none⟩) len cap)) (hy:evO N env y=some (.int k z)) (h0:0<=z) (h1:z<len)
  (h:WL r n P N D ops Q rest ((d, .pointer (some ⟨b,off+z.toNat*i.elemSize,none⟩))::env) A):WL r n P N D ops Q (o::rest) env A:=
 Bf hg hd (fun c e=>by rw[ho] at e;cases e) (fun _ W hρ _=>Ix hT ho ht hk (hρ _ _ hx) (hρ _ _ hy) h0 h1 W) h
theorem Si {ρ:Operand->Value} {t:TypeId} {x:Operand} {a:Addr} {v:Value} {W:World} (ho:o.op= .load t x) (hx:ρ x= .pointer (some a)) (hl:(loadVar t a).run P W= .ok v W):(execOp ρ o).run P W= .ok (.value v) W:=by
 simp[execOp,ho,hx,Instr.loadAt,Instr.sureAddr,hl]
theorem OU {d:Nat} {t:TypeId} {x:Operand} {a:Addr} {v:Value} (hg:Aj ops N env o=some true) (hd:o.dst=some d) (ho:o.op= .load t x)
  (hx:evO N env x=some (.pointer (some a))) (hl: ∀W,A W->(loadVar t a).run P W= .ok v W)
  (h:WL r n P N D ops Q rest ((d,v)::env) A):WL r n P N D ops Q (o::rest) env A:=
 Bf hg hd (fun c e=>by rw[ho] at e;cases e) (fun _ W hρ hp=>Si ho (hρ _ _ hx) (hl W hp)) h
theorem Lc {T:Tbl} {i:TI} {t:TypeId} {B:Bx} {off k:Nat} {v:Value} (hT:okB P T=true) (ht:find T t=some i) (hk:nth bxs k=some B) (hon:B.row=true) (hv:DC B.cells off i=some v) (W:World) (hp:Hp W0 bxs W):
  (loadVar t ⟨B.b,off,none⟩).run P W= .ok v W:=by
 rw[AT] at hk
 obtain⟨h1,h2⟩:=Bx.row_on hon
 have h3:=(hp.at_ _ _ hk h1).1
 rw[h2] at h3
 exact Sv (B8 hT ht) (fun j _=>GL h3) hv
theorem VA (k:Nat) {T:Tbl} {i:TI} {d:Nat} {t:TypeId} {x:Operand} {B:Bx} {off:Nat} {v:Value} (hT:okB P T=true) (hg:Aj ops N env o=some true) (hd:o.dst=some d) (ho:o.op= .load t x) (ht:find T t=some i)
  (hk:nth bxs k=some B) (hx:evO N env x=some (.pointer (some ⟨B.b,off,none⟩))) (hon:B.row=true) (hv:DC B.cells off i=some v)
  (h:WL r n P N D ops Q rest ((d,v)::env) (Hp W0 bxs)):WL r n P N D ops Q (o::rest) env (Hp W0 bxs):=
 OU hg hd ho hx (Lc hT ht hk hon hv) h
theorem Ug (k:Nat) {T:Tbl} {i:TI} {t:TypeId} {x y:Operand} {B:Bx} {off:Nat} {v:Value} (hT:okB P T=true) (hg:Aj ops N env o=some true) (hd:o.dst=none) (ho:o.op= .store t x y) (ht:find T t=some i)
  (hk:nth bxs k=some B) (hx:evO N env x=some (.pointer (some ⟨B.b,off,none⟩))) (hon:B.row=true) (hy:evO N env y=some v)
  (hs:Nat.beq v.cells.toList.length i.size=true) (hl:Nat.ble (off+i.size) B.cells.length=true) (h1:DI v.cells.toList=true)
  (h:WL r n P N D ops Q rest env (Hp W0 (bxs.set k { B with cells:=BD B.cells off v.cells.toList }))):WL r n P N D ops Q (o::rest) env (Hp W0 bxs):= .mk fun a W ha hd' hp=>by
 rw[AT] at hk
 refine By hg ha (fun c e=>by rw[ho] at e;cases e) ?_
 have h3:=(hp.at_ _ _ hk (Bx.row_on hon).1).1
 rw[(Bx.row_on hon).2] at h3
 obtain⟨W',hr,hu⟩:=GR (P:=P) (B8 hT ht) h3 (Nat.eq_of_beq_eq_true hs) (Nat.le_of_ble_eq_true hl) h1
 have:(execOp (ov env a).eval o).run P W= .ok .skip W':=by
  simp[execOp,ho,Instr.storeAt,Instr.sureAddr,A4 ha _ _ hx,A4 ha _ _ hy,hr]
 rw[this]
 simp only[Oper.uponIn,hd]
 exact h.out a W' ha hd' (hp.upd hk hon hu)
theorem AY {d:Nat} {t:TypeId} {z:Value} (hg:Aj ops N env o=some true) (hd:o.dst=some d) (ho:o.op= .alloc t) (hz: ∀W,(zeroValue t).run P W= .ok z W)
  (h: ∀b,WL r n P N D ops Q rest ((d, .pointer (some ⟨b,0,none⟩))::env) (Hp W0 (bxs++[⟨b,t,z.cells.toList,true,none⟩]))):WL r n P N D ops Q (o::rest) env (Hp W0 bxs):= .mk fun a W ha hd' hp=>by
 refine By hg ha (fun c e=>by rw[ho] at e;cases e) ?_
 have:(execOp (ov env a).eval o).run P W= .ok (.value (.pointer (some ⟨W.heap.size,0,none⟩))) (W.alloc (.cells z.cells t)):=by
  simp[execOp,ho,Instr.alloc,hz,newVar,newRow]
 rw[this]
 simp only[Oper.uponIn,hd]
 have h':=hp.alloc t z.cells.toList
 exact(h W.heap.size).out a _ ha hd' (by simpa using h')
theorem Lr {d:Nat} {t:TypeId} {x:Operand} {v:Value} (hg:Aj ops N env o=some true) (hd:o.dst=some d) (ho:o.op= .box t x) (hx:evO N env x=some v)
  (h: ∀b,WL r n P N D ops Q rest ((d, .pointer (some ⟨b,0,none⟩))::env) (Hp W0 (bxs++[⟨b,t,v.cells.toList,true,none⟩]))):WL r n P N D ops Q (o::rest) env (Hp W0 bxs):= .mk fun a W ha hd' hp=>by
 refine By hg ha (fun c e=>by rw[ho] at e;cases e) ?_
 have:(execOp (ov env a).eval o).run P W= .ok (.value (.pointer (some ⟨W.heap.size,0,none⟩))) (W.alloc (.cells v.cells t)):=by
  simp[execOp,ho,Instr.box,newVar,newRow,A4 ha _ _ hx]
 rw[this]
 simp only[Oper.uponIn,hd]
 have h':=hp.alloc t v.cells.toList
 exact(h W.heap.size).out a _ ha hd' (by simpa using h')
def Bm (P:Program) (f:Nat):Bool:=
 match P.funcs[f]? with
 | some fn => fn.body.isSome && !(fn.name == "runtime.NumGoroutine")
 |none=>false
theorem FO {f:Nat} (h:Bm P f=true) (args:Array Value) (W:World):(callFunc f args).run P W= .ok (.enter f args) W:=by
 unfold Bm at h
 cases hf:P.funcs[f]? with
 |none=>rw[hf] at h;cases h
 |some fn=>
  rw[hf] at h
  simp only[Bool.and_eq_true,Bool.not_eq_true'] at h
  obtain⟨h1,h2⟩:=h
  cases hb:fn.body with
  |none=>rw[hb] at h1;cases h1
  |some c=>
   have : fn.name ≠ "runtime.NumGoroutine" := by simpa using h2
   simp[callFunc,hf,this,hb]
structure Ag (P:Program) (g:Nat) (args:Array Value) (W:World) {X:Type} (val:X->Value) (Φ:X->Prop) (nb:X->List Bx):Prop where
 out:Calls P g args W fun e W'=> ∃x,e= .returned (val x)/\Φ x/\Below W.heap.size W W'/\As W W' (nb x)
theorem Dm {g:Nat} {args:Array Value} {W:World} {R:Ending->World->Prop} (h:Calls P g args W R):CallsIn (Fw r) n P g args W R:=by
 have:=callsIn_wide (n:=n)|>.2 h
 exact⟨this.1,this.2⟩
theorem F1 {ρ:Operand->Value} {c:Call} {f:Operand} {g:Nat} {capt vs:List Value} {W:World} (ho:o.op= .call c) (hc:c.callee= .value f) (hf:ρ f= .func (.func g) #[] capt.toArray) (ha:c.args.map ρ=vs.toArray) (hE:Bm P g=true):
  (execOp ρ o).run P W= .ok (.enter g (vs++capt).toArray) W:=by
 simp only[execOp,ho,resolve,hc,hf,ha,Sem.run_bind,Deferred.ofValue,Sem.run_pure,Result.andThen_ok,invoke,FO hE]
 simp
theorem Ul {c:Call} {f:Operand} {g d:Nat} {capt vs:List Value} {X:Type} {val:X->Value} {Φ:X->Prop} {nb:X->List Bx}
  (hg:Aj ops N env o=some true) (hd:o.dst=some d) (ho:o.op= .call c) (hc:c.callee= .value f) (hf:evO N env f=some (.func (.func g) #[] capt.toArray)) (ha:Cl (evO N env) c.args.toList=some vs) (hE:Bm P g=true)
  (hC: ∀W,Hp W0 bxs W->Ag P g (vs++capt).toArray W val Φ nb)
  (h: ∀x,Φ x->WL r n P N D ops Q rest ((d,val x)::env) (Hp W0 (bxs++nb x))):WL r n P N D ops Q (o::rest) env (Hp W0 bxs):= .mk fun a W h1 h2 hp=>by
 refine By hg h1 (fun c e=>by rw[ho] at e;cases e) ?_
 rw[F1 ho hc (A4 h1 _ _ hf) (DG (A4 h1) ha) hE]
 simp only[Oper.uponIn,hd]
 refine⟨fun hx=>(by cases hx),Dm ((hC W hp).out.mono ?_)⟩
 rintro e W' ⟨x,rfl,hx,hb,hn⟩
 exact(h x hx).out a W' h1 h2 (hp.append hb hn)
theorem BK {c:Call} {f:Operand} {g d:Nat} {capt vs:List Value} {v:Value}
  (hg:Aj ops N env o=some true) (hd:o.dst=some d) (ho:o.op= .call c) (hc:c.callee= .value f) (hf:evO N env f=some (.func (.func g) #[] capt.toArray)) (ha:Cl (evO N env) c.args.toList=some vs) (hE:Bm P g=true)
  (hC: ∀W,Hp W0 bxs W->Ag P g (vs++capt).toArray W (fun _:Unit=>v) (fun _=>True) (fun _=>[]))
  (h:WL r n P N D ops Q rest ((d,v)::env) (Hp W0 bxs)):WL r n P N D ops Q (o::rest) env (Hp W0 bxs):=
 Ul hg hd ho hc hf ha hE hC (fun _ _=>by rw[List.append_nil];exact h)
def I8:Nat->List Value->Env
 |_,[]=>[]
 |i,v::r=>(i,v)::I8 (i+1) r
theorem G4: ∀(l:List Value) (i:Nat) (p:Nat×Value),p∈I8 i l->i<=p.1/\l[p.1-i]? =some p.2
 |[],_,_,h=>by cases h
 |v::l,i,p,h=>by
  rcases List.mem_cons.1 h with rfl|h
  ·simp
  ·obtain⟨h1,h2⟩:=G4 l (i+1) p h
   refine⟨by omega, ?_⟩
   rw[show p.1-i=(p.1-(i+1))+1 by omega]
   simpa using h2
inductive Res (P:Program) (T:Tbl) (env:Env) (bxs:List Bx) (N:Nat):ResultVar->Value->Prop
 |tmp {t:Nat} {v:Value} (h:evO N env (.tmp t)=some v):Res P T env bxs N (.tmp t) v
 |cell {t ty:Nat} {v:Value} {i:TI} {B:Bx} {off:Nat} (k:Nat) (hi:find T ty=some i) (hk:nth bxs k=some B) (h:evO N env (.tmp t)=some (.pointer (some ⟨B.b,off,none⟩))) (hon:B.row=true) (hv:DC B.cells off i=some v):Res P T env bxs N (.cell t ty) v
def MN (tmps:Array Value):ResultVar->Sem Value
 | .tmp t=>pure (tmps.getD t undef)
 | .cell a t=>do loadVar t (<-asAddr (tmps.getD a undef))
theorem Res.run {T:Tbl} {rv:ResultVar} {v:Value} {a:Act} {W:World} (hT:okB P T=true) (h:Res P T env bxs N rv v) (ha:a.tmps.size=N) (hp:Hp W0 bxs W):
  (MN (ov env a).tmps rv).run P W= .ok v W:=by
 cases h with
 |tmp h=>have:=A4 ha _ _ h;simp only[Act.eval] at this;simp[MN,this]
 |cell k hi hk h hon hv=>
  have:=A4 ha _ _ h
  simp only[Act.eval] at this
  simp only[MN,Sem.run_bind,this,asAddr,Sem.run_pure,Result.andThen_ok]
  exact Lc hT hi hk hon hv W hp
theorem GN {fn:Func} (h:fn.results= #[]) (tmps:Array Value) (W:World):(results fn tmps).run P W= .ok (.tuple #[]) W:=by
 simp[results,h]
theorem S5 {f:ResultVar->Sem Value} {W:World}: ∀(l:List ResultVar) (vs:List Value),l.length=vs.length->(∀i (h:i<l.length) (h':i<vs.length),(f l[i]).run P W= .ok vs[i] W)->(l.mapM f:Sem (List Value)).run P W= .ok vs W
 |[],[],_,_=>by simp
 |x::l,v::vs,hl,h=>by
  have h0:=h 0 (by simp) (by simp)
  simp only[List.getElem_cons_zero] at h0
  have ih:=S5 l vs (by simpa using hl) (fun i hi hi'=>by have:=h (i+1) (by simpa using hi) (by simpa using hi');simpa using this)
  simp[List.mapM_cons,h0,ih]
 |[],_::_,hl,_=>by simp at hl
 |_::_,[],hl,_=>by simp at hl
theorem Kw {fn:Func} {T:Tbl} {rvs:List ResultVar} {vs:List Value} {a:Act} {W:World} (hT:okB P T=true) (hr:fn.results=rvs.toArray) (hl:rvs.length=vs.length) (h: ∀i (h:i<rvs.length) (h':i<vs.length),Res P T env bxs N rvs[i] vs[i]) (ha:a.tmps.size=N) (hp:Hp W0 bxs W):
  (results fn (ov env a).tmps).run P W= .ok (if h:vs.length=1 then vs[0] else .tuple vs.toArray) W:=by
 have hm:(fn.results.mapM (MN (ov env a).tmps):Sem (Array Value)).run P W= .ok vs.toArray W:=by
  rw[hr]
  simp only[List.mapM_toArray,Sem.run_map]
  rw[S5 rvs vs hl (fun i hi hi'=>Res.run (a:=a) (W:=W) hT (h i hi hi') ha hp)]
  simp
 have he:results fn (ov env a).tmps=(do let vs <-fn.results.mapM (MN (ov env a).tmps);pure (if h:vs.size=1 then vs[0] else .tuple vs)):=by
  unfold results
  congr 1
 rw[he]
 simp only[Sem.run_bind,hm,Result.andThen_ok,Sem.run_pure]
 congr 1
end
end Go.Am
namespace Go.Am
open Go Go.RowKit
section
variable {n:Nat} {P:Program} {W0:World} {N:Nat} {env:Env} {bxs:List Bx}
structure GF (P:Program) (fn:Func) (W0:World) {X:Type} (val:X->Value) (Φ:X->Prop) (nb:X->List Bx) (e:Exit) (a:Act) (w:World):Prop where
 out:bodyPostM (Fw none) 0 P fn (fun e W'=> ∃x,e= .returned (val x)/\Φ x/\Below W0.heap.size W0 W'/\As W0 W' (nb x)) e a w
theorem Ab {f:Nat} {fn:Func} {c:Code} {args:List Value} {X:Type} {val:X->Value} {Φ:X->Prop} {nb:X->List Bx}
  (hf:P.funcs[f]? =some fn) (hb:fn.body=some c) (hN:fn.ntmps=N) (hl:Nat.ble args.length N=true)
  (h:WC none 0 P N [] c (GF P fn W0 val Φ nb) (I8 0 args) (Hp W0 [])):Ag P f args.toArray W0 val Φ nb:=by
 have hl:args.length<=N:=Nat.le_of_ble_eq_true hl
 have h1:=h.out { tmps:=args.toArray++Array.replicate (fn.ntmps-args.toArray.size) undef,defers:=[] } W0 (by simp[hN];omega) rfl (Hp.start W0)
 rw[Fj] at h1
 ·refine⟨callsIn_wide (n:=0)|>.1 (callsIn_of_wp_marks hf hb trivial (wpIn_mono (Q:=GF P fn W0 val Φ nb) h1 ?_))⟩
  intro e a w h
  exact h.out
 ·intro p hp _
  obtain⟨_,h2⟩:=G4 args 0 p hp
  rw[Nat.sub_zero] at h2
  have hlt:=(List.getElem?_eq_some_iff.1 h2).1
  rw[Array.getElem?_append_left (by simpa using hlt)]
  simpa using h2
theorem SS {fn:Func} {T:Tbl} {rvs:List ResultVar} {vs:List Value} {X:Type} {val:X->Value} {Φ:X->Prop} {nb:X->List Bx} (hT:okB P T=true) (hr:fn.results=rvs.toArray) (hl:rvs.length=vs.length)
  (hres: ∀i (h:i<rvs.length) (h':i<vs.length),Res P T env bxs N rvs[i] vs[i])
  (x:X) (hv:(if h:vs.length=1 then vs[0] else .tuple vs.toArray)=val x) (hx:Φ x) (hnb: ∀W,Hp W0 bxs W->As W0 W (nb x)):NE N [] (GF P fn W0 val Φ nb) .ret env (Hp W0 bxs):= .mk fun a W ha hd hp=>by
 refine .mk ?_
 show LeavesInM (Fw none) 0 P fn (ov env a).tmps _ (ov env a).defers .returning W
 rw[Bl,hd]
 exact⟨_,Kw hT hr hl hres ha hp,x,by rw[hv],hx,hp.below,hnb W hp⟩
def e9 (d:Nat):Bx:=⟨d,0,[],true,some (.obj (.deferred none))⟩
def B7 (d:Nat):Bx:=⟨d,0,[],true,some (.obj (.deferred (some [])))⟩
def C7 (d:Nat):Deferred:= { target:= .collected d,args:= #[] }
theorem C2 (k:Nat) {d:Nat} {D:List Deferred} {fn:Func} {X:Type} {val:X->Value} {Φ:X->Prop} {nb:X->List Bx} (hk:nth bxs k=some (B7 d))
  (h:NE N D (GF P fn W0 val Φ nb) .ret env (Hp W0 (bxs.set k (e9 d)))):NE N (C7 d::D) (GF P fn W0 val Φ nb) .ret env (Hp W0 bxs):= .mk fun a W ha hd hp=>by
 refine .mk ?_
 show LeavesInM (Fw none) 0 P fn (ov env a).tmps _ (ov env a).defers .returning W
 rw[Bl,hd]
 rw[AT] at hk
 have hb:=(hp.at_ _ _ hk rfl).1
 refine⟨by simp, .inl ⟨d,W.putObj d (.deferred none),rfl,run_takeDeferred hb, ?_⟩⟩
 have hp':Hp W0 (bxs.set k (e9 d)) (W.putObj d (.deferred none)):=hp.updO hk rfl rfl ⟨rfl,rfl,rfl,rfl⟩
 have:=(h.out { tmps:=a.tmps,defers:=D } _ ha rfl hp').out
 have e:LeavesInM (Fw none) 0 P fn (ov env { tmps:=a.tmps,defers:=D }).tmps (fun e W'=> ∃x,e= .returned (val x)/\Φ x/\Below W0.heap.size W0 W'/\As W0 W' (nb x)) (ov env { tmps:=a.tmps,defers:=D }).defers .returning (W.putObj d (.deferred none)):=this
 rw[Bl] at e
 rw[Ib env { tmps:=a.tmps,defers:=D } a rfl] at e
 exact e
theorem Ar {fn:Func} {T:Tbl} {rv:ResultVar} {v:Value} {X:Type} {val:X->Value} {Φ:X->Prop} {nb:X->List Bx} (hT:okB P T=true) (hr:fn.results= #[rv])
  (hres:Res P T env bxs N rv v)
  (x:X) (hv:v=val x) (hx:Φ x) (hnb: ∀W,Hp W0 bxs W->As W0 W (nb x)):NE N [] (GF P fn W0 val Φ nb) .ret env (Hp W0 bxs):=
 SS (rvs:=[rv]) (vs:=[v]) hT hr rfl (fun i h _=>by
  have:i=0:=by simpa using h
  subst this;exact hres) x (by simpa using hv) hx hnb
theorem An {fn:Func} {T:Tbl} {r1 r2:ResultVar} {v1 v2:Value} {X:Type} {val:X->Value} {Φ:X->Prop} {nb:X->List Bx} (hT:okB P T=true) (hr:fn.results= #[r1,r2])
  (h1:Res P T env bxs N r1 v1) (h2:Res P T env bxs N r2 v2)
  (x:X) (hv: .tuple #[v1,v2]=val x) (hx:Φ x) (hnb: ∀W,Hp W0 bxs W->As W0 W (nb x)):NE N [] (GF P fn W0 val Φ nb) .ret env (Hp W0 bxs):=
 SS (rvs:=[r1,r2]) (vs:=[v1,v2]) hT hr rfl (fun i h _=>by
  match i,h with
  |0,_=>exact h1
  |1,_=>exact h2) x (by simpa using hv) hx hnb
theorem DF {fn:Func} {T:Tbl} {r1 r2 r3:ResultVar} {v1 v2 v3:Value} {X:Type} {val:X->Value} {Φ:X->Prop} {nb:X->List Bx} (hT:okB P T=true) (hr:fn.results= #[r1,r2,r3])
  (h1:Res P T env bxs N r1 v1) (h2:Res P T env bxs N r2 v2) (h3:Res P T env bxs N r3 v3)
  (x:X) (hv: .tuple #[v1,v2,v3]=val x) (hx:Φ x) (hnb: ∀W,Hp W0 bxs W->As W0 W (nb x)):NE N [] (GF P fn W0 val Φ nb) .ret env (Hp W0 bxs):=
 SS (rvs:=[r1,r2,r3]) (vs:=[v1,v2,v3]) hT hr rfl (fun i h _=>by
  match i,h with
  |0,_=>exact h1
  |1,_=>exact h2
  |2,_=>exact h3) x (by simpa using hv) hx hnb
abbrev Cd (P:Program) (g:Nat) (args:List Value) (v:Value):Prop:= ∀W,Ag P g args.toArray W (fun _:Unit=>v) (fun _=>True) (fun _=>[])
theorem Ag.cast {g:Nat} {args:Array Value} {W:World} {v v':Value} (h:Ag P g args W (fun _:Unit=>v) (fun _=>True) (fun _=>[])) (e:v=v'):Ag P g args W (fun _:Unit=>v') (fun _=>True) (fun _=>[]):=e▸h
end
end Go.Am
namespace Go.Am
open Go Go.RowKit
def Ec (ρ:Operand->Option Value):List (Nat×Operand)->Option (List (Nat×Value))
 |[]=>some []
 |(i,x)::r=>match ρ x with
  |some v=>match Ec ρ r with
   |some l=>some ((i,v)::l)
   |none=>none
  |none=>none
theorem EM {ρ:Operand->Option Value} {ρ':Operand->Value} (hρ: ∀x v,ρ x=some v->ρ' x=v): ∀ {l:List (Nat×Operand)} {vs:List (Nat×Value)},Ec ρ l=some vs->(l.map fun p=>(p.1,ρ' p.2))=vs
 |[],vs,h=>by cases h;rfl
 |(i,x)::r,vs,h=>by
  unfold Ec at h
  split at h
  ·rename_i v hv
   split at h
   ·rename_i l hl
    cases h
    simp[hρ _ _ hv,EM hρ hl]
   ·cases h
  ·cases h
def Gg (place:Nat->Option (Nat×Nat)) (c:List Value):List (Nat×Value)->Option (List Value)
 |[]=>some c
 |(i,v)::r=>match place i with
  |none=>none
  |some (off,size)=>match Nat.beq v.cells.toList.length size,Nat.ble (off+size) c.length with
   |true,true=>Gg place (BD c off v.cells.toList) r
   |_,_=>none
theorem IY (off:Nat): ∀(vs:List Value) (k:Nat) (A:Array Value),off+k+vs.length<=A.size->
  (vs.zipIdx k).foldl (fun(cs:Array Value) (x:Value×Nat)=>cs.setIfInBounds (off+x.2) x.1) A=(BD A.toList (off+k) vs).toArray
 |[],k,A,_=>by simp[LU]
 |v::vs,k,A,h=>by
  simp only[List.length_cons] at h
  simp only[List.zipIdx_cons,List.foldl_cons]
  rw[IY off vs (k+1) _ (by simp;omega)]
  have:=K2 A.toList (off+k) v vs (by simp;omega)
  rw[<-this]
  simp[Nat.add_assoc]
theorem Lf {place:Nat->Option (Nat×Nat)}: ∀ {parts:List (Nat×Value)} {c c':List Value},Gg place c parts=some c'->Instr.fill place c.toArray parts=some c'.toArray
 |[],c,c',h=>by cases h;rfl
 |(i,v)::r,c,c',h=>by
  unfold Gg at h
  split at h
  ·cases h
  ·rename_i off size hp
   split at h
   ·rename_i h1 h2
    have h1:v.cells.toList.length=size:=Nat.eq_of_beq_eq_true h1
    have h2:off+size<=c.length:=Nat.le_of_ble_eq_true h2
    have h1':v.cells.size=size:=by simpa using h1
    unfold Instr.fill
    rw[hp]
    simp only[h1',ne_eq,not_true_eq_false,decide_false,Bool.false_or,List.size_toArray]
    rw[if_neg (by simp;omega)]
    have:=IY off v.cells.toList 0 c.toArray (by simp;omega)
    have e:v.cells.zipIdx.foldl (fun(cs:Array Value) (x:Value×Nat)=>cs.setIfInBounds (off+x.2) x.1) c.toArray=(BD c off v.cells.toList).toArray:=by
     rw[<-Array.foldl_toList,Array.toList_zipIdx]
     simpa using this
    have ih:=Lf h
    rw[<-ih]
    congr 1
   ·cases h
section
variable {r:Option Nat} {n:Nat} {P:Program} {W0:World} {N:Nat} {D:List Deferred} {ops:List Oper} {Q:Exit->Act->World->Prop} {o:Oper} {rest:List Oper} {env:Env} {bxs:List Bx} {A:World->Prop}
def II (fs:List (Nat×Nat×Bool)) (i:Nat):Option (Nat×Nat):=
 match nth fs i with
 |some (off,size,_)=>some (off,size)
 |none=>none
theorem Mu {P:Program} {W:World}: ∀(l:List Field) (fs:List (Nat×Nat×Bool)),l.length=fs.length->
  (∀(f:Nat) (x:Nat×Nat×Bool),fs[f]? =some x-> ∃g,l[f]? =some g/\g.offset=x.1/\J4 P g.type x.2.1=true)->
  (l.mapM (fun f=>(do pure (f.offset, <-sizeOf f.type):Sem (Nat×Nat))):Sem (List (Nat×Nat))).run P W= .ok (fs.map fun x=>(x.1,x.2.1)) W
 |[],[],_,_=>by simp
 |g::l,x::fs,hl,h=>by
  obtain⟨g',h1,h2,h3⟩:=h 0 x (by simp)
  simp at h1;subst h1
  have ih:=Mu (P:=P) (W:=W) l fs (by simpa using hl) (fun f y hy=>by have:=h (f+1) y (by simpa using hy);simpa using this)
  simp only[List.mapM_cons,Sem.run_bind,Ev h3,Result.andThen_ok,Sem.run_pure,ih,h2,List.map_cons]
 |[],_::_,hl,_=>by simp at hl
 |_::_,[],hl,_=>by simp at hl
theorem WK {t:TypeId} {i:TI} {fs:Array Field} (h:Hi P t i=true) (hu:P.underlying t=some (.struct fs)):fs.toList.length=i.fields.length:=by
 simp only[Hi,Bool.and_eq_true] at h
 have h2:=h.2
 rw[hu] at h2
 simp only[Bool.and_eq_true] at h2
 simpa using h2.1.2
theorem NL {T:Tbl} {i:TI} {ρ:Operand->Value} {t:TypeId} {parts:Array (Nat×Operand)} {vs:List (Nat×Value)} {z:Value} {c:List Value} (hT:okB P T=true) (ho:o.op= .build t parts) (ht:find T t=some i) (hk:i.kind=4)
  (hz: ∀W,(zeroValue t).run P W= .ok z W) (hp:(parts.toList.map fun p=>(p.1,ρ p.2))=vs) (hc:Gg (II i.fields) z.cells.toList vs=some c) (W:World):
  (execOp ρ o).run P W= .ok (.value (.agg c.toArray)) W:=by
 have hr:=B8 hT ht
 obtain⟨fs,hu,hf⟩:=JU hr hk
 have hl:=WK hr hu
 have hpl:(fs.mapM (fun f=>(do pure (f.offset, <-sizeOf f.type):Sem (Nat×Nat))):Sem (Array (Nat×Nat))).run P W= .ok (i.fields.map fun x=>(x.1,x.2.1)).toArray W:=by
  have:=Mu (P:=P) (W:=W) fs.toList i.fields hl (fun f x hx=>by
   obtain⟨g,h1,h2,h3,_⟩:=hf f x hx
   exact⟨g,by simpa using h1,h2,h3⟩)
  rw[show fs=fs.toList.toArray by simp,List.mapM_toArray]
  simp only[Sem.run_map,this,Result.andThen_ok]
 have hplace:(fun j=>((i.fields.map fun x=>(x.1,x.2.1)).toArray)[j]?)=II i.fields:=by
  funext j
  simp only[II,AT,List.getElem?_toArray,List.getElem?_map]
  cases i.fields[j]? <;>rfl
 have hparts:(parts.map fun(i,x)=>(i,ρ x)).toList=vs:=by rw[<-hp];simp
 have hfill:=Lf hc
 simp only[Array.toArray_toList] at hfill
 have hfill':Instr.fill (fun j=>((i.fields.map fun x=>(x.1,x.2.1)).toArray)[j]?) z.cells (parts.map fun(i,x)=>(i,ρ x)).toList=some c.toArray:=by rw[hplace,hparts];exact hfill
 simp only[execOp,ho,Instr.build,Sem.run_bind,hz,Result.andThen_ok,run_underlying hu,hpl,Sem.run_pure]
 rw[hfill']
 simp
theorem EJ {T:Tbl} {i:TI} {d:Nat} {t:TypeId} {parts:Array (Nat×Operand)} {vs:List (Nat×Value)} (z:Value) {c:List Value} (hT:okB P T=true) (hg:Aj ops N env o=some true) (hd:o.dst=some d) (ho:o.op= .build t parts) (ht:find T t=some i) (hk:i.kind=4)
  (hz: ∀W,(zeroValue t).run P W= .ok z W) (hp:Ec (evO N env) parts.toList=some vs) (hc:Gg (II i.fields) z.cells.toList vs=some c)
  (h:WL r n P N D ops Q rest ((d, .agg c.toArray)::env) A):WL r n P N D ops Q (o::rest) env A:=
 Bf hg hd (fun c e=>by rw[ho] at e;cases e) (fun ρ W hρ _=>NL hT ho ht hk hz (EM hρ hp) hc W) h
def Kg (size:Nat) (i:Nat):Option (Nat×Nat):=some (i*size,size)
theorem M8 {T:Tbl} {i:TI} {ρ:Operand->Value} {t:TypeId} {len:Nat} {parts:Array (Nat×Operand)} {vs:List (Nat×Value)} {z:Value} {c:List Value} (hT:okB P T=true) (ho:o.op= .buildSlice t len parts) (ht:find T t=some i) (hk:i.kind=2)
  (hz: ∀W,(zeroValue i.elem).run P W= .ok z W) (hp:(parts.toList.map fun p=>(p.1,ρ p.2))=vs) (h24:len*i.elemSize<=2^24) (h0:len*i.elemSize≠0)
  (hc:Gg (Kg i.elemSize) (((Array.range (len*i.elemSize)).map (z.cells[· %z.cells.size]!)).toList) vs=some c) (W:World):
  (execOp ρ o).run P W= .ok (.value (.slice (some ⟨W.heap.size,0,none⟩) len len)) (W.alloc (.cells c.toArray i.elem)):=by
 have hr:=B8 hT ht
 obtain⟨hu,hs⟩:=Gy hr hk
 have hparts:(parts.map fun(i,x)=>(i,ρ x)).toList=vs:=by rw[<-hp];simp
 have hfill:=Lf hc
 simp only[Array.toArray_toList] at hfill
 simp only[execOp,ho,Instr.buildSlice,Sem.run_bind,run_underlying hu,Result.andThen_ok,Ev hs]
 rw[if_neg (by omega),if_neg h0]
 simp only[Sem.run_bind,hz,Result.andThen_ok,Sem.run_pure]
 unfold Kg at hfill
 rw[hparts,hfill]
 simp[newRow]
theorem Nk {T:Tbl} {i:TI} {d:Nat} {t:TypeId} {len:Nat} {parts:Array (Nat×Operand)} {vs:List (Nat×Value)} (z:Value) {c:List Value} (hT:okB P T=true) (hg:Aj ops N env o=some true) (hd:o.dst=some d) (ho:o.op= .buildSlice t len parts) (ht:find T t=some i) (hk:i.kind=2)
  (hz: ∀W,(zeroValue i.elem).run P W= .ok z W) (hp:Ec (evO N env) parts.toList=some vs) (h24:Nat.ble (len*i.elemSize) (2^24)=true) (h0:Nat.beq (len*i.elemSize) 0=false)
  (hc:Gg (Kg i.elemSize) (((Array.range (len*i.elemSize)).map (z.cells[· %z.cells.size]!)).toList) vs=some c)
  (h: ∀b,WL r n P N D ops Q rest ((d, .slice (some ⟨b,0,none⟩) len len)::env) (Hp W0 (bxs++[⟨b,i.elem,c,true,none⟩]))):WL r n P N D ops Q (o::rest) env (Hp W0 bxs):= .mk fun a W ha hd' hp'=>by
 refine By hg ha (fun c e=>by rw[ho] at e;cases e) ?_
 rw[M8 hT ho ht hk hz (EM (A4 ha) hp) (Nat.le_of_ble_eq_true h24) (Nat.ne_of_beq_eq_false h0) hc W]
 simp only[Oper.uponIn,hd]
 exact(h W.heap.size).out a _ ha hd' (hp'.alloc i.elem c)
end
end Go.Am
namespace Go.Am
open Go Go.RowKit
def edge (o:Oper) (i:Nat):Bool:=o.after.toList.any fun e=>Region.binds .any e&&Nat.beq e.on i
def VE (o:Oper) (j:Nat):Bool:=o.after.toList.all fun e=> !(Region.binds .any e)||Nat.ble (e.on+1) j
def bD (l:List Operand):List Nat:=l.filterMap fun| .tmp t=>some t|_=>none
def Fv (ops:List Oper) (o:Oper):List Nat:=
 (match o.guard with
 |none=>[]
 |some (j,_)=>match nth ops j with
  |some oj=>oj.dst.toList
  |none=>[])++bD o.op.operands.toList
def KN (l:List Nat) (t:Nat):Bool:=l.any fun x=>Nat.beq x t
def Dz (ops:List Oper) (oi oj:Oper):Bool:=
 (match oi.dst with|some d=>KN (Fv ops oj) d|none=>false)||
 (match oj.dst with|some d=>KN (Fv ops oi) d|none=>false)||
 (match oi.dst,oj.dst with|some d,some d'=>Nat.beq d d'|_,_=>false)
def aN (o:Oper):Bool:=match o.op with| .select .. =>false|_=>true
def HW (o:Oper):List Nat:=o.after.toList.filterMap fun e=>if Region.binds .any e then some e.on else none
def HP (ops:List Oper):Nat->List Nat->List Nat
 |0,L=>L
 |k+1,L=>match KN L k with
  |true=>match nth ops k with
   |some o=>HP ops k (L++HW o)
   |none=>HP ops k L
  |false=>HP ops k L
inductive Reach (ops:List Oper):Oper->Nat->Prop
 |edge {o:Oper} {i:Nat} (h:edge o i=true):Reach ops o i
 |step {o oj:Oper} {j i:Nat} (h:Reach ops o j) (hj:ops[j]? =some oj) (h':Go.Am.edge oj i=true):Reach ops o i
theorem Fm {o:Oper} {i:Nat} (h:i∈HW o):edge o i=true:=by
 simp only[HW,List.mem_filterMap] at h
 obtain⟨e,he,h⟩:=h
 split at h
 ·rename_i hb
  simp at h
  simp only[edge,List.any_eq_true,Bool.and_eq_true]
  exact⟨e,he,hb,by simp[h]⟩
 ·cases h
theorem Dq {ops:List Oper} {o:Oper}: ∀(k:Nat) (L:List Nat),(∀i∈L,Reach ops o i)-> ∀i∈HP ops k L,Reach ops o i
 |0,L,h=>h
 |k+1,L,h=>by
  unfold HP
  split
  ·rename_i hm
   split
   ·rename_i oj hj
    rw[AT] at hj
    refine Dq k _ fun i hi=> ?_
    rcases List.mem_append.1 hi with hi|hi
    ·exact h i hi
    ·exact .step (h k (by simpa[KN] using hm)) hj (Fm hi)
   ·exact Dq k _ h
  ·exact Dq k _ h
def R7 (ops:List Oper) (h:Nat):Bool:=
 (ops.zipIdx.all fun(o,j)=>VE o j&&aN o)&&
 (ops.zipIdx.all fun(oj,j)=>(Nat.ble h j)||(ops.zipIdx.all fun(oi,i)=>Nat.ble j i|| !(Dz ops oi oj)||edge oj i))&&
 (ops.zipIdx.all fun(o,t)=> !(Nat.beq t h)||((List.range h).all fun i=>KN (HP ops h (HW o)) i))&&
 (ops.zipIdx.all fun(o,t)=> !(Nat.ble (h+1) t)||edge o (t-1))
theorem BG {l:List Oper} {o:Oper} {j:Nat} (h:l[j]? =some o):(o,j)∈l.zipIdx:=by
 obtain⟨hj,he⟩:=List.getElem?_eq_some_iff.1 h
 have:(l.zipIdx)[j]'(by simpa using hj)=(o,j):=by simp[he]
 rw[<-this];exact List.getElem_mem _
structure Ord (ops:List Oper) (h:Nat):Prop where
 low: ∀(j:Nat) (o:Oper),ops[j]? =some o->VE o j=true
 sel: ∀(j:Nat) (o:Oper),ops[j]? =some o-> ∀cs b,o.op≠ .select cs b
 haz: ∀(i j:Nat) (oi oj:Oper),ops[i]? =some oi->ops[j]? =some oj->i<j->j<h->Dz ops oi oj=true->edge oj i=true
 sink: ∀(o:Oper),ops[h]? =some o-> ∀i,i<h->Reach ops o i
 chain: ∀(t:Nat) (o:Oper),ops[t]? =some o->h<t->edge o (t-1)=true
theorem bY {ops:List Oper} {h:Nat} (hk:R7 ops h=true):Ord ops h:=by
 simp only[R7,Bool.and_eq_true,List.all_eq_true] at hk
 obtain⟨⟨⟨h1,h2⟩,h3⟩,h4⟩:=hk
 refine⟨fun j o hj=>(h1 _ (BG hj)).1,fun j o hj cs b e=> ?_,fun i j oi oj hi hj hij hjh hz=> ?_,fun o ho i hi=> ?_,fun t o ht hlt=> ?_⟩
 ·have:=(h1 _ (BG hj)).2
  simp[aN,e] at this
 ·have:=h2 _ (BG hj)
  simp only[Bool.or_eq_true,List.all_eq_true] at this
  rcases this with h|h
  ·have:=Nat.le_of_ble_eq_true h;omega
  ·rcases h _ (BG hi) with(h|h)|h
   ·have:=Nat.le_of_ble_eq_true h;omega
   ·rw[hz] at h;cases h
   ·exact h
 ·have:=h3 _ (BG ho)
  simp only[Bool.or_eq_true,List.all_eq_true] at this
  rcases this with h0|h0
  ·simp at h0
  ·exact Dq h _ (fun i hi=> .edge (Fm hi)) i (by simpa[KN] using h0 i (List.mem_range.2 hi))
 ·have:=h4 _ (BG ht)
  simp only[Bool.or_eq_true] at this
  rcases this with hh|hh
  ·rw[Nat.ble_eq_true_of_le hlt] at hh;cases hh
  ·exact hh
theorem Jh {l:List Nat} {t:Nat}:KN l t=true↔t∈l:=by
 simp[KN]
section
variable {r:Option Nat} {n:Nat} {P:Program} {W0:World} {N:Nat} {D:List Deferred} {ops:List Oper} {Q:Exit->Act->World->Prop} {A:World->Prop}
def d7 (A:World->Prop) (P:Program) (o:Oper) (a:Act) (W:World) (v:Value):Prop:=
 (∀c,o.op≠ .defer c)/\
 ((execOp a.eval o).run P W= .ok (.value v) W\/
 ∃g args,(execOp a.eval o).run P W= .ok (.enter g args) W/\Calls P g args W fun e W'=>e= .returned v/\A W'/\Below W.heap.size W W')
def OpS (A:World->Prop) (P:Program) (ops:List Oper) (o:Oper) (a:Act) (W:World) (v:Value):Prop:=
 if Region.wanted o (yielded ops.toArray a.tmps)=true then d7 A P o a W v else v=undef
def WQf (P:Program) (N:Nat) (D:List Deferred) (ops:List Oper) (A A2:World->Prop) (R:Act->World->Prop):List Oper->(Act->Act)->Prop
 |[],f=> ∀(a:Act) (W:World),a.tmps.size=N->a.defers=D->A2 W->R (f a) W
 |o::l,f=> ∃v,(∀(a:Act) (W:World),a.tmps.size=N->a.defers=D->A W->OpS A P ops o (f a) W v)/\WQf P N D ops A A2 R l (fun a=>(f a).put o.dst v)
theorem Ia {A2:World->Prop} {R:Act->World->Prop}: ∀ {l:List Oper} {f g:Act->Act},(∀a,a.tmps.size=N->f a=g a)->WQf P N D ops A A2 R l f->WQf P N D ops A A2 R l g
 |[],f,g,hfg,h=>fun a W h1 h2 h3=>by rw[<-hfg a h1];exact h a W h1 h2 h3
 |o::l,f,g,hfg,h=>by
  obtain⟨v,h1,h2⟩:=h
  exact⟨v,fun a W e1 e2 e3=>by rw[<-hfg a e1];exact h1 a W e1 e2 e3,Ia (fun a e=>by rw[hfg a e]) h2⟩
structure WQ (P:Program) (N:Nat) (D:List Deferred) (ops:List Oper) (A2:World->Prop) (R:Act->World->Prop) (l:List Oper) (env:Env) (A:World->Prop):Prop where
 out:WQf P N D ops A A2 R l (ov env)
def Em (dst:Nat->Option Nat) (v:Nat->Value) (a:Act):Nat->Act
 |0=>a
 |k+1=>(Em dst v a k).put (dst k) (v k)
def BB (dst:Nat->Option Nat) (v:Nat->Value) (L:Nat->Bool) (a:Act):Nat->Act
 |0=>a
 |k+1=>if L k=true then(BB dst v L a k).put (dst k) (v k) else BB dst v L a k
theorem GC (a:Act) (d:Option Nat) (v:Value) (t:Nat) (h:d≠some t):(a.put d v).tmps[t]? =a.tmps[t]? :=by
 cases d with
 |none=>rfl
 |some d=>
  simp only[Act.put,Array.getElem?_setIfInBounds]
  rw[if_neg (fun e=>h (by rw[e]))]
theorem Jy (a b:Act) (d:Option Nat) (v:Value) (t:Nat) (hs:a.tmps.size=b.tmps.size) (h:a.tmps[t]? =b.tmps[t]?):(a.put d v).tmps[t]? =(b.put d v).tmps[t]? :=by
 cases d with
 |none=>exact h
 |some d=>simp only[Act.put,Array.getElem?_setIfInBounds,hs,h]
theorem RY (a:Act) (d:Option Nat) (v:Value):(a.put d v).tmps.size=a.tmps.size:=by cases d<;>simp[Act.put]
theorem LA (a:Act) (d:Option Nat) (v:Value):(a.put d v).defers=a.defers:=by cases d<;>simp[Act.put]
theorem MO {dst:Nat->Option Nat} {v:Nat->Value} {a:Act}: ∀k,(Em dst v a k).tmps.size=a.tmps.size
 |0=>rfl
 |k+1=>by rw[Em,RY,MO k]
theorem HX {dst:Nat->Option Nat} {v:Nat->Value} {L:Nat->Bool} {a:Act}: ∀k,(BB dst v L a k).tmps.size=a.tmps.size
 |0=>rfl
 |k+1=>by unfold BB;split<;>simp[RY,HX k]
theorem Cn {dst:Nat->Option Nat} {v:Nat->Value} {L:Nat->Bool} {a:Act} (k:Nat):BB dst v L a (k+1)=if L k=true then(BB dst v L a k).put (dst k) (v k) else BB dst v L a k:=rfl
theorem Rl {dst:Nat->Option Nat} {v:Nat->Value} {L:Nat->Bool} {a:Act} {t:Nat}: ∀j,(∀i,i<j->L i=false->dst i≠some t)->(BB dst v L a j).tmps[t]? =(Em dst v a j).tmps[t]?
 |0,_=>rfl
 |j+1,h=>by
  have ih:=Rl (v:=v) (a:=a) j (fun i hi=>h i (by omega))
  unfold BB Em
  split
  ·exact Jy _ _ _ _ _ (by rw[HX,MO]) ih
  ·rename_i hL
   rw[GC _ _ _ _ (h j (by omega) (by simpa using hL))]
   exact ih
theorem Ka {dst:Nat->Option Nat} {v:Nat->Value} {L:Nat->Bool} {a:Act} {t j:Nat}: ∀d,(∀i,j<=i->i<j+d->L i=true->dst i≠some t)->(BB dst v L a (j+d)).tmps[t]? =(BB dst v L a j).tmps[t]?
 |0,_=>rfl
 |d+1,h=>by
  have ih:=Ka (v:=v) (a:=a) d (fun i h1 h2=>h i h1 (by omega))
  rw[<-Nat.add_assoc,Cn]
  split
  ·rename_i hL
   rw[GC _ _ _ _ (h (j+d) (by omega) (by omega) hL)]
   exact ih
  ·exact ih
theorem V8 (a:Act) (d d':Option Nat) (u u':Value) (h: ∀t,d=some t->d'≠some t):(a.put d u).put d' u'=(a.put d' u').put d u:=by
 cases d with
 |none=>rfl
 |some d=>
  cases d' with
  |none=>rfl
  |some d'=>
   have hne:d≠d':=fun e=>h d rfl (by rw[e])
   simp only[Act.put]
   rw[Array.setIfInBounds_comm _ _ hne]
theorem Jj {dst:Nat->Option Nat} {v:Nat->Value} {L L':Nat->Bool} {a:Act} {j:Nat} (hL': ∀i,i≠j->L' i=L i) (hj:L j=false) (hj':L' j=true): ∀d,(∀i,j<i->i<j+1+d->L i=true-> ∀t,dst j=some t->dst i≠some t)->
  BB dst v L' a (j+1+d)=(BB dst v L a (j+1+d)).put (dst j) (v j)
 |0,_=>by
  have hlow: ∀k,k<=j->BB dst v L' a k=BB dst v L a k:=by
   intro k
   induction k with
   |zero=>intro _;rfl
   |succ k ih=>
    intro hk
    unfold BB
    rw[ih (by omega),hL' k (by omega)]
  simp only[BB,hj,hj',if_true,Bool.false_eq_true,if_false,hlow j (Nat.le_refl _)]
 |d+1,h=>by
  have ih:=Jj (v:=v) (a:=a) hL' hj hj' d (fun i h1 h2=>h i h1 (by omega))
  rw[<-Nat.add_assoc]
  show(if L' (j+1+d)=true then _ else _)=Act.put (if L (j+1+d)=true then _ else _) _ _
  rw[hL' (j+1+d) (by omega),ih]
  split
  ·rename_i hLi
   exact V8 _ _ _ _ _ (fun t ht=>h (j+1+d) (by omega) (by omega) hLi t ht)
  ·rfl
theorem IW {o:Oper} {a b:Act} (h: ∀t∈Fv ops o,a.tmps[t]? =b.tmps[t]?):Region.wanted o (yielded ops.toArray a.tmps)=Region.wanted o (yielded ops.toArray b.tmps):=by
 unfold Region.wanted
 cases hg:o.guard with
 |none=>rfl
 |some p=>
  obtain⟨j,want⟩:=p
  have:yielded ops.toArray a.tmps j=yielded ops.toArray b.tmps j:=by
   unfold yielded
   cases hj:ops[j]? with
   |none=>simp[hj]
   |some oj=>
    cases hd:oj.dst with
    |none=>simp[hj,hd]
    |some d=>
     have:=h d (by simp[Fv,hg,AT,hj,hd])
     simp[hj,hd,this]
  simp only[this]
theorem Lt {o:Oper} {a b:Act} (h: ∀t∈Fv ops o,a.tmps[t]? =b.tmps[t]?): ∀x∈o.op.operands,a.eval x=b.eval x:=by
 intro x hx
 cases x with
 |tmp t=>
  have:t∈Fv ops o:=List.mem_append_right _ (List.mem_filterMap.2 ⟨.tmp t,by simpa using hx,rfl⟩)
  simp only[Act.eval,Array.getD_eq_getD_getElem?,h t this]
 |const v=>rfl
 |global g=>rfl
 |func f=>rfl
theorem NG {o:Oper} {a b:Act} {W:World} {v:Value} (hs: ∀cs c,o.op≠ .select cs c) (h: ∀t∈Fv ops o,a.tmps[t]? =b.tmps[t]?) (hb:OpS A P ops o b W v):OpS A P ops o a W v:=by
 unfold OpS d7 at*
 rw[IW h,execOp_congr o hs (Lt h)]
 exact hb
theorem RU {A2:World->Prop} {R:Act->World->Prop}: ∀(l:List Oper) (f:Act->Act),WQf P N D ops A A2 R l f->
  ∃v:Nat->Value,(∀(j:Nat) (o:Oper),l[j]? =some o-> ∀(a:Act) (W:World),a.tmps.size=N->a.defers=D->A W->OpS A P ops o (Em (fun i=>(l[i]?).bind (·.dst)) v (f a) j) W (v j))/\
   ∀(a:Act) (W:World),a.tmps.size=N->a.defers=D->A2 W->R (Em (fun i=>(l[i]?).bind (·.dst)) v (f a) l.length) W
 |[],f,h=>⟨fun _=>undef,fun j o hj=>by simp at hj,h⟩
 |o::l,f,h=>by
  obtain⟨v0,h1,h2⟩:=h
  obtain⟨v,h3,h4⟩:=RU l _ h2
  have shift: ∀(a:Act) (k:Nat),Em (fun i=>((o::l)[i]?).bind (·.dst)) (fun i=>match i with|0=>v0|i+1=>v i) (f a) (k+1)=Em (fun i=>(l[i]?).bind (·.dst)) v ((f a).put o.dst v0) k:=by
   intro a k
   induction k with
   |zero=>simp[Em]
   |succ k ih=>
    rw[Em,ih]
    simp[Em]
  refine⟨fun i=>match i with|0=>v0|i+1=>v i,fun j oj hj a W e1 e2 e3=> ?_,fun a W e1 e2 e3=> ?_⟩
  ·cases j with
   |zero=>simp at hj;subst hj;exact h1 a W e1 e2 e3
   |succ j=>rw[shift];exact h3 j oj (by simpa using hj) a W e1 e2 e3
  ·rw[List.length_cons,shift];exact h4 a W e1 e2 e3
theorem YU {o:Oper} {a:Act} {W:World} {v:Value} {K:Act->World->Prop} (hp:A W) (h:OpS A P ops o a W v) (hK: ∀W',A W'->K (a.put o.dst v) W'):
  if Region.wanted o (yielded ops.toArray a.tmps)=true then o.wpIn (Fw r) n P a W K Q else(∀f,o.about P W a.eval=some f->(Fw r).fn f)/\K (a.put o.dst undef) W:=by
 unfold OpS at h
 split
 ·rename_i hw
  rw[if_pos hw] at h
  obtain⟨hnd,h⟩:=h
  refine⟨fun _ _=>trivial, ?_⟩
  show o.uponIn (Fw r) n P a K Q ((o.semAt r a.eval).run P W)
  rw[Hq _ hnd]
  rcases h with h|⟨g,args,h,hc⟩
  ·rw[h];exact hK W hp
  ·rw[h]
   refine⟨fun hx=>(by cases hx),Dm (hc.mono ?_)⟩
   rintro e W' ⟨rfl,hb,_⟩
   exact hK W' hb
 ·rename_i hw
  rw[if_neg hw] at h
  subst h
  exact⟨fun _ _=>trivial,hK W hp⟩
theorem DV {j:Nat} {listed:Array Bool} (hs:listed.size=ops.length):j∈Region.ready .any ops.toArray listed↔
  ∃o,ops[j]? =some o/\listed[j]? =some false/\ ∀e∈o.after,Region.binds .any e=true->listed.getD e.on false=true:=by
 rw[mem_ready]
 constructor
 ·rintro⟨h1,o,h2,h3⟩
  refine⟨o,by simpa using h2, ?_,h3⟩
  have hj:j<ops.length:=by
   have:=(Array.getElem?_eq_some_iff.1 h2).1
   simpa using this
  have hjl:j<listed.size:=by omega
  simp[Array.getD,hjl] at h1
  simp[hjl,h1]
 ·rintro⟨o,h1,h2,h3⟩
  refine⟨?_,o,by simpa using h1,h3⟩
  obtain⟨hj,he⟩:=Array.getElem?_eq_some_iff.1 h2
  simp[Array.getD,hj,he]
theorem Dj {o:Oper} {i:Nat} {listed:Array Bool} (he:edge o i=true) (h: ∀e∈o.after,Region.binds .any e=true->listed.getD e.on false=true):listed.getD i false=true:=by
 simp only[edge,List.any_eq_true,Bool.and_eq_true] at he
 obtain⟨e,hm,hb,hi⟩:=he
 have:e.on=i:=Nat.eq_of_beq_eq_true hi
 subst this
 exact h e (by simpa using hm) hb
theorem GT {o:Oper} {i:Nat} {listed:Array Bool} (hr:Reach ops o i) (h: ∀e∈o.after,Region.binds .any e=true->listed.getD e.on false=true)
  (hc: ∀(j:Nat) (o:Oper),ops[j]? =some o->listed.getD j false=true-> ∀e∈o.after,Region.binds .any e=true->listed.getD e.on false=true):listed.getD i false=true:=by
 induction hr with
 |edge he=>exact Dj he h
 |step _ hj he ih=>exact Dj he (hc _ _ hj ih)
theorem Ih {k:Nat} {o:Oper} {K:Act->World->Prop} {a:Act} {W:World} (hk:ops[k]? =some o)
  (h:if Region.wanted o (yielded ops.toArray a.tmps)=true then o.wpIn (Fw r) n P a W K Q else(∀f,o.about P W a.eval=some f->(Fw r).fn f)/\K (a.put o.dst undef) W):wpOpIn (Fw r) n P ops.toArray Q k K a W:=by
 unfold wpOpIn
 have:ops.toArray[k]? =some o:=by simpa using hk
 simp only[this]
 exact h
theorem IP {o:Oper} {j:Nat} {listed:Array Bool} (hl:VE o j=true) (h: ∀i,i<j->listed.getD i false=true): ∀e∈o.after,Region.binds .any e=true->listed.getD e.on false=true:=by
 intro e he hb
 simp only[VE,List.all_eq_true,Bool.or_eq_true,Bool.not_eq_true'] at hl
 rcases hl e (by simpa using he) with h1|h1
 ·rw[hb] at h1;cases h1
 ·exact h _ (Nat.le_of_ble_eq_true h1)
theorem JB {h:Nat} (ho:Ord ops h): ∀(d k:Nat) (listed:Array Bool) (a:Act) (W:World),k+d=ops.length->h<=k->listed.size=ops.length->(∀i,i<ops.length->listed[i]? =some (decide (i<k)))->
  wpListIn (Fw r) n P ops.toArray Q (ops.drop k) a W->wpAnyIn (Fw r) n P .any ops.toArray Q d listed a W
 |0,k,listed,a,W,hkd,hk,hs,hl,hw=>by
  have hnil:Region.ready .any ops.toArray listed=[]:=by
   apply List.eq_nil_iff_forall_not_mem.2
   intro j hj
   obtain⟨o,h1,h2,_⟩:=(DV hs).1 hj
   have hjl:=(List.getElem?_eq_some_iff.1 h1).1
   rw[hl j hjl] at h2
   simp at h2
   omega
  refine⟨hnil, ?_⟩
  rw[List.drop_eq_nil_of_le (by omega)] at hw
  exact hw
 |d+1,k,listed,a,W,hkd,hk,hs,hl,hw=>by
  have hkl:k<ops.length:=by omega
  have hget: ∀i,i<k->listed.getD i false=true:=fun i hi=>by
   have:=hl i (by omega)
   obtain⟨h1,h2⟩:=Array.getElem?_eq_some_iff.1 this
   simp only[Array.getD,h1,dite_true]
   show listed[i]=true
   rw[h2];simpa using hi
  have hko:ops[k]? =some ops[k]:=List.getElem?_eq_getElem hkl
  have hkr:k∈Region.ready .any ops.toArray listed:=(DV hs).2 ⟨_,hko,by rw[hl k hkl];simp,IP (ho.low _ _ hko) hget⟩
  refine⟨fun hn=>(by rw[hn] at hkr;cases hkr),fun j hj=> ?_⟩
  obtain⟨o,h1,h2,h3⟩:=(DV hs).1 hj
  have hjl:=(List.getElem?_eq_some_iff.1 h1).1
  rw[hl j hjl] at h2
  have hjk: ¬j<k:=by simpa using h2
  have hjk2:j=k:=by
   rcases Nat.lt_or_ge k j with hlt|hge
   ·have he:=Dj (ho.chain j o h1 (by omega)) h3
    have hjl2:=hl (j-1) (by omega)
    obtain⟨e1,e2⟩:=Array.getElem?_eq_some_iff.1 hjl2
    simp only[Array.getD,e1,dite_true] at he
    have he:listed[j-1]=true:=he
    rw[e2] at he
    simp at he
    omega
   ·omega
  subst hjk2
  rw[hko] at h1;cases h1
  refine Ih hko ?_
  rw[List.drop_eq_getElem_cons hkl] at hw
  unfold wpListIn at hw
  split
  ·rename_i hwn
   rw[if_pos hwn] at hw
   refine Oper.wpIn_mono (fun a' W' h'=>JB ho d (j+1) _ a' W' (by omega) (by omega) (by simp[hs]) (fun i hi=> ?_) h') hw
   rw[Array.getElem?_setIfInBounds]
   by_cases e:j=i
   ·subst e;simp[hs,hi]
   ·rw[if_neg e,hl i hi];congr 1;simp;omega
  ·rename_i hwn
   rw[if_neg hwn] at hw
   refine⟨hw.1,JB ho d (j+1) _ _ _ (by omega) (by omega) (by simp[hs]) (fun i hi=> ?_) hw.2⟩
   rw[Array.getElem?_setIfInBounds]
   by_cases e:j=i
   ·subst e;simp[hs,hi]
   ·rw[if_neg e,hl i hi];congr 1;simp;omega
def Dh (l:List Bool):Nat:=l.countP fun b=> !b
theorem IQ: ∀(l:List Bool) (j:Nat),l[j]? =some false->Dh (l.set j true)+1=Dh l
 |[],j,h=>by simp at h
 |b::l,0,h=>by simp at h;subst h;simp[Dh]
 |b::l,j+1,h=>by
  have ih:=IQ l j (by simpa using h)
  simp only[Dh,List.set_cons_succ,List.countP_cons] at ih⊢
  omega
theorem FW: ∀(l:List Bool) (h:Nat),h<=l.length->(∀i,i<l.length->l[i]? =some (decide (i<h)))->h+Dh l=l.length
 |[],h,hl,_=>by
  have:h=0:=by simpa using hl
  subst this;rfl
 |b::l,0,_,hh=>by
  have hb:=hh 0 (by simp)
  simp at hb;subst hb
  have ih:=FW l 0 (by omega) (fun i hi=>by have:=hh (i+1) (by simpa using hi);simpa using this)
  have e:Dh (false::l)=Dh l+1:=by simp[Dh]
  rw[e,List.length_cons];omega
 |b::l,h+1,hl,hh=>by
  have hb:=hh 0 (by simp)
  simp at hb;subst hb
  have ih:=FW l h (by simpa using hl) (fun i hi=>by have:=hh (i+1) (by simpa using hi);simpa using this)
  have e:Dh (true::l)=Dh l:=by simp[Dh]
  rw[e,List.length_cons];omega
theorem Yq {h:Nat} (ho:Ord ops h) (hh:h<=ops.length) {v:Nat->Value} {a0:Act}
  (hv: ∀(j:Nat) (o:Oper),(ops.take h)[j]? =some o-> ∀(W:World),A W->OpS A P ops o (Em (fun i=>((ops.take h)[i]?).bind (·.dst)) v a0 j) W (v j))
  (hend: ∀(W:World),A W->wpListIn (Fw r) n P ops.toArray Q (ops.drop h) (Em (fun i=>((ops.take h)[i]?).bind (·.dst)) v a0 h) W):
  ∀(d:Nat) (listed:Array Bool) (W:World),Dh listed.toList=d->listed.size=ops.length->A W->(∀t,h<=t->listed.getD t false=false)->
   (∀(j:Nat) (o:Oper),ops[j]? =some o->listed.getD j false=true-> ∀e∈o.after,Region.binds .any e=true->listed.getD e.on false=true)->
   wpAnyIn (Fw r) n P .any ops.toArray Q d listed (BB (fun i=>((ops.take h)[i]?).bind (·.dst)) v (fun i=>listed.getD i false) a0 h) W:=by
 intro d
 induction d with
 |zero=>
  intro listed W hu hs hp ht hc
  have hall: ∀i,i<h->listed.getD i false=true:=fun i hi=>by
   have hil:i<listed.size:=by omega
   have:=List.countP_eq_zero.1 hu (listed[i]) (by simp)
   simp only[Array.getD,hil,dite_true]
   simpa using this
  have hmix:BB (fun i=>((ops.take h)[i]?).bind (·.dst)) v (fun i=>listed.getD i false) a0 h=Em (fun i=>((ops.take h)[i]?).bind (·.dst)) v a0 h:=by
   have: ∀k,k<=h->BB (fun i=>((ops.take h)[i]?).bind (·.dst)) v (fun i=>listed.getD i false) a0 k=Em (fun i=>((ops.take h)[i]?).bind (·.dst)) v a0 k:=by
    intro k
    induction k with
    |zero=>intro _;rfl
    |succ k ih=>intro hk;rw[Cn,if_pos (hall k (by omega)),ih (by omega)];rfl
   exact this h (Nat.le_refl _)
  have hm:h=ops.length:=by
   rcases Nat.lt_or_ge h ops.length with hlt|hge
   ·have h1:=ht h (Nat.le_refl _)
    have hil:h<listed.size:=by omega
    have:=List.countP_eq_zero.1 hu (listed[h]) (by simp)
    simp only[Array.getD,hil,dite_true] at h1
    have h1:listed[h]=false:=h1
    simp[h1] at this
   ·omega
  rw[hmix]
  refine JB ho 0 h listed _ W (by omega) (Nat.le_refl _) hs (fun i hi=> ?_) (hend W hp)
  have h1:=hall i (by omega)
  have hil:i<listed.size:=by omega
  simp only[Array.getD,hil,dite_true] at h1
  have h1:listed[i]=true:=h1
  rw[Array.getElem?_eq_getElem hil,h1]
  simp;omega
 |succ d ih=>
  intro listed W hu hs hp ht hc
  by_cases hall: ∀i,i<h->listed.getD i false=true
  ·have hmix:BB (fun i=>((ops.take h)[i]?).bind (·.dst)) v (fun i=>listed.getD i false) a0 h=Em (fun i=>((ops.take h)[i]?).bind (·.dst)) v a0 h:=by
    have: ∀k,k<=h->BB (fun i=>((ops.take h)[i]?).bind (·.dst)) v (fun i=>listed.getD i false) a0 k=Em (fun i=>((ops.take h)[i]?).bind (·.dst)) v a0 k:=by
     intro k
     induction k with
     |zero=>intro _;rfl
     |succ k ih=>intro hk;rw[Cn,if_pos (hall k (by omega)),ih (by omega)];rfl
    exact this h (Nat.le_refl _)
   rw[hmix]
   have hlist: ∀i,i<ops.length->listed[i]? =some (decide (i<h)):=fun i hi=>by
    have hil:i<listed.size:=by omega
    rw[Array.getElem?_eq_getElem hil]
    by_cases e:i<h
    ·have h1:=hall i e
     simp only[Array.getD,hil,dite_true] at h1
     have h1:listed[i]=true:=h1
     simp[h1,e]
    ·have h1:=ht i (by omega)
     simp only[Array.getD,hil,dite_true] at h1
     have h1:listed[i]=false:=h1
     simp[h1];omega
   have:=FW listed.toList h (by simp;omega) (fun i hi=>by simpa using hlist i (by simp at hi;omega))
   refine JB ho (d+1) h listed _ W (by simp at this;omega) (Nat.le_refl _) hs hlist (hend W hp)
  ·have hex: ∃i,i<h/\listed.getD i false=false/\ ∀k,k<i->listed.getD k false=true:=by
    have hP: ∃i,i<h/\listed.getD i false=false:=by
     apply Classical.byContradiction
     intro hne
     apply hall
     intro i hi
     cases hb:listed.getD i false with
     |true=>rfl
     |false=>exact absurd ⟨i,hi,hb⟩ hne
    obtain⟨i,hi⟩:=hP
    induction i using Nat.strongRecOn with
    |_ i ihi=>
     by_cases hk: ∀k,k<i->listed.getD k false=true
     ·exact⟨i,hi.1,hi.2,hk⟩
     ·have: ∃k,k<i/\listed.getD k false=false:=by
       apply Classical.byContradiction
       intro hne
       apply hk
       intro k hki
       cases hb:listed.getD k false with
       |true=>rfl
       |false=>exact absurd ⟨k,hki,hb⟩ hne
      obtain⟨k,hki,hb⟩:=this
      exact ihi k hki ⟨by omega,hb⟩
   obtain⟨i,hih,hif,hil⟩:=hex
   have hget: ∀k,k<ops.length->listed[k]? =some (listed.getD k false):=fun k hk=>by
    have:k<listed.size:=by omega
    simp[Array.getD,this]
   have hio:ops[i]? =some ops[i]:=List.getElem?_eq_getElem (by omega)
   have hir:i∈Region.ready .any ops.toArray listed:=(DV hs).2 ⟨_,hio,by rw[hget i (by omega),hif],IP (ho.low _ _ hio) hil⟩
   refine⟨fun hn=>(by rw[hn] at hir;cases hir),fun j hj=> ?_⟩
   obtain⟨o,h1,h2,h3⟩:=(DV hs).1 hj
   have hjl:=(List.getElem?_eq_some_iff.1 h1).1
   have hjf:listed.getD j false=false:=by
    have:=hget j hjl
    rw[h2] at this
    exact(Option.some.inj this).symm
   have hjh:j<h:=by
    rcases Nat.lt_or_ge j h with hlt|hge
    ·exact hlt
    ·exfalso
     rcases Nat.eq_or_lt_of_le hge with e|hlt
     ·subst e
      have:=GT (ho.sink o h1 i hih) h3 hc
      rw[hif] at this;cases this
     ·have:=Dj (ho.chain j o h1 hlt) h3
      rw[ht (j-1) (by omega)] at this;cases this
   have hjt:(ops.take h)[j]? =some o:=by rw[List.getElem?_take,if_pos hjh];exact h1
   have hdj:((ops.take h)[j]?).bind (·.dst)=o.dst:=by rw[hjt];rfl
   have htake: ∀(i:Nat) (t:Nat),((ops.take h)[i]?).bind (·.dst)=some t-> ∃oi,ops[i]? =some oi/\oi.dst=some t/\i<h:=fun i t hd=>by
    cases hi:(ops.take h)[i]? with
    |none=>rw[hi] at hd;cases hd
    |some oi=>
     rw[hi] at hd
     have hih:i<h:=by
      have:=(List.getElem?_eq_some_iff.1 hi).1
      simp at this;omega
     rw[List.getElem?_take,if_pos hih] at hi
     exact⟨oi,hi,hd,hih⟩
   have hreads: ∀t∈Fv ops o,(BB (fun i=>((ops.take h)[i]?).bind (·.dst)) v (fun i=>listed.getD i false) a0 h).tmps[t]? =(Em (fun i=>((ops.take h)[i]?).bind (·.dst)) v a0 j).tmps[t]? :=fun t htr=>by
    have e:h=j+(h-j):=by omega
    rw[e]
    rw[<-e]
    have hl:=Ka (dst:=fun i=>((ops.take h)[i]?).bind (·.dst)) (v:=v) (L:=fun i=>listed.getD i false) (a:=a0) (t:=t) (j:=j) (h-j) (fun i hji hih2 hLi hdi=>by
     obtain⟨oi,hoi,hdi,hih3⟩:=htake i t hdi
     rcases Nat.eq_or_lt_of_le hji with e|hlt
     ·subst e;rw[hjf] at hLi;cases hLi
     ·have hz:Dz ops o oi=true:=by simp only[Dz,hdi,Jh.2 htr,Bool.or_true,Bool.true_or]
      have:=ho.haz j i o oi h1 hoi hlt hih3 hz
      have:=Dj this (hc i oi hoi hLi)
      rw[hjf] at this;cases this)
    rw[<-e] at hl
    rw[hl]
    refine Rl j (fun i hij hLi hdi=> ?_)
    obtain⟨oi,hoi,hdi,_⟩:=htake i t hdi
    have hz:Dz ops oi o=true:=by simp only[Dz,hdi,Jh.2 htr,Bool.true_or]
    have:=ho.haz i j oi o hoi h1 hij hjh hz
    have:=Dj this h3
    rw[hLi] at this;cases this
   refine Ih h1 (YU hp (NG (ho.sel j o h1) hreads (hv j o hjt W hp)) fun W' hp'=> ?_)
   have hset: ∀i,(listed.setIfInBounds j true).getD i false=if i=j then true else listed.getD i false:=fun i=>by
    have hjs:j<listed.size:=by omega
    simp only[Array.getD_eq_getD_getElem?,Array.getElem?_setIfInBounds]
    by_cases e:j=i
    ·subst e;simp[hjs]
    ·rw[if_neg e,if_neg (fun x=>e x.symm)]
   have hmix:BB (fun i=>((ops.take h)[i]?).bind (·.dst)) v (fun i=>(listed.setIfInBounds j true).getD i false) a0 h=(BB (fun i=>((ops.take h)[i]?).bind (·.dst)) v (fun i=>listed.getD i false) a0 h).put o.dst (v j):=by
    have e:h=j+1+(h-(j+1)):=by omega
    have:=Jj (dst:=fun i=>((ops.take h)[i]?).bind (·.dst)) (v:=v) (L:=fun i=>listed.getD i false) (L':=fun i=>(listed.setIfInBounds j true).getD i false) (a:=a0) (j:=j)
     (fun i hne=>by simp only[hset,if_neg hne]) hjf (by simp[hset]) (h-(j+1)) (fun i hji hih2 hLi t htd hdi=>by
      obtain⟨oi,hoi,hdi,hih3⟩:=htake i t hdi
      have htd:o.dst=some t:=by rw[<-hdj];exact htd
      have hz:Dz ops o oi=true:=by simp[Dz,hdi,htd]
      have:=ho.haz j i o oi h1 hoi hji hih3 hz
      have:=Dj this (hc i oi hoi hLi)
      rw[hjf] at this;cases this)
    rw[<-e] at this
    rw[this,hdj]
   rw[<-hmix]
   refine ih _ W' ?_ (by simp[hs]) hp' (fun t hht=>by rw[hset,if_neg (by omega)];exact ht t hht) (fun i oi hoi hLi e he hb=> ?_)
   ·have:=IQ listed.toList j (by rw[Array.getElem?_toList];exact h2)
    have e:(listed.setIfInBounds j true).toList=listed.toList.set j true:=by simp
    rw[e];omega
   ·rw[hset] at hLi⊢
    split
    ·rfl
    ·by_cases e2:i=j
     ·subst e2
      rw[h1] at hoi;cases hoi
      exact h3 e he hb
     ·rw[if_neg e2] at hLi
      exact hc i oi hoi hLi e he hb
theorem Pg (h:Nat) {id:Nat} {env:Env} (hA: ∀W,A W->A { W with drawn:=W.drawn+1 }) (hm:P.follows .mixedOrders=true) (ho:R7 ops h=true) (hh:Nat.ble h ops.length=true)
  (hq:WQ P N D ops A (wpListIn (Fw r) n P ops.toArray Q (ops.drop h)) (ops.take h) env A):WC r n P N D (.region id ops.toArray true) Q env A:= .mk fun a W ha hd hp=>by
 have hh:h<=ops.length:=Nat.le_of_ble_eq_true hh
 obtain⟨v,hv,hend⟩:=RU _ _ hq.out
 refine wpIn_region_any hm ?_
 have hp':A { W with drawn:=W.drawn+1 }:=hA W hp
 have hlen:(ops.take h).length=h:=by simp;omega
 have key:=Yq (r:=r) (n:=n) (P:=P) (Q:=Q) (A:=A) (bY ho) hh (v:=v) (a0:=ov env a)
  (fun j o hj W' hpW=>hv j o hj a W' ha hd hpW) (fun W' hpW=>by have:=hend a W' ha hd hpW;rw[hlen] at this;exact this)
  ops.length (Array.replicate ops.length false) { W with drawn:=W.drawn+1 } (by simp[Dh,List.countP_replicate]) (by simp) hp' (fun t _=>by simp[Array.getD_eq_getD_getElem?,Array.getElem?_replicate];split<;>rfl)
  (fun j o _ hl=>by simp[Array.getD_eq_getD_getElem?,Array.getElem?_replicate] at hl;split at hl<;>simp at hl)
 have hmix:BB (fun i=>((ops.take h)[i]?).bind (·.dst)) v (fun i=>(Array.replicate ops.length false).getD i false) (ov env a) h=ov env a:=by
  have: ∀k,BB (fun i=>((ops.take h)[i]?).bind (·.dst)) v (fun i=>(Array.replicate ops.length false).getD i false) (ov env a) k=ov env a:=by
   intro k
   induction k with
   |zero=>rfl
   |succ k ih=>
    rw[Cn,if_neg,ih]
    simp[Array.getD_eq_getD_getElem?,Array.getElem?_replicate]
    split<;>simp
  exact this h
 rw[hmix] at key
 simpa using key
end
end Go.Am
namespace Go.Am
open Go Go.RowKit
section
variable {r:Option Nat} {n:Nat} {P:Program} {W0:World} {N:Nat} {D:List Deferred} {ops tail:List Oper} {Q:Exit->Act->World->Prop} {o:Oper} {rest:List Oper} {env:Env} {bxs:List Bx} {A A2:World->Prop} {R:Act->World->Prop}
theorem Tc (h:WL r n P N D ops Q tail env A):WQ P N D ops A (wpListIn (Fw r) n P ops.toArray Q tail) [] env A:=⟨fun a W h1 h2 h3=>h.out a W h1 h2 h3⟩
theorem PC {d:Nat} {v:Value} (hd:o.dst=some d) (h1: ∀(a:Act) (W:World),a.tmps.size=N->a.defers=D->A W->OpS A P ops o (ov env a) W v)
  (h:WQ P N D ops A2 R rest ((d,v)::env) A):WQ P N D ops A2 R (o::rest) env A:=
 ⟨v,h1,by rw[hd];exact h.out⟩
theorem CD {d:Nat} {v:Value} (hg:Aj ops N env o=some true) (hd:o.dst=some d) (hnd: ∀c,o.op≠ .defer c)
  (hv: ∀(ρ:Operand->Value) (W:World),(∀x u,evO N env x=some u->ρ x=u)->A W->(execOp ρ o).run P W= .ok (.value v) W)
  (h:WQ P N D ops A2 R rest ((d,v)::env) A):WQ P N D ops A2 R (o::rest) env A:=
 PC hd (fun a W ha _ hp=>by
  unfold OpS
  rw[EP ha hg,if_pos rfl]
  exact⟨hnd, .inl (hv _ W (A4 ha) hp)⟩) h
theorem Cy {d:Nat} (hg:Aj ops N env o=some false) (hd:o.dst=some d) (h:WQ P N D ops A2 R rest ((d,undef)::env) A):WQ P N D ops A2 R (o::rest) env A:=
 PC hd (fun a W ha _ hp=>by
  unfold OpS
  rw[EP ha hg,if_neg (by simp)]) h
theorem BX {T:Tbl} {d:Nat} {v:Value} (hT:okB P T=true) (hg:Aj ops N env o=some true) (hd:o.dst=some d) (hv:AD T (evO N env) o.op=some v)
  (h:WQ P N D ops A2 R rest ((d,v)::env) A):WQ P N D ops A2 R (o::rest) env A:=
 CD hg hd (Ht hv) (fun _ W hρ _=>IX hT hρ hv W) h
theorem Kc {d:Nat} {t u:TypeId} {x y:Operand} {k:IntKind} {a b:Int} (hg:Aj ops N env o=some true) (hd:o.dst=some d) (ho:o.op= .binOp .rem t x y u)
  (hx:evO N env x=some (.int k a)) (hy:evO N env y=some (.int k b)) (hb:b≠0)
  (h:WQ P N D ops A2 R rest ((d, .int k (a.tmod b))::env) A):WQ P N D ops A2 R (o::rest) env A:=
 CD hg hd (fun c e=>by rw[ho] at e;cases e) (fun _ W hρ _=>Ur ho (hρ _ _ hx) (hρ _ _ hy) hb W) h
theorem Tj {d:Nat} {t u:TypeId} {x y:Operand} {k:IntKind} {a b:Int} (hg:Aj ops N env o=some true) (hd:o.dst=some d) (ho:o.op= .binOp .quo t x y u)
  (hx:evO N env x=some (.int k a)) (hy:evO N env y=some (.int k b)) (hb:b≠0)
  (h:WQ P N D ops A2 R rest ((d, .int k (k.wrap (a.tdiv b)))::env) A):WQ P N D ops A2 R (o::rest) env A:=
 CD hg hd (fun c e=>by rw[ho] at e;cases e) (fun _ W hρ _=>Uq ho (hρ _ _ hx) (hρ _ _ hy) hb W) h
theorem Qb {T:Tbl} {i:TI} {d:Nat} {t:TypeId} {x y:Operand} {k:IntKind} {b off len cap:Nat} {z:Int} (hT:okB P T=true) (hg:Aj ops N env o=some true) (hd:o.dst=some d) (ho:o.op= .indexAddr t x y)
  (ht:find T t=some i) (hk:i.kind=2) (hx:evO N env x=some (.slice (some ⟨b,off,none⟩) len cap)) (hy:evO N env y=some (.int k z)) (h0:0<=z) (h1:z<len)
  (h:WQ P N D ops A2 R rest ((d, .pointer (some ⟨b,off+z.toNat*i.elemSize,none⟩))::env) A):WQ P N D ops A2 R (o::rest) env A:=
 CD hg hd (fun c e=>by rw[ho] at e;cases e) (fun _ W hρ _=>Ix hT ho ht hk (hρ _ _ hx) (hρ _ _ hy) h0 h1 W) h
theorem Jf {d:Nat} {t:TypeId} {x:Operand} {a:Addr} {v:Value} (hg:Aj ops N env o=some true) (hd:o.dst=some d) (ho:o.op= .load t x)
  (hx:evO N env x=some (.pointer (some a))) (hl: ∀W,A W->(loadVar t a).run P W= .ok v W)
  (h:WQ P N D ops A2 R rest ((d,v)::env) A):WQ P N D ops A2 R (o::rest) env A:=
 CD hg hd (fun c e=>by rw[ho] at e;cases e) (fun _ W hρ hp=>Si ho (hρ _ _ hx) (hl W hp)) h
theorem Vo (k:Nat) {T:Tbl} {i:TI} {d:Nat} {t:TypeId} {x:Operand} {B:Bx} {off:Nat} {v:Value} (hT:okB P T=true) (hg:Aj ops N env o=some true) (hd:o.dst=some d) (ho:o.op= .load t x) (ht:find T t=some i)
  (hk:nth bxs k=some B) (hx:evO N env x=some (.pointer (some ⟨B.b,off,none⟩))) (hon:B.row=true) (hv:DC B.cells off i=some v)
  (h:WQ P N D ops A2 R rest ((d,v)::env) (Hp W0 bxs)):WQ P N D ops A2 R (o::rest) env (Hp W0 bxs):=
 Jf hg hd ho hx (Lc hT ht hk hon hv) h
theorem Sx {T:Tbl} {i:TI} {d:Nat} {t:TypeId} {parts:Array (Nat×Operand)} {vs:List (Nat×Value)} (z:Value) {c:List Value} (hT:okB P T=true) (hg:Aj ops N env o=some true) (hd:o.dst=some d) (ho:o.op= .build t parts) (ht:find T t=some i) (hk:i.kind=4)
  (hz: ∀W,(zeroValue t).run P W= .ok z W) (hp:Ec (evO N env) parts.toList=some vs) (hc:Gg (II i.fields) z.cells.toList vs=some c)
  (h:WQ P N D ops A2 R rest ((d, .agg c.toArray)::env) A):WQ P N D ops A2 R (o::rest) env A:=
 CD hg hd (fun c e=>by rw[ho] at e;cases e) (fun ρ W hρ _=>NL hT ho ht hk hz (EM hρ hp) hc W) h
theorem L9 {c:Call} {f:Operand} {g d:Nat} {capt vs:List Value} {v:Value}
  (hg:Aj ops N env o=some true) (hd:o.dst=some d) (ho:o.op= .call c) (hc:c.callee= .value f) (hf:evO N env f=some (.func (.func g) #[] capt.toArray)) (ha:Cl (evO N env) c.args.toList=some vs) (hE:Bm P g=true)
  (hC: ∀W,Hp W0 bxs W->Ag P g (vs++capt).toArray W (fun _:Unit=>v) (fun _=>True) (fun _=>[]))
  (h:WQ P N D ops A2 R rest ((d,v)::env) (Hp W0 bxs)):WQ P N D ops A2 R (o::rest) env (Hp W0 bxs):=
 PC hd (fun a W h1 _ hp=>by
  unfold OpS
  rw[EP h1 hg,if_pos rfl]
  refine⟨fun c e=>(by rw[ho] at e;cases e), .inr ⟨g,_,F1 ho hc (A4 h1 _ _ hf) (DG (A4 h1) ha) hE,(hC W hp).out.mono ?_⟩⟩
  rintro e W' ⟨x,he,_,hb,_⟩
  exact⟨he,hp.grow hb,hb⟩) h
theorem PW (t:Nat) {l:List Oper} {b:Bool} (ht:evO N env (.tmp t)=some (.bool b)) (h1:b=true->WQ P N D ops A2 R l ((t, .bool true)::env) A) (h2:b=false->WQ P N D ops A2 R l ((t, .bool false)::env) A):
  WQ P N D ops A2 R l env A:=by
 obtain⟨hlt,ht⟩:=Fh ht
 cases b
 ·refine⟨Ia (fun a ha=> ?_) (h2 rfl).out⟩
  rw[Eo,ED (D8 ht (by omega))]
 ·refine⟨Ia (fun a ha=> ?_) (h1 rfl).out⟩
  rw[Eo,ED (D8 ht (by omega))]
theorem Ao (t:Nat) (u:Value) {l:List Oper} {v:Value} (ht:evO N env (.tmp t)=some v) (e:v=u) (h:WL r n P N D ops Q l ((t,u)::env) A):WL r n P N D ops Q l env A:= .mk fun a W ha hd hp=>by
 obtain⟨hlt,ht⟩:=Fh ht
 have:=h.out a W ha hd hp
 rwa [Eo,ED (by rw[<-e];exact D8 ht (by omega))] at this
theorem Bi (t:Nat) (u:Value) {c:Code} {v:Value} (ht:evO N env (.tmp t)=some v) (e:v=u) (h:WC r n P N D c Q ((t,u)::env) A):WC r n P N D c Q env A:= .mk fun a W ha hd hp=>by
 obtain⟨hlt,ht⟩:=Fh ht
 have:=h.out a W ha hd hp
 rwa [Eo,ED (by rw[<-e];exact D8 ht (by omega))] at this
theorem DO (t:Nat) (u:Value) {l:List Oper} {v:Value} (ht:evO N env (.tmp t)=some v) (e:v=u) (h:WQ P N D ops A2 R l ((t,u)::env) A):WQ P N D ops A2 R l env A:=by
 obtain⟨hlt,ht⟩:=Fh ht
 refine⟨Ia (fun a ha=> ?_) h.out⟩
 rw[Eo,ED (by rw[<-e];exact D8 ht (by omega))]
structure TK (N:Nat) (D:List Deferred) (L:Env) (a:Act):Prop where
 size:a.tmps.size=N
 defers:a.defers=D
 get: ∀p∈L,a.tmps[p.1]? =some p.2
def Hh (N:Nat) (env:Env):Env->Prop
 |[]=>True
 |(t,v)::L=>evO N env (.tmp t)=some v/\Hh N env L
theorem GJ {L:Env} {a:Act} (ha:a.tmps.size=N) (hd:a.defers=D) (h:Hh N env L):TK N D L (ov env a):=by
 refine⟨by rw[Uv,ha],by rw[Bl,hd], ?_⟩
 induction L with
 |nil=>intro p hp;cases hp
 |cons q L ih=>
  obtain⟨t,v⟩:=q
  intro p hp
  rcases List.mem_cons.1 hp with rfl|hp
  ·obtain⟨hlt,ht⟩:=Fh h.1
   exact D8 ht (by omega)
  ·exact ih h.2 p hp
structure QU (N:Nat) (D:List Deferred) {X:Type} (L:X->Env) (B:X->World->Prop) (Φ:X->Prop) (μ:X->Nat) (m:Nat) (a:Act) (W:World):Prop where
 out: ∃x,Φ x/\μ x<m/\TK N D (L x) a/\B x W
theorem En {c:Code} {X:Type} (L:X->Env) (B:X->World->Prop) (Φ:X->Prop) (μ:X->Nat) (x0:X) (h0:Φ x0) (hL:Hh N env (L x0)) (hB: ∀W,A W->B x0 W)
  (round: ∀x,Φ x->WC r n P N D c (Exit.then (QU N D L B Φ μ (μ x)) Q) (L x) (B x)):WC r n P N D (.loop c) Q env A:= .mk fun a W ha hd hp=>by
 refine wpIn_loop_ghost (fun m a W=> ∃x,Φ x/\μ x=m/\TK N D (L x) a/\B x W) (μ x0) ⟨x0,h0,rfl,GJ ha hd hL,hB W hp⟩ ?_
 rintro m a W ⟨x,hx,hm,hl,hp⟩
 have:=(round x hx).out a W hl.size hl.defers hp
 rw[Fj (fun p hp _=>hl.get p hp)] at this
 refine wpIn_mono this ?_
 intro e a' W' hq
 cases e with
 |normal=>
  obtain⟨y,h1,h2,h3,h4⟩:=QU.out hq
  exact⟨μ y,hm▸h2,y,h1,rfl,h3,h4⟩
 |_=>exact hq
theorem D5 {X:Type} {L:X->Env} {B:X->World->Prop} {Φ:X->Prop} {μ:X->Nat} {m:Nat} (x:X) (hx:Φ x) (hm:μ x<m) (hL:Hh N env (L x)) (hB: ∀W,A W->B x W):NE N D (Exit.then (QU N D L B Φ μ m) Q) .normal env A:= .mk fun _ W ha hd hp=>
 ⟨x,hx,hm,GJ ha hd hL,hB W hp⟩
theorem A6 {c:Code} {X:Type} (L:X->Env) (B:X->List Bx) (Φ:X->Prop) (μ:X->Nat) (x0:X) (h0:Φ x0) (hL:Hh N env (L x0)) (nb:List Bx) (hB:bxs=B x0++nb)
  (round: ∀x,Φ x->WC r n P N D c (Exit.then (QU N D L (fun x=>Hp W0 (B x)) Φ μ (μ x)) Q) (L x) (Hp W0 (B x))):WC r n P N D (.loop c) Q env (Hp W0 bxs):=
 En L (fun x=>Hp W0 (B x)) Φ μ x0 h0 hL (fun W hp=>by rw[hB] at hp;exact hp.take) round
theorem Ax {X:Type} {L:X->Env} {B:X->List Bx} {Φ:X->Prop} {μ:X->Nat} {m:Nat} (x:X) (hx:Φ x) (hm:μ x<m) (hL:Hh N env (L x)) (nb:List Bx) (hB:bxs=B x++nb):NE N D (Exit.then (QU N D L (fun x=>Hp W0 (B x)) Φ μ m) Q) .normal env (Hp W0 bxs):=
 D5 x hx hm hL (fun W hp=>by rw[hB] at hp;exact hp.take)
end
end Go.Am
namespace Go.Am
open Go Go.RowKit
def bK (g:Nat):Bool:=Nat.beq g 285||Nat.beq g 999999||Nat.beq g 999999||Nat.beq g 999999||Nat.beq g 999999||Nat.beq g 999999||Nat.beq g 999999||Nat.beq g 999999||Nat.beq g 142||Nat.beq g 144
def eD (o:Oper):Bool:=
 match o.op with
 | .store .. | .alloc .. | .box .. | .buildSlice .. | .makeSlice .. | .makeMap .. | .insert .. | .mapUpdate .. | .entryStore .. | .convert .. =>true
 | .call c=>match c.callee with
  | .builtin .append=>true
  | .builtin .copy=>true
  | .builtin .clear=>true
  | .builtin .delete=>true
  | .value (.func g)=>bK g
  |_=>false
 |_=>false
def FZ:List Oper->Nat
 |[]=>0
 |o::l=>match eD o with
  |true=>0
  |false=>FZ l+1
theorem ND: ∀l:List Oper,FZ l<=l.length
 |[]=>Nat.le_refl _
 |o::l=>by
  unfold FZ
  have:=ND l
  split<;>simp<;>omega
theorem PF {W0:World} {bxs:List Bx} (W:World) (h:Hp W0 bxs W):Hp W0 bxs { W with drawn:=W.drawn+1 }:=h.grow ⟨rfl,rfl,rfl,Nat.le_refl _,fun _ _=>rfl⟩
theorem RV {r:Option Nat} {n:Nat} {P:Program} {W0:World} {N:Nat} {D:List Deferred} {ops:List Oper} {Q:Exit->Act->World->Prop} {bxs:List Bx} {id:Nat} {env:Env} (hm:P.follows .mixedOrders=true) (ho:R7 ops (FZ ops)=true)
  (hq:WQ P N D ops (Hp W0 bxs) (wpListIn (Fw r) n P ops.toArray Q (ops.drop (FZ ops))) (ops.take (FZ ops)) env (Hp W0 bxs)):WC r n P N D (.region id ops.toArray true) Q env (Hp W0 bxs):=
 Pg (FZ ops) PF hm ho (Nat.ble_eq_true_of_le (ND ops)) hq
end Go.Am
namespace Go.Am
open Go Go.RowKit
structure Gd (rec:LoopState->Option Code->Loop):Prop where
 st: ∀s j,(rec s j).state=s
 pend: ∀s j,(rec s j).pending=j
 upd: ∀s j s' j', { rec s j with state:=s',pending:=j' }=rec s' j'
theorem Gd.upd1 {rec:LoopState->Option Code->Loop} (h:Gd rec) (s:LoopState) (j:Option Code) (s':LoopState): { rec s j with state:=s' }=rec s' j:=by
 have:=h.upd s j s' j
 rw[<-this]
 have:=h.pend s j
 cases hr:rec s j
 rw[hr] at this
 simp at this
 subst this
 rfl
def Bc (l:Nat) (rec:LoopState->Option Code->Loop) (s:LoopState) (j:Option Code):Bx:=⟨l,0,[],true,some (.obj (.loop (rec s j)))⟩
structure QG (P:Program) (gf:Nat) (lb:List Value) (m:Nat) (enc:Nat->List Value) (Need:Nat->World->Prop):Prop where
 out: ∀(l:Nat) (J:Nat->World->Prop) (Jx:World->Prop),(∀k W,J k W->Need k W)->(∀k W,J k W->J k { W with drawn:=W.drawn+1 })->
  (∀k W,k<m->J k W->YieldAt (Fw none) 0 P l (enc k).toArray W fun e W'=>(e= .returned (.bool true)/\J (k+1) W')\/(e= .returned (.bool false)/\Jx W'))->
  ∀W,J 0 W->CallsIn (Fw none) 0 P gf (.func (.yield l) #[] #[]::lb).toArray W fun e W'=>(∃v,e= .returned v)/\(J m W'\/Jx W')
structure Vq (P:Program) (gf:Nat) (lb:List Value) (m:Nat) (enc:Nat->List Value) (Need:World->Prop):Prop where
 out: ∀(l:Nat) (J:Nat->World->Prop) (Jx:World->Prop),(∀k W,J k W->Need W)->(∀k W,J k W->J k { W with drawn:=W.drawn+1 })->
  (∀k W,k<m->J k W->YieldAt (Fw none) 0 P l (enc k).toArray W fun e W'=>(e= .returned (.bool true)/\J (k+1) W')\/(e= .returned (.bool false)/\Jx W'))->
  ∀W,J 0 W->CallsIn (Fw none) 0 P gf (.func (.yield l) #[] #[]::lb).toArray W fun e W'=>(∃v,e= .returned v)/\(J m W'\/Jx W')
structure aV (P:Program) (gf:Nat) (lb:List Value) (m:Nat) (enc:Nat->List Value) (Need:Nat->World->Prop):Prop where
 out: ∀(l:Nat) (J:Nat->World->Prop) (Jx:World->Prop),(∀k W,J k W->Need k W)->(∀k W W',J k W->Below W.heap.size W W'->J k W')->
  (∀k W,k<m->J k W->YieldAt (Fw none) 0 P l (enc k).toArray W fun e W'=>(e= .returned (.bool true)/\J (k+1) W')\/(e= .returned (.bool false)/\Jx W'))->
  ∀W,J 0 W->CallsIn (Fw none) 0 P gf (.func (.yield l) #[] #[]::lb).toArray W fun e W'=>(∃v,e= .returned v)/\(J m W'\/Jx W')
theorem QG.toG {P:Program} {gf:Nat} {lb:List Value} {m:Nat} {enc:Nat->List Value} {Need:Nat->World->Prop} (h:QG P gf lb m enc Need):aV P gf lb m enc Need:=
 ⟨fun l J Jx hN hB hY=>h.out l J Jx hN (fun k W hj=>hB k W _ hj ⟨rfl,rfl,rfl,Nat.le_refl _,fun _ _=>rfl⟩) hY⟩
theorem Vq.toK {P:Program} {gf:Nat} {lb:List Value} {m:Nat} {enc:Nat->List Value} {Need:World->Prop} (h:Vq P gf lb m enc Need):QG P gf lb m enc (fun _=>Need):=⟨h.out⟩
theorem KT {α:Type} {x y c:α} {i:Nat} (h:[x,y][i]? =some c):(i=0/\x=c)\/(i=1/\y=c):=by
 cases i with
 |zero=>left;exact⟨rfl,by simpa using h⟩
 |succ i=>cases i with
  |zero=>right;exact⟨rfl,by simpa using h⟩
  |succ i=>simp at h
theorem As.two {W W':World} {A B:Bx} (hA:W'.heap[A.b]? =some A.obj/\W.heap.size<=A.b) (hB:W'.heap[B.b]? =some B.obj/\W.heap.size<=B.b) (hne:A.b≠B.b) (hm:A.sole=true:=by rfl) (hm':B.sole=true:=by rfl):As W W' [A,B]:=by
 have hA1:=Own.one_sole hm hA
 have hB1:=Own.one_sole hm' hB
 refine⟨fun i C hi=> ?_,fun i C hi=> ?_,fun i j C E hi hj hij p hp q hq=> ?_⟩
 ·rcases KT hi with⟨_,rfl⟩|⟨_,rfl⟩
  ·exact hA1.cell 0 _ rfl
  ·exact hB1.cell 0 _ rfl
 ·rcases KT hi with⟨_,rfl⟩|⟨_,rfl⟩
  ·exact hA1.nd 0 _ rfl
  ·exact hB1.nd 0 _ rfl
 ·rcases KT hi with⟨rfl,rfl⟩|⟨rfl,rfl⟩<;>rcases KT hj with⟨rfl,rfl⟩|⟨rfl,rfl⟩
  ·exact absurd rfl hij
  ·rw[Bx.sole_blk hm] at hp;rw[Bx.sole_blk hm'] at hq
   obtain rfl:=List.mem_singleton.1 hp
   obtain rfl:=List.mem_singleton.1 hq
   exact hne
  ·rw[Bx.sole_blk hm'] at hp;rw[Bx.sole_blk hm] at hq
   obtain rfl:=List.mem_singleton.1 hp
   obtain rfl:=List.mem_singleton.1 hq
   exact hne.symm
  ·exact absurd rfl hij
section
variable {P:Program} {W0:World} {N:Nat} {D:List Deferred} {env:Env} {bxs:List Bx} {Q:Exit->Act->World->Prop}
def JR {X:Type} (W0:World) (B:X->List Bx) (Φ:Nat->X->Prop) (d l:Nat) (rec:LoopState->Option Code->Loop) (k:Nat) (W:World):Prop:= ∃x,Φ k x/\Hp W0 (B x++[B7 d,Bc l rec .ready none]) W
def JX {X:Type} (W0:World) (B:X->List Bx) (Ψ:Code->X->Prop) (d l:Nat) (rec:LoopState->Option Code->Loop) (W:World):Prop:= ∃c x,Ψ c x/\Hp W0 (B x++[B7 d,Bc l rec .done (some c)]) W
structure PG {X:Type} (P:Program) (W0:World) (B:X->List Bx) (Φ:Nat->X->Prop) (Ψ:Code->X->Prop) (d l:Nat) (rec:LoopState->Option Code->Loop) (k:Nat) (e:Exit) (a:Act) (W:World):Prop where
 out:roundPost P l (fun e W'=>(e= .returned (.bool true)/\JR W0 B Φ d l rec (k+1) W')\/(e= .returned (.bool false)/\JX W0 B Ψ d l rec W')) e a W
structure Vu {X:Type} (P:Program) (W0:World) (B:X->List Bx) (Φ:Nat->X->Prop) (Ψ:Code->X->Prop) (d l:Nat) (rec:LoopState->Option Code->Loop) (k:Nat) (body:Code) (e:Exit) (a:Act) (W:World):Prop where
 out:Exit.then (fun a₁ w₁=> ∃w₂,(Instr.beginRound l).run P w₁= .ok () w₂/\body.wpIn (Fw (some l)) 0 P (PG P W0 B Φ Ψ d l rec k) a₁ w₂) (fun _ _ _=>False) e a W
variable {X:Type} {B:X->List Bx} {Φ:Nat->X->Prop} {Ψ:Code->X->Prop} {d l:Nat} {rec:LoopState->Option Code->Loop} {k:Nat}
theorem CJ (i:Nat) {body:Code} (hrec:Gd rec) (hi:nth bxs i=some (Bc l rec .ready none))
  (h:WC (some l) 0 P N [] body (PG P W0 B Φ Ψ d l rec k) env (Hp W0 (bxs.set i (Bc l rec .busy none)))):NE N [] (Vu P W0 B Φ Ψ d l rec k body) .normal env (Hp W0 bxs):= .mk fun a W ha hd hp=>by
 rw[AT] at hi
 have hb:=(hp.at_ _ _ hi rfl).1
 refine .mk ⟨_,run_beginRound hb (hrec.st _ _),h.out a _ ha hd ?_⟩
 refine hp.updO hi rfl rfl ⟨rfl,rfl,rfl, ?_⟩
 rw[hrec.upd1]
 rfl
theorem BQ (i:Nat) (x:X) (hrec:Gd rec) (hi:nth bxs i=some (Bc l rec .busy none)) (hx:Φ (k+1) x) (nb:List Bx) (hB:bxs.set i (Bc l rec .ready none)=B x++[B7 d,Bc l rec .ready none]++nb):
  NE N [] (PG P W0 B Φ Ψ d l rec k) .normal env (Hp W0 bxs):= .mk fun a W ha hd hp=>by
 rw[AT] at hi
 have hb:=(hp.at_ _ _ hi rfl).1
 refine .mk ⟨_,_,run_endRound none hb, .inl ⟨rfl,x,hx, ?_⟩⟩
 have:=hp.updO (W':=W.putObj l (.loop { rec .busy none with state:= .ready,pending:=none })) hi rfl (B':=Bc l rec .ready none) rfl ⟨rfl,rfl,rfl,by rw[hrec.upd];rfl⟩
 rw[hB] at this
 exact this.take
theorem BA (i:Nat) (x:X) (hrec:Gd rec) (hi:nth bxs i=some (Bc l rec .busy none)) (hx:Ψ .ret x) (nb:List Bx) (hB:bxs.set i (Bc l rec .done (some .ret))=B x++[B7 d,Bc l rec .done (some .ret)]++nb):
  NE N [] (PG P W0 B Φ Ψ d l rec k) .ret env (Hp W0 bxs):= .mk fun a W ha hd hp=>by
 rw[AT] at hi
 have hb:=(hp.at_ _ _ hi rfl).1
 refine .mk ⟨_,_,run_endRound (some .ret) hb, .inr ⟨rfl,_,x,hx, ?_⟩⟩
 have:=hp.updO (W':=W.putObj l (.loop { rec .busy none with state:= .done,pending:=some .ret })) hi rfl (B':=Bc l rec .done (some .ret)) rfl ⟨rfl,rfl,rfl,by rw[hrec.upd];rfl⟩
 rw[hB] at this
 exact this.take
def CM:List Nat->List Value->Env->Env
 |p::ps,v::vs,env=>CM ps vs ((p,v)::env)
 |_,_,env=>env
theorem HV: ∀(ps:List Nat) (vs:List Value) (env:Env) (a:Act),(ov (CM ps vs env) a).tmps=(ps.zip vs).foldl (fun t (x:Nat×Value)=>t.setIfInBounds x.1 x.2) (ov env a).tmps
 |[],vs,env,a=>by cases vs<;>simp[CM]
 |p::ps,[],env,a=>by simp[CM]
 |p::ps,v::vs,env,a=>by
  rw[CM,HV ps vs]
  simp[Eo,Act.put]
theorem Ii (env:Env) (a:Act) (D:List Deferred):ov env { tmps:=a.tmps,defers:=D }= { tmps:=(ov env a).tmps,defers:=D }:=by
 have h1:=Ib env { tmps:=a.tmps,defers:=D } a rfl
 have h2:=Bl env { tmps:=a.tmps,defers:=D }
 cases hA:ov env { tmps:=a.tmps,defers:=D }
 rw[hA] at h1 h2
 simp only at h1 h2
 rw[h1,h2]
theorem Wc {f:Operand} {ps:Array Nat} {assign body:Code} {gf m:Nat} {lb:List Value} {enc:Nat->List Value} {Need:Nat->World->Prop} (B:X->List Bx) (Φ:Nat->X->Prop) (Ψ:Code->X->Prop) (x0:X)
  (hf:evO N env f=some (.func (.func gf) #[] lb.toArray)) (hE:Bm P gf=true) (hI:aV P gf lb m enc Need) (hps: ∀k,(enc k).length=ps.size)
  (h0:Φ 0 x0) (nb:List Bx) (hB:bxs=B x0++nb) (hN: ∀k x W,Φ k x->Hp W0 (B x) W->Need k W)
  (hbody: ∀(k:Nat) (x:X) (d l:Nat) (rec:LoopState->Option Code->Loop),k<m->Φ k x->Gd rec->
   WC (some l) 0 P N [] assign (Vu P W0 B Φ Ψ d l rec k body) (CM ps.toList (enc k) env) (Hp W0 (B x++[B7 d,Bc l rec .ready none])))
  (hdone: ∀(x:X) (d l:Nat) (rec:LoopState->Option Code->Loop),Φ m x->NE N (C7 d::D) Q .normal env (Hp W0 (B x++[B7 d,Bc l rec .exhausted none])))
  (hjump: ∀(x:X) (d l:Nat) (rec:LoopState->Option Code->Loop) (c:Code),Ψ c x->WC none 0 P N (C7 d::D) c Q env (Hp W0 (B x++[B7 d,Bc l rec .exhausted (some c)]))):
  WC none 0 P N D (.rangeFunc f ps assign body) Q env (Hp W0 bxs):= .mk fun a W ha hd hp=>by
 refine wpIn_rangeFunc ?_
 intro fn _
 obtain⟨rec,hr⟩: ∃rec:LoopState->Option Code->Loop,rec=fun s j=> { state:=s,pending:=j,fn,tmps:=(ov env a).tmps,params:=ps,assign,body,defers:=W.heap.size }:=⟨_,rfl⟩
 have hrec:Gd rec:=by subst hr;exact⟨fun _ _=>rfl,fun _ _=>rfl,fun _ _ _ _=>rfl⟩
 obtain⟨W1,hW1⟩: ∃W1,(W.alloc (.deferred (some []))).alloc (.loop (rec .ready none))=W1:=⟨_,rfl⟩
 have hpB:Hp W0 (B x0) W:=by rw[hB] at hp;exact hp.take
 have hp1:Hp W0 (B x0++[B7 W.heap.size,Bc (W.heap.size+1) rec .ready none]) W1:=by
  have hb:Below W.heap.size W W1:=by rw[<-hW1];exact((Below.refl _ W).alloc (Nat.le_refl _) _).alloc (by simp) _
  refine hpB.append hb (As.two ⟨?_,Nat.le_refl _⟩ ⟨?_,Nat.le_succ _⟩ (Nat.ne_of_lt (Nat.lt_succ_self _)))
  ·show W1.heap[W.heap.size]? =some (.deferred (some []))
   rw[<-hW1]
   exact(Below.heap_alloc _ _ _ (by simp)).trans (World.alloc_heap_new W _)
  ·show W1.heap[W.heap.size+1]? =some (.loop (rec .ready none))
   rw[<-hW1]
   have:=World.alloc_heap_new (W.alloc (.deferred (some []))) (.loop (rec .ready none))
   rwa [World.size_alloc] at this
 refine⟨W.heap.size+1,[C7 W.heap.size],W1, { target:= .fn (.func gf) lb.toArray,args:= #[.func (.yield (W.heap.size+1)) #[] #[]] },W1,gf,
  (.func (.yield (W.heap.size+1)) #[] #[]::lb).toArray,W1, ?_, ?_,fun _ _=>trivial, ?_,fun h=>(by cases h), ?_⟩
 ·rw[<-hW1,hr];exact run_enterLoop_outer _ _ _ _ _
 ·have hc: ∀v,(ov env a).eval (.const v)=v:=fun _=>rfl
  simp only[resolve]
  rw[A4 ha _ _ hf]
  simp[Deferred.ofValue,hc]
 ·simp only[invoke,FO hE]
  simp
 ·refine(hI.out (W.heap.size+1) (JR W0 B Φ W.heap.size (W.heap.size+1) rec) (JX W0 B Ψ W.heap.size (W.heap.size+1) rec) (fun k W ⟨x,hx,hp⟩=>hN k x W hx hp.take) (fun k W W2 ⟨x,hx,hp⟩ hb=>⟨x,hx,hp.grow hb⟩) ?_ W1 ⟨x0,h0,hp1⟩).mono ?_
  ·rintro k W2 hk ⟨x,hx,hp2⟩
   have hL:=(hp2.at_ ((B x).length+1) (Bc (W.heap.size+1) rec .ready none) (by rw[List.getElem?_append_right (by omega)];simp) rfl).1
   refine⟨fn,(ps.zip (enc k).toArray).foldl (fun tmps (x:Nat×Value)=>tmps.setIfInBounds x.1 x.2) (ov env a).tmps,assign,body, ?_, ?_⟩
   ·have:=run_yield (P:=P) (args:=(enc k).toArray) hL (by subst hr;simpa using hps k)
    subst hr
    exact this
   ·refine roundIn_of_wpIn (F:=Fw none) trivial ?_
    have hb:=(hbody k x W.heap.size (W.heap.size+1) rec hk hx hrec).out { tmps:=a.tmps,defers:=[] } W2 ha rfl hp2
    have e:({ tmps:=(ps.zip (enc k).toArray).foldl (fun tmps (x:Nat×Value)=>tmps.setIfInBounds x.1 x.2) (ov env a).tmps,defers:=[] }:Act)=ov (CM ps.toList (enc k) env) { tmps:=a.tmps,defers:=[] }:=by
     have h1:=HV ps.toList (enc k) env { tmps:=a.tmps,defers:=[] }
     rw[Ib env { tmps:=a.tmps,defers:=[] } a rfl] at h1
     have h2:(ov (CM ps.toList (enc k) env) { tmps:=a.tmps,defers:=[] }).defers=[]:=Bl _ _
     cases hA:ov (CM ps.toList (enc k) env) { tmps:=a.tmps,defers:=[] }
     rw[hA] at h1 h2
     simp only at h1 h2
     subst h2
     congr 1
     rw[h1, <-Array.foldl_toList]
     simp
    have e':(rec .ready none).params=ps/\(rec .ready none).tmps=(ov env a).tmps:=by subst hr;exact⟨rfl,rfl⟩
    rw[<-e] at hb
    refine wpIn_mono hb ?_
    intro ex a2 W3 hq
    have hq:=hq.out
    cases ex with
    |normal=>
     obtain⟨w2,h1,h2⟩:=hq
     exact⟨w2,h1,wpIn_mono h2 fun _ _ _ h=>h.out⟩
    |_=>exact hq
  ·rintro e W2 ⟨⟨v,rfl⟩,(⟨x,hx,hp2⟩|⟨c,x,hx,hp2⟩)⟩
   ·have hi:(B x++[B7 W.heap.size,Bc (W.heap.size+1) rec .ready none])[(B x).length+1]? =some (Bc (W.heap.size+1) rec .ready none):=by rw[List.getElem?_append_right (by omega)];simp
    have hL:=(hp2.at_ _ _ hi rfl).1
    refine⟨_,_,run_endLoop hL (by rw[hrec.st];simp), ?_⟩
    rw[hrec.pend]
    have hp3:=hp2.updO (W':=W2.putObj (W.heap.size+1) (.loop { rec .ready none with state:= .exhausted })) hi rfl (B':=Bc (W.heap.size+1) rec .exhausted none) rfl ⟨rfl,rfl,rfl,by rw[hrec.upd1];rfl⟩
    have hset:(B x++[B7 W.heap.size,Bc (W.heap.size+1) rec .ready none]).set ((B x).length+1) (Bc (W.heap.size+1) rec .exhausted none)=B x++[B7 W.heap.size,Bc (W.heap.size+1) rec .exhausted none]:=by
     rw[List.set_append_right _ _ (by omega)];simp
    rw[hset] at hp3
    have:=(hdone x W.heap.size (W.heap.size+1) rec hx).out { tmps:=a.tmps,defers:=C7 W.heap.size::D } _ ha rfl hp3
    rw[Ii, <-hd, <-Bl env a] at this
    simp only[hrec.pend] at this⊢
    exact this
   ·have hi:(B x++[B7 W.heap.size,Bc (W.heap.size+1) rec .done (some c)])[(B x).length+1]? =some (Bc (W.heap.size+1) rec .done (some c)):=by rw[List.getElem?_append_right (by omega)];simp
    have hL:=(hp2.at_ _ _ hi rfl).1
    refine⟨_,_,run_endLoop hL (by rw[hrec.st];simp), ?_⟩
    rw[hrec.pend]
    have hp3:=hp2.updO (W':=W2.putObj (W.heap.size+1) (.loop { rec .done (some c) with state:= .exhausted })) hi rfl (B':=Bc (W.heap.size+1) rec .exhausted (some c)) rfl ⟨rfl,rfl,rfl,by rw[hrec.upd1];rfl⟩
    have hset:(B x++[B7 W.heap.size,Bc (W.heap.size+1) rec .done (some c)]).set ((B x).length+1) (Bc (W.heap.size+1) rec .exhausted (some c))=B x++[B7 W.heap.size,Bc (W.heap.size+1) rec .exhausted (some c)]:=by
     rw[List.set_append_right _ _ (by omega)];simp
    rw[hset] at hp3
    have:=(hjump x W.heap.size (W.heap.size+1) rec c hx).out { tmps:=a.tmps,defers:=C7 W.heap.size::D } _ ha rfl hp3
    rw[Ii, <-hd, <-Bl env a] at this
    simp only[hrec.pend] at this⊢
    exact this
theorem NP {f:Operand} {ps:Array Nat} {assign body:Code} {gf m:Nat} {lb:List Value} {enc:Nat->List Value} {Need:Nat->World->Prop} (B:X->List Bx) (Φ:Nat->X->Prop) (Ψ:Code->X->Prop) (x0:X)
  (hf:evO N env f=some (.func (.func gf) #[] lb.toArray)) (hE:Bm P gf=true) (hI:QG P gf lb m enc Need) (hps: ∀k,(enc k).length=ps.size)
  (h0:Φ 0 x0) (nb:List Bx) (hB:bxs=B x0++nb) (hN: ∀k x W,Φ k x->Hp W0 (B x) W->Need k W)
  (hbody: ∀(k:Nat) (x:X) (d l:Nat) (rec:LoopState->Option Code->Loop),k<m->Φ k x->Gd rec->
   WC (some l) 0 P N [] assign (Vu P W0 B Φ Ψ d l rec k body) (CM ps.toList (enc k) env) (Hp W0 (B x++[B7 d,Bc l rec .ready none])))
  (hdone: ∀(x:X) (d l:Nat) (rec:LoopState->Option Code->Loop),Φ m x->NE N (C7 d::D) Q .normal env (Hp W0 (B x++[B7 d,Bc l rec .exhausted none])))
  (hjump: ∀(x:X) (d l:Nat) (rec:LoopState->Option Code->Loop) (c:Code),Ψ c x->WC none 0 P N (C7 d::D) c Q env (Hp W0 (B x++[B7 d,Bc l rec .exhausted (some c)]))):
  WC none 0 P N D (.rangeFunc f ps assign body) Q env (Hp W0 bxs):=
 Wc B Φ Ψ x0 hf hE hI.toG hps h0 nb hB hN hbody hdone hjump
theorem Eh {f:Operand} {ps:Array Nat} {assign body:Code} {gf m:Nat} {lb:List Value} {enc:Nat->List Value} {Need:World->Prop} (B:X->List Bx) (Φ:Nat->X->Prop) (Ψ:Code->X->Prop) (x0:X)
  (hf:evO N env f=some (.func (.func gf) #[] lb.toArray)) (hE:Bm P gf=true) (hI:Vq P gf lb m enc Need) (hps: ∀k,(enc k).length=ps.size)
  (h0:Φ 0 x0) (nb:List Bx) (hB:bxs=B x0++nb) (hN: ∀k x W,Φ k x->Hp W0 (B x) W->Need W)
  (hbody: ∀(k:Nat) (x:X) (d l:Nat) (rec:LoopState->Option Code->Loop),k<m->Φ k x->Gd rec->
   WC (some l) 0 P N [] assign (Vu P W0 B Φ Ψ d l rec k body) (CM ps.toList (enc k) env) (Hp W0 (B x++[B7 d,Bc l rec .ready none])))
  (hdone: ∀(x:X) (d l:Nat) (rec:LoopState->Option Code->Loop),Φ m x->NE N (C7 d::D) Q .normal env (Hp W0 (B x++[B7 d,Bc l rec .exhausted none])))
  (hjump: ∀(x:X) (d l:Nat) (rec:LoopState->Option Code->Loop) (c:Code),Ψ c x->WC none 0 P N (C7 d::D) c Q env (Hp W0 (B x++[B7 d,Bc l rec .exhausted (some c)]))):
  WC none 0 P N D (.rangeFunc f ps assign body) Q env (Hp W0 bxs):=
 NP B Φ Ψ x0 hf hE hI.toK hps h0 nb hB hN hbody hdone hjump
end
end Go.Am
namespace Go.Am
open Go Go.RowKit
theorem As.of_hp {W0 W:World} {bxs:List Bx} (h:Hp W0 bxs W):As W0 W bxs:=h.own
theorem As.of_hp1 {W0 W:World} {bxs:List Bx} (h:Hp W0 bxs W) (k:Nat) {B:Bx} (hk:nth bxs k=some B):As W0 W [B]:=by
 rw[AT] at hk
 exact Own.one (h.own.cell k B hk) (h.own.nd k B hk)
structure QC (P:Program) (fn:Func) (Jm Jx:World->Prop) (e:Exit) (a:Act) (W:World):Prop where
 out:bodyPost P fn (fun e W'=>(∃v,e= .returned v)/\(Jm W'\/Jx W')) e a W
theorem E2 {P:Program} {f:Nat} {fn:Func} {c:Code} {args:List Value} {N:Nat} {J0 Jm Jx:World->Prop} {W:World}
  (hf:P.funcs[f]? =some fn) (hb:fn.body=some c) (hN:fn.ntmps=N) (hl:Nat.ble args.length N=true) (hJ:J0 W)
  (h:WC none 0 P N [] c (QC P fn Jm Jx) (I8 0 args) J0):CallsIn (Fw none) 0 P f args.toArray W fun e W'=>(∃v,e= .returned v)/\(Jm W'\/Jx W'):=by
 have hl:args.length<=N:=Nat.le_of_ble_eq_true hl
 have h1:=h.out { tmps:=args.toArray++Array.replicate (fn.ntmps-args.toArray.size) undef,defers:=[] } W (by simp[hN];omega) rfl hJ
 rw[Fj] at h1
 ·exact callsIn_of_wp hf hb trivial (wpIn_mono (Q:=QC P fn Jm Jx) h1 fun _ _ _ h=>h.out)
 ·intro p hp _
  obtain⟨_,h2⟩:=G4 args 0 p hp
  rw[Nat.sub_zero] at h2
  have hlt:=(List.getElem?_eq_some_iff.1 h2).1
  rw[Array.getElem?_append_left (by simpa using hlt)]
  simpa using h2
section
variable {r:Option Nat} {n:Nat} {P:Program} {W0:World} {N:Nat} {D:List Deferred} {ops:List Oper} {Q:Exit->Act->World->Prop} {o:Oper} {rest:List Oper} {env:Env} {bxs:List Bx} {A A1 A2:World->Prop}
theorem Io {fn:Func} {Jm Jx:World->Prop} (hr:fn.results= #[]) (h: ∀W,A W->Jm W):NE N [] (QC P fn Jm Jx) .normal env A:= .mk fun a W ha hd hp=>
 .mk ⟨by rw[Bl,hd],_,GN hr _ _,⟨_,rfl⟩, .inl (h W hp)⟩
theorem Rh {fn:Func} {Jm Jx:World->Prop} (hr:fn.results= #[]) (h: ∀W,A W->Jm W):NE N [] (QC P fn Jm Jx) .ret env A:= .mk fun a W ha hd hp=>
 .mk ⟨by rw[Bl,hd],_,GN hr _ _,⟨_,rfl⟩, .inl (h W hp)⟩
theorem CP {fn:Func} {Jm Jx:World->Prop} (hr:fn.results= #[]) (h: ∀W,A W->Jx W):NE N [] (QC P fn Jm Jx) .ret env A:= .mk fun a W ha hd hp=>
 .mk ⟨by rw[Bl,hd],_,GN hr _ _,⟨_,rfl⟩, .inr (h W hp)⟩
theorem F6 {c:Call} {f:Operand} {l d:Nat} {vs:List Value} (hg:Aj ops N env o=some true) (hd:o.dst=some d) (ho:o.op= .call c) (hc:c.callee= .value f)
  (hf:evO N env f=some (.func (.yield l) #[] #[])) (ha:Cl (evO N env) c.args.toList=some vs)
  (hY: ∀W,A W->YieldAt (Fw none) 0 P l vs.toArray W fun e W'=>(e= .returned (.bool true)/\A1 W')\/(e= .returned (.bool false)/\A2 W'))
  (h1:WL r 0 P N D ops Q rest ((d, .bool true)::env) A1) (h2:WL r 0 P N D ops Q rest ((d, .bool false)::env) A2):WL r 0 P N D ops Q (o::rest) env A:= .mk fun a W e1 e2 hp=>by
 refine By hg e1 (fun c e=>by rw[ho] at e;cases e) ?_
 obtain⟨fn,tmps,assign,body,hy,hR⟩:=hY W hp
 have:(execOp (ov env a).eval o).run P W= .ok (.round l fn tmps assign body) W:=by
  simp only[execOp,ho,resolve,hc,A4 e1 _ _ hf,DG (A4 e1) ha,Sem.run_bind,Deferred.ofValue,Sem.run_pure,Result.andThen_ok,invoke]
  simpa using hy
 rw[this]
 refine⟨fun hx=>(by cases hx), ?_⟩
 have hR':RoundIn (Fw r) 0 P l fn tmps assign body W _:=hR
 refine hR'.mono ?_
 rintro e W' (⟨rfl,h⟩|⟨rfl,h⟩)
 ·simp only[hd];exact h1.out a W' e1 e2 h
 ·simp only[hd];exact h2.out a W' e1 e2 h
end
end Go.Am
namespace Go.Am
open Go Go.RowKit
structure Al (W:World) (b off:Nat) (c:List Value):Prop where
 lt:b<W.heap.size
 get: ∀(j:Nat) (x:Value),c[j]? =some x->W.cell? ⟨b,off+j,none⟩=some x
theorem Al.below {W W':World} {b off:Nat} {c:List Value} {n:Nat} (h:Al W b off c) (hn:W.heap.size<=n) (hb:Below n W W'):Al W' b off c:=
 ⟨Nat.lt_of_lt_of_le h.lt hb.size,fun j x hx=>(hb.cell (p:=⟨b,off+j,none⟩) (Nat.lt_of_lt_of_le h.lt hn)).trans (h.get j x hx)⟩
theorem Al.hp {W0 W:World} {bxs:List Bx} {b off:Nat} {c:List Value} (h:Al W0 b off c) (hp:Hp W0 bxs W):Al W b off c:=h.below (Nat.le_refl _) hp.below
theorem Al.sub {W:World} {b off:Nat} {c:List Value} (h:Al W b off c) (k:Nat):Al W b (off+k) (c.drop k):=
 ⟨h.lt,fun j x hx=>by rw[List.getElem?_drop] at hx;rw[Nat.add_assoc];exact h.get _ _ hx⟩
theorem Al.of_block {W:World} {b:Nat} {c:List Value} {ty:TypeId} {fr:Nat×Nat} (h:W.heap[b]? =some (.cells c.toArray ty fr)):Al W b 0 c:=
 ⟨(Array.getElem?_eq_some_iff.1 h).1,fun j x hx=>by rw[GL h,Nat.zero_add];exact hx⟩
theorem Al.of_bx {W0 W:World} {bxs:List Bx} (hp:Hp W0 bxs W) (k:Nat) {B:Bx} (hk:nth bxs k=some B) (hon:B.row=true):Al W B.b 0 B.cells:=by
 rw[AT] at hk
 obtain⟨h1,h2⟩:=Bx.row_on hon
 have h3:=(hp.at_ _ _ hk h1).1
 rw[h2] at h3
 exact Al.of_block h3
theorem Al.load {P:Program} {T:Tbl} {i:TI} {t:TypeId} {W:World} {b off:Nat} {c:List Value} {v:Value} (o:Nat) (hT:okB P T=true) (ht:find T t=some i) (h:Al W b off c) (hv:DC c o i=some v):
  (loadVar t ⟨b,off+o,none⟩).run P W= .ok v W:=by
 have hr:=B8 hT ht
 unfold DC at hv
 simp only[loadVar,Sem.run_bind,Uk hr,Result.andThen_ok]
 split at hv
 ·rename_i ha
  split at hv
  ·rename_i hle
   cases hv
   have hle:o+i.size<=c.length:=Nat.le_of_ble_eq_true hle
   rw[ha]
   have:=Ef (P:=P) (W:=W) (b:=b) (o:=off+o) (f:=fun j=>W.cell? ⟨b,off+o+j,none⟩) (fun _=>rfl) i.size 0 #[] ((c.drop o).take i.size) (by simp;omega) (fun j hj=>by
    rw[Nat.zero_add,List.getElem?_take,if_pos hj,List.getElem?_drop,Nat.add_assoc]
    have hlt:o+j<c.length:=by omega
    rw[List.getElem?_eq_getElem hlt]
    exact h.get _ _ (List.getElem?_eq_getElem hlt))
   simp only[if_true,Sem.run_bind,JA hr,Result.andThen_ok,loadCells,this,Sem.run_pure,List.append_toArray,List.nil_append]
  ·cases hv
 ·rename_i ha
  rw[ha]
  rw[AT] at hv
  simp only[Bool.false_eq_true,if_false]
  simp[Go.load,Sem.run,h.get o v hv]
theorem BO {x:Int} (h1: -9223372036854775808<=x) (h2:x<9223372036854775808):IntKind.i64.wrap x=x:=by
 simp only[IntKind.wrap,IntKind.signed,IntKind.bits]
 simp
 omega
theorem SU (x:Int): -9223372036854775808<=IntKind.i64.wrap x/\IntKind.i64.wrap x<9223372036854775808:=by
 simp only[IntKind.wrap,IntKind.signed,IntKind.bits]
 simp
 omega
end Go.Am
namespace Go.Am
open Go Go.RowKit
def Il (fl:List Bool) (o:Oper):Bool:=o.after.toList.all fun e=> !(Region.binds .any e)||fl.getD e.on false
def Ox (acc:List Bool):List Oper->List Bool
 |[]=>acc
 |o::l=>Ox (acc++[!eD o&&Il acc o]) l
def Gf (ops:List Oper):List Bool:=Ox [] ops
def PK:List Oper->List Bool->List Oper
 |o::l,b::fl=>match b with
  |true=>o::PK l fl
  |false=>PK l fl
 |_,_=>[]
def N3 (o:Oper):Bool:=match o.op with| .defer .. =>false| .select .. =>false|_=>true
def LO (ops:List Oper) (fl:List Bool):Bool:=
 Nat.beq fl.length ops.length&&
 (ops.zipIdx.all fun(o,j)=>VE o j&&N3 o&&(!(fl.getD j false)||Il fl o))&&
 (ops.zipIdx.all fun(oj,j)=>ops.zipIdx.all fun(oi,i)=>Nat.ble j i|| !(Dz ops oi oj)||KN (HP ops j (HW oj)) i)
structure cG (ops:List Oper) (fl:List Bool):Prop where
 len:fl.length=ops.length
 low: ∀(j:Nat) (o:Oper),ops[j]? =some o->VE o j=true
 sel: ∀(j:Nat) (o:Oper),ops[j]? =some o->N3 o=true
 down: ∀(j:Nat) (o:Oper),ops[j]? =some o->fl.getD j false=true-> ∀e∈o.after,Region.binds .any e=true->fl.getD e.on false=true
 haz: ∀(i j:Nat) (oi oj:Oper),ops[i]? =some oi->ops[j]? =some oj->i<j->Dz ops oi oj=true->Reach ops oj i
theorem aF {ops:List Oper} {fl:List Bool} (hk:LO ops fl=true):cG ops fl:=by
 simp only[LO,Bool.and_eq_true,List.all_eq_true] at hk
 obtain⟨⟨h0,h1⟩,h2⟩:=hk
 refine⟨Nat.eq_of_beq_eq_true h0,fun j o hj=>(h1 _ (BG hj)).1.1,fun j o hj=>(h1 _ (BG hj)).1.2,fun j o hj hf e he hb=> ?_,fun i j oi oj hi hj hij hz=> ?_⟩
 ·have:=(h1 _ (BG hj)).2
  simp only[Bool.or_eq_true] at this
  rcases this with h|h
  ·rw[hf] at h;cases h
  ·simp only[Il,List.all_eq_true,Bool.or_eq_true] at h
   rcases h e (by simpa using he) with h|h
   ·rw[hb] at h;cases h
   ·exact h
 ·have:=h2 _ (BG hj) _ (BG hi)
  simp only[Bool.or_eq_true] at this
  rcases this with(h|h)|h
  ·have:=Nat.le_of_ble_eq_true h;omega
  ·rw[hz] at h;cases h
  ·exact Dq j _ (fun i hi=> .edge (Fm hi)) i (by simpa[KN] using h)
section
variable {r:Option Nat} {n:Nat} {P:Program} {W0:World} {N:Nat} {D:List Deferred} {ops:List Oper} {Q:Exit->Act->World->Prop} {A Aq:World->Prop} {env:Env} {fl:List Bool}
def QK (D:List Deferred) (K:Act->World->Prop) (e:Exit) (a:Act) (W:World):Prop:=e= .normal/\a.defers=D/\K a W
def K4 (ops:List Oper) (fl:List Bool) (L:Nat->Bool):Bool:=
 ops.zipIdx.any fun(o,i)=>L i&& !(fl.getD i false)&&(List.range ops.length).all fun j=> !(fl.getD j false)||KN (HP ops i (HW o)) j
theorem Vy {ops:List Oper} {fl:List Bool} {L:Nat->Bool} (h:K4 ops fl L=true): ∃(i:Nat) (o:Oper),ops[i]? =some o/\L i=true/\fl.getD i false=false/\ ∀j,j<ops.length->fl.getD j false=true->Reach ops o j:=by
 obtain⟨⟨o,i⟩,hm,h⟩:=List.any_eq_true.1 h
 simp only[Bool.and_eq_true,Bool.not_eq_true',List.all_eq_true,Bool.or_eq_true] at h
 obtain⟨⟨h1,h2⟩,h3⟩:=h
 obtain⟨_,h4⟩:=List.mem_zipIdx hm
 refine⟨i,o, ?_,h1,h2,fun j hj hf=> ?_⟩
 ·obtain⟨h5,h6⟩:=h4
  have h6':=h6
  simp only[Nat.sub_zero] at h6'
  rw[h6']
  exact List.getElem?_eq_getElem _
 ·rcases h3 j (List.mem_range.2 hj) with h|h
  ·rw[hf] at h;cases h
  ·exact Dq i _ (fun i hi=> .edge (Fm hi)) j (by simpa[KN] using h)
def FQ (r:Option Nat) (n:Nat) (P:Program) (D:List Deferred) (ops:List Oper) (fl:List Bool) (Q:Exit->Act->World->Prop) (Aq:World->Prop):Nat->(Nat->Bool)->Act->World->Prop
 |0,L,f,W=> ∀W',Below W.heap.size W W'->(K4 ops fl L=false->Aq W')/\((∀j,j<ops.length->L j=true)->Q .normal f W')/\ ∀(j:Nat) (o:Oper),ops[j]? =some o->L j=false->False
 |d+1,L,f,W=> ∀W',Below W.heap.size W W'->(K4 ops fl L=false->Aq W')/\((∀j,j<ops.length->L j=true)->Q .normal f W')/\
   ∀(j:Nat) (o:Oper),ops[j]? =some o->L j=false->(∀e∈o.after,Region.binds .any e=true->L e.on=true)->
    wpListIn (Fw r) n P ops.toArray (QK D (FQ r n P D ops fl Q Aq d (fun i=>L i||Nat.beq i j))) [o] f W'
theorem FQ.grow {d:Nat} {L:Nat->Bool} {f:Act} {W W':World} (h:FQ r n P D ops fl Q Aq d L f W) (hb:Below W.heap.size W W'):FQ r n P D ops fl Q Aq d L f W':=by
 cases d with
 |zero=>exact fun W'' hb'=>h W'' (hb.trans (hb'.mono hb.size))
 |succ d=>exact fun W'' hb'=>h W'' (hb.trans (hb'.mono hb.size))
theorem FQ.here {d:Nat} {L:Nat->Bool} {f:Act} {W:World} (h:FQ r n P D ops fl Q Aq d L f W):(K4 ops fl L=false->Aq W)/\((∀j,j<ops.length->L j=true)->Q .normal f W):=by
 cases d with
 |zero=>exact⟨(h W (Below.refl _ _)).1,(h W (Below.refl _ _)).2.1⟩
 |succ d=>exact⟨(h W (Below.refl _ _)).1,(h W (Below.refl _ _)).2.1⟩
theorem FQ.congr {d:Nat} {L L':Nat->Bool} {f:Act} {W:World} (h:FQ r n P D ops fl Q Aq d L f W) (e: ∀i,L i=L' i):FQ r n P D ops fl Q Aq d L' f W:=by
 have:L=L':=funext e
 subst this;exact h
theorem KE {K:Act->World->Prop}: ¬LetsOut (QK D K):=fun⟨_,_,h,_⟩=>by cases h
theorem VY {o:Oper} {f f':Act} {W:World} {K K':Act->World->Prop} (hfd:f.defers=D) (hnd:N3 o=true) (hr: ∀t∈Fv ops o,f'.tmps[t]? =f.tmps[t]?)
  (hK: ∀v W',K (f.put o.dst v) W'->K' (f'.put o.dst v) W') (h:wpListIn (Fw r) n P ops.toArray (QK D K) [o] f W):
  if Region.wanted o (yielded ops.toArray f'.tmps)=true then o.wpIn (Fw r) n P f' W K' Q else(∀g,o.about P W f'.eval=some g->(Fw r).fn g)/\K' (f'.put o.dst undef) W:=by
 have hd: ∀c,o.op≠ .defer c:=fun c e=>by simp[N3,e] at hnd
 have hs: ∀cs b,o.op≠ .select cs b:=fun cs b e=>by simp[N3,e] at hnd
 have h:if Region.wanted o (yielded ops.toArray f.tmps)=true then o.wpIn (Fw r) n P f W (fun a w=>QK D K .normal a w) (QK D K) else(∀g,o.about P W f.eval=some g->(Fw r).fn g)/\QK D K .normal (f.put o.dst undef) W:=h
 rw[IW hr]
 split
 ·rename_i hw
  rw[if_pos hw] at h
  refine⟨fun _ _=>trivial, ?_⟩
  have h2:=h.2
  show o.uponIn (Fw r) n P f' K' Q ((o.semAt r f'.eval).run P W)
  rw[Hq _ hd,execOp_congr o hs (Lt hr)]
  have h2:o.uponIn (Fw r) n P f (fun a w=>QK D K .normal a w) (QK D K) ((o.semAt r f.eval).run P W):=h2
  rw[Hq _ hd] at h2
  cases hrun:(execOp f.eval o).run P W with
  |ok x W'=>
   rw[hrun] at h2
   cases x with
   |value v=>exact hK v W' h2.2.2
   |skip=>exact hK undef W' h2.2.2
   |defer d=>
    exfalso
    have:=h2.2.1
    rw[LA] at this
    have:=congrArg List.length this
    rw[hfd] at this
    simp at this
   |enter g args=>
    refine⟨h2.1,h2.2.mono ?_⟩
    intro e W'' he
    cases e with
    |returned v=>exact hK v W'' he.2.2
    |panicked c=>cases he.1
    |outgrown=>exact absurd he KE
   |row row args=>exact⟨h2.1,h2.2.mono fun v W'' he=>hK v W'' he.2.2⟩
   |round l g tmps assign body=>
    refine⟨h2.1,RoundIn.mono h2.2 ?_⟩
    intro e W'' he
    cases e with
    |returned v=>exact hK v W'' he.2.2
    |panicked c=>cases he.1
    |outgrown=>exact absurd he KE
   |_=>exact h2.elim
  |halt e W'=>
   rw[hrun] at h2
   cases e with
   |panic v=>cases h2.1
   |_=>exact h2.elim
 ·rename_i hw
  rw[if_neg hw] at h
  exact⟨fun _ _=>trivial,hK _ _ h.2.2.2⟩
theorem Qg {dst:Nat->Option Nat} {v v':Nat->Value} {L L':Nat->Bool} {a:Act} {t:Nat}: ∀k,(∀i,i<k->dst i=some t->L i=L' i/\(L i=true->v i=v' i))->(BB dst v L a k).tmps[t]? =(BB dst v' L' a k).tmps[t]?
 |0,_=>rfl
 |k+1,h=>by
  have ih:=Qg (a:=a) k (fun i hi=>h i (by omega))
  rw[Cn,Cn]
  by_cases hd:dst k=some t
  ·obtain⟨h1,h2⟩:=h k (by omega) hd
   rw[<-h1]
   split
   ·rename_i hL
    rw[h2 hL]
    exact Jy _ _ _ _ _ (by rw[HX,HX]) ih
   ·exact ih
  ·have e1:(if L k=true then(BB dst v L a k).put (dst k) (v k) else BB dst v L a k).tmps[t]? =(BB dst v L a k).tmps[t]? :=by
    split
    ·exact GC _ _ _ _ hd
    ·rfl
   have e2:(if L' k=true then(BB dst v' L' a k).put (dst k) (v' k) else BB dst v' L' a k).tmps[t]? =(BB dst v' L' a k).tmps[t]? :=by
    split
    ·exact GC _ _ _ _ hd
    ·rfl
   rw[e1,e2,ih]
theorem Hw {dst:Nat->Option Nat} {v v':Nat->Value} {L L':Nat->Bool} {a:Act}: ∀k,(∀i,i<k->L i=L' i/\(L i=true->v i=v' i))->BB dst v L a k=BB dst v' L' a k
 |0,_=>rfl
 |k+1,h=>by
  have ih:=Hw (dst:=dst) (a:=a) k (fun i hi=>h i (by omega))
  obtain⟨h1,h2⟩:=h k (by omega)
  rw[Cn,Cn, <-h1,ih]
  split
  ·rename_i hL;rw[h2 hL]
  ·rfl
theorem K8 {dst:Nat->Option Nat} {v:Nat->Value} {L:Nat->Bool} {a:Act}: ∀k,(BB dst v L a k).defers=a.defers
 |0=>rfl
 |k+1=>by unfold BB;split<;>simp[LA,K8 k]
theorem YC {o:Oper} {a:Act} {W:World} {v:Value} {K:Act->World->Prop} (h:OpS A P ops o a W v) (hp:A W) (hK: ∀W',A W'->Below W.heap.size W W'->K (a.put o.dst v) W'):
  if Region.wanted o (yielded ops.toArray a.tmps)=true then o.wpIn (Fw r) n P a W K Q else(∀f,o.about P W a.eval=some f->(Fw r).fn f)/\K (a.put o.dst undef) W:=by
 unfold OpS at h
 split
 ·rename_i hw
  rw[if_pos hw] at h
  obtain⟨hnd,h⟩:=h
  refine⟨fun _ _=>trivial, ?_⟩
  show o.uponIn (Fw r) n P a K Q ((o.semAt r a.eval).run P W)
  rw[Hq _ hnd]
  rcases h with h|⟨g,args,h,hc⟩
  ·rw[h];exact hK W hp (Below.refl _ _)
  ·rw[h]
   refine⟨fun hx=>(by cases hx),Dm (hc.mono ?_)⟩
   rintro e W' ⟨rfl,h1,h2⟩
   exact hK W' h1 h2
 ·rename_i hw
  rw[if_neg hw] at h
  subst h
  exact⟨fun _ _=>trivial,hK W hp (Below.refl _ _)⟩
theorem Se {fl:List Bool} (ho:cG ops fl) {j i:Nat} {o:Oper} (hj:ops[j]? =some o) (hf:fl.getD j false=true) (hr:Reach ops o i):fl.getD i false=true:=by
 have lift: ∀ {o:Oper} {i:Nat},(∀e∈o.after,Region.binds .any e=true->fl.getD e.on false=true)->edge o i=true->fl.getD i false=true:=by
  intro o i h he
  simp only[edge,List.any_eq_true,Bool.and_eq_true] at he
  obtain⟨e,hm,hb,hi⟩:=he
  have:e.on=i:=Nat.eq_of_beq_eq_true hi
  subst this
  exact h e (by simpa using hm) hb
 induction hr with
 |edge he=>exact lift (ho.down _ _ hj hf) he
 |step _ hk he ih=>exact lift (ho.down _ _ hk ih) he
theorem UH {oi oj:Oper} {t:Nat} (hd:oi.dst=some t) (hr:t∈Fv ops oj):Dz ops oi oj=true:=by simp[Dz,hd,Jh.2 hr]
theorem Um {oi oj:Oper} {t:Nat} (hd:oj.dst=some t) (hr:t∈Fv ops oi):Dz ops oi oj=true:=by simp[Dz,hd,Jh.2 hr]
theorem UA {oi oj:Oper} {t:Nat} (hd:oi.dst=some t) (hr:oj.dst=some t):Dz ops oi oj=true:=by simp[Dz,hd,hr]
abbrev ES (ops:List Oper) (i:Nat):Option Nat:=(ops[i]?).bind (·.dst)
theorem G0 {i t:Nat} (h:ES ops i=some t): ∃o,ops[i]? =some o/\o.dst=some t:=by
 unfold ES at h
 cases ho:ops[i]? with
 |none=>rw[ho] at h;cases h
 |some o=>rw[ho] at h;exact⟨o,rfl,h⟩
theorem Xn (ho:cG ops fl) {v0:Nat->Value} {a0:Act} (hd0:a0.defers=D)
  (hv: ∀(j:Nat) (o:Oper),ops[j]? =some o->fl.getD j false=true-> ∀W,Aq W->OpS Aq P ops o (BB (ES ops) v0 (fun i=>fl.getD i false) a0 j) W (v0 j)):
  ∀(k d:Nat) (listed:Array Bool) (v:Nat->Value) (W:World),Dh listed.toList=k->listed.size=ops.length->(∀j,fl.getD j false=true->v j=v0 j)->
   (∀(j:Nat) (o:Oper),ops[j]? =some o->listed.getD j false=true-> ∀e∈o.after,Region.binds .any e=true->listed.getD e.on false=true)->
   FQ r n P D ops fl Q Aq d (fun i=>fl.getD i false||listed.getD i false) (BB (ES ops) v (fun i=>fl.getD i false||listed.getD i false) a0 ops.length) W->
   wpAnyIn (Fw r) n P .any ops.toArray Q k listed (BB (ES ops) v (fun i=>listed.getD i false) a0 ops.length) W:=by
 intro k
 induction k with
 |zero=>
  intro d listed v W hu hs hvq hc hL
  have hall: ∀i,i<ops.length->listed.getD i false=true:=fun i hi=>by
   have hil:i<listed.size:=by omega
   have:=List.countP_eq_zero.1 hu (listed[i]) (by simp)
   simp only[Array.getD,hil,dite_true]
   simpa using this
  refine⟨?_, ?_⟩
  ·apply List.eq_nil_iff_forall_not_mem.2
   intro j hj
   obtain⟨o,h1,h2,_⟩:=(DV hs).1 hj
   have h3:=hall j (List.getElem?_eq_some_iff.1 h1).1
   obtain⟨h4,h5⟩:=Array.getElem?_eq_some_iff.1 h2
   simp[Array.getD,h4,h5] at h3
  ·have:=hL.here.2 (fun j hj=>by simp only[hall j hj,Bool.or_true])
   rw[Hw (L':=fun i=>listed.getD i false) (v':=v) _ (fun i hi=>⟨by simp only[hall i hi,Bool.or_true],fun _=>rfl⟩)] at this
   exact this
 |succ k ih=>
  intro d listed v W hu hs hvq hc hL
  refine⟨fun hn=> ?_,fun j hj=> ?_⟩
  ·exfalso
   have hex: ∃i,i<ops.length/\listed.getD i false=false:=by
    apply Classical.byContradiction
    intro hne
    have:Dh listed.toList=0:=List.countP_eq_zero.2 fun b hb=>by
     obtain⟨i,hi,he⟩:=List.getElem_of_mem hb
     have hi':i<listed.size:=by simpa using hi
     cases hx:listed.getD i false with
     |true=>
      simp only[Array.getD,hi',dite_true] at hx
      have hx:listed[i]=true:=hx
      rw[<-he];simp[hx]
     |false=>exact absurd ⟨i,by omega,hx⟩ hne
    omega
   obtain⟨i,hi⟩:=hex
   induction i using Nat.strongRecOn with
   |_ i ihi=>
    by_cases hk: ∀k,k<i->listed.getD k false=true
    ·have hil:i<listed.size:=by omega
     have hget:listed[i]? =some false:=by
      have:=hi.2
      simp only[Array.getD,hil,dite_true] at this
      rw[Array.getElem?_eq_getElem hil];exact congrArg some this
     have hio:ops[i]? =some ops[i]:=List.getElem?_eq_getElem hi.1
     have hir:i∈Region.ready .any ops.toArray listed:=(DV hs).2 ⟨_,hio,hget,IP (ho.low _ _ hio) hk⟩
     rw[hn] at hir;cases hir
    ·have: ∃k,k<i/\listed.getD k false=false:=by
      apply Classical.byContradiction
      intro hne
      apply hk
      intro k hki
      cases hb:listed.getD k false with
      |true=>rfl
      |false=>exact absurd ⟨k,hki,hb⟩ hne
     obtain⟨k,hki,hb⟩:=this
     exact ihi k hki ⟨by omega,hb⟩
  ·obtain⟨o,h1,h2,h3⟩:=(DV hs).1 hj
   have hjl:=(List.getElem?_eq_some_iff.1 h1).1
   have hjs:j<listed.size:=by omega
   have hjf:listed.getD j false=false:=by
    obtain⟨h4,h5⟩:=Array.getElem?_eq_some_iff.1 h2
    simp[Array.getD,h4,h5]
   have hdj:ES ops j=o.dst:=by simp[ES,h1]
   have hset: ∀i,(listed.setIfInBounds j true).getD i false=if i=j then true else listed.getD i false:=fun i=>by
    simp only[Array.getD_eq_getD_getElem?,Array.getElem?_setIfInBounds]
    by_cases e:j=i
    ·subst e;simp[hjs]
    ·rw[if_neg e,if_neg (fun x=>e x.symm)]
   have hu':Dh (listed.setIfInBounds j true).toList=k:=by
    have:=IQ listed.toList j (by rw[Array.getElem?_toList];exact h2)
    have e:(listed.setIfInBounds j true).toList=listed.toList.set j true:=by simp
    rw[e];omega
   have hs':(listed.setIfInBounds j true).size=ops.length:=by simp[hs]
   have hc': ∀(i:Nat) (oi:Oper),ops[i]? =some oi->(listed.setIfInBounds j true).getD i false=true-> ∀e∈oi.after,Region.binds .any e=true->(listed.setIfInBounds j true).getD e.on false=true:=fun i oi hoi hLi e he hb=>by
    rw[hset] at hLi⊢
    split
    ·rfl
    ·by_cases e2:i=j
     ·subst e2
      rw[h1] at hoi;cases hoi
      exact h3 e he hb
     ·rw[if_neg e2] at hLi
      exact hc i oi hoi hLi e he hb
   -- what is listed does not need j
   have hno: ∀(i:Nat) (oi:Oper),ops[i]? =some oi->listed.getD i false=true->Reach ops oi j->False:=fun i oi hoi hLi hr=>by
    have:=GT hr (hc i oi hoi hLi) hc
    rw[hjf] at this;cases this
   have hin: ∀i,Reach ops o i->listed.getD i false=true:=fun i hr=>GT hr h3 hc
   have waw: ∀i,j<i->listed.getD i false=true-> ∀t,ES ops j=some t->ES ops i≠some t:=fun i hji hLi t ht hi=>by
    obtain⟨oi,hoi,hdi⟩:=G0 hi
    exact hno i oi hoi hLi (ho.haz j i o oi h1 hoi hji (UA (by rw[<-hdj];exact ht) hdi))
   by_cases hq:fl.getD j false=true
   ·
    have hreads: ∀t∈Fv ops o,(BB (ES ops) v (fun i=>listed.getD i false) a0 ops.length).tmps[t]? =(BB (ES ops) v0 (fun i=>fl.getD i false) a0 j).tmps[t]? :=fun t ht=>by
     have e:ops.length=j+(ops.length-j):=by omega
     rw[e,Ka (ops.length-j) (fun i hji him hLi hdi=> ?_)]
     ·refine Qg j fun i hij hdi=> ?_
      obtain⟨oi,hoi,hdi⟩:=G0 hdi
      have hr:=ho.haz i j oi o hoi h1 hij (UH hdi ht)
      have f1:=hin i hr
      have f2:=Se ho h1 hq hr
      exact⟨by rw[f1,f2],fun _=>hvq i f2⟩
     ·rcases Nat.eq_or_lt_of_le hji with e|hlt
      ·subst e
       have hLi:listed.getD j false=true:=hLi
       rw[hjf] at hLi;cases hLi
      ·obtain⟨oi,hoi,hdi⟩:=G0 hdi
       exact hno i oi hoi hLi (ho.haz j i o oi h1 hoi hlt (Um hdi ht))
    have hp:=hL.here.1 (by
     cases hb:K4 ops fl (fun i=>fl.getD i false||listed.getD i false) with
     |false=>rfl
     |true=>
      obtain⟨i,oi,hoi,hLi,hfi,hall⟩:=Vy hb
      simp only[hfi,Bool.false_or] at hLi
      exact(hno i oi hoi hLi (hall j hjl hq)).elim)
    refine Ih h1 (YC (NG (fun cs b e=>by have:=ho.sel j o h1;simp[N3,e] at this) hreads (hv j o h1 hq W hp)) hp fun W' hp' hb=> ?_)
    have hmix:BB (ES ops) v (fun i=>(listed.setIfInBounds j true).getD i false) a0 ops.length=(BB (ES ops) v (fun i=>listed.getD i false) a0 ops.length).put o.dst (v0 j):=by
     have e:ops.length=j+1+(ops.length-(j+1)):=by omega
     have:=Jj (dst:=ES ops) (v:=v) (L:=fun i=>listed.getD i false) (L':=fun i=>(listed.setIfInBounds j true).getD i false) (a:=a0) (j:=j)
      (fun i hne=>by simp only[hset,if_neg hne]) hjf (by simp[hset]) (ops.length-(j+1)) (fun i hji hih2 hLi t htd=>waw i hji hLi t htd)
     rw[<-e] at this
     rw[this,hdj,hvq j hq]
    rw[<-hmix]
    have hLf: ∀i,(fl.getD i false||listed.getD i false)=(fl.getD i false||(listed.setIfInBounds j true).getD i false):=fun i=>by
     rw[hset]
     split
     ·rename_i e;subst e;rw[hq];rfl
     ·rfl
    refine ih d _ v W' hu' hs' hvq hc' ?_
    have h5:=(hL.grow hb).congr hLf
    rw[Hw (L':=fun i=>fl.getD i false||(listed.setIfInBounds j true).getD i false) (v':=v) _ (fun i _=>⟨hLf i,fun _=>rfl⟩)] at h5
    exact h5
   ·
    have hq:fl.getD j false=false:=by simpa using hq
    have hnofl: ∀(i:Nat) (oi:Oper),ops[i]? =some oi->fl.getD i false=true->Reach ops oi j->False:=fun i oi hoi hfi hr=>by
     have:=Se ho hoi hfi hr
     rw[hq] at this;cases this
    cases d with
    |zero=>exact((hL W (Below.refl _ _)).2.2 j o h1 (by simp only[hq,hjf,Bool.or_false])).elim
    |succ d=>
     have hstep:=(hL W (Below.refl _ _)).2.2 j o h1 (by simp only[hq,hjf,Bool.or_false]) (fun e he hb=>by simp only[h3 e he hb,Bool.or_true])
     have hreads: ∀t∈Fv ops o,(BB (ES ops) v (fun i=>listed.getD i false) a0 ops.length).tmps[t]? =(BB (ES ops) v (fun i=>fl.getD i false||listed.getD i false) a0 ops.length).tmps[t]? :=fun t ht=>by
      refine Qg _ fun i hi hdi=>⟨?_,fun _=>rfl⟩
      obtain⟨oi,hoi,hdi⟩:=G0 hdi
      show listed.getD i false=(fl.getD i false||listed.getD i false)
      cases hf:fl.getD i false with
      |false=>simp
      |true=>
       rcases Nat.lt_trichotomy i j with hlt|rfl|hgt
       ·rw[hin i (ho.haz i j oi o hoi h1 hlt (UH hdi ht))];simp
       ·rw[hq] at hf;cases hf
       ·exact(hnofl i oi hoi hf (ho.haz j i o oi h1 hoi hgt (Um hdi ht))).elim
     refine Ih h1 (VY (by rw[K8];exact hd0) (ho.sel j o h1) hreads (fun u W' h5=> ?_) hstep)
     have hvn: ∀(L:Nat->Bool),L j=false->BB (ES ops) (fun i=>if i=j then u else v i) L a0 ops.length=BB (ES ops) v L a0 ops.length:=fun L hLj=>
      Hw _ fun i _=>⟨rfl,fun hLi=>by
       by_cases e:i=j
       ·subst e;rw[hLj] at hLi;cases hLi
       ·simp only[if_neg e]⟩
     have e:ops.length=j+1+(ops.length-(j+1)):=by omega
     have hmix:BB (ES ops) (fun i=>if i=j then u else v i) (fun i=>(listed.setIfInBounds j true).getD i false) a0 ops.length=(BB (ES ops) v (fun i=>listed.getD i false) a0 ops.length).put o.dst u:=by
      have:=Jj (dst:=ES ops) (v:=fun i=>if i=j then u else v i) (L:=fun i=>listed.getD i false) (L':=fun i=>(listed.setIfInBounds j true).getD i false) (a:=a0) (j:=j)
       (fun i hne=>by simp only[hset,if_neg hne]) hjf (by simp[hset]) (ops.length-(j+1)) (fun i hji hih2 hLi t htd=>waw i hji hLi t htd)
      rw[<-e] at this
      rw[this,hdj,hvn _ hjf];simp
     have hmix2:BB (ES ops) (fun i=>if i=j then u else v i) (fun i=>fl.getD i false||(listed.setIfInBounds j true).getD i false) a0 ops.length=(BB (ES ops) v (fun i=>fl.getD i false||listed.getD i false) a0 ops.length).put o.dst u:=by
      have:=Jj (dst:=ES ops) (v:=fun i=>if i=j then u else v i) (L:=fun i=>fl.getD i false||listed.getD i false) (L':=fun i=>fl.getD i false||(listed.setIfInBounds j true).getD i false) (a:=a0) (j:=j)
       (fun i hne=>by simp only[hset,if_neg hne]) (by simp only[hq,hjf,Bool.or_false]) (by simp[hset]) (ops.length-(j+1)) (fun i hji hih2 hLi t htd hdi=>by
        simp only[Bool.or_eq_true] at hLi
        rcases hLi with hf|hl
        ·obtain⟨oi,hoi,hdi⟩:=G0 hdi
         exact hnofl i oi hoi hf (ho.haz j i o oi h1 hoi hji (UA (by rw[<-hdj];exact htd) hdi))
        ·exact waw i hji hl t htd hdi)
      rw[<-e] at this
      rw[this,hdj,hvn _ (by simp only[hq,hjf,Bool.or_false])];simp
     rw[<-hmix]
     refine ih d _ _ W' hu' hs' (fun i hfi=> ?_) hc' ?_
     ·by_cases e:i=j
      ·subst e;rw[hq] at hfi;cases hfi
      ·simp only[if_neg e];exact hvq i hfi
     ·rw[hmix2]
      refine h5.congr fun i=> ?_
      rw[hset]
      by_cases e:i=j
      ·subst e;simp
      ·rw[if_neg e];simp[e]
end
end Go.Am
namespace Go.Am
open Go Go.RowKit
def B3:List Bx->List Bx->Prop
 |[],_=>True
 |q::qs,b::bs=>(q.on=false\/q=b)/\B3 qs bs
 |_::_,[]=>False
theorem B3.get: ∀ {q b:List Bx},B3 q b-> ∀(i:Nat) (B:Bx),q[i]? =some B->B.blk≠[]->b[i]? =some B
 |[],_,_,i,B,h,_=>by simp at h
 |x::q,y::b,⟨h1,h2⟩,i,B,h,ho=>by
  cases i with
  |zero=>
   simp at h⊢
   subst h
   rcases h1 with h1|h1
   ·exact absurd (by simp[Bx.blk,h1]) ho
   ·exact h1.symm
  |succ i=>simp at h⊢;exact h2.get i B h ho
 |_::_,[],h,_,_,_,_=>h.elim
theorem Hp.weak {W0 W:World} {q b:List Bx} (h:Hp W0 b W) (hw:B3 q b):Hp W0 q W:=
 ⟨h.below,h.own.sub (fun k=>k) (fun k B hk hb=>hw.get k B hk hb) (fun _ _ _ _ _ _ h=>h)⟩
theorem B3.off {x y:Bx} {q b:List Bx} (hx:x.on=false) (h:B3 q b):B3 (x::q) (y::b):=⟨.inl hx,h⟩
theorem B3.same {x:Bx} {q b:List Bx} (h:B3 q b):B3 (x::q) (x::b):=⟨.inr rfl,h⟩
def pick (b:List Bx):List Nat->Option (List Bx)
 |[]=>some []
 |i::s=>match nth b i with
  |some B=>match pick b s with
   |some l=>some (B::l)
   |none=>none
  |none=>none
theorem JH {b:List Bx}: ∀ {s:List Nat} {l:List Bx},pick b s=some l-> ∀(i:Nat) (B:Bx),l[i]? =some B-> ∃k,s[i]? =some k/\b[k]? =some B
 |[],l,h,i,B,hB=>by cases h;simp at hB
 |k::s,l,h,i,B,hB=>by
  unfold pick at h
  split at h
  ·rename_i C hC
   split at h
   ·rename_i l' hl
    cases h
    cases i with
    |zero=>simp at hB;subst hB;exact⟨k,by simp,by rw[<-AT];exact hC⟩
    |succ i=>simp at hB;obtain⟨k',h1,h2⟩:=JH hl i B hB;exact⟨k',by simpa using h1,h2⟩
   ·cases h
  ·cases h
theorem Hp.pick {W0 W:World} {b l:List Bx} (s:List Nat) (h:Hp W0 b W) (hs:s.Nodup) (hp:Am.pick b s=some l):Hp W0 l W:=by
 refine⟨h.below,h.own.sub (fun i=>(s[i]?).getD 0) (fun k B hk _=> ?_) (fun i j B C hi hj e=> ?_)⟩
 ·obtain⟨m,h1,h2⟩:=JH hp k B hk
  simp[h1,h2]
 ·obtain⟨m,h1,_⟩:=JH hp i B hi
  obtain⟨m',h1',_⟩:=JH hp j C hj
  simp[h1,h1'] at e
  subst e
  exact(List.getElem?_inj (List.getElem?_eq_some_iff.1 h1).1 hs).1 (h1.trans h1'.symm)
section
variable {r:Option Nat} {n:Nat} {P:Program} {W0:World} {N:Nat} {D:List Deferred} {ops:List Oper} {Q:Exit->Act->World->Prop} {A A2 Aq:World->Prop} {R:Act->World->Prop} {env:Env} {bxs bxq:List Bx} {d:Nat} {L:List Bool} {fl:List Bool}
theorem OC: ∀(l:List Oper) (fl:List Bool) (f:Act->Act),fl.length=l.length->WQf P N D ops A A2 R (PK l fl) f->
  ∃v:Nat->Value,(∀(j:Nat) (o:Oper),l[j]? =some o->fl.getD j false=true-> ∀(a:Act) (W:World),a.tmps.size=N->a.defers=D->A W->OpS A P ops o (BB (fun i=>(l[i]?).bind (·.dst)) v (fun i=>fl.getD i false) (f a) j) W (v j))/\
   ∀(a:Act) (W:World),a.tmps.size=N->a.defers=D->A2 W->R (BB (fun i=>(l[i]?).bind (·.dst)) v (fun i=>fl.getD i false) (f a) l.length) W
 |[],[],f,_,h=>⟨fun _=>undef,fun j o hj=>by simp at hj,h⟩
 |[],_::_,f,hl,h=>by simp at hl
 |_::_,[],f,hl,h=>by simp at hl
 |o::l,b::fl,f,hl,h=>by
  have hl2:fl.length=l.length:=by simpa using hl
  cases b with
  |false=>
   obtain⟨v,h3,h4⟩:=OC l fl f hl2 h
   have shift: ∀(a:Act) (k:Nat),BB (fun i=>((o::l)[i]?).bind (·.dst)) (fun i=>match i with|0=>undef|i+1=>v i) (fun i=>(false::fl).getD i false) (f a) (k+1)=BB (fun i=>(l[i]?).bind (·.dst)) v (fun i=>fl.getD i false) (f a) k:=by
    intro a k
    induction k with
    |zero=>simp[BB]
    |succ k ih=>rw[Cn,ih,Cn];simp
   refine⟨fun i=>match i with|0=>undef|i+1=>v i,fun j oj hj hf a W e1 e2 e3=> ?_,fun a W e1 e2 e3=> ?_⟩
   ·cases j with
    |zero=>simp at hf
    |succ j=>rw[shift];exact h3 j oj (by simpa using hj) (by simpa using hf) a W e1 e2 e3
   ·rw[List.length_cons,shift];exact h4 a W e1 e2 e3
  |true=>
   obtain⟨v0,h1,h2⟩:WQf P N D ops A A2 R (o::PK l fl) f:=h
   obtain⟨v,h3,h4⟩:=OC l fl _ hl2 h2
   have shift: ∀(a:Act) (k:Nat),BB (fun i=>((o::l)[i]?).bind (·.dst)) (fun i=>match i with|0=>v0|i+1=>v i) (fun i=>(true::fl).getD i false) (f a) (k+1)=BB (fun i=>(l[i]?).bind (·.dst)) v (fun i=>fl.getD i false) ((f a).put o.dst v0) k:=by
    intro a k
    induction k with
    |zero=>simp[BB]
    |succ k ih=>rw[Cn,ih,Cn];simp
   refine⟨fun i=>match i with|0=>v0|i+1=>v i,fun j oj hj hf a W e1 e2 e3=> ?_,fun a W e1 e2 e3=> ?_⟩
   ·cases j with
    |zero=>simp at hj;subst hj;exact h1 a W e1 e2 e3
    |succ j=>rw[shift];exact h3 j oj (by simpa using hj) (by simpa using hf) a W e1 e2 e3
   ·rw[List.length_cons,shift];exact h4 a W e1 e2 e3
structure WT (r:Option Nat) (n:Nat) (P:Program) (N:Nat) (D:List Deferred) (ops:List Oper) (fl:List Bool) (Q:Exit->Act->World->Prop) (Aq:World->Prop) (d:Nat) (L:List Bool) (env:Env) (A:World->Prop):Prop where
 out: ∀(a:Act) (W:World),a.tmps.size=N->a.defers=D->A W->FQ r n P D ops fl Q Aq d (fun i=>L.getD i false) (ov env a) W
def HR (ops:List Oper) (L:List Bool):List (Oper×Nat):=ops.zipIdx.filter fun(o,j)=> !(L.getD j false)&&Il L o
inductive RS (r:Option Nat) (n:Nat) (P:Program) (N:Nat) (D:List Deferred) (ops:List Oper) (fl:List Bool) (Q:Exit->Act->World->Prop) (Aq:World->Prop) (d:Nat) (L:List Bool) (env:Env) (A:World->Prop):List (Oper×Nat)->Prop
 |nil:RS r n P N D ops fl Q Aq d L env A []
 |cons {o:Oper} {j:Nat} {l:List (Oper×Nat)} (h:WL r n P N D ops (QK D (FQ r n P D ops fl Q Aq d (fun i=>(L.set j true).getD i false))) [o] env A) (t:RS r n P N D ops fl Q Aq d L env A l):RS r n P N D ops fl Q Aq d L env A ((o,j)::l)
theorem RS.get {l:List (Oper×Nat)} (h:RS r n P N D ops fl Q Aq d L env A l): ∀p∈l,WL r n P N D ops (QK D (FQ r n P D ops fl Q Aq d (fun i=>(L.set p.2 true).getD i false))) [p.1] env A:=by
 induction h with
 |nil=>intro p hp;cases hp
 |cons h _ ih=>
  intro p hp
  rcases List.mem_cons.1 hp with rfl|hp
  ·exact h
  ·exact ih p hp
def R8 (m:Nat) (L:List Bool):Bool:=(List.range m).all fun j=>L.getD j false
theorem Aw (h:WT r n P N D ops fl Q Aq d L env A):NE N D (QK D (FQ r n P D ops fl Q Aq d (fun i=>L.getD i false))) .normal env A:= .mk fun a W ha hd hp=>
 ⟨rfl,by rw[Bl];exact hd,h.out a W ha hd hp⟩
theorem Cp (h:WT r n P N D ops fl Q Aq d L env A2):WQ P N D ops A2 (fun f W=>FQ r n P D ops fl Q Aq d (fun i=>L.getD i false) f W) [] env A:=⟨fun a W h1 h2 h3=>h.out a W h1 h2 h3⟩
theorem B6 (hall:R8 ops.length L=true) (hw:B3 bxq bxs) (h:NE N D Q .normal env (Hp W0 bxs)):WT r n P N D ops fl Q (Hp W0 bxq) 0 L env (Hp W0 bxs):= .mk fun a W ha hd hp W' hb=>by
 have hp':=hp.grow hb
 refine⟨fun _=>hp'.weak hw,fun _=>h.out a W' ha hd hp',fun j o hj hL=> ?_⟩
 have:=List.all_eq_true.1 hall j (List.mem_range.2 (List.getElem?_eq_some_iff.1 hj).1)
 have this:L.getD j false=true:=this
 have hL:L.getD j false=false:=hL
 rw[hL] at this;cases this
theorem Cq (hall:R8 ops.length L=true) (hw:K4 ops fl (fun i=>L.getD i false)=true) (h:NE N D Q .normal env (Hp W0 bxs)):WT r n P N D ops fl Q Aq 0 L env (Hp W0 bxs):= .mk fun a W ha hd hp W' hb=>by
 have hp':=hp.grow hb
 refine⟨fun h=>(by rw[hw] at h;cases h),fun _=>h.out a W' ha hd hp',fun j o hj hL=> ?_⟩
 have:=List.all_eq_true.1 hall j (List.mem_range.2 (List.getElem?_eq_some_iff.1 hj).1)
 have this:L.getD j false=true:=this
 have hL:L.getD j false=false:=hL
 rw[hL] at this;cases this
theorem Zd (hall:R8 ops.length L=false) (hlen:Nat.beq L.length ops.length=true) (hw:B3 bxq bxs) (h:RS r n P N D ops fl Q (Hp W0 bxq) d L env (Hp W0 bxs) (HR ops L)):WT r n P N D ops fl Q (Hp W0 bxq) (d+1) L env (Hp W0 bxs):= .mk fun a W ha hd hp W' hb=>by
 have hp':=hp.grow hb
 refine⟨fun _=>hp'.weak hw,fun hx=> ?_,fun j o hj hL hdep=> ?_⟩
 ·have:R8 ops.length L=true:=List.all_eq_true.2 fun j hj=>hx j (List.mem_range.1 hj)
  rw[hall] at this;cases this
 ·have hm:(o,j)∈HR ops L:=by
   simp only[HR,List.mem_filter]
   refine⟨BG hj, ?_⟩
   simp only[hL,Bool.not_false,Bool.true_and,Il,List.all_eq_true,Bool.or_eq_true]
   intro e he
   cases hb:Region.binds .any e with
   |false=>left;rfl
   |true=>right;exact hdep e (by simpa using he) hb
  have h1:=(h.get _ hm).out a W' ha hd hp'
  have e:(fun i=>(L.set j true).getD i false)=fun i=>L.getD i false||Nat.beq i j:=funext fun i=>by
   have hlen:L.length=ops.length:=Nat.eq_of_beq_eq_true hlen
   have hjl:=(List.getElem?_eq_some_iff.1 hj).1
   by_cases e:i=j
   ·subst e;simp[List.getD,show i<L.length by omega]
   ·have:Nat.beq i j=false:=by
     cases hb:Nat.beq i j with
     |false=>rfl
     |true=>exact absurd (Nat.eq_of_beq_eq_true hb) e
    rw[this]
    simp[List.getD,show¬j=i from fun x=>e x.symm]
  simp only[e] at h1
  exact h1
theorem XW (hall:R8 ops.length L=false) (hlen:Nat.beq L.length ops.length=true) (hw:K4 ops fl (fun i=>L.getD i false)=true) (h:RS r n P N D ops fl Q Aq d L env (Hp W0 bxs) (HR ops L)):WT r n P N D ops fl Q Aq (d+1) L env (Hp W0 bxs):= .mk fun a W ha hd hp W' hb=>by
 have hp':=hp.grow hb
 refine⟨fun h=>(by rw[hw] at h;cases h),fun hx=> ?_,fun j o hj hL hdep=> ?_⟩
 ·have:R8 ops.length L=true:=List.all_eq_true.2 fun j hj=>hx j (List.mem_range.1 hj)
  rw[hall] at this;cases this
 ·have hm:(o,j)∈HR ops L:=by
   simp only[HR,List.mem_filter]
   refine⟨BG hj, ?_⟩
   simp only[hL,Bool.not_false,Bool.true_and,Il,List.all_eq_true,Bool.or_eq_true]
   intro e he
   cases hb:Region.binds .any e with
   |false=>left;rfl
   |true=>right;exact hdep e (by simpa using he) hb
  have h1:=(h.get _ hm).out a W' ha hd hp'
  have e:(fun i=>(L.set j true).getD i false)=fun i=>L.getD i false||Nat.beq i j:=funext fun i=>by
   have hlen:L.length=ops.length:=Nat.eq_of_beq_eq_true hlen
   have hjl:=(List.getElem?_eq_some_iff.1 hj).1
   by_cases e:i=j
   ·subst e;simp[List.getD,show i<L.length by omega]
   ·have:Nat.beq i j=false:=by
     cases hb:Nat.beq i j with
     |false=>rfl
     |true=>exact absurd (Nat.eq_of_beq_eq_true hb) e
    rw[this]
    simp[List.getD,show¬j=i from fun x=>e x.symm]
  simp only[e] at h1
  exact h1
theorem Rc (fl:List Bool) (d:Nat) (bxq:List Bx) {id:Nat} (hm:P.follows .mixedOrders=true) (hok:LO ops fl=true)
  (hq:WQ P N D ops (Hp W0 bxs) (fun f W=>FQ r n P D ops fl Q (Hp W0 bxq) d (fun i=>fl.getD i false) f W) (PK ops fl) env (Hp W0 bxq)):WC r n P N D (.region id ops.toArray true) Q env (Hp W0 bxs):= .mk fun a W ha hd hp=>by
 have ho:=aF hok
 obtain⟨v,hv,hend⟩:=OC ops fl _ ho.len hq.out
 refine wpIn_region_any hm ?_
 have hp':=PF W hp
 have hL:=hend a _ ha hd hp'
 have key:=Xn (r:=r) (n:=n) (D:=D) (Q:=Q) ho (v0:=v) (a0:=ov env a) (by rw[Bl];exact hd) (fun j o hj hf W' hpW=>hv j o hj hf a W' ha hd hpW)
  ops.length d (Array.replicate ops.length false) v { W with drawn:=W.drawn+1 } (by simp[Dh,List.countP_replicate]) (by simp) (fun _ _=>rfl)
  (fun j o _ hl=>by simp[Array.getD_eq_getD_getElem?,Array.getElem?_replicate] at hl;split at hl<;>cases hl) ?_
 ·have hmix:BB (ES ops) v (fun i=>(Array.replicate ops.length false).getD i false) (ov env a) ops.length=ov env a:=by
   have: ∀k,BB (ES ops) v (fun i=>(Array.replicate ops.length false).getD i false) (ov env a) k=ov env a:=by
    intro k
    induction k with
    |zero=>rfl
    |succ k ih=>
     rw[Cn,if_neg,ih]
     simp[Array.getD_eq_getD_getElem?,Array.getElem?_replicate]
     split<;>simp
   exact this _
  rw[hmix] at key
  simpa using key
 ·have hf: ∀i,fl.getD i false=(fl.getD i false||(Array.replicate ops.length false).getD i false):=fun i=>by
   have:(Array.replicate ops.length false).getD i false=false:=by
    simp[Array.getD_eq_getD_getElem?,Array.getElem?_replicate]
    split<;>rfl
   rw[this,Bool.or_false]
  have:=hL.congr hf
  rw[Hw (L':=fun i=>fl.getD i false||(Array.replicate ops.length false).getD i false) (v':=v) _ (fun i _=>⟨hf i,fun _=>rfl⟩)] at this
  exact this
theorem Zy (d:Nat) (bxq:List Bx) {id:Nat} (hm:P.follows .mixedOrders=true) (hok:LO ops (Gf ops)=true)
  (hq:WQ P N D ops (Hp W0 bxs) (fun f W=>FQ r n P D ops (Gf ops) Q (Hp W0 bxq) d (fun i=>(Gf ops).getD i false) f W) (PK ops (Gf ops)) env (Hp W0 bxq)):WC r n P N D (.region id ops.toArray true) Q env (Hp W0 bxs):=Rc (Gf ops) d bxq hm hok hq
structure QX {X:Type} (N:Nat) (D:List Deferred) (W0:World) (envF:X->Env) (bF:X->List Bx) (e:Exit) (a:Act) (W:World):Prop where
 out:e= .normal/\ ∃x,TK N D (envF x) a/\Hp W0 (bF x) W
theorem JI {X:Type} (envF:X->Env) (bF:X->List Bx) (d:Nat) (bxq:List Bx) {id:Nat} (hm:P.follows .mixedOrders=true) (hok:LO ops (Gf ops)=true)
  (hq:WQ P N D ops (Hp W0 bxs) (fun f W=>FQ r n P D ops (Gf ops) (QX N D W0 envF bF) (Hp W0 bxq) d (fun i=>(Gf ops).getD i false) f W) (PK ops (Gf ops)) env (Hp W0 bxq))
  (hfin: ∀x,NE N D Q .normal (envF x) (Hp W0 (bF x))):WC r n P N D (.region id ops.toArray true) Q env (Hp W0 bxs):= .mk fun a W ha hd hp=>by
 have h:=(Zy (id:=id) (Q:=QX N D W0 envF bF) d bxq hm hok hq).out a W ha hd hp
 refine wpIn_mono h ?_
 rintro e a' W' ⟨rfl,x,hl,hp'⟩
 have:=(hfin x).out a' W' hl.size hl.defers hp'
 rw[Fj (fun p hp _=>hl.get p hp)] at this
 exact this
theorem Bh {X:Type} (fl:List Bool) (envF:X->Env) (bF:X->List Bx) (d:Nat) (bxq:List Bx) {id:Nat} (hm:P.follows .mixedOrders=true) (hok:LO ops fl=true)
  (hq:WQ P N D ops (Hp W0 bxs) (fun f W=>FQ r n P D ops fl (QX N D W0 envF bF) (Hp W0 bxq) d (fun i=>fl.getD i false) f W) (PK ops fl) env (Hp W0 bxq))
  (hfin: ∀x,NE N D Q .normal (envF x) (Hp W0 (bF x))):WC r n P N D (.region id ops.toArray true) Q env (Hp W0 bxs):= .mk fun a W ha hd hp=>by
 have h:=(Rc (id:=id) (Q:=QX N D W0 envF bF) fl d bxq hm hok hq).out a W ha hd hp
 refine wpIn_mono h ?_
 rintro e a' W' ⟨rfl,x,hl,hp'⟩
 have:=(hfin x).out a' W' hl.size hl.defers hp'
 rw[Fj (fun p hp _=>hl.get p hp)] at this
 exact this
theorem AR {X:Type} {envF:X->Env} {bF:X->List Bx} (x:X) (hL:Hh N env (envF x)) (s:List Nat) (hs:s.Nodup) (hp:pick bxs s=some (bF x)):NE N D (QX N D W0 envF bF) .normal env (Hp W0 bxs):= .mk fun _ _ ha hd hh=>
 ⟨rfl,x,GJ ha hd hL,hh.pick s hs hp⟩
theorem MH {X:Type} (envF:X->Env) (bF:X->List Bx) (d:Nat) {id:Nat} (hm:P.follows .mixedOrders=true) (hok:LO ops (Gf ops)=true)
  (hq:WQ P N D ops (Hp W0 bxs) (fun f W=>FQ r n P D ops (Gf ops) (QX N D W0 envF bF) (Hp W0 bxs) d (fun i=>(Gf ops).getD i false) f W) (PK ops (Gf ops)) env (Hp W0 bxs))
  (hfin: ∀x,NE N D Q .normal (envF x) (Hp W0 (bF x))):WC r n P N D (.region id ops.toArray true) Q env (Hp W0 bxs):=JI envF bF d bxs hm hok hq hfin
end
end Go.Am
namespace Go.Am
abbrev zA:= @EX
abbrev zB:= @CK
abbrev zC:= @BU
abbrev zD:= @Tc
abbrev zE:= @Le
abbrev zF:= @Aw
abbrev zG:= @Cp
abbrev zH:= @Jq
abbrev zI:= @aB
abbrev zJ:= @Zq
abbrev zK:= @Ps
abbrev zL:= @MU
abbrev zM:= @Iq
abbrev zN:= @KR
abbrev zO:= @dW
abbrev zP:= @Ry
abbrev zQ:= @PM
abbrev zR:= @Je
abbrev zS:= @I0
abbrev zT:= @RV
end Go.Am
namespace Go.Am
open Go Go.RowKit
def Du (c:List Value):Nat->List Value
 |0=>[]
 |n+1=>c++Du c n
theorem HN (c:List Value): ∀n,(Du c n).length=n*c.length
 |0=>by simp[Du]
 |n+1=>by rw[Du,List.length_append,HN c n,Nat.succ_mul,Nat.add_comm]
theorem Ru (c:List Value): ∀(n j:Nat),j<n*c.length->(Du c n)[j]? =c[j%c.length]?
 |0,j,h=>by simp at h
 |n+1,j,h=>by
  rw[Du]
  by_cases hj:j<c.length
  ·rw[List.getElem?_append_left hj,Nat.mod_eq_of_lt hj]
  ·have hj:c.length<=j:=by omega
   rw[List.getElem?_append_right hj,Ru c n (j-c.length) (by rw[Nat.succ_mul] at h;omega), <-Nat.mod_eq_sub_mod hj]
theorem MJ (c:Array Value) (n m:Nat) (hm:m=c.size):((Array.range (n*m)).map (c[· %c.size]!)).toList=Du c.toList n:=by
 subst hm
 apply List.ext_getElem?
 intro j
 by_cases hj:j<n*c.size
 ·have hpos:0<c.size:=by
   rcases Nat.eq_zero_or_pos c.size with h|h
   ·rw[h] at hj;simp at hj
   ·exact h
  have h1:=Ru c.toList n j (by simpa using hj)
  rw[h1]
  have hlt:j%c.size<c.size:=Nat.mod_lt _ hpos
  simp[hj,hlt]
 ·have h1:(Du c.toList n).length=n*c.size:=by rw[HN];simp
  rw[List.getElem?_eq_none (by simp;omega),List.getElem?_eq_none (by rw[h1];omega)]
section
variable {r:Option Nat} {n:Nat} {P:Program} {W0:World} {N:Nat} {D:List Deferred} {Q:Exit->Act->World->Prop} {env:Env} {bxs:List Bx}
structure Wo {X:Type} (N:Nat) (D:List Deferred) (W0:World) (L:X->Env) (B:X->List Bx) (Φ:X->Prop) (a:Act) (W:World):Prop where
 out: ∃x,Φ x/\TK N D (L x) a/\Hp W0 (B x) W
theorem F2 {x y:Code} {X:Type} (L:X->Env) (B:X->List Bx) (Φ:X->Prop) (h1:WC r n P N D x (Exit.then (Wo N D W0 L B Φ) Q) env (Hp W0 bxs))
  (h2: ∀z,Φ z->WC r n P N D y Q (L z) (Hp W0 (B z))):WC r n P N D (.seq x y) Q env (Hp W0 bxs):= .mk fun a W ha hd hp=>by
 refine(EX ⟨fun a W ha hd hp=>wpIn_mono (h1.out a W ha hd hp) ?_⟩:WC r n P N D (.seq x y) Q env (Hp W0 bxs)).out a W ha hd hp
 intro e a' W' hq
 cases e with
 |normal=>
  obtain⟨z,hz,hl,hp'⟩:=Wo.out hq
  have:=(h2 z hz).out a' W' hl.size hl.defers hp'
  rw[Fj (fun p hp _=>hl.get p hp)] at this
  exact this
 |_=>exact hq
theorem Au {X:Type} {L:X->Env} {B:X->List Bx} {Φ:X->Prop} (x:X) (hx:Φ x) (hL:Hh N env (L x)) (nb:List Bx) (hB:bxs=B x++nb):NE N D (Exit.then (Wo N D W0 L B Φ) Q) .normal env (Hp W0 bxs):= .mk fun _ _ ha hd hp=>
 ⟨x,hx,GJ ha hd hL,by rw[hB] at hp;exact hp.take⟩
theorem Jp {X:Type} {L:X->Env} {B:X->List Bx} {Φ:X->Prop} (x:X) (hx:Φ x) (hL:Hh N env (L x)) (s:List Nat) (hs:s.Nodup) (hp:pick bxs s=some (B x)):NE N D (Exit.then (Wo N D W0 L B Φ) Q) .normal env (Hp W0 bxs):= .mk fun _ _ ha hd hh=>
 ⟨x,hx,GJ ha hd hL,hh.pick s hs hp⟩
theorem EQ {ops rest:List Oper} {o:Oper} {T:Tbl} {i:TI} {d:Nat} {t:TypeId} {len:Nat} {parts:Array (Nat×Operand)} {vs:List (Nat×Value)} (z:Value) {c:List Value} (hT:okB P T=true) (hg:Aj ops N env o=some true) (hd:o.dst=some d) (ho:o.op= .buildSlice t len parts) (ht:find T t=some i) (hk:i.kind=2)
  (hz: ∀W,(zeroValue i.elem).run P W= .ok z W) (hp:Ec (evO N env) parts.toList=some vs) (hzs:i.elemSize=z.cells.size) (h24:Nat.ble (len*i.elemSize) (2^24)=true) (h0:Nat.beq (len*i.elemSize) 0=false)
  (hc:Gg (Kg i.elemSize) (Du z.cells.toList len) vs=some c)
  (h: ∀b,WL r n P N D ops Q rest ((d, .slice (some ⟨b,0,none⟩) len len)::env) (Hp W0 (bxs++[⟨b,i.elem,c,true,none⟩]))):WL r n P N D ops Q (o::rest) env (Hp W0 bxs):=
 Nk z hT hg hd ho ht hk hz hp h24 h0 (by rw[MJ _ _ _ hzs];exact hc) h
def OI (op:BinOp) (a b:Bool):Option Bool:=
 match op with
 | .eql=>some (a==b)
 | .neq=>some (!(a==b))
 |_=>none
theorem K3 {ρ:Operand->Value} {o:Oper} {op:BinOp} {t u:TypeId} {x y:Operand} {a b c:Bool} (hu:P.underlying t=some .bool) (ho:o.op= .binOp op t x y u) (hx:ρ x= .bool a) (hy:ρ y= .bool b) (hc:OI op a b=some c) (W:World):
  (execOp ρ o).run P W= .ok (.value (.bool c)) W:=by
 unfold OI at hc
 cases op<;>first|(cases hc;done)|(have hc:=Option.some.inj hc;subst hc;simp[execOp,ho,hx,hy,eqGuard,binOp,run_equal_bool W t a b hu])
theorem Kf {ops rest:List Oper} {o:Oper} {A:World->Prop} {op:BinOp} {d:Nat} {t u:TypeId} {x y:Operand} {a b c:Bool} (hu:P.underlying t=some .bool) (hg:Aj ops N env o=some true) (hd:o.dst=some d) (ho:o.op= .binOp op t x y u)
  (hx:evO N env x=some (.bool a)) (hy:evO N env y=some (.bool b)) (hc:OI op a b=some c)
  (h:WL r n P N D ops Q rest ((d, .bool c)::env) A):WL r n P N D ops Q (o::rest) env A:=
 Bf hg hd (fun c e=>by rw[ho] at e;cases e) (fun _ W hρ _=>K3 hu ho (hρ _ _ hx) (hρ _ _ hy) hc W) h
theorem bH {ops rest:List Oper} {o:Oper} {A A2:World->Prop} {R:Act->World->Prop} {op:BinOp} {d:Nat} {t u:TypeId} {x y:Operand} {a b c:Bool} (hu:P.underlying t=some .bool) (hg:Aj ops N env o=some true) (hd:o.dst=some d) (ho:o.op= .binOp op t x y u)
  (hx:evO N env x=some (.bool a)) (hy:evO N env y=some (.bool b)) (hc:OI op a b=some c)
  (h:WQ P N D ops A2 R rest ((d, .bool c)::env) A):WQ P N D ops A2 R (o::rest) env A:=
 CD hg hd (fun c e=>by rw[ho] at e;cases e) (fun _ W hρ _=>K3 hu ho (hρ _ _ hx) (hρ _ _ hy) hc W) h
end
end Go.Am
namespace Go.Am
open Go Go.RowKit
def bag (ds:List Nat):Bx:=⟨0,0,[],true,some (.grp (ds.map fun d=>(d,GY)))⟩
def CN:Bx:=⟨0,0,[],false,none⟩
theorem Fi {ds:List Nat} {p:Nat×Obj}:p∈(bag ds).blk↔p.1∈ds/\p.2=GY:=by
 show p∈ds.map (fun d=>(d,GY))↔_
 rw[List.mem_map]
 constructor
 ·rintro⟨d,hd,rfl⟩;exact⟨hd,rfl⟩
 ·rintro⟨h1,h2⟩;exact⟨p.1,h1,by rw[<-h2]⟩
theorem UL (ds:List Nat):(bag ds).blk.map (·.1)=ds:=by
 show(ds.map fun d=>(d,GY)).map (·.1)=ds
 simp[Function.comp_def]
theorem Hp.join {W0 W:World} {bxs:List Bx} (h:Hp W0 bxs W) {k i:Nat} (hne:k≠i) {B C E:Bx} (hk:bxs[k]? =some B) (hi:bxs[i]? =some C) (hE:E.blk=C.blk++B.blk):Hp W0 ((bxs.set k E).set i CN) W:=by
 have cases2: ∀ {j:Nat} {X:Bx},((bxs.set k E).set i CN)[j]? =some X->X.blk=[]\/(j=k/\X=E)\/(j≠i/\j≠k/\bxs[j]? =some X):=fun {j X} hj=>by
  rcases Cw hj with⟨_,rfl⟩|⟨h1,h2⟩
  ·exact .inl rfl
  ·rcases Cw h2 with h3|⟨h3,h4⟩
   ·exact .inr (.inl h3)
   ·exact .inr (.inr ⟨h1,h3,h4⟩)
 have mem: ∀ {p:Nat×Obj},p∈E.blk-> ∃m X,(m=k\/m=i)/\bxs[m]? =some X/\p∈X.blk:=fun {p} hp=>by
  rw[hE] at hp
  rcases List.mem_append.1 hp with hp|hp
  ·exact⟨i,C, .inr rfl,hi,hp⟩
  ·exact⟨k,B, .inl rfl,hk,hp⟩
 refine⟨h.below,fun j X hj p hp=> ?_,fun j X hj=> ?_,fun j j' X Y hj hj' hjj p hp q hq=> ?_⟩
 ·rcases cases2 hj with e|⟨_,rfl⟩|⟨_,_,h2⟩
  ·rw[e] at hp;cases hp
  ·obtain⟨m,Z,_,h1,h2⟩:=mem hp
   exact h.own.cell m Z h1 p h2
  ·exact h.own.cell j X h2 p hp
 ·rcases cases2 hj with e|⟨_,rfl⟩|⟨_,_,h2⟩
  ·rw[e];exact List.nodup_nil
  ·rw[hE,List.map_append]
   refine List.nodup_append.2 ⟨h.own.nd i C hi,h.own.nd k B hk,fun a ha b hb e=> ?_⟩
   obtain⟨p,hp,rfl⟩:=List.mem_map.1 ha
   obtain⟨q,hq,rfl⟩:=List.mem_map.1 hb
   exact h.own.apart i k C B hi hk (fun e=>hne e.symm) p hp q hq e
  ·exact h.own.nd j X h2
 ·rcases cases2 hj with e|⟨e1,rfl⟩|⟨h1,h2,h3⟩
  ·rw[e] at hp;cases hp
  ·rcases cases2 hj' with e|⟨e2,rfl⟩|⟨h4,h5,h6⟩
   ·rw[e] at hq;cases hq
   ·exact absurd (e1.trans e2.symm) hjj
   ·obtain⟨m,Z,h7,h8,h9⟩:=mem hp
    exact h.own.apart m j' Z Y h8 h6 (by rcases h7 with rfl|rfl;exact fun e=>h5 e.symm;exact fun e=>h4 e.symm) p h9 q hq
  ·rcases cases2 hj' with e|⟨e2,rfl⟩|⟨h4,h5,h6⟩
   ·rw[e] at hq;cases hq
   ·obtain⟨m,Z,h7,h8,h9⟩:=mem hq
    exact h.own.apart j m X Z h3 h8 (by rcases h7 with rfl|rfl;exact h2;exact h1) p hp q h9
   ·exact h.own.apart j j' X Y h3 h6 hjj p hp q hq
theorem Hp.bagged {W0 W:World} {bxs:List Bx} (h:Hp W0 bxs W) (k i:Nat) {d:Nat} {ds:List Nat} (hk:nth bxs k=some (bag ds)) (hi:nth bxs i=some (B7 d)):
  Hp W0 ((bxs.set k (bag (d::ds))).set i CN) W:=by
 rw[AT] at hk hi
 exact h.join (fun e=>by subst e;rw[hk] at hi;cases hi) hk hi rfl
theorem Hp.unbag {W0 W W':World} {bxs:List Bx} (h:Hp W0 bxs W) (k:Nat) {d:Nat} {ds:List Nat} {o:Obj} (hk:nth bxs k=some (bag (d::ds))) (hu:Upd W W' d o):Hp W0 (bxs.set k (bag ds)) W':=by
 rw[AT] at hk
 have hnd:=h.own.nd k _ hk
 rw[UL] at hnd
 obtain⟨h2,h3⟩:=List.nodup_cons.1 hnd
 have hget: ∀x,d≠x->W'.heap[x]? =W.heap[x]? :=fun x hx=>by rw[hu.heap,Array.getElem?_setIfInBounds];rw[if_neg hx]
 refine h.turn hk (fun p hp=> .inl ⟨p,Fi.2 ⟨List.mem_cons_of_mem _ (Fi.1 hp).1,(Fi.1 hp).2⟩,rfl⟩) (by rw[UL];exact h3) hu.os hu.tape hu.output (by rw[hu.heap,Array.size_setIfInBounds];exact Nat.le_refl _) (fun p hp=> ?_) (fun x hx _=>hget x (hx (d,GY) (Fi.2 ⟨List.mem_cons_self ..,rfl⟩)))
 rw[hget p.1 (fun e=>h2 (e▸(Fi.1 hp).1))]
 exact(h.own.cell k _ hk p (Fi.2 ⟨List.mem_cons_of_mem _ (Fi.1 hp).1,(Fi.1 hp).2⟩)).1
section
variable {r:Option Nat} {n:Nat} {P:Program} {W0:World} {N:Nat} {D:List Deferred} {Q:Exit->Act->World->Prop} {env:Env} {bxs:List Bx}
theorem Hv (k:Nat) {fn:Func} {X:Type} {val:X->Value} {Φ:X->Prop} {nb:X->List Bx}: ∀(ds:List Nat) {bxs:List Bx},nth bxs k=some (bag ds)->
  NE N [] (GF P fn W0 val Φ nb) .ret env (Hp W0 (bxs.set k (bag [])))->NE N (ds.map C7) (GF P fn W0 val Φ nb) .ret env (Hp W0 bxs)
 |[],bxs,hk,h=>by
  have:bxs.set k (bag [])=bxs:=by
   rw[AT] at hk
   apply List.ext_getElem?
   intro i
   by_cases e:i=k
   ·subst e;rw[List.getElem?_set_self (List.getElem?_eq_some_iff.1 hk).1,hk]
   ·rw[List.getElem?_set_ne (fun x=>e x.symm)]
  rw[this] at h
  exact h
 |d::ds,bxs,hk,h=> .mk fun a W ha hd hp=>by
  have hb:W.heap[d]? =some GY:=(hp.own.cell k _ (by rw[<-AT];exact hk) (d,GY) (Fi.2 ⟨List.mem_cons_self ..,rfl⟩)).1
  refine .mk ?_
  show LeavesInM (Fw none) 0 P fn (ov env a).tmps _ (ov env a).defers .returning W
  rw[Bl,hd]
  refine⟨by simp, .inl ⟨d,W.putObj d (.deferred none),rfl,run_takeDeferred hb, ?_⟩⟩
  have hp':Hp W0 (bxs.set k (bag ds)) (W.putObj d (.deferred none)):=hp.unbag k hk ⟨rfl,rfl,rfl,rfl⟩
  have hk':nth (bxs.set k (bag ds)) k=some (bag ds):=by
   rw[AT] at hk⊢
   exact List.getElem?_set_self (List.getElem?_eq_some_iff.1 hk).1
  have h':NE N (ds.map C7) (GF P fn W0 val Φ nb) .ret env (Hp W0 (bxs.set k (bag ds))):=Hv k ds hk' (by rw[List.set_set];exact h)
  have:=(h'.out { tmps:=a.tmps,defers:=ds.map C7 } _ ha rfl hp').out
  have e:LeavesInM (Fw none) 0 P fn (ov env { tmps:=a.tmps,defers:=ds.map C7 }).tmps (fun e W'=> ∃x,e= .returned (val x)/\Φ x/\Below W0.heap.size W0 W'/\As W0 W' (nb x)) (ov env { tmps:=a.tmps,defers:=ds.map C7 }).defers .returning (W.putObj d (.deferred none)):=this
  rw[Bl] at e
  rw[Ib env { tmps:=a.tmps,defers:=ds.map C7 } a rfl] at e
  exact e
theorem TW (k i:Nat) {e:Exit} {d:Nat} {ds:List Nat} (hk:nth bxs k=some (bag ds)) (hi:nth bxs i=some (B7 d)) (h:NE N D Q e env (Hp W0 ((bxs.set k (bag (d::ds))).set i CN))):NE N D Q e env (Hp W0 bxs):= .mk fun a W ha hd hp=>
 h.out a W ha hd (hp.bagged k i hk hi)
theorem Hp.newBag {W W0:World} (h:Hp W0 bxs W):Hp W0 (bxs++[bag []]) W:=h.append (Below.refl _ _) (Own.one (fun p hp=>by cases hp) List.nodup_nil)
theorem NO {c:Code} (h:WC r n P N D c Q env (Hp W0 (bxs++[bag []]))):WC r n P N D c Q env (Hp W0 bxs):= .mk fun a W ha hd hp=>h.out a W ha hd hp.newBag
structure Yd (N:Nat) {X:Type} (D:X->List Deferred) (L:X->Env) (B:X->World->Prop) (Φ:X->Prop) (μ:X->Nat) (m:Nat) (a:Act) (W:World):Prop where
 out: ∃x,Φ x/\μ x<m/\TK N (D x) (L x) a/\B x W
theorem LN {c:Code} {X:Type} (Ds:X->List Deferred) (L:X->Env) (B:X->List Bx) (Φ:X->Prop) (μ:X->Nat) (x0:X) (h0:Φ x0) (hD:Ds x0=D) (hL:Hh N env (L x0)) (nb:List Bx) (hB:bxs=B x0++nb)
  (round: ∀x,Φ x->WC r n P N (Ds x) c (Exit.then (Yd N Ds L (fun x=>Hp W0 (B x)) Φ μ (μ x)) Q) (L x) (Hp W0 (B x))):WC r n P N D (.loop c) Q env (Hp W0 bxs):= .mk fun a W ha hd hp=>by
 refine wpIn_loop_ghost (fun m a W=> ∃x,Φ x/\μ x=m/\TK N (Ds x) (L x) a/\Hp W0 (B x) W) (μ x0) ⟨x0,h0,rfl,hD▸GJ ha hd hL,by rw[hB] at hp;exact hp.take⟩ ?_
 rintro m a W ⟨x,hx,hm,hl,hp⟩
 have:=(round x hx).out a W hl.size hl.defers hp
 rw[Fj (fun p hp _=>hl.get p hp)] at this
 refine wpIn_mono this ?_
 intro e a' W' hq
 cases e with
 |normal=>
  obtain⟨y,h1,h2,h3,h4⟩:=Yd.out hq
  exact⟨μ y,hm▸h2,y,h1,rfl,h3,h4⟩
 |_=>exact hq
theorem J1 {X:Type} {Ds:X->List Deferred} {L:X->Env} {B:X->List Bx} {Φ:X->Prop} {μ:X->Nat} {m:Nat} (x:X) (hx:Φ x) (hm:μ x<m) (hD:D=Ds x) (hL:Hh N env (L x)) (s:List Nat) (hs:s.Nodup) (hp:pick bxs s=some (B x)):
  NE N D (Exit.then (Yd N Ds L (fun x=>Hp W0 (B x)) Φ μ m) Q) .normal env (Hp W0 bxs):= .mk fun _ _ ha hd hh=>
 ⟨x,hx,hm,GJ ha (hd.trans hD) hL,hh.pick s hs hp⟩
end
end Go.Am
namespace Go.Am
open Go Go.RowKit
inductive ZOk (P:Program):List (Nat×Value)->Prop
 |nil:ZOk P []
 |cons {t:Nat} {z:Value} {l:List (Nat×Value)} (h: ∀W,(zeroValue t).run P W= .ok z W) (r:ZOk P l):ZOk P ((t,z)::l)
def JN:List (Nat×Value)->Nat->Option Value
 |[],_=>none
 |(u,z)::r,t=>if Nat.beq u t then some z else JN r t
theorem ZOk.get {P:Program} {t:Nat} {z:Value}: ∀ {l:List (Nat×Value)},ZOk P l->JN l t=some z-> ∀W,(zeroValue t).run P W= .ok z W
 |[],_,h=>by simp[JN] at h
 |(u,y)::r, .cons h h',hf=>by
  unfold JN at hf
  by_cases e:Nat.beq u t=true
  ·rw[if_pos e] at hf
   cases hf
   have:u=t:=Nat.eq_of_beq_eq_true e
   subst this
   exact h
  ·rw[if_neg e] at hf
   exact ZOk.get h' hf
section
variable {r:Option Nat} {n:Nat} {P:Program} {W0:World} {N:Nat} {D:List Deferred} {ops:List Oper} {Q:Exit->Act->World->Prop} {o:Oper} {rest:List Oper} {env:Env} {bxs:List Bx} {A A2:World->Prop} {R:Act->World->Prop}
theorem VQ {Z:List (Nat×Value)} {d:Nat} {t:TypeId} {z:Value} (hZ:ZOk P Z) (hg:Aj ops N env o=some true) (hd:o.dst=some d) (ho:o.op= .alloc t) (hz:JN Z t=some z)
  (h: ∀b,WL r n P N D ops Q rest ((d, .pointer (some ⟨b,0,none⟩))::env) (Hp W0 (bxs++[⟨b,t,z.cells.toList,true,none⟩]))):WL r n P N D ops Q (o::rest) env (Hp W0 bxs):=
 AY hg hd ho (hZ.get hz) h
theorem Ak {Z:List (Nat×Value)} {T:Tbl} {i:TI} {d:Nat} {t:TypeId} {parts:Array (Nat×Operand)} {vs:List (Nat×Value)} {z:Value} {c:List Value} (hZ:ZOk P Z) (hT:okB P T=true) (hg:Aj ops N env o=some true) (hd:o.dst=some d) (ho:o.op= .build t parts) (ht:find T t=some i) (hk:i.kind=4)
  (hz:JN Z t=some z) (hp:Ec (evO N env) parts.toList=some vs) (hc:Gg (II i.fields) z.cells.toList vs=some c)
  (h:WL r n P N D ops Q rest ((d, .agg c.toArray)::env) A):WL r n P N D ops Q (o::rest) env A:=
 EJ z hT hg hd ho ht hk (hZ.get hz) hp hc h
theorem Ie {Z:List (Nat×Value)} {T:Tbl} {i:TI} {d:Nat} {t:TypeId} {parts:Array (Nat×Operand)} {vs:List (Nat×Value)} {z:Value} {c:List Value} (hZ:ZOk P Z) (hT:okB P T=true) (hg:Aj ops N env o=some true) (hd:o.dst=some d) (ho:o.op= .build t parts) (ht:find T t=some i) (hk:i.kind=4)
  (hz:JN Z t=some z) (hp:Ec (evO N env) parts.toList=some vs) (hc:Gg (II i.fields) z.cells.toList vs=some c)
  (h:WQ P N D ops A2 R rest ((d, .agg c.toArray)::env) A):WQ P N D ops A2 R (o::rest) env A:=
 Sx z hT hg hd ho ht hk (hZ.get hz) hp hc h
theorem Ai {Z:List (Nat×Value)} {T:Tbl} {i:TI} {d:Nat} {t:TypeId} {len:Nat} {parts:Array (Nat×Operand)} {vs:List (Nat×Value)} {z:Value} {c:List Value} (hZ:ZOk P Z) (hT:okB P T=true) (hg:Aj ops N env o=some true) (hd:o.dst=some d) (ho:o.op= .buildSlice t len parts) (ht:find T t=some i) (hk:i.kind=2)
  (hz:JN Z i.elem=some z) (hp:Ec (evO N env) parts.toList=some vs) (hzs:i.elemSize=z.cells.size) (h24:Nat.ble (len*i.elemSize) (2^24)=true) (h0:Nat.beq (len*i.elemSize) 0=false)
  (hc:Gg (Kg i.elemSize) (Du z.cells.toList len) vs=some c)
  (h: ∀b,WL r n P N D ops Q rest ((d, .slice (some ⟨b,0,none⟩) len len)::env) (Hp W0 (bxs++[⟨b,i.elem,c,true,none⟩]))):WL r n P N D ops Q (o::rest) env (Hp W0 bxs):=
 EQ z hT hg hd ho ht hk (hZ.get hz) hp hzs h24 h0 hc h
structure Vec where
 p:Option Nat
 cap:Nat
 junk:List Value
 deriving Inhabited
def Vec.empty:Vec:=⟨none,0,[]⟩
def Vec.val (V:Vec) (n:Nat):Value:=match V.p with
 |none=> .slice none 0 0
 |some g=> .slice (some ⟨g,0,none⟩) n V.cap
def Vec.bx (V:Vec) (e:TypeId) (xs:List Value):Bx:=match V.p with
 |none=>CN
 |some g=>⟨g,e,xs++V.junk,true,none⟩
structure Vec.OK (V:Vec) (size n:Nat) (xs:List Value):Prop where
 len:xs.length=n*size
 nil:V.p=none->n=0
 cap:V.p≠none->n<=V.cap/\V.cap<=maxLen/\xs.length+V.junk.length=V.cap*size
theorem Vec.OK.empty (size:Nat):Vec.empty.OK size 0 []:=⟨by simp,fun _=>rfl,fun h=>absurd rfl h⟩
structure VecTy (P:Program) (t e:TypeId) (size bytes:Nat) (z:Value):Prop where
 ht:P.underlying t=some (.slice e)
 hz:(P.info? e).bind (·.zero)=some z
 hs:(P.info? e).map (·.size)=some size
 hb:(P.info? e).map (·.bytes)=some bytes
 hzs:z.cells.size=size
 pos:0<size
theorem VecTy.hi {t e:TypeId} {size bytes:Nat} {z:Value} (h:VecTy P t e size bytes z): ∃i,P.info? e=some i/\i.zero=some z/\i.size=size/\i.bytes=bytes:=by
 have h1:=h.hz;have h2:=h.hs;have h3:=h.hb
 cases hi:P.info? e with
 |none=>rw[hi] at h1;cases h1
 |some i=>
  rw[hi] at h1 h2 h3
  exact⟨i,rfl,h1,Option.some.inj h2,Option.some.inj h3⟩
theorem Hp.appendV {t e ty:TypeId} {size bytes:Nat} {z:Value} (hty:VecTy P t e size bytes z) {W:World} (h:Hp W0 bxs W) (k:Nat) {V:Vec} {n m c:Nat} {xs news:List Value} {a:Addr} (hk:nth bxs k=some (V.bx e xs)) (hV:V.OK size n xs)
  (hl:news.length=m*size) (hnews: ∀j u,news[j]? =some u->W.cell? (a.add j)=some u) (h1: ∀u∈news,u.oneCell'=true) (h63:n+m<=maxLen) (hbytes:(n+m)*bytes<=140737488355328):
  ∃(V':Vec) (W':World),(Builtin.append_ #[t,t] ty #[V.val n, .slice (some a) m c]).run P W= .ok (V'.val (n+m)) W'/\V'.OK size (n+m) (xs++news)/\Hp W0 (bxs.set k (V'.bx e (xs++news))) W'/\(V'.p=none->m=0):=by
 rw[AT] at hk
 obtain⟨i,hi,hz,hsz,hby⟩:=hty.hi
 have hown:W.ownsRow W0.heap.size e size (V.val n) n xs:=by
  refine⟨hV.len, ?_⟩
  obtain⟨p,cap,junk⟩:=V
  cases p with
  |none=>exact .inl ⟨rfl,hV.nil rfl⟩
  |some g=>
   obtain⟨h3,h4,h5⟩:=hV.cap (by simp)
   have hb:W.heap[g]? =some (.cells (xs++junk).toArray e (0,0))/\W0.heap.size<=g:=h.at_ k _ hk rfl
   refine .inr ⟨g,cap,_,rfl,hb.2,hb.1,h3,h4,by simpa using h5, ?_⟩
   rw[<-hV.len]
   simp
 obtain⟨v',W',hr,hown',hgrow,hnil,hat⟩:=run_append_own_at (P:=P) W W0.heap.size t ty e i z size bytes hty.ht hi hz hsz hby hty.hzs hty.pos (V.val n) n xs hown a m c news hl hnews h1 h63 hbytes h.below.size
 have hoth: ∀(V':Vec),v'=V'.val (n+m)-> ∀x,(∀q∈(V.bx e xs).blk,q.1≠x)->x<W.heap.size->W'.heap[x]? =W.heap[x]? :=fun V' _ x hx hlt=>by
  refine hgrow.block x hlt ?_
  intro he
  obtain⟨p,cap,junk⟩:=V
  cases p with
  |none=>simp[Vec.val,Value.ownBlock] at he
  |some g=>
   simp[Vec.val,Value.ownBlock] at he
   exact hx (g,_) (List.mem_cons_self ..) he.symm
 rcases hown'.2 with⟨hv,hn⟩|⟨g,cap,cur,hv,hbg,hg,hnc,hcm,hcs,htake⟩
 ·refine⟨Vec.empty,W',by rw[hr,hv];rfl,⟨hown'.1,fun _=>hn,fun h=>absurd rfl h⟩, ?_,fun _=>by omega⟩
  exact h.turn hk (fun p hp=>by cases hp) List.nodup_nil hgrow.os hgrow.tape hgrow.output hgrow.size (fun p hp=>by cases hp) (hoth Vec.empty hv)
 ·have hcur:cur.toList=(xs++news)++cur.toList.drop ((n+m)*size):=by
   conv=>lhs;rw[<-List.take_append_drop ((n+m)*size) cur.toList]
   rw[htake]
  refine⟨⟨some g,cap,cur.toList.drop ((n+m)*size)⟩,W',by rw[hr,hv];rfl,⟨hown'.1,fun h=>by simp at h,fun _=>⟨hnc,hcm, ?_⟩⟩, ?_,fun h=>by simp at h⟩
  ·have:=congrArg List.length hcur
   rw[List.length_append] at this
   simp only[Array.length_toList] at this
   rw[<-this,hcs]
  ·refine h.turn hk (fun p hp=> ?_) (List.nodup_cons.2 ⟨List.not_mem_nil,List.nodup_nil⟩) hgrow.os hgrow.tape hgrow.output hgrow.size (fun p hp=> ?_) (hoth ⟨some g,cap,[]⟩ hv)
   ·obtain rfl:=List.mem_singleton.1 hp
    show(∃q∈(V.bx e xs).blk,q.1=g)\/W.heap.size<=g
    rcases hat with hat|hat
    ·left
     obtain⟨p,cap',junk⟩:=V
     rw[hv] at hat
     cases p with
     |none=>simp[Vec.val,Value.ownBlock] at hat
     |some g'=>
      simp[Vec.val,Value.ownBlock] at hat
      exact⟨(g',_),List.mem_cons_self ..,hat.symm⟩
    ·right
     rw[hv] at hat
     simp[Value.ownBlock] at hat
     omega
   ·obtain rfl:=List.mem_singleton.1 hp
    show W'.heap[g]? =some (.cells ((xs++news)++cur.toList.drop ((n+m)*size)).toArray e (0,0))
    rw[<-hcur]
    exact hg
theorem Oe (k:Nat) {d:Nat} {t e:TypeId} {size bytes:Nat} {z:Value} (hty:VecTy P t e size bytes z) {c:Call} {s x:Operand} {V:Vec} {m cp len:Nat} {xs news:List Value} {a:Addr}
  (hg:Aj ops N env o=some true) (hd:o.dst=some d) (ho:o.op= .call c) (hc:c.callee= .builtin .append) (ha:c.args= #[s,x]) (hat:c.argTypes= #[t,t])
  (hs:evO N env s=some (V.val len)) (hx:evO N env x=some (.slice (some a) m cp)) (hk:nth bxs k=some (V.bx e xs)) (hV:V.OK size len xs)
  (hl:news.length=m*size) (hnews: ∀W,Hp W0 bxs W-> ∀j u,news[j]? =some u->W.cell? (a.add j)=some u) (h1: ∀u∈news,u.oneCell'=true) (h63:len+m<=maxLen) (hbytes:(len+m)*bytes<=140737488355328)
  (h: ∀V':Vec,V'.OK size (len+m) (xs++news)->(V'.p=none->m=0)->WL r n P N D ops Q rest ((d,V'.val (len+m))::env) (Hp W0 (bxs.set k (V'.bx e (xs++news))))):WL r n P N D ops Q (o::rest) env (Hp W0 bxs):= .mk fun act W h2 h3 hp=>by
 refine By hg h2 (fun c e=>by rw[ho] at e;cases e) ?_
 obtain⟨V',W',hr,hV',hp',hn'⟩:=hp.appendV (ty:=o.type) (c:=cp) hty k hk hV hl (hnews W hp) h1 h63 hbytes
 have e1:c.args.map (ov env act).eval= #[V.val len, .slice (some a) m cp]:=by rw[ha];simp[A4 h2 _ _ hs,A4 h2 _ _ hx]
 have:(execOp (ov env act).eval o).run P W= .ok (.value (V'.val (len+m))) W':=by
  simp only[execOp,ho,resolve,hc,invoke,builtin,e1,hat,Sem.run_bind,Sem.run_pure,Result.andThen_ok,hr]
 rw[this]
 simp only[Oper.uponIn,hd]
 exact(h V' hV' hn').out act W' h2 h3 hp'
theorem QA (k j:Nat) {d:Nat} {t e:TypeId} {size bytes:Nat} {z:Value} (hty:VecTy P t e size bytes z) {c:Call} {s x:Operand} {V:Vec} {m cp len:Nat} {xs:List Value} {B:Bx}
  (hg:Aj ops N env o=some true) (hd:o.dst=some d) (ho:o.op= .call c) (hc:c.callee= .builtin .append) (ha:c.args= #[s,x]) (hat:c.argTypes= #[t,t])
  (hj:nth bxs j=some B) (hon:B.row=true) (hx:evO N env x=some (.slice (some ⟨B.b,0,none⟩) m cp))
  (hs:evO N env s=some (V.val len)) (hk:nth bxs k=some (V.bx e xs)) (hV:V.OK size len xs)
  (hl:B.cells.length=m*size) (h1:DI B.cells=true) (h63:len+m<=maxLen) (hbytes:(len+m)*bytes<=140737488355328)
  (h: ∀V':Vec,V'.OK size (len+m) (xs++B.cells)->(V'.p=none->m=0)->WL r n P N D ops Q rest ((d,V'.val (len+m))::env) (Hp W0 (bxs.set k (V'.bx e (xs++B.cells))))):WL r n P N D ops Q (o::rest) env (Hp W0 bxs):=by
 refine Oe k hty hg hd ho hc ha hat hs hx hk hV hl (fun W hp i u hu=> ?_) ?_ h63 hbytes h
 ·rw[AT] at hj
  obtain⟨h5,h6⟩:=Bx.row_on hon
  have:=(hp.at_ _ _ hj h5).1
  rw[h6] at this
  rw[Addr.add_none,GL this]
  simpa using hu
 ·have: ∀(l:List Value),DI l=true-> ∀u∈l,u.oneCell'=true:=by
   intro l
   induction l with
   |nil=>intro _ u hu;cases hu
   |cons v l ih=>
    intro hl u hu
    unfold DI at hl
    split at hl
    ·rename_i hv
     rcases List.mem_cons.1 hu with rfl|hu
     ·cases u<;>first|rfl|(simp[one] at hv;done)
     ·exact ih hl u hu
    ·cases hl
  exact this _ h1
end
end Go.Am
namespace Go.Am
open Go Go.RowKit
section
variable {r:Option Nat} {n:Nat} {P:Program} {W0:World} {N:Nat} {D:List Deferred} {ops:List Oper} {Q:Exit->Act->World->Prop} {o:Oper} {rest:List Oper} {env:Env} {bxs:List Bx} {A A2:World->Prop} {R:Act->World->Prop}
theorem KL (len cap:Nat) {lo hi:Option Value} {l h:Nat} (hl:lo=none/\l=0\/ ∃k,lo=some (.int k (l:Nat))) (hh:hi=none/\h=len\/ ∃k,hi=some (.int k (h:Nat))) (h1:l<=h) (h2:h<=cap) (W:World):
  (Instr.sliceBounds true len cap lo hi none).run P W= .ok (l,h,cap) W:=by
 rcases hl with⟨rfl,rfl⟩|⟨k,rfl⟩<;>rcases hh with⟨rfl,rfl⟩|⟨k',rfl⟩<;>simp[Instr.sliceBounds,Instr.sliceBound,asIntOf,h1,h2]
theorem Og {T:Tbl} {i:TI} {ρ:Operand->Value} {t:TypeId} {x:Operand} {lo hi:Option Operand} {a:Option Addr} {len cap l h:Nat} (hT:okB P T=true) (ho:o.op= .slice t x lo hi none) (ht:find T t=some i) (hk:i.kind=2) (hx:ρ x= .slice a len cap)
  (hl:lo.map ρ=none/\l=0\/ ∃k,lo.map ρ=some (.int k (l:Nat))) (hh:hi.map ρ=none/\h=len\/ ∃k,hi.map ρ=some (.int k (h:Nat))) (h1:l<=h) (h2:h<=cap) (W:World):
  (execOp ρ o).run P W= .ok (.value (.slice (if cap=l then a else a.map (·.add (l*i.elemSize))) (h-l) (cap-l))) W:=by
 obtain⟨hu,hs⟩:=Gy (B8 hT ht) hk
 have hb:=KL (P:=P) len cap hl hh h1 h2 W
 simp only[execOp,ho,Instr.sliceAt,Sem.run_bind,run_underlying hu,Result.andThen_ok,Instr.slice,hx,Option.map_none,hb,Ev hs,Sem.run_pure]
theorem De {T:Tbl} {i:TI} {d:Nat} {t:TypeId} {x y:Operand} {k:IntKind} {a:Option Addr} {len cap:Nat} {z:Int} (h:Nat) (hT:okB P T=true) (hg:Aj ops N env o=some true) (hd:o.dst=some d) (ho:o.op= .slice t x none (some y) none)
  (ht:find T t=some i) (hk:i.kind=2) (hx:evO N env x=some (.slice a len cap)) (hy:evO N env y=some (.int k z)) (hz:z=h) (h2:h<=cap)
  (hn:WL r n P N D ops Q rest ((d, .slice a h cap)::env) A):WL r n P N D ops Q (o::rest) env A:=
 Bf hg hd (fun c e=>by rw[ho] at e;cases e) (fun ρ W hρ _=>by
  subst hz
  have:=Og (P:=P) (l:=0) (h:=h) hT ho ht hk (hρ _ _ hx) (.inl ⟨rfl,rfl⟩) (.inr ⟨k,by rw[Option.map_some,hρ _ _ hy]⟩) (Nat.zero_le _) h2 W
  rw[this]
  have e:(if cap=0 then a else a.map (·.add (0*i.elemSize)))=a:=by
   split
   ·rfl
   ·cases a with
    |none=>rfl
    |some a=>simp[Addr.add]
  rw[e];rfl) hn
theorem G8 {T:Tbl} {i:TI} {d:Nat} {t:TypeId} {x y':Operand} {k':IntKind} {b off:Nat} {len cap:Nat} {z':Int} (l:Nat) (hT:okB P T=true) (hg:Aj ops N env o=some true) (hd:o.dst=some d) (ho:o.op= .slice t x (some y') none none)
  (ht:find T t=some i) (hk:i.kind=2) (hx:evO N env x=some (.slice (some ⟨b,off,none⟩) len cap)) (hy':evO N env y'=some (.int k' z')) (hz':z'=l) (h1:l<=len) (h2:len<=cap)
  (hn:WL r n P N D ops Q rest ((d, .slice (some ⟨b,if cap=l then off else off+l*i.elemSize,none⟩) (len-l) (cap-l))::env) A):WL r n P N D ops Q (o::rest) env A:=
 Bf hg hd (fun c e=>by rw[ho] at e;cases e) (fun ρ W hρ _=>by
  subst hz'
  have:=Og (P:=P) (l:=l) (h:=len) hT ho ht hk (hρ _ _ hx) (.inr ⟨k',by rw[Option.map_some,hρ _ _ hy']⟩) (.inl ⟨rfl,rfl⟩) h1 h2 W
  rw[this]
  have e:(if cap=l then some (⟨b,off,none⟩:Addr) else(some (⟨b,off,none⟩:Addr)).map (·.add (l*i.elemSize)))=some ⟨b,if cap=l then off else off+l*i.elemSize,none⟩:=by
   split
   ·rfl
   ·simp[Addr.add_none]
  rw[e]) hn
theorem Kh {W:World} {t u ty e:TypeId} {size bytes:Nat} {z:Value} (hty:VecTy P t e size bytes z) {ku:IntKind} (hu:P.underlying u=some (.int ku)) (m:Nat) (h0:0<m) (hb:m*bytes<=140737488355328) (h63:m<=maxLen):
  (Builtin.append_ #[t,u] ty #[.slice none 0 0, .int .i64 (m:Nat)]).run P W=
   .ok (.slice (some ⟨W.heap.size,0,none⟩) m (grownCap W m 0 e)) (W.drew.alloc (.cells (Builtin.zeroCells z.cells m++Builtin.zeroCells z.cells (grownCap W m 0 e-m)) e)):=by
 obtain⟨i,hi,hz,hsz,hby⟩:=hty.hi
 have hs:=hty.pos
 subst hsz;subst hby
 have hn:m≠0:=by omega
 have hw:IntKind.i64.wrap (m:Nat)=(m:Int):=BO (by omega) (by simp only[maxLen] at h63;omega)
 have h63': ¬(9223372036854775807<(m:Int)):=by simp only[maxLen] at h63;omega
 have h48: ¬((281474976710656:Int)<(m:Int)*(i.bytes:Int)):=by
  have:(m:Int)*(i.bytes:Int)=((m*i.bytes:Nat):Int):=by simp
  rw[this];omega
 have h48': ¬(281474976710656<Builtin.nextslicecap m 0*i.bytes):=by rw[nextslicecap_zero h0];omega
 have hms: ¬(m*i.size=0):=by have:=Nat.mul_pos h0 hs;omega
 have hm0: ¬((m:Int)<0):=by omega
 simp[Builtin.append_,run_underlying hty.ht,run_underlying hu,sizeOf,typeInfo,zeroValue,hi,hz,hn,hw,h63',h48,h48',hm0,asInt,asIntOf,Question.forced,run_firstCells_none,newRow,grownCap]
 exact fun h=>absurd h hms
theorem Kn (z:Array Value) (m:Nat):(Builtin.zeroCells z m).toList=Du z.toList m:=by
 unfold Builtin.zeroCells
 exact MJ z m z.size rfl
theorem MD {d:Nat} {t u e:TypeId} {size bytes:Nat} {z:Value} (hty:VecTy P t e size bytes z) {ku:IntKind} (hu:P.underlying u=some (.int ku)) {c:Call} {s x:Operand} (m:Nat) {zi:Int}
  (hg:Aj ops N env o=some true) (hd:o.dst=some d) (ho:o.op= .call c) (hc:c.callee= .builtin .append) (ha:c.args= #[s,x]) (hat:c.argTypes= #[t,u])
  (hs:evO N env s=some (.slice none 0 0)) (hx:evO N env x=some (.int .i64 zi)) (hzi:zi=m) (h0:0<m) (h63:m<=maxLen) (hbytes:m*bytes<=140737488355328)
  (h: ∀V:Vec,V.OK size m (Du z.cells.toList m)->V.p≠none->V.junk=Du z.cells.toList (V.cap-m)->WL r n P N D ops Q rest ((d,V.val m)::env) (Hp W0 (bxs++[V.bx e (Du z.cells.toList m)]))):WL r n P N D ops Q (o::rest) env (Hp W0 bxs):= .mk fun act W h2 h3 hp=>by
 refine By hg h2 (fun c e=>by rw[ho] at e;cases e) ?_
 subst hzi
 have hr:=Kh (P:=P) (W:=W) (ty:=o.type) hty hu m h0 hbytes h63
 have e1:c.args.map (ov env act).eval= #[.slice none 0 0, .int .i64 (m:Nat)]:=by rw[ha];simp[A4 h2 _ _ hs,A4 h2 _ _ hx]
 obtain⟨g,hgc⟩: ∃g,grownCap W m 0 e=g:=⟨_,rfl⟩
 have hge:m<=g:=hgc▸grownCap_ge W m 0 e
 have hle:g<=maxLen:=hgc▸grownCap_le_maxLen W m 0 e h63
 rw[hgc] at hr
 have:(execOp (ov env act).eval o).run P W= .ok (.value (.slice (some ⟨W.heap.size,0,none⟩) m g)) (W.drew.alloc (.cells (Builtin.zeroCells z.cells m++Builtin.zeroCells z.cells (g-m)) e)):=by
  simp only[execOp,ho,resolve,hc,invoke,builtin,e1,hat,Sem.run_bind,Sem.run_pure,Result.andThen_ok,hr]
 rw[this]
 simp only[Oper.uponIn,hd]
 have hlen: ∀k,(Du z.cells.toList k).length=k*size:=fun k=>by rw[HN];simp[hty.hzs]
 refine(h ⟨some W.heap.size,g,Du z.cells.toList (g-m)⟩ ⟨hlen m,(fun h=>by cases h),fun _=>⟨hge,hle, ?_⟩⟩ (by simp) rfl).out act _ h2 h3 ?_
 ·show(Du z.cells.toList m).length+(Du z.cells.toList (g-m)).length=g*size
  rw[hlen,hlen, <-Nat.add_mul];congr 1;omega
 ·have hp2:Hp W0 bxs W.drew:=hp.grow ⟨rfl,rfl,rfl,Nat.le_refl _,fun _ _=>rfl⟩
  have hp3:=hp2.alloc e (Du z.cells.toList m++Du z.cells.toList (g-m))
  have e2:(Builtin.zeroCells z.cells m++Builtin.zeroCells z.cells (g-m))=(Du z.cells.toList m++Du z.cells.toList (g-m)).toArray:=by
   apply Array.toList_inj.1
   simp[Kn]
  rw[e2]
  exact hp3
theorem MY {ρ:Operand->Value} {W:World} {t e:TypeId} {size bytes:Nat} {z:Value} (hty:VecTy P t e size bytes z) {x y:Operand} (m:Nat) (ho:o.op= .makeSlice t x y) (hx:ρ x= .int .i64 (m:Nat)) (hy:ρ y= .int .i64 (m:Nat)) (h63:m<=maxLen) (hb:m*bytes<=140737488355328):
  (execOp ρ o).run P W= .ok (.value (.slice (some ⟨W.heap.size,0,none⟩) m m)) (W.alloc (.cells (Du z.cells.toList m).toArray e)):=by
 obtain⟨i,hi,hz,hsz,hby⟩:=hty.hi
 subst hsz;subst hby
 have hw:IntKind.i64.wrap (m:Nat)=(m:Int):=BO (by omega) (by simp only[maxLen] at h63;omega)
 have h48: ¬((281474976710656:Int)<(i.bytes:Int)*(m:Int)):=by
  have:(i.bytes:Int)*(m:Int)=((m*i.bytes:Nat):Int):=by rw[Nat.mul_comm];simp
  rw[this];omega
 have h0: ¬((m:Int)<0):=by omega
 have hz':((Array.range (m*i.size)).map (z.cells[· %z.cells.size]!))=(Du z.cells.toList m).toArray:=by
  apply Array.toList_inj.1
  rw[MJ _ _ _ hty.hzs.symm]
 by_cases hm:m=0
 ·subst hm
  simp[execOp,ho,Instr.makeSlice,run_underlying hty.ht,hx,hy,asInt,asIntOf,typeInfo,hi,sizeOf,newRow,Du]
  have:IntKind.i64.wrap 0=0:=rfl
  have e0:Array.map (fun _:Nat=>(default:Value)) (Array.range 0)= #[]:=by apply Array.toList_inj.1;simp
  simp[this,e0]
 ·have hms: ¬(m*i.size=0):=by have:=Nat.mul_pos (show 0<m by omega) hty.pos;omega
  simp only[execOp,ho,Instr.makeSlice,Sem.run_bind,run_underlying hty.ht,hx,hy,asInt,asIntOf,Sem.run_pure,Result.andThen_ok,typeInfo,hw]
  simp[h48,h0,run_askRoom,sizeOf,typeInfo,hi,zeroValue,hz,newRow]
  rw[if_neg hms, <-hz']
theorem Fl {d:Nat} {t e:TypeId} {size bytes:Nat} {z:Value} (hty:VecTy P t e size bytes z) {x y:Operand} (m:Nat) {zx zy:Int}
  (hg:Aj ops N env o=some true) (hd:o.dst=some d) (ho:o.op= .makeSlice t x y)
  (hx:evO N env x=some (.int .i64 zx)) (hy:evO N env y=some (.int .i64 zy)) (hzx:zx=m) (hzy:zy=m) (h63:m<=maxLen) (hb:m*bytes<=140737488355328)
  (h: ∀b,WL r n P N D ops Q rest ((d, .slice (some ⟨b,0,none⟩) m m)::env) (Hp W0 (bxs++[⟨b,e,Du z.cells.toList m,true,none⟩]))):WL r n P N D ops Q (o::rest) env (Hp W0 bxs):= .mk fun act W h2 h3 hp=>by
 refine By hg h2 (fun c e=>by rw[ho] at e;cases e) ?_
 subst hzx;subst hzy
 rw[MY (P:=P) (W:=W) hty m ho (A4 h2 _ _ hx) (A4 h2 _ _ hy) h63 hb]
 simp only[Oper.uponIn,hd]
 exact(h W.heap.size).out act _ h2 h3 (hp.alloc e _)
end
end Go.Am
namespace Go.Am
open Go Go.RowKit
section
variable {r:Option Nat} {n:Nat} {P:Program} {W0:World} {N:Nat} {D:List Deferred} {ops:List Oper} {Q:Exit->Act->World->Prop} {l:List Oper} {env:Env} {bxs:List Bx}
theorem Hp.newGone {W:World} (h:Hp W0 bxs W):Hp W0 (bxs++[CN]) W:=h.append (Below.refl _ _) (Own.one (fun p hp=>by cases hp) List.nodup_nil)
theorem Be {c:Code} (h:WC r n P N D c Q env (Hp W0 (bxs++[CN]))):WC r n P N D c Q env (Hp W0 bxs):= .mk fun a W ha hd hp=>h.out a W ha hd hp.newGone
theorem M1 (h:WL r n P N D ops Q l env (Hp W0 (bxs++[CN]))):WL r n P N D ops Q l env (Hp W0 bxs):= .mk fun a W ha hd hp=>h.out a W ha hd hp.newGone
theorem AA {o:Oper} {rest:List Oper} (k j:Nat) {d:Nat} {t e:TypeId} {size bytes:Nat} {z:Value} (hty:VecTy P t e size bytes z) {c:Call} {s x:Operand} {V:Vec} {m cp len:Nat} {xs:List Value} {B:Bx} (n':Nat) (ys:List Value)
  (hg:Aj ops N env o=some true) (hd:o.dst=some d) (ho:o.op= .call c) (hc:c.callee= .builtin .append) (ha:c.args= #[s,x]) (hat:c.argTypes= #[t,t])
  (hj:nth bxs j=some B) (hon:B.row=true) (hx:evO N env x=some (.slice (some ⟨B.b,0,none⟩) m cp))
  (hs:evO N env s=some (V.val len)) (hk:nth bxs k=some (V.bx e xs)) (hV:V.OK size len xs)
  (hl:B.cells.length=m*size) (h1:DI B.cells=true) (hn:len+m=n') (hys:xs++B.cells=ys) (h63:n'<=maxLen) (hbytes:n'*bytes<=140737488355328)
  (hm:Nat.beq m 0=false)
  (h: ∀(g cap:Nat) (junk:List Value),(⟨some g,cap,junk⟩:Vec).OK size n' ys->WL r n P N D ops Q rest ((d, .slice (some ⟨g,0,none⟩) n' cap)::env) (Hp W0 (bxs.set k ⟨g,e,ys++junk,true,none⟩))):WL r n P N D ops Q (o::rest) env (Hp W0 bxs):=by
 subst hn
 subst hys
 refine QA k j hty hg hd ho hc ha hat hj hon hx hs hk hV hl h1 h63 hbytes fun V' hV' hp=> ?_
 obtain⟨p,cap,junk⟩:=V'
 cases p with
 |none=>rw[hp rfl] at hm;cases hm
 |some g=>exact h g cap junk hV'
theorem BT {o:Oper} {rest:List Oper} (k:Nat) (ys:List Value) {T:Tbl} {i:TI} {t:TypeId} {x y:Operand} {B:Bx} {off:Nat} {v:Value} (hT:okB P T=true) (hg:Aj ops N env o=some true) (hd:o.dst=none) (ho:o.op= .store t x y) (ht:find T t=some i)
  (hk:nth bxs k=some B) (hx:evO N env x=some (.pointer (some ⟨B.b,off,none⟩))) (hon:B.row=true) (hy:evO N env y=some v)
  (hs:Nat.beq v.cells.toList.length i.size=true) (h1:DI v.cells.toList=true) (hl:off+i.size<=B.cells.length) (hys:BD B.cells off v.cells.toList=ys)
  (h:WL r n P N D ops Q rest env (Hp W0 (bxs.set k { B with cells:=ys }))):WL r n P N D ops Q (o::rest) env (Hp W0 bxs):= .mk fun a W ha hd' hp=>by
 rw[AT] at hk
 subst hys
 refine By hg ha (fun c e=>by rw[ho] at e;cases e) ?_
 have h3:=(hp.at_ _ _ hk (Bx.row_on hon).1).1
 rw[(Bx.row_on hon).2] at h3
 obtain⟨W',hr,hu⟩:=GR (P:=P) (B8 hT ht) h3 (Nat.eq_of_beq_eq_true hs) hl h1
 have:(execOp (ov env a).eval o).run P W= .ok .skip W':=by
  simp[execOp,ho,Instr.storeAt,Instr.sureAddr,A4 ha _ _ hx,A4 ha _ _ hy,hr]
 rw[this]
 simp only[Oper.uponIn,hd]
 exact h.out a W' ha hd' (hp.upd hk hon hu)
theorem UV (k i:Nat) {e:Exit} {B C:Bx} (E:Bx) (hne:Nat.beq k i=false) (hk:nth bxs k=some B) (hi:nth bxs i=some C) (hE:E.blk=C.blk++B.blk) (h:NE N D Q e env (Hp W0 ((bxs.set k E).set i CN))):NE N D Q e env (Hp W0 bxs):= .mk fun a W ha hd hp=>
 h.out a W ha hd (hp.join (fun e=>by subst e;rw[show Nat.beq k k=true from Nat.beq_refl k] at hne;cases hne) (by rw[<-AT];exact hk) (by rw[<-AT];exact hi) hE)
def Ad (l:List (Nat×Obj)):Bx:=⟨0,0,[],true,some (.grp l)⟩
theorem Hp.newGrp {W:World} (h:Hp W0 bxs W):Hp W0 (bxs++[Ad []]) W:=h.append (Below.refl _ _) (Own.one (fun p hp=>by cases hp) List.nodup_nil)
theorem Oz {c:Code} (h:WC r n P N D c Q env (Hp W0 (bxs++[Ad []]))):WC r n P N D c Q env (Hp W0 bxs):= .mk fun a W ha hd hp=>h.out a W ha hd hp.newGrp
theorem OH (a b:List Value) (o:Nat) (v:List Value):BD (a++b) (a.length+o) v=a++BD b o v:=by
 simp only[BD,List.take_append,List.drop_append]
 rw[List.take_of_length_le (show a.length<=a.length+o by omega),List.drop_eq_nil_of_le (show a.length<=a.length+o+v.length by omega)]
 rw[show a.length+o-a.length=o by omega,show a.length+o+v.length-a.length=o+v.length by omega]
 simp[List.append_assoc]
end
end Go.Am
