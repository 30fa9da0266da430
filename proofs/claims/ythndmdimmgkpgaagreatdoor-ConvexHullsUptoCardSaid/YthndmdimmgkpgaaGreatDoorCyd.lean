/-
  Lemmas that the theorem convexHulls_upto_card needs (part 4 of 8).
-/
import Derived.Test.YthndmdimmgkpgaaGreatDoorCyc
set_option maxHeartbeats 64000000
namespace Go.Proofs.YthndmdimmgkpgaaGreatDoor
section
def Qm (k:Nat) (l:List Ah):List Ah:=l.drop k++l.take k
theorem Qc {k:Nat} {l:List Ah} (hk:k≤l.length):(Qm k l).length=l.length:=by
 unfold Qm;rw[List.length_append,List.length_drop,List.length_take];omega
def A4 (p q:Ah):Prop:=p.1<q.1∨p.1=q.1∧p.2<q.2
theorem Cy (p q:Ah):A4 p q∨p=q∨A4 q p:=by
 unfold A4
 rcases C1 p.1 q.1 with a|a
 ·exact Or.inl (Or.inl a)
 rcases C1 q.1 p.1 with b|b
 ·exact Or.inr (Or.inr (Or.inl b))
 have e:p.1=q.1:=by grind
 rcases C1 p.2 q.2 with c|c
 ·exact Or.inl (Or.inr ⟨e,c⟩)
 rcases C1 q.2 p.2 with d|d
 ·exact Or.inr (Or.inr (Or.inr ⟨e.symm,d⟩))
 ·refine Or.inr (Or.inl ?_)
  ext
  ·exact e
  ·grind
theorem Cb {p q:Ah} (h:A4 p q): ¬A4 q p:=by
 unfold A4 at*
 rintro(c|⟨c,d⟩)<;>rcases h with a|⟨a,b⟩<;>grind
theorem CG (p:Ah): ¬A4 p p:=fun h=>Cb h h
def DK (l:List Ah):Prop:= ∀p∈l, ¬A4 p (Ac l 0)
theorem GK {α:Type} {R:α→α→Prop} (has: ∀a b,R a b→ ¬R b a): ∀(l m:List α),l.Pairwise R→m.Pairwise R→(∀x,x∈l↔x∈m)→l=m:=by
 intro l
 induction l with
 |nil=>
  intro m _ _ h
  cases m with
  |nil=>rfl
  |cons b m=>exact absurd ((h b).2 List.mem_cons_self) (by simp)
 |cons a l ih=>
  intro m hl hm h
  cases m with
  |nil=>exact absurd ((h a).1 List.mem_cons_self) (by simp)
  |cons b m=>
   obtain⟨l1,l2⟩:=List.pairwise_cons.1 hl
   obtain⟨m1,m2⟩:=List.pairwise_cons.1 hm
   have e:a=b:=by
    rcases List.mem_cons.1 ((h a).1 List.mem_cons_self) with c|c
    ·exact c
    ·rcases List.mem_cons.1 ((h b).2 List.mem_cons_self) with d|d
     ·exact d.symm
     ·exact absurd (l1 b d) (has _ _ (m1 a c))
   subst e
   have irr: ∀x, ¬R x x:=fun x hx=>has x x hx hx
   refine congrArg (a:: ·) (ih m l2 m2 fun x=>⟨fun hx=> ?_,fun hx=> ?_⟩)
   ·rcases List.mem_cons.1 ((h x).1 (List.mem_cons_of_mem _ hx)) with c|c
    ·subst c;exact absurd (l1 x hx) (irr x)
    ·exact c
   ·rcases List.mem_cons.1 ((h x).2 (List.mem_cons_of_mem _ hx)) with c|c
    ·subst c;exact absurd (m1 x hx) (irr x)
    ·exact c
theorem AK {l:List Ah} (h:0<l.length) (i:Nat):Ac l i∈l:=by
 rw[←EH,AF (Nat.mod_lt i h)]
 exact List.getElem_mem _
theorem Db {l:List Ah} {x:Ah} (h:x∈l): ∃i,i<l.length∧Ac l i=x:=by
 obtain⟨i,hi,rfl⟩:=List.getElem_of_mem h
 exact⟨i,hi,AF hi⟩
theorem Qg {A B:List Ah} (hA:Df A) (hB:Df B) (h1: ∀x∈B,MJ A x) (h2: ∀x∈A,MJ B x) (la:DK A) (lb:DK B):A=B:=by
 have a3:=hA.n3;have b3:=hB.n3
 have mem: ∀x,x∈A↔x∈B:=fun x=>by
  constructor
  ·intro hx
   obtain⟨j,hj,rfl⟩:=Db hx
   obtain⟨i,hi,e⟩:=hA.uniq hB (fun i hi=>h1 _ (AK (by omega) i)) (fun i hi=>h2 _ (AK (by omega) i)) hj
   rw[←e];exact AK (by omega) i
  ·intro hx
   obtain⟨j,hj,rfl⟩:=Db hx
   obtain⟨i,hi,e⟩:=hB.uniq hA (fun i hi=>h2 _ (AK (by omega) i)) (fun i hi=>h1 _ (AK (by omega) i)) hj
   rw[←e];exact AK (by omega) i
 have e0:Ac A 0=Ac B 0:=by
  rcases Cy (Ac A 0) (Ac B 0) with c|c|c
  ·exact absurd c (lb _ ((mem _).1 (AK (by omega) 0)))
  ·exact c
  ·exact absurd c (la _ ((mem _).2 (AK (by omega) 0)))
 have prs: ∀ {C:List Ah},Df C→ ∃t,C=Ac C 0::t∧t.Pairwise (fun u v=>0<AG (Ac C 0) u v):=by
  intro C hC
  have c3:=hC.n3
  match C,hC,c3 with
  |c::t,hC,c3=>
   refine⟨t,by rw[AF (by simp)];rfl, ?_⟩
   rw[List.pairwise_iff_getElem]
   intro i j hi hj hij
   have:=hC.tri 0 (i+1) (j+1) (by omega) (by omega) (by simp;omega)
   rw[AF (i:=i+1) (by simp;omega),AF (i:=j+1) (by simp;omega)] at this
   exact this
 obtain⟨s,ea,pa⟩:=prs hA
 obtain⟨t,eb,pb⟩:=prs hB
 rw[←e0] at eb pb
 have has: ∀u v:Ah,0<AG (Ac A 0) u v→ ¬0<AG (Ac A 0) v u:=fun u v h c=>by
  have e:AG (Ac A 0) v u= -AG (Ac A 0) u v:=by unfold AG;grind
  grind
 have notin: ∀ {l:List Ah},l.Pairwise (fun u v=>0<AG (Ac A 0) u v)→2≤l.length→Ac A 0∉l:=by
  intro l hp hl hx
  match l,hp,hl,hx with
  |x::y::l,hp,_,hx=>
   obtain⟨p1,p2⟩:=List.pairwise_cons.1 hp
   rcases List.mem_cons.1 hx with c|c
   ·have:=p1 y List.mem_cons_self
    rw[c,Ks] at this;grind
   ·have:=p1 _ c
    rw[Gx] at this;grind
 have ls:2≤s.length:=by have:=congrArg List.length ea;simp at this;omega
 have lt:2≤t.length:=by have:=congrArg List.length eb;simp at this;omega
 have mm: ∀x,x∈s↔x∈t:=fun x=>by
  constructor
  ·intro hx
   have:x∈B:=(mem x).1 (by rw[ea];exact List.mem_cons_of_mem _ hx)
   rw[eb] at this
   rcases List.mem_cons.1 this with c|c
   ·subst c;exact absurd hx (notin pa ls)
   ·exact c
  ·intro hx
   have:x∈A:=(mem x).2 (by rw[eb];exact List.mem_cons_of_mem _ hx)
   rw[ea] at this
   rcases List.mem_cons.1 this with c|c
   ·subst c;exact absurd hx (notin pb lt)
   ·exact c
 rw[ea,eb,GK has s t pa pb mm]
end
section
def Be (p q:Ah):Bool:=decide (p.1<q.1)||(decide (p.1=q.1)&&decide (p.2<q.2))
theorem Br {p q:Ah}:Be p q=true↔A4 p q:=by unfold Be A4;simp
def Cr (l:List Ah):Nat→Nat
 |0=>0
 |k+1=>if Be (Ac l k) (Ac l (Cr l k)) then k else Cr l k
theorem JH (l:List Ah): ∀k,(Cr l k=0∨Cr l k<k)∧ ∀i,i<k→ ¬A4 (Ac l i) (Ac l (Cr l k)):=by
 intro k
 induction k with
 |zero=>exact⟨Or.inl rfl,fun i h=>by omega⟩
 |succ k ih=>
  unfold Cr
  split
  ·rename_i c
   refine⟨Or.inr (by omega),fun i hi=> ?_⟩
   rcases Nat.eq_or_lt_of_le (show i≤k by omega) with rfl|q
   ·exact CG _
   ·intro hp
    have hc:=Br.1 c
    have a:=ih.2 i q
    -- i < k < the least one
    apply a
    unfold A4 at*
    rcases hp with hp|⟨hp,hp2⟩<;>rcases hc with hc|⟨hc,hc2⟩<;>grind
  ·rename_i c
   refine⟨by rcases ih.1 with a|a<;>omega,fun i hi=> ?_⟩
   rcases Nat.eq_or_lt_of_le (show i≤k by omega) with rfl|q
   ·intro hp;exact c (Br.2 hp)
   ·exact ih.2 i q
def CS (l:List Ah):List Ah:=Qm (Cr l l.length) l
theorem Sj (l:List Ah):Cr l l.length≤l.length:=by
 rcases(JH l l.length).1 with a|a<;>omega
def Jf (f:Bs) (l:List Ah):Bool:=l.any fun p=>decide (f.at p<0)
theorem Qk {f:Bs} {l:List Ah}:Jf f l=true↔ ∃p∈l,f.at p<0:=by unfold Jf;simp
def Do (f:Bs) (l:List Ah):List Ah:=if Jf f l then CS (Cv f l) else[]
end
section
def HR (F:Nat→Rat):Nat→Rat
 |0=>0
 |n+1=>HR F n+F n
def EY (p q:Ah):Rat:=p.1*q.2-q.1*p.2
def C8 (l:List Ah):Rat:=HR (fun i=>EY (Ac l i) (Ac l (i+1))) l.length
theorem S4 {f:Bs} (hf:f.a≠0∨f.b≠0) {o p q:Ah} (ho:f.at o=0) (hp:f.at p=0) (hq:f.at q=0):AG o p q=0:=by
 unfold Bs.at at*
 have e1:f.a*AG o p q=0:=by unfold AG;grind
 have e2:f.b*AG o p q=0:=by unfold AG;grind
 rcases hf with h|h
 ·rcases Rat.mul_eq_zero.1 e1 with a|a
  ·exact absurd a h
  ·exact a
 ·rcases Rat.mul_eq_zero.1 e2 with a|a
  ·exact absurd a h
  ·exact a
theorem HF {u v:Rat}:u*v<0↔(u<0∧0<v)∨(0<u∧v<0):=by
 constructor
 ·intro h
  rcases C1 u 0 with a|a
  ·rcases C1 0 v with b|b
   ·exact Or.inl ⟨a,b⟩
   ·have:=Rat.mul_nonneg (show 0≤ -u by grind) (show 0≤ -v by grind);grind
  ·rcases C1 v 0 with b|b
   ·refine Or.inr ⟨?_,b⟩
    rcases C1 0 u with c|c
    ·exact c
    ·have e:u=0:=by grind
     rw[e] at h;grind
   ·have:=Rat.mul_nonneg a b;grind
 ·rintro(⟨a,b⟩|⟨a,b⟩)
  ·have:=Rat.mul_pos (show 0< -u by grind) b;grind
  ·have:=Rat.mul_pos a (show 0< -v by grind);grind
def MR (f:Bs) (p q:Ah):List Ah:=(if f.at p≤0 then[p] else[])++(if f.at p*f.at q<0 then[FE (f.at p/(f.at p-f.at q)) p q] else[])
theorem N2 (P:Nat→Ah) (n:Nat) (f:Bs):(Dd P (n+1) f).map (Gw P)=(Dd P n f).map (Gw P)++MR f (P n) (P (n+1)):=by
 unfold Dd MR
 rw[List.range_succ,List.flatMap_append,List.map_append]
 congr 1
 rw[List.flatMap_cons,List.flatMap_nil,List.append_nil,List.map_append]
 congr 1
 ·split
  ·show[Gw P (n,0)]=_
   unfold Gw;rw[K3]
  ·rfl
 ·split<;>rfl
end
section
def IH (u1 u2:Rat):Prop:=0<u1∨u1=0∧0<u2
theorem B3 {p q:Ah} (h:A4 p q):IH (q.1-p.1) (q.2-p.2):=by
 unfold A4 at h;unfold IH
 rcases h with h|⟨h,h2⟩
 ·left;grind
 ·right;constructor<;>grind
theorem Rq {u1 u2 v1 v2 w1 w2:Rat} (hu:IH u1 u2) (hv:IH v1 v2) (hw:IH w1 w2) (h1:0≤u1*v2-u2*v1) (h2:0≤v1*w2-v2*w1):0≤u1*w2-u2*w1:=by
 unfold IH at*
 have u0:0≤u1:=by rcases hu with h|⟨h,_⟩<;>grind
 have w0:0≤w1:=by rcases hw with h|⟨h,_⟩<;>grind
 rcases hv with h|⟨h,h3⟩
 ·apply Rl h
  have a:=Rat.mul_nonneg u0 h2
  have b:=Rat.mul_nonneg w0 h1
  grind
 ·subst h
  have e:w1=0:=by
   rcases C1 0 w1 with c|c
   ·have:=Rat.mul_pos h3 c;grind
   ·grind
  subst e
  rcases hw with c|⟨_,c⟩
  ·grind
  ·have:=Rat.mul_nonneg u0 (Rat.le_of_lt c);grind
theorem Kj {u1 u2 v1 v2 w1 w2:Rat} (hu:IH u1 u2) (hv:IH v1 v2) (hw:IH w1 w2) (h1:0<u1*v2-u2*v1) (h2:0≤v1*w2-v2*w1):0<u1*w2-u2*w1:=by
 unfold IH at*
 have u0:0≤u1:=by rcases hu with h|⟨h,_⟩<;>grind
 have v0:0≤v1:=by rcases hv with h|⟨h,_⟩<;>grind
 have u1p:0<u1:=by
  rcases hu with h|⟨h,h3⟩
  ·exact h
  ·subst h
   have:=Rat.mul_nonneg (Rat.le_of_lt h3) v0
   grind
 rcases hw with c|⟨c,c2⟩
 ·rcases hv with h|⟨h,h3⟩
  ·apply Fa h
   have a:=Rat.mul_nonneg u0 h2
   have b:=Rat.mul_pos c h1
   grind
  ·subst h
   have:=Rat.mul_pos h3 c;grind
 ·subst c
  have:=Rat.mul_pos u1p c2;grind
theorem QL {u1 u2 v1 v2 w1 w2:Rat} (hu:IH u1 u2) (hv:IH v1 v2) (hw:IH w1 w2) (h1:0≤u1*v2-u2*v1) (h2:0<v1*w2-v2*w1):0<u1*w2-u2*w1:=by
 unfold IH at*
 have w0:0≤w1:=by rcases hw with h|⟨h,_⟩<;>grind
 rcases hv with h|⟨h,h3⟩
 ·rcases hu with a|⟨a,a2⟩
  ·apply Fa h
   have x:=Rat.mul_pos a h2
   have y:=Rat.mul_nonneg w0 h1
   grind
  ·subst a
   have:=Rat.mul_pos a2 h;grind
 ·subst h
  have:=Rat.mul_nonneg (Rat.le_of_lt h3) w0
  grind
theorem Fe (a b c:Ah):AG a b c=(b.1-a.1)*(c.2-b.2)-(b.2-a.2)*(c.1-b.1):=by unfold AG;grind
theorem Et {p q r:Ah} (h1:A4 p q) (h2:A4 q r):A4 p r:=by
 unfold A4 at*
 rcases h1 with h1|⟨h1,h3⟩<;>rcases h2 with h2|⟨h2,h4⟩<;>grind
theorem SP {a b c p:Ah} (h1:A4 a b) (h2:A4 b c) (h3:A4 c p) (t1:0<AG a b c) (t2:0<AG b c p):0<AG a b p:=by
 rw[Fe] at*
 have x:=Kj (B3 h1) (B3 h2) (B3 h3) t1 (Rat.le_of_lt t2)
 grind
theorem SX {a b c p:Ah} (h1:A4 a b) (h2:A4 b c) (h3:A4 c p) (t1:0<AG a b c) (t2:0<AG b c p):0<AG a c p:=by
 rw[Fe] at*
 have x:=Kj (B3 h1) (B3 h2) (B3 h3) t1 (Rat.le_of_lt t2)
 grind
theorem SN {a b p x:Ah} (h1:A4 a b) (h2:A4 b p) (h3:A4 x b) (t1:0<AG a b p) (t2:0≤AG a b x):0<AG b p x∨0≤AG b p x:=by
 right
 have y:=Rq (u1:=b.1-x.1) (u2:=b.2-x.2) (v1:=b.1-a.1) (v2:=b.2-a.2) (w1:=p.1-b.1) (w2:=p.2-b.2) (B3 h3) (B3 h1) (B3 h2) (by unfold AG at t2;grind) (by rw[Fe] at t1;grind)
 unfold AG;grind
theorem U8 {a b p x:Ah} (h1:A4 a b) (h2:A4 a p) (h3:A4 a x) (t1:AG a b p≤0) (t2:0≤AG a b x):0≤AG a p x:=by
 have y:=Rq (u1:=p.1-a.1) (u2:=p.2-a.2) (v1:=b.1-a.1) (v2:=b.2-a.2) (w1:=x.1-a.1) (w2:=x.2-a.2) (B3 h2) (B3 h1) (B3 h3) (by unfold AG at t1;grind) (by unfold AG at t2;grind)
 unfold AG;grind
def Bu (p:Ah):List Ah→List Ah
 |b::a::t=>if AG a b p≤0 then Bu p (a::t) else b::a::t
 |l=>l
def As (l:List Ah):List Ah:=l.foldl (fun r p=>p::Bu p r) []
def Lf:List Ah→Prop
 |[]=>True
 |a::l=>l.Pairwise (fun b c=>0<AG c b a)∧Lf l
def H5 (X:List Ah):List Ah→Prop
 |b::a::z=>(∀x∈X,0≤AG a b x)∧H5 X (a::z)
 |_=>True
structure HG (X r:List Ah):Prop where
 desc:r.Pairwise (fun p q=>A4 q p)
 mem: ∀p∈r,p∈X
 tri:Lf r
 edge:H5 X r
theorem Qx {X:List Ah} {p:Ah} (hp: ∀x∈X,A4 x p): ∀(r:List Ah),HG X r→ ∀(b:Ah) (z:List Ah),r=b::z→
  (∀x∈X,x=b∨A4 x b∨0≤AG b p x)→(∀m,r.getLast? =some m→ ∀x∈X,x=m∨A4 m x)→
  ∃c y,Bu p r=c::y∧HG X (c::y)∧(∀x∈X,0≤AG c p x)∧(c::y).Pairwise (fun u v=>0<AG v u p)∧(c::y).getLast? =r.getLast? :=by
 intro r
 induction r with
 |nil=>intro _ b z e;exact absurd e (by simp)
 |cons b0 t ih=>
  intro hc b z e hb hm
  obtain⟨rfl,rfl⟩:=List.cons.inj e
  cases t with
  |nil=>
   refine⟨b0,[],I,hc,fun x hx=> ?_,List.pairwise_singleton _ _,I⟩
   rcases hb x hx with rfl|q|q
   ·rw[Gx];grind
   ·rcases hm b0 rfl x hx with rfl|q2
    ·rw[Gx];grind
    ·exact absurd q2 (Cb q)
   ·exact q
  |cons a t=>
   have ab:A4 a b0:=(List.pairwise_cons.1 hc.desc).1 a List.mem_cons_self
   have bp:A4 b0 p:=hp _ (hc.mem _ List.mem_cons_self)
   have ap:A4 a p:=Et ab bp
   have hca:HG X (a::t):=⟨(List.pairwise_cons.1 hc.desc).2,fun q hq=>hc.mem q (List.mem_cons_of_mem _ hq),hc.tri.2,hc.edge.2⟩
   have hE:=hc.edge.1
   unfold Bu
   split
   ·rename_i c
    obtain⟨c',y,e1,e2,e3,e4,e5⟩:=ih hca a t rfl (fun x hx=>by
     rcases Cy x a with q|q|q
     ·exact Or.inr (Or.inl q)
     ·exact Or.inl q
     ·exact Or.inr (Or.inr (U8 ab ap q c (hE x hx)))) (fun m hm'=>hm m (by rw[List.getLast?_cons_cons];exact hm'))
    exact⟨c',y,e1,e2,e3,e4,by rw[e5,List.getLast?_cons_cons]⟩
   ·rename_i c
    have tp:0<AG a b0 p:=by grind
    refine⟨b0,a::t,I,hc,fun x hx=> ?_, ?_,I⟩
    ·rcases Cy x b0 with q|q|q
     ·rcases SN ab bp q tp (hE x hx) with w|w<;>grind
     ·subst q;rw[Gx];grind
     ·rcases hb x hx with rfl|w|w
      ·exact absurd q (CG _)
      ·exact absurd w (Cb q)
      ·exact w
    ·
     have h1: ∀v∈a::t,0<AG v b0 p:=by
      intro v hv
      rcases List.mem_cons.1 hv with rfl|hv
      ·exact tp
      ·have va:A4 v a:=(List.pairwise_cons.1 hca.desc).1 v hv
       have tv:0<AG v a b0:=(List.pairwise_cons.1 hc.tri.1).1 v hv
       exact SX va ab bp tv tp
     rw[List.pairwise_cons]
     refine⟨h1, ?_⟩
     have hd:=(List.pairwise_cons.1 hc.desc)
     have:=List.Pairwise.and hc.tri.1 hd.2
     refine List.Pairwise.imp_of_mem ?_ this
     rintro u v hu hv ⟨t1,t2⟩
     exact SP t2 (hd.1 u hu) bp t1 (h1 u hu)
theorem H5.more {X:List Ah} {p:Ah}: ∀ {l:List Ah},H5 X l→l.Pairwise (fun u v=>0<AG v u p)→H5 (X++[p]) l
 |[],_,_=>trivial
 |[_],_,_=>trivial
 |b::a::z,h,hp=>by
  obtain⟨p1,p2⟩:=List.pairwise_cons.1 hp
  refine⟨fun x hx=> ?_,H5.more h.2 p2⟩
  rcases List.mem_append.1 hx with q|q
  ·exact h.1 x q
  ·rw[List.mem_singleton] at q;subst q
   exact Rat.le_of_lt (p1 a List.mem_cons_self)
theorem IL: ∀(l:List Ah),l.Pairwise A4→HG l (As l)∧(As l).getLast? =l.head? ∧(As l).head? =l.getLast? :=by
 intro l
 -- from the end
 suffices H: ∀n (l:List Ah),l.length=n→l.Pairwise A4→HG l (As l)∧(As l).getLast? =l.head? ∧(As l).head? =l.getLast? from H _ l rfl
 intro n
 induction n with
 |zero=>
  intro l hl _
  have e:l=[]:=List.length_eq_zero_iff.1 hl
  subst e
  exact⟨⟨List.Pairwise.nil,fun _ h=>h,tO,tO⟩,I,I⟩
 |succ n ih=>
  intro l hl hs
  obtain⟨X,p,rfl⟩: ∃X p,l=X++[p]:=⟨l.dropLast,l.getLast (by intro e;subst e;simp at hl),(List.dropLast_concat_getLast _).symm⟩
  obtain⟨s1,_,s3⟩:=List.pairwise_append.1 hs
  obtain⟨i1,i2,i3⟩:=ih X (by simp at hl;exact hl) s1
  have hp: ∀x∈X,A4 x p:=fun x hx=>s3 x hx p List.mem_cons_self
  have eC:As (X++[p])=p::Bu p (As X):=by unfold As;rw[List.foldl_append];rfl
  rw[eC]
  cases hX:As X with
  |nil=>
   rw[hX] at i2
   have e:X=[]:=by
    cases X with
    |nil=>rfl
    |cons x X=>exact absurd i2 (by simp)
   subst e
   refine⟨⟨List.pairwise_singleton _ _,fun q hq=>hq,⟨List.Pairwise.nil,tO⟩,tO⟩,I,I⟩
  |cons b z=>
   rw[hX] at i1 i2 i3
   have hb: ∀x∈X,x=b∨A4 x b:=by
    intro x hx
    have e:X.getLast? =some b:=by rw[←i3];rfl
    obtain⟨Y,rfl⟩: ∃Y,X=Y++[b]:=by
     have:=List.getLast?_eq_some_iff.1 e
     exact this
    rcases List.mem_append.1 hx with q|q
    ·exact Or.inr ((List.pairwise_append.1 s1).2.2 x q b List.mem_cons_self)
    ·exact Or.inl (List.mem_singleton.1 q)
   have hm: ∀m,(b::z).getLast? =some m→ ∀x∈X,x=m∨A4 m x:=by
    intro m e x hx
    rw[i2] at e
    cases X with
    |nil=>exact absurd hx (by simp)
    |cons y X=>
     have e:y=m:=Option.some.inj e
     subst e
     rcases List.mem_cons.1 hx with q|q
     ·exact Or.inl q
     ·exact Or.inr ((List.pairwise_cons.1 s1).1 x q)
   obtain⟨c,y,e1,e2,e3,e4,e5⟩:=Qx hp (b::z) i1 b z rfl (fun x hx=>(hb x hx).elim Or.inl fun q=>Or.inr (Or.inl q)) hm
   rw[e1]
   refine⟨⟨?_, ?_,⟨e4,e2.tri⟩, ?_,(H5.more e2.edge e4)⟩, ?_,by simp⟩
   ·rw[List.pairwise_cons]
    exact⟨fun q hq=>hp q (e2.mem q hq),e2.desc⟩
   ·intro q hq
    rcases List.mem_cons.1 hq with w|w
    ·subst w;simp
    ·exact List.mem_append_left _ (e2.mem q w)
   ·intro x hx
    rcases List.mem_append.1 hx with w|w
    ·exact e3 x w
    ·rw[List.mem_singleton] at w;subst w;rw[Kf];grind
   ·rw[List.getLast?_cons_cons,e5,i2]
    cases X with
    |nil=>rw[i2] at*;simp at i3
    |cons x X=>rfl
end
section
theorem Lf.get: ∀ {l:List Ah},Lf l→ ∀(i j k:Nat) (hij:i<j) (hjk:j<k) (hk:k<l.length),0<AG l[k] l[j] l[i]
 |a::l,h,i,j,k,hij,hjk,hk=>by
  cases i with
  |zero=>
   obtain⟨j,rfl⟩: ∃j',j=j'+1:=⟨j-1,by omega⟩
   obtain⟨k,rfl⟩: ∃k',k=k'+1:=⟨k-1,by omega⟩
   have:=List.pairwise_iff_getElem.1 h.1 j k (by simp at hk;omega) (by simp at hk;omega) (by omega)
   exact this
  |succ i=>
   obtain⟨j,rfl⟩: ∃j',j=j'+1:=⟨j-1,by omega⟩
   obtain⟨k,rfl⟩: ∃k',k=k'+1:=⟨k-1,by omega⟩
   exact Lf.get h.2 i j k (by omega) (by omega) (by simp at hk;omega)
theorem H5.get {X:List Ah}: ∀ {l:List Ah},H5 X l→ ∀(i:Nat) (hi:i+1<l.length), ∀x∈X,0≤AG l[i+1] l[i] x
 |[a],_,i,hi=>by simp at hi
 |b::a::z,h,i,hi=>by
  cases i with
  |zero=>exact h.1
  |succ i=>exact H5.get h.2 i (by simp at hi⊢;omega)
structure JK (S:List Ah) (f:Nat→Ah) (r:Nat):Prop where
 lt: ∀i j,i<j→j≤r→A4 (f i) (f j)
 mem: ∀i,i≤r→f i∈S
 tri: ∀i j k,i<j→j<k→k≤r→0<AG (f i) (f j) (f k)
 edge: ∀i,i<r→ ∀x∈S,0≤AG (f i) (f (i+1)) x
theorem HG.asc {S l:List Ah} (h:HG S l) (h0:0<l.length):JK S (fun i=>Ac l (l.length-1-i)) (l.length-1):=by
 have g: ∀i,i≤l.length-1→ ∃(hi:l.length-1-i<l.length),Ac l (l.length-1-i)=l[l.length-1-i]:=fun i _=>⟨by omega,AF _⟩
 refine⟨?_, ?_, ?_, ?_⟩
 ·intro i j hij hj
  show A4 (Ac l _) (Ac l _)
  rw[AF (by omega),AF (by omega)]
  exact List.pairwise_iff_getElem.1 h.desc _ _ (by omega) (by omega) (by omega)
 ·intro i hi
  exact h.mem _ (AK h0 _)
 ·intro i j k hij hjk hk
  show 0<AG (Ac l _) (Ac l _) (Ac l _)
  rw[AF (i:=l.length-1-i) (by omega),AF (i:=l.length-1-j) (by omega),AF (i:=l.length-1-k) (by omega)]
  exact h.tri.get _ _ _ (by omega) (by omega) (by omega)
 ·intro i hi x hx
  show 0≤AG (Ac l _) (Ac l _) x
  rw[AF (i:=l.length-1-i) (by omega),AF (i:=l.length-1-(i+1)) (by omega)]
  have e:l.length-1-i=l.length-1-(i+1)+1:=by omega
  have:=h.edge.get (l.length-1-(i+1)) (by omega) x hx
  simp only[←e] at this
  exact this
def Bo (p:Ah):Ah:=(-p.1, -p.2)
theorem Gq (a b c:Ah):AG (Bo a) (Bo b) (Bo c)=AG a b c:=by unfold AG Bo;grind
theorem Lq {a b:Ah}:A4 (Bo a) (Bo b)↔A4 b a:=by
 unfold A4 Bo
 constructor<;>rintro(h|⟨h,h2⟩)
 ·left;grind
 ·right;constructor<;>grind
 ·left;grind
 ·right;constructor<;>grind
theorem MA (p:Ah): ∀l:List Ah,Bu (Bo p) (l.map Bo)=(Bu p l).map Bo
 |[]=>rfl
 |[_]=>rfl
 |b::a::t=>by
  show(if AG (Bo a) (Bo b) (Bo p)≤0 then Bu (Bo p) ((a::t).map Bo) else Bo b::Bo a::t.map Bo)=List.map Bo (if AG a b p≤0 then Bu p (a::t) else b::a::t)
  rw[Gq]
  split
  ·exact MA p (a::t)
  ·rfl
theorem OP (l:List Ah):As (l.map Bo)=(As l).map Bo:=by
 have H: ∀(l r:List Ah),(l.map Bo).foldl (fun r p=>p::Bu p r) (r.map Bo)=(l.foldl (fun r p=>p::Bu p r) r).map Bo:=by
  intro l
  induction l with
  |nil=>intro r;rfl
  |cons a l ih=>
   intro r
   show(l.map Bo).foldl _ (Bo a::Bu (Bo a) (r.map Bo))=_
   rw[MA]
   exact ih (a::Bu a r)
 exact H l []
theorem RN {S:List Ah} {a b x u w:Ah} (ab:A4 a b) (xu:A4 x u) (wx:A4 w x) (t:0<AG u x w) (eu: ∀s∈S,0≤AG u x s) (ew: ∀s∈S,0≤AG x w s) (ha:a∈S) (hb:b∈S)
  (nb:A4 b x∨b=x→ ∃c,c∈S∧A4 b c∧0<AG a b c∧0≤AG b c x) (na:A4 x a∨x=a→ ∃z,z∈S∧A4 z a∧0<AG z a b∧0≤AG z a x):AG a b x≠0:=by
 intro h0
 -- three ways about x: D, A, B, C
 have core: ∀c d:Ah,A4 c x→A4 x d→c∈S→d∈S→0≤AG c x d→False:=by
  intro c d hc hd mc md ht
  have DA:0≤(d.1-x.1)*(u.2-x.2)-(d.2-x.2)*(u.1-x.1):=by have:=eu d md;unfold AG at this;grind
  have AB:0<(u.1-x.1)*(x.2-w.2)-(u.2-x.2)*(x.1-w.1):=by unfold AG at t;grind
  have BC:0≤(x.1-w.1)*(x.2-c.2)-(x.2-w.2)*(x.1-c.1):=by have:=ew c mc;unfold AG at this;grind
  have DB:=QL (B3 hd) (B3 xu) (B3 wx) DA AB
  have DC:=Kj (B3 hd) (B3 wx) (B3 hc) DB BC
  rw[Fe] at ht
  grind
 rcases Cy x a with q|q|q
 ·obtain⟨z,mz,za,t1,t2⟩:=na (Or.inl q)
  have h1:0≤(a.1-x.1)*(a.2-z.2)-(a.2-x.2)*(a.1-z.1):=by unfold AG at t2;grind
  have h2:0<(a.1-z.1)*(b.2-a.2)-(a.2-z.2)*(b.1-a.1):=by rw[Fe] at t1;exact t1
  have:=QL (B3 q) (B3 za) (B3 ab) h1 h2
  unfold AG at h0
  grind
 ·subst q
  obtain⟨z,mz,za,t1,t2⟩:=na (Or.inr rfl)
  exact core z b za ab mz hb (Rat.le_of_lt t1)
 rcases Cy x b with q2|q2|q2
 ·refine core a b q q2 ha hb ?_
  have:AG a x b= -AG a b x:=by unfold AG;grind
  rw[this,h0];grind
 ·subst q2
  obtain⟨c,mc,bc,t1,t2⟩:=nb (Or.inr rfl)
  exact core a c ab bc ha mc (Rat.le_of_lt t1)
 ·obtain⟨c,mc,bc,t1,t2⟩:=nb (Or.inl q2)
  have h1:0<(b.1-a.1)*(c.2-b.2)-(b.2-a.2)*(c.1-b.1):=by rw[Fe] at t1;exact t1
  have h2:0≤(c.1-b.1)*(x.2-b.2)-(c.2-b.2)*(x.1-b.1):=by unfold AG at t2;grind
  have:=Kj (B3 ab) (B3 bc) (B3 q2) h1 h2
  rw[Fe] at h0
  grind
theorem JK.strict {S T:List Ah} {f g:Nat→Ah} {r q:Nat} (hf:JK S f r) (hg:JK T (fun i=>Bo (g i)) q) (hT: ∀x,x∈S→Bo x∈T) (hT': ∀x,Bo x∈T→x∈S) (e0:f 0=g q) (e1:f r=g 0) {i l:Nat} (hi:i<r) (h0:0<l) (hl:l<q):0<AG (f i) (f (i+1)) (g l):=by
 have gm: ∀j,j≤q→g j∈S:=fun j hj=>hT' _ (hg.mem j hj)
 have gl: ∀j k,j<k→k≤q→A4 (g k) (g j):=fun j k h1 h2=>Lq.1 (hg.lt j k h1 h2)
 have ge: ∀j,j<q→ ∀s∈S,0≤AG (g j) (g (j+1)) s:=fun j hj s hs=>by
  have:=hg.edge j hj _ (hT s hs);rw[Gq] at this;exact this
 have gt: ∀j k m,j<k→k<m→m≤q→0<AG (g j) (g k) (g m):=fun j k m h1 h2 h3=>by
  have:=hg.tri j k m h1 h2 h3;rw[Gq] at this;exact this
 have nn:=hf.edge i hi (g l) (gm l (by omega))
 have xlt:A4 (g l) (f r):=by rw[e1];exact gl 0 l h0 (by omega)
 have xgt:A4 (f 0) (g l):=by rw[e0];exact gl l q hl (by omega)
 obtain⟨l',rfl⟩: ∃l',l=l'+1:=⟨l-1,by omega⟩
 have ne:=RN (S:=S) (a:=f i) (b:=f (i+1)) (x:=g (l'+1)) (u:=g l') (w:=g (l'+1+1)) (hf.lt _ _ (by omega) (by omega)) (gl _ _ (by omega) (by omega)) (gl _ _ (by omega) (by omega)) (gt _ _ _ (by omega) (by omega) (by omega)) (ge l' (by omega)) (ge (l'+1) (by omega)) (hf.mem _ (by omega)) (hf.mem _ (by omega)) (fun h=>by
   have hr:i+1≠r:=by
    intro e
    rw[e] at h
    rcases h with h|h
    ·exact Cb h xlt
    ·rw[h] at xlt;exact CG _ xlt
   exact⟨f (i+2),hf.mem _ (by omega),hf.lt _ _ (by omega) (by omega),hf.tri _ _ _ (by omega) (by omega) (by omega),hf.edge (i+1) (by omega) _ (gm _ (by omega))⟩) (fun h=>by
   have hr:i≠0:=by
    intro e
    rw[e] at h
    rcases h with h|h
    ·exact Cb h xgt
    ·rw[←h] at xgt;exact CG _ xgt
   obtain⟨i',rfl⟩: ∃i',i=i'+1:=⟨i-1,by omega⟩
   exact⟨f i',hf.mem _ (by omega),hf.lt _ _ (by omega) (by omega),hf.tri _ _ _ (by omega) (by omega) (by omega),hf.edge i' (by omega) _ (gm _ (by omega))⟩)
 grind
theorem Nw {S T:List Ah} {f g:Nat→Ah} {r q:Nat} (hf:JK S f r) (hg:JK T (fun i=>Bo (g i)) q) (hT: ∀x,x∈S→Bo x∈T) (hT': ∀x,Bo x∈T→x∈S) (e0:f 0=g q) (e1:f r=g 0) {P:Nat→Ah} (hP: ∀i,i≤r→P i=f i) (hQ: ∀i,i≤q→P (r+i)=g i) (n3:3≤r+q):Cg P (r+q)∧ ∀x∈S,M6 P (r+q) x:=by
 have ge: ∀j,j<q→ ∀s∈S,0≤AG (g j) (g (j+1)) s:=fun j hj s hs=>by
  have:=hg.edge j hj _ (hT s hs);rw[Gq] at this;exact this
 have gt: ∀j k m,j<k→k<m→m≤q→0<AG (g j) (g k) (g m):=fun j k m h1 h2 h3=>by
  have:=hg.tri j k m h1 h2 h3;rw[Gq] at this;exact this
 have cl:P (r+q)=P 0:=by rw[hQ q (Nat.le_refl _),hP 0 (Nat.zero_le _),e0]
 refine⟨Cg.of_chk n3 cl ?_, ?_⟩
 ·intro i k hi hk h1 h2 h3
  rcases Nat.lt_or_ge i r with c|c
  ·rw[hP i (by omega),hP (i+1) (by omega)]
   rcases Nat.lt_or_ge r k with d|d
   ·obtain⟨l,rfl⟩: ∃l,k=r+l:=⟨k-r,by omega⟩
    rw[hQ l (by omega)]
    exact hf.strict hg hT hT' e0 e1 c (by omega) (by omega)
   ·rw[hP k d]
    rcases Nat.lt_or_ge k i with w|w
    ·rw[←Em];exact hf.tri _ _ _ w (by omega) (by omega)
    ·exact hf.tri _ _ _ (by omega) (by omega) (by omega)
  ·obtain⟨j,rfl⟩: ∃j,i=r+j:=⟨i-r,by omega⟩
   rw[hQ j (by omega),show r+j+1=r+(j+1) by omega,hQ (j+1) (by omega)]
   by_cases k0:k=0
   ·subst k0
    rw[←cl,hQ q (Nat.le_refl _)]
    exact gt _ _ _ (by omega) (by omega) (by omega)
   rcases Nat.lt_or_ge k r with d|d
   ·
    rw[hP k (by omega), ←Gq]
    have hf':JK S (fun i=>Bo (Bo (f i))) r:=by
     have e:(fun i=>Bo (Bo (f i)))=f:=by
      funext i;unfold Bo;ext<;>grind
     rw[e];exact hf
    have nn: ∀x:Ah,Bo (Bo x)=x:=fun x=>by unfold Bo;ext<;>grind
    exact JK.strict (S:=T) (T:=S) (f:=fun i=>Bo (g i)) (g:=fun i=>Bo (f i)) hg hf' (fun x hx=>hT' _ (by rw[nn];exact hx)) (fun x hx=>by have:=hT _ hx;rw[nn] at this;exact this) (by show Bo (g 0)=Bo (f r);rw[e1]) (by show Bo (g q)=Bo (f 0);rw[e0]) (i:=j) (l:=k) (by omega) (by omega) d
   ·obtain⟨l,rfl⟩: ∃l,k=r+l:=⟨k-r,by omega⟩
    rw[hQ l (by omega)]
    rcases Nat.lt_or_ge l j with w|w
    ·rw[←Em];exact gt _ _ _ w (by omega) (by omega)
    ·exact gt _ _ _ (by omega) (by omega) (by omega)
 ·intro x hx i hi
  rcases Nat.lt_or_ge i r with c|c
  ·rw[hP i (by omega),hP (i+1) (by omega)]
   exact hf.edge i c x hx
  ·obtain⟨j,rfl⟩: ∃j,i=r+j:=⟨i-r,by omega⟩
   rw[hQ j (by omega),show r+j+1=r+(j+1) by omega,hQ (j+1) (by omega)]
   exact ge j (by omega) x hx
end
section
def BE (S:List Ah):List Ah:=(As S).tail.reverse++(As S.reverse).tail.reverse
theorem HG.ne {S l:List Ah} (h0:S≠[]) (h2:l.getLast? =S.head?):0<l.length:=by
 cases S with
 |nil=>exact absurd rfl h0
 |cons a S=>
  cases l with
  |nil=>exact absurd h2 (by simp)
  |cons b l=>simp
theorem Q4 {a b:List Ah} {P:Nat→Ah} (ha:0<a.length) (hb:0<b.length) (e0:a.getLast? =b.head?) (e1:a.head? =b.getLast?) (hP:P=Ac (a.tail.reverse++b.tail.reverse)) (hn:0<(a.length-1)+(b.length-1)):
  (a.tail.reverse++b.tail.reverse).length=(a.length-1)+(b.length-1)∧(∀i,i≤a.length-1→P i=Ac a (a.length-1-i))∧(∀i,i≤b.length-1→P (a.length-1+i)=Ac b (b.length-1-i)):=by
 have hlen:(a.tail.reverse++b.tail.reverse).length=(a.length-1)+(b.length-1):=by simp
 have lo: ∀i,i<a.length-1→P i=Ac a (a.length-1-i):=fun i hi=>by
  rw[hP,AF (by rw[hlen];omega),AF (by omega),List.getElem_append_left (by simp;omega),List.getElem_reverse,List.getElem_tail]
  congr 1;simp;omega
 have up: ∀i,i<b.length-1→P (a.length-1+i)=Ac b (b.length-1-i):=fun i hi=>by
  rw[hP,AF (by rw[hlen];omega),AF (by omega),List.getElem_append_right (by simp),List.getElem_reverse,List.getElem_tail]
  congr 1;simp;omega
 have top:Ac a 0=Ac b (b.length-1):=by
  rw[AF ha,AF (by omega)]
  rw[List.head?_eq_getElem?,List.getLast?_eq_getElem?,List.getElem?_eq_getElem ha,List.getElem?_eq_getElem (by omega)] at e1
  exact Option.some.inj e1
 have bot:Ac a (a.length-1)=Ac b 0:=by
  rw[AF hb,AF (by omega)]
  rw[List.head?_eq_getElem?,List.getLast?_eq_getElem?,List.getElem?_eq_getElem hb,List.getElem?_eq_getElem (by omega)] at e0
  exact Option.some.inj e0
 have cl:P ((a.length-1)+(b.length-1))=P 0:=by rw[hP, ←hlen];exact Sf
 have p0:P 0=Ac a (a.length-1):=by
  rcases Nat.eq_zero_or_pos (a.length-1) with c|c
  ·have:=up 0 (by omega)
   rw[c] at this⊢
   rw[show 0+0=0 by rfl] at this
   rw[this,top];rfl
  ·exact lo 0 c
 refine⟨hlen,fun i hi=> ?_,fun i hi=> ?_⟩
 ·rcases Nat.lt_or_ge i (a.length-1) with c|c
  ·exact lo i c
  ·obtain rfl:i=a.length-1:=by omega
   rw[Nat.sub_self,top]
   rcases Nat.eq_zero_or_pos (b.length-1) with d|d
   ·have:=cl
    rw[d,Nat.add_zero,p0,bot] at this
    rw[this,d]
   ·exact up 0 d
 ·rcases Nat.lt_or_ge i (b.length-1) with c|c
  ·exact up i c
  ·obtain rfl:i=b.length-1:=by omega
   rw[cl,p0,bot,Nat.sub_self]
theorem Mj {l:List Ah} (h:l.Pairwise A4):(l.reverse.map Bo).Pairwise A4:=by
 rw[List.pairwise_map,List.pairwise_reverse]
 exact h.imp fun {a b} h=>Lq.2 h
theorem SR {l:List Ah} (h:0<l.length) (i:Nat):Ac (l.map Bo) i=Bo (Ac l i):=by
 rw[←EH, ←EH l]
 have e:(l.map Bo).length=l.length:=by simp
 rw[e,AF (by rw[e];exact Nat.mod_lt i h),AF (Nat.mod_lt i h)]
 exact List.getElem_map Bo
theorem PC {p q a b c:Ah} (hpq:A4 p q) (ha:AG p q a=0) (hb:AG p q b=0) (hc:AG p q c=0):AG a b c=0:=by
 refine S4 (f:=RL p q) ?_ (by rw[E6];exact ha) (by rw[E6];exact hb) (by rw[E6];exact hc)
 unfold RL A4 at*
 rcases hpq with h|⟨_,h⟩
 ·right;grind
 ·left;grind
theorem I7 {S:List Ah} (hs:S.Pairwise A4) (h0:S≠[]):
  (∀p∈BE S,p∈S)∧
  (3≤(BE S).length→Df (BE S)∧(∀x∈S,MJ (BE S) x)∧DK (BE S))∧
  ((BE S).length<3→ ∀a∈S, ∀b∈S, ∀c∈S,AG a b c=0):=by
 obtain⟨c1,c2,c3⟩:=IL S hs
 obtain⟨d1,d2,d3⟩:=IL (S.reverse.map Bo) (Mj hs)
 have eN:As (S.reverse.map Bo)=(As S.reverse).map Bo:=OP _
 rw[eN] at d1 d2 d3
 have a0:0<(As S).length:=HG.ne h0 c2
 have b0:0<(As S.reverse).length:=by
  have:=HG.ne (S:=S.reverse.map Bo) (by simp[h0]) d2
  simpa using this
 have nn: ∀x:Ah,Bo (Bo x)=x:=fun x=>by unfold Bo;ext<;>grind
 have inj: ∀x y:Ah,Bo x=Bo y→x=y:=fun x y h=>by rw[←nn x,h,nn]
 have hT: ∀x,x∈S→Bo x∈S.reverse.map Bo:=fun x hx=>List.mem_map.2 ⟨x,List.mem_reverse.2 hx,rfl⟩
 have hT': ∀x,Bo x∈S.reverse.map Bo→x∈S:=fun x hx=>by
  obtain⟨y,hy,e⟩:=List.mem_map.1 hx
  rw[←inj _ _ e];exact List.mem_reverse.1 hy
 have e0:(As S).getLast? =(As S.reverse).head? :=by
  rw[c2]
  have:(As S.reverse).head?.map Bo=S.head?.map Bo:=by
   rw[←List.head?_map,d3,List.getLast?_map,List.getLast?_reverse]
  cases hA:S.head? with
  |none=>rw[hA] at this;cases hB:(As S.reverse).head? with
   |none=>rfl
   |some y=>rw[hB] at this;exact absurd this (by simp)
  |some x=>rw[hA] at this;cases hB:(As S.reverse).head? with
   |none=>rw[hB] at this;exact absurd this (by simp)
   |some y=>rw[hB] at this;rw[inj _ _ (Option.some.inj this)]
 have e1:(As S).head? =(As S.reverse).getLast? :=by
  rw[c3]
  have:(As S.reverse).getLast?.map Bo=S.getLast?.map Bo:=by
   rw[←List.getLast?_map,d2,List.head?_map,List.head?_reverse]
  cases hA:S.getLast? with
  |none=>rw[hA] at this;cases hB:(As S.reverse).getLast? with
   |none=>rfl
   |some y=>rw[hB] at this;exact absurd this (by simp)
  |some x=>rw[hA] at this;cases hB:(As S.reverse).getLast? with
   |none=>rw[hB] at this;exact absurd this (by simp)
   |some y=>rw[hB] at this;rw[inj _ _ (Option.some.inj this)]
 have hf:=c1.asc a0
 have hg:=d1.asc (by simpa using b0)
 rw[List.length_map] at hg
 have gfun:(fun i=>Ac ((As S.reverse).map Bo) ((As S.reverse).length-1-i))=fun i=>Bo (Ac (As S.reverse) ((As S.reverse).length-1-i)):=by
  funext i;exact SR b0 _
 rw[gfun] at hg
 have memL: ∀p∈As S,p∈S:=c1.mem
 have memU: ∀p∈As S.reverse,p∈S:=fun p hp=>hT' p (d1.mem _ (List.mem_map.2 ⟨p,hp,rfl⟩))
 have mem: ∀p∈BE S,p∈S:=by
  intro p hp
  unfold BE at hp
  rcases List.mem_append.1 hp with q|q
  ·exact memL _ (List.mem_of_mem_tail (List.mem_reverse.1 q))
  ·exact memU _ (List.mem_of_mem_tail (List.mem_reverse.1 q))
 have b1:Ac (As S) ((As S).length-1)=Ac (As S.reverse) 0:=by
  rw[AF b0,AF (by omega)]
  rw[List.head?_eq_getElem?,List.getLast?_eq_getElem?,List.getElem?_eq_getElem b0,List.getElem?_eq_getElem (by omega)] at e0
  exact Option.some.inj e0
 have t1:Ac (As S) 0=Ac (As S.reverse) ((As S.reverse).length-1):=by
  rw[AF a0,AF (by omega)]
  rw[List.head?_eq_getElem?,List.getLast?_eq_getElem?,List.getElem?_eq_getElem a0,List.getElem?_eq_getElem (by omega)] at e1
  exact Option.some.inj e1
 have E0:Ac (As S) ((As S).length-1-0)=Ac (As S.reverse) ((As S.reverse).length-1-((As S.reverse).length-1)):=by rw[Nat.sub_self,Nat.sub_zero,b1]
 have E1:Ac (As S) ((As S).length-1-((As S).length-1))=Ac (As S.reverse) ((As S.reverse).length-1-0):=by rw[Nat.sub_self,Nat.sub_zero,t1]
 have hlen:(BE S).length=((As S).length-1)+((As S.reverse).length-1):=by unfold BE;simp
 have least: ∀x∈S, ¬A4 x (Ac (As S) ((As S).length-1)):=by
  intro x hx hp
  have e:Ac (As S) ((As S).length-1)=S.head h0:=by
   rw[AF (by omega)]
   rw[List.getLast?_eq_getElem?,List.getElem?_eq_getElem (by omega),List.head?_eq_some_head h0] at c2
   exact Option.some.inj c2
  rw[e] at hp
  cases S with
  |nil=>exact h0 rfl
  |cons y S=>
   rcases List.mem_cons.1 hx with q|q
   ·subst q;exact CG _ hp
   ·exact Cb hp ((List.pairwise_cons.1 hs).1 x q)
 refine⟨mem,fun n3=> ?_,fun n3=> ?_⟩
 ·obtain⟨l1,l2,l3⟩:=Q4 (P:=Ac (BE S)) a0 b0 e0 e1 rfl (by omega)
  have H:=Nw hf hg hT hT' E0 E1 (P:=Ac (BE S)) l2 l3 (by omega)
  refine⟨?_,fun x hx=> ?_,fun p hp=> ?_⟩
  ·show Cg (Ac (BE S)) (BE S).length
   rw[hlen];exact H.1
  ·show M6 (Ac (BE S)) (BE S).length x
   rw[hlen];exact H.2 x hx
  ·have e:=l2 0 (Nat.zero_le _)
   rw[Nat.sub_zero] at e
   rw[e]
   exact least p (mem p hp)
 ·intro a ha b hb c hc
  rw[hlen] at n3
  have LE: ∀i j:Nat,i<j→j≤(As S).length-1→A4 (Ac (As S) ((As S).length-1-i)) (Ac (As S) ((As S).length-1-j)):=hf.lt
  have GE: ∀i j:Nat,i<j→j≤(As S.reverse).length-1→A4 (Ac (As S.reverse) ((As S.reverse).length-1-j)) (Ac (As S.reverse) ((As S.reverse).length-1-i)):=fun i j h1 h2=>Lq.1 (hg.lt i j h1 h2)
  by_cases r0:(As S).length-1=0
  ·
   have all: ∀x∈S,x=Ac (As S) 0:=by
    intro x hx
    have g1:S.head h0=Ac (As S) 0:=by
     rw[AF a0]
     rw[List.getLast?_eq_getElem?,List.head?_eq_some_head h0,List.getElem?_eq_getElem (by omega)] at c2
     have:=Option.some.inj c2
     simp only[r0] at this
     exact this.symm
    have g2:S.getLast h0=Ac (As S) 0:=by
     rw[AF a0]
     rw[List.head?_eq_getElem?,List.getLast?_eq_some_getLast h0,List.getElem?_eq_getElem a0] at c3
     exact(Option.some.inj c3).symm
    cases S with
    |nil=>exact absurd rfl h0
    |cons y S=>
     have g1:y=_:=g1
     cases S with
     |nil=>
      rcases List.mem_cons.1 hx with q|q
      ·rw[q];exact g1
      ·exact absurd q (by simp)
     |cons z S=>
      exfalso
      have lm:(y::z::S).getLast h0∈z::S:=by
       rw[List.getLast_cons (by simp)];exact List.getLast_mem _
      have:=(List.pairwise_cons.1 hs).1 _ lm
      rw[g2, ←g1] at this
      exact CG _ this
   rw[all a ha,all b hb,Ks]
  ·have q0:(As S.reverse).length-1≠0:=by
    intro q0
    have x:=LE 0 ((As S).length-1) (by omega) (Nat.le_refl _)
    rw[Nat.sub_zero,Nat.sub_self,b1,t1,q0] at x
    exact CG _ x
   have r1:(As S).length-1=1:=by omega
   have q1:(As S.reverse).length-1=1:=by omega
   have lt:=LE 0 1 (by omega) (by omega)
   rw[r1] at lt
   have z: ∀x∈S,AG (Ac (As S) 1) (Ac (As S) 0) x=0:=by
    intro x hx
    have u1:=hf.edge 0 (by omega) x hx
    have u2:=hg.edge 0 (by omega) (Bo x) (hT x hx)
    rw[Gq] at u2
    simp only[r1,q1] at u1 u2
    have E0':Ac (As S) 1=Ac (As S.reverse) 0:=by rw[←b1,r1]
    have E1':Ac (As S) 0=Ac (As S.reverse) 1:=by rw[t1,q1]
    have u2:0≤AG (Ac (As S.reverse) 1) (Ac (As S.reverse) 0) x:=u2
    rw[←E0', ←E1'] at u2
    have u1:0≤AG (Ac (As S) 1) (Ac (As S) 0) x:=u1
    have:=RC (Ac (As S) 0) (Ac (As S) 1) x
    grind
   exact PC lt (z a ha) (z b hb) (z c hc)
theorem QC {S R:List Ah} (hs:S.Pairwise A4) (h0:S≠[]) (hR:Df R) (hl:DK R) (h1: ∀p∈R,p∈S) (h2: ∀x∈S,MJ R x):BE S=R:=by
 obtain⟨a1,a2,a3⟩:=I7 hs h0
 have r3:=hR.n3
 have n3:3≤(BE S).length:=by
  rcases Nat.lt_or_ge (BE S).length 3 with c|c
  ·exfalso
   have t:=hR.tri 0 1 2 (by omega) (by omega) (by omega)
   have:=a3 c _ (h1 _ (AK (by omega) 0)) _ (h1 _ (AK (by omega) 1)) _ (h1 _ (AK (by omega) 2))
   grind
  ·exact c
 obtain⟨b1,b2,b3⟩:=a2 n3
 exact Qg b1 hR (fun x hx=>b2 x (h1 x hx)) (fun x hx=>h2 x (a1 x hx)) b3 hl
end
section
def If (l:List Ah):Rat:=HR (fun i=>((Ac l i).1+(Ac l (i+1)).1)*EY (Ac l i) (Ac l (i+1))) l.length
def HS (l:List Ah):Rat:=HR (fun i=>((Ac l i).2+(Ac l (i+1)).2)*EY (Ac l i) (Ac l (i+1))) l.length
end
section
def Kn (P:Nat→Ah) (n:Nat) (f:Bs):List Om:=(List.range n).flatMap fun i=>
 (if f.at (P i)=0 then[(i,0)] else[])++(if f.at (P i)*f.at (P (i+1))<0 then[(i,f.at (P i)/(f.at (P i)-f.at (P (i+1))))] else[])
def Ts (P:Nat→Ah) (f:Bs) (i:Nat):List Om:=(if f.at (P i)=0 then[(i,0)] else[])++(if f.at (P i)*f.at (P (i+1))<0 then[(i,f.at (P i)/(f.at (P i)-f.at (P (i+1))))] else[])
theorem PG (P:Nat→Ah) (f:Bs) (i:Nat):(Ts P f i).length≤1:=by
 unfold Ts
 split
 ·rename_i c
  rw[c,if_neg (by grind)]
  simp
 ·split<;>simp
theorem Ma {α β:Type} {g:α→List β} (h: ∀a,(g a).length≤1) (l:List α):(l.flatMap g).length≤l.length:=by
 induction l with
 |nil=>simp
 |cons a l ih=>rw[List.flatMap_cons,List.length_append,List.length_cons];have:=h a;omega
theorem Ol (P:Nat→Ah) (n:Nat) (f:Bs):(Kn P n f).length≤n:=by
 have:=Ma (PG P f) (List.range n)
 rw[List.length_range] at this
 exact this
def E9 (f:Bs) (l:List Ah):List Ah:=(Kn (Ac l) l.length f).map (Gw (Ac l))
theorem Vb {P:Nat→Ah} {n:Nat} (h:Cg P n) {i j:Nat} {t s:Rat} (hij:i<j) (hj:j<n) (t1:t<1) (s0:0≤s) (s1:s<1):Gw P (i,t)≠Gw P (j,s):=by
 have n3:=h.n3
 intro e
 have a:AG (P i) (P (i+1)) (Gw P (i,t))=0:=by unfold Gw;rw[QV,Gx,Kf];grind
 rw[e] at a
 have b:AG (P i) (P (i+1)) (Gw P (j,s))=(1-s)*AG (P i) (P (i+1)) (P j)+s*AG (P i) (P (i+1)) (P (j+1)):=by unfold Gw;rw[QV]
 have x0:=h.side (i:=i) (k:=j) (by omega) (by omega)
 have y0:=h.side (i:=i) (k:=j+1) (by omega) (by omega)
 by_cases c:j=i+1
 ·subst c
  rcases C1 0 s with d|d
  ·have:=SV d s1 x0 (h.str (i:=i) (j:=i+1) (k:=i+1+1) (by omega) (by omega) (by omega) (by omega))
   grind
  ·have es:s=0:=by grind
   subst es
   have e3:Gw P (i+1,0)=P (i+1):=by unfold Gw;rw[K3]
   have e4:FE t (P i) (P (i+1))=P (i+1):=e.trans e3
   have e2:FE t (P i) (P (i+1))=FE 1 (P i) (P (i+1)):=by rw[We];exact e4
   -- a third corner
   obtain⟨k,hk,hp⟩: ∃k,k<n∧0<AG (P i) (P (i+1)) (P k):=by
    by_cases q:i+2<n
    ·exact⟨i+2,q,h.tri _ _ _ (by omega) (by omega) q⟩
    ·exact⟨0,by omega,by rw[←Em];exact h.tri 0 i (i+1) (by omega) (by omega) (by omega)⟩
   have m:=So t 1 (P i) (P (i+1)) (P k)
   rw[e2,Ks] at m
   have:=Rat.mul_pos (show 0<1-t by grind) hp
   grind
 ·have:=SQ s0 s1 (h.str (i:=i) (j:=i+1) (k:=j) (by omega) (by omega) (by omega) (by omega)) y0
  grind
end
section
open Go Go.RowKit Go.Am Go.Lib
set_option maxRecDepth 10000
-- BOXES 3
-- CODE2
theorem T0 (b:UInt8):decide (((b.toNat:Nat):Int)<48)=decide (b.toNat<48):=decide_eq_decide.2 (by omega)
theorem SU (b:UInt8):decide (((b.toNat:Nat):Int)>57)=decide (57<b.toNat):=decide_eq_decide.2 (by omega)
def dgB (s:List UInt8):Bool:=decide (s=decDigits (AV s))
theorem Gb {s:List UInt8}:dgB s=true↔Md s:=by unfold dgB;rw[decide_eq_true_iff];exact Ob.symm
theorem Qs {s:List UInt8} (h: ¬Md s):dgB s=false:=by
 cases e:dgB s
 ·rfl
 ·exact absurd (Gb.1 e) h
theorem GJ (s:List UInt8) (hs:s.length<4611686018427387904):B7 Tryz.prog 83 [str s] (.bool (dgB s)):=by
 intro W
 refine Ae Tryz.func83 I I I ?_
 refine zA (zB (wP I (Aa (AT (Au (Au ?_))))))
 refine AM (X:=Unit) (fun _=>[(0,str s),(16, .bool (decide (s=[]∨(1<s.length∧s[0]? =some 48))))]) (fun _=>[]) (fun _=>True) ?_ ?_
 ·refine zB (wP I (wP I ?_))
  refine Al 5 (.int .i64 (s.length:Nat)) I (congrArg (fun n:Nat=>Value.int .i64 (n:Int)) (AH s)) ?_
  refine wP I ?_
  by_cases h0:s=[]
  ·refine wU 6 true I (by rw[h0];rfl) (wP I ?_)
   iterate 8 refine Aw I I ?_
   exact wP I (Aa (At () tO ⟨I,by rw[dT (Or.inl h0)];rfl,tO⟩ [] I))
  ·have hpos:0<s.length:=List.length_pos_iff.2 h0
   refine wU 6 false I (by rw[beq_eq_false_iff_ne];omega) (wP I (wP I (wP I ?_)))
   refine Al 9 (.int .i64 (s.length:Nat)) I (congrArg (fun n:Nat=>Value.int .i64 (n:Int)) (AH s)) ?_
   refine wP I ?_
   by_cases h1:1<s.length
   ·refine wU 10 true I (dT (by omega)) ?_
    obtain⟨b,hb⟩: ∃b,s[0]? =some b:=⟨s[0],List.getElem?_eq_getElem hpos⟩
    refine wP I (wP I ?_)
    refine Bp 0 tH I I I I I I I I hb ?_
    refine wP I (wU 14 (decide (b=48)) I (Fy b 48) (wP I (wP I (Aa ?_))))
    refine At () tO ⟨I, ?_,tO⟩ [] I
    have e:decide (s=[]∨(1<s.length∧s[0]? =some 48))=decide (b=48):=by
     rw[decide_eq_decide,hb]
     constructor
     ·rintro(h|⟨_,h⟩)
      ·exact absurd h h0
      ·exact Option.some.inj h
     ·intro h;exact .inr ⟨h1,by rw[h]⟩
    rw[e];rfl
   ·refine wU 10 false I (dF (by omega)) (wP I ?_)
    iterate 3 refine Aw I I ?_
    exact wP I (wP I (Aa (At () tO ⟨I,by rw[show decide (s=[]∨1<s.length∧s[0]? =some 48)=false from dF (fun h=>h.elim h0 (fun h=>h1 h.1))];rfl,tO⟩ [] I)))
 intro _ _
 refine AA I (fun hc=> ?_) (fun hc=> ?_)
 ·have hc:=of_decide_eq_true hc
  refine zA (zB (wP I (Aa (zE (zO (zP ?_))))))
  refine wR1 I I ?_
  rw[Qs fun h=> ?_]
  rcases hc with hc|⟨h1,h2⟩
  ·exact h.ne hc
  ·exact h.lead h1 h2
 have hc:=of_decide_eq_false hc
 have hne:s≠[]:=fun h=>hc (.inl h)
 have hlead:1<s.length→s[0]? ≠some 48:=fun h1 h2=>hc (.inr ⟨h1,h2⟩)
 refine zI (zE (zA (zA (zB (wP I (Aa (zE (zH ?_))))))))
 refine A9 (X:=Nat) (fun i=>[(0,str s),(3, .int .i64 (i:Nat))]) (fun _=>[]) (fun i=>i≤s.length∧ ∀b∈s.take i,D7 b=true) (fun i=>s.length-i) 0 ⟨Nat.zero_le _,fun b hb=>by simp at hb⟩ ⟨I,I,tO⟩ [] I ?_
 rintro i ⟨hi,hdg⟩
 have hi:i≤s.length:=hi
 have hdg: ∀b∈s.take i,D7 b=true:=hdg
 refine zA (zA (zB (wP I (wP I (wP I ?_)))))
 refine Al 19 (.int .i64 (s.length:Nat)) I (congrArg (fun n:Nat=>Value.int .i64 (n:Int)) (AH s)) ?_
 refine wP I ?_
 by_cases hlt:i<s.length
 ·refine wU 20 true I (dT (by omega)) (Aa (zE (zR I (zI (zE (zA (zH (zA (zB ?_)))))))))
  obtain⟨b,hb⟩: ∃b,s[i]? =some b:=⟨s[i],List.getElem?_eq_getElem hlt⟩
  have hbm:b∈s:=List.mem_of_getElem? hb
  refine wP I (wP I ?_)
  refine Bp i tH I I I I I I I I hb ?_
  refine wP I ?_
  by_cases h48:b.toNat<48
  ·refine wU 26 true I ((T0 b).trans (dT h48)) (wP I ?_)
   iterate 4 refine Aw I I ?_
   refine wP I (Aa (zE (zR I (zA (zB (wP I (Aa (zE (zO (zQ (zP (zP (zQ ?_)))))))))))))
   refine zP ?_
   refine wR1 I I ?_
   rw[Qs fun h=>by have:=Cx.1 (h.all b hbm);omega]
  ·refine wU 26 false I ((T0 b).trans (dF h48)) (wP I (wP I (wP I ?_)))
   refine Bp i tH I I I I I I I I hb ?_
   refine wP I ?_
   by_cases h57:57<b.toNat
   ·refine wU 31 true I ((SU b).trans (dT h57)) (wP I (Aa (zE (zR I (zA (zB (wP I (Aa (zE (zO (zQ (zP (zP ?_)))))))))))))
    refine zQ (zP ?_)
    refine wR1 I I ?_
    rw[Qs fun h=>by have:=Cx.1 (h.all b hbm);omega]
   ·refine wU 31 false I ((SU b).trans (dF h57)) (wP I (Aa (zE (zS I (zI (zN (zE (zB (wP I (wP I (wV 22 ((i+1:Nat):Int) I (Av (by omega)) (wP I (Aa ?_)))))))))))))
    refine A0 (i+1) ⟨hlt,fun c hc=> ?_⟩ (by show s.length-(i+1)<s.length-i;omega) ⟨I,I,tO⟩ [] I
    rw[List.take_add_one,hb,List.mem_append] at hc
    rcases hc with hc|hc
    ·exact hdg c hc
    ·obtain rfl:c=b:=by simpa using hc
     exact Cx.2 ⟨by omega,by omega⟩
 ·refine wU 20 false I (dF (by omega)) (Aa (zE (zS I (zJ (zK (zK (zL (zE (zA (zB (wP I (Aa (zE ?_)))))))))))))
  refine zO ?_
  refine wR1 I I ?_
  rw[List.take_of_length_le (by omega)] at hdg
  rw[Gb.2 ⟨hne,hdg,hlead⟩]
theorem OM (a b:Nat) (ha:a<9223372036854775808) (hb:b<9223372036854775808):B7 Tryz.prog 84 [.int .i64 (a:Nat), .int .i64 (b:Nat)] (.int .i64 (Nat.gcd a b:Nat)):=by
 intro W
 refine Ae Tryz.func84 I I I ?_
 refine zA (zB (wP I (Aa (zE (zA (zH ?_))))))
 refine A9 (X:=Nat×Nat) (fun x=>[(0, .int .i64 (x.1:Nat)),(1, .int .i64 (x.2:Nat))]) (fun _=>[]) (fun x=>x.1<9223372036854775808∧x.2<9223372036854775808∧Nat.gcd x.1 x.2=Nat.gcd a b) (fun x=>x.2) (a,b) ⟨ha,hb,I⟩ ⟨I,I,tO⟩ [] I ?_
 rintro⟨x,y⟩ ⟨hx,hy,hg⟩
 have hx:x<9223372036854775808:=hx
 have hy:y<9223372036854775808:=hy
 have hg:Nat.gcd x y=Nat.gcd a b:=hg
 refine zA (zA (zB (wP I (wP I (Aa (zE ?_))))))
 by_cases h0:y=0
 ·refine Bf 6 (.bool false) I (congrArg Value.bool (by rw[bne_eq_false_iff_eq];omega)) ?_
  exact zS I (zJ (zK (zK (zL (zE (zA (zB (wP I (wP I (Aa (zE (zO (wR1 I I (by rw[←hg,h0,Nat.gcd_zero_right]))))))))))))))
 ·refine Bf 6 (.bool true) I (congrArg Value.bool (by rw[bne_iff_ne];omega)) ?_
  refine zR I (zI (zE (zH (zU (qP I (qP I (qP I ?_)))))))
  refine Ex I I I I I (by omega) ?_
  refine qP I (qP I (AJ (Aa (zN ?_))))
  have hr:x%y<y:=Nat.mod_lt _ (by omega)
  exact A0 (y,x%y) ⟨hy,Nat.lt_trans hr hy,by show Nat.gcd y (x%y)=_;rw[Nat.gcd_comm, ←Nat.gcd_rec,Nat.gcd_comm];exact hg⟩ hr ⟨I,I,tO⟩ [] I
theorem Ec (s:List UInt8) (hs:s.length≤18) (hd: ∀b∈s,D7 b=true):B7 Tryz.prog 85 [str s] (.int .i64 (AV s:Nat)):=by
 intro W
 have hlt: ∀i,AV (s.take i)<1000000000000000000:=fun i=>by
  have h1:=F0 (s.take i).length (s:=s.take i) rfl fun b hb=>hd b (List.mem_of_mem_take hb)
  have h2:(s.take i).length≤18:=by rw[List.length_take];omega
  exact Nat.lt_of_lt_of_le h1 (Nat.pow_le_pow_right (by decide) h2)
 refine Ae Tryz.func85 I I I ?_
 refine zA (zB (wP I (Aa (zE (zA (zB (wP I (Aa (zE (zA (zA (zB (wP I ?_)))))))))))))
 refine Aa (zE (zH ?_))
 refine A9 (X:=Nat) (fun i=>[(0,str s),(3, .int .i64 (AV (s.take i):Nat)),(4, .int .i64 (i:Nat))]) (fun _=>[]) (fun i=>i≤s.length) (fun i=>s.length-i) 0 (Nat.zero_le _) ⟨I,I,I,tO⟩ [] I ?_
 intro i hi
 have hi:i≤s.length:=hi
 refine zA (zA (zB (wP I (wP I (wP I ?_)))))
 refine Al 7 (.int .i64 (s.length:Nat)) I (congrArg (fun n:Nat=>Value.int .i64 (n:Int)) (AH s)) ?_
 refine wP I ?_
 by_cases h:i<s.length
 ·refine wU 8 true I (dT (by omega)) (Aa (zE (zR I (zI (zE (zA (zH (zB ?_))))))))
  obtain⟨b,hb⟩: ∃b,s[i]? =some b:=⟨s[i],List.getElem?_eq_getElem h⟩
  have hdb:=Cx.1 (hd b (List.mem_of_getElem? hb))
  have e1:AV (s.take (i+1))=10*AV (s.take i)+(b.toNat-48):=by
   rw[List.take_add_one,hb];exact Da _ _
  have l1:=hlt i
  have l2:=hlt (i+1)
  refine wP I (wP I (wV 12 ((10*AV (s.take i):Nat):Int) I (show w64 (10*(AV (s.take i):Nat))=_ by rw[Ak (by omega) (by omega)];omega) (wP I (wP I ?_))))
  refine Bp i tH I I I I I I I I hb ?_
  refine wP I ?_
  refine Al 16 (.int .u8 ((b.toNat-48:Nat):Int)) I (congrArg (Value.int .u8) (show IntKind.u8.wrap ((b.toNat:Nat)-48)=_ by
   simp only[IntKind.wrap,IntKind.signed,IntKind.bits];simp;omega)) ?_
  refine F9 Tryz.underlying5 Tryz.underlying3 I I I I ?_
  exact wV 17 ((b.toNat-48:Nat):Int) I (BN (by omega)) (wP I (wV 18 ((AV (s.take (i+1)):Nat):Int) I (show w64 (((10*AV (s.take i):Nat):Int)+((b.toNat-48:Nat):Int))=_ by rw[Ak (by omega) (by omega),e1];omega) (wP I (Aa (zN (zE (zB (wP I (wP I (wV 10 ((i+1:Nat):Int) I (Av (by omega)) (wP I (Aa (A0 (i+1) h (by show s.length-(i+1)<s.length-i;omega) ⟨I,I,I,tO⟩ [] I)))))))))))))
 ·refine wU 8 false I (dF (by omega)) (Aa (zE (zS I (zJ (zK (zK (zL (zE (zA (zB (wP I (wP I (Aa ?_)))))))))))))
  exact zE (zO (wR1 I I (by rw[List.take_of_length_le (by omega)])))
-- BOXES 3
-- CODE2
section
variable {r:Option Nat} {n:Nat} {P:Program} {N:Nat} {D:List Deferred} {ops:List Oper} {Q:Exit→Act→World→Prop} {o:Oper} {rest:List Oper} {env:Env} {A:World→Prop} {A2:World→Prop} {R:Act→World→Prop}
theorem Th {T:Tbl} {i:TI} {ρ:Operand→Value} {a:List UInt8} {t:TypeId} {x y:Operand} {k:IntKind} (l:Nat) (hT:Go.Am.okB P T=true) (ho:o.op= .slice t x none (some y) none) (ht:BX T t=some i) (hk:i.kind=1)
  (hx:ρ x=str a) (hy:ρ y= .int k l) (h1:l≤a.length) (W:World):(execOp ρ o).run P W= .ok (.value (str (a.take l))) W:=by
 have hu:=FT (Bw hT ht) hk
 have hsz:(⟨a.toArray⟩:ByteArray).size=a.length:=by show a.toArray.size=_;simp
 have e:(⟨a.toArray⟩:ByteArray).extract 0 l=⟨(a.take l).toArray⟩:=by
  apply ByteArray.ext
  rw[ByteArray.data_extract]
  apply Array.toList_inj.1
  simp[List.extract_eq_take_drop]
 simp[execOp,ho,Instr.sliceAt,Instr.slice,Instr.sliceBounds,Instr.sliceBound,hx,hy,asIntOf,run_underlying hu,hsz,h1,e]
theorem UK (l:Nat) {T:Tbl} {i:TI} {a:List UInt8} {d:Nat} {t:TypeId} {x y:Operand} {k:IntKind} {z:Int} (hT:Go.Am.okB P T=true) (hg:A6 ops N env o=some true) (hd:o.dst=some d) (ho:o.op= .slice t x none (some y) none) (ht:BX T t=some i) (hk:i.kind=1)
  (hx:evO N env x=some (str a)) (hy:evO N env y=some (.int k z)) (hz:z=l) (h1:l≤a.length)
  (hn:WQ P N D ops A2 R rest ((d,str (a.take l))::env) A):WQ P N D ops A2 R (o::rest) env A:=
 C4 hg hd (fun c e=>by rw[ho] at e;cases e) (fun ρ W hρ _=>Th l hT ho ht hk (hρ _ _ hx) (by rw[←hz];exact hρ _ _ hy) h1 W) hn
end
section
variable {n:Nat} {P:Program} {W0:World} {N:Nat} {env:Env} {bxs:List Bx}
theorem Kg {fn:Func} {T:Tbl} {r1 r2 r3 r4:ResultVar} {v1 v2 v3 v4:Value} {X:Type} {val:X→Value} {Φ:X→Prop} {nb:X→List Bx} (hT:Go.Am.okB P T=true) (hr:fn.results= #[r1,r2,r3,r4])
  (h1:Res P T env bxs N r1 v1) (h2:Res P T env bxs N r2 v2) (h3:Res P T env bxs N r3 v3) (h4:Res P T env bxs N r4 v4)
  (x:X) (hv: .tuple #[v1,v2,v3,v4]=val x) (hx:Φ x) (hnb: ∀W,Hp W0 bxs W→A3 W0 W (nb x)):NE N [] (GU P fn W0 val Φ nb) .ret env (Hp W0 bxs):=
 LI (rvs:=[r1,r2,r3,r4]) (vs:=[v1,v2,v3,v4]) hT hr rfl (fun i h _=>by
  match i,h with
  |0,_=>exact h1
  |1,_=>exact h2
  |2,_=>exact h3
  |3,_=>exact h4
  |i+4,h=>exact absurd h (by show¬i+4<4;omega)) x (by simpa using hv) hx hnb
end
def Ps (a:List UInt8):Value:= .tuple #[.bool (hasPrefix a [45]),str (cut (trimPrefix a [45]) [47]).1,str (cut (trimPrefix a [45]) [47]).2.1, .bool (cut (trimPrefix a [45]) [47]).2.2]
theorem F2 (a:List UInt8) (ha:a.length<4611686018427387904):B7 Tryz.prog 82 [str a] (Ps a):=by
 intro W
 refine Ae Tryz.func82 I I I ?_
 refine zA (zB (wP I (wP I (wP I (wP I (Aa (zE (zA (zB (wP I (wP I (Aa (AT ?_)))))))))))))
 refine Au ?_
 refine AM (X:=Unit) (fun _=>[(6,str a),(7, .bool (hasPrefix a [45]))]) (fun _=>[]) (fun _=>True) ?_ ?_
 ·refine zB (wP I (wP I ?_))
  refine Al 11 (.int .i64 (a.length:Nat)) I (congrArg (fun n:Nat=>Value.int .i64 (n:Int)) (AH a)) ?_
  refine wP I ?_
  cases ea:a with
  |nil=>
   refine Al 12 (.bool false) I I ?_
   refine wP I ?_
   iterate 3 refine Aw I I ?_
   exact wP I (wP I (Aa (At () tO ⟨I,I,tO⟩ [] I)))
  |cons b t=>
   refine wU 12 true I (dT (by show(((b::t).length:Nat):Int)>0;rw[List.length_cons];omega)) (wP I (wP I ?_))
   refine Bp 0 tH I I I I I I I I (show(b::t)[0]? =some b from I) ?_
   exact wP I (wU 16 (hasPrefix (b::t) [45]) I ((Fy b 45).trans (by rw[Bt];exact decide_eq_decide.2 (by simp))) (wP I (wP I (Aa (At () tO ⟨I,I,tO⟩ [] I)))))
 intro _ _
 refine zA (zA (zB (wP I (Aa (AT ?_)))))
 try refine Au ?_
 obtain⟨b,hb⟩: ∃b,b=trimPrefix a [45]:=⟨_,rfl⟩
 have hbl:b.length≤a.length:=by rw[hb,Bb];split<;>simp
 refine AM (X:=Unit) (fun _=>[(6,str b),(7, .bool (hasPrefix a [45]))]) (fun _=>[]) (fun _=>True) ?_ ?_
 ·refine AA I (fun hm=> ?_) (fun hm=> ?_)
  ·have hm:a[0]? =some 45:=by rw[Bt] at hm;exact of_decide_eq_true hm
   have h1:1≤a.length:=(List.getElem?_eq_some_iff.1 hm).1
   refine zB (wP I ?_)
   refine Kk 1 tH I I I I I I I I h1 ?_
   exact wP I (Aa (At () tO ⟨by rw[hb,Bb,if_pos hm];rfl,I,tO⟩ [] I))
  ·have hm: ¬a[0]? =some 45:=by rw[Bt] at hm;exact of_decide_eq_false hm
   exact zI (At () tO ⟨by rw[hb,Bb,if_neg hm];rfl,I,tO⟩ [] I)
 intro _ _
 refine zA (zA (zB (wP I (Aa (zE (zH ?_))))))
 refine A9 (X:=Nat) (fun i=>[(6,str b),(7, .bool (hasPrefix a [45])),(8, .int .i64 (i:Nat))]) (fun _=>[]) (fun i=>i≤b.length∧47∉b.take i) (fun i=>b.length-i) 0 ⟨Nat.zero_le _,by simp⟩ ⟨I,I,I,tO⟩ [] I ?_
 rintro i ⟨hi,hno⟩
 have hi:i≤b.length:=hi
 have hno:47∉b.take i:=hno
 refine zA (zA (zB (wP I (wP I (wP I ?_)))))
 refine Al 23 (.int .i64 (b.length:Nat)) I (congrArg (fun n:Nat=>Value.int .i64 (n:Int)) (AH b)) ?_
 refine wP I ?_
 by_cases hlt:i<b.length
 ·refine wU 24 true I (dT (by omega)) (Aa (zE (zR I (zI (zE (zA (zH (zA (zB ?_)))))))))
  obtain⟨c,hc⟩: ∃c,b[i]? =some c:=⟨b[i],List.getElem?_eq_getElem hlt⟩
  refine wP I (wP I ?_)
  refine Bp i tH I I I I I I I I hc ?_
  refine wP I (wU 30 (decide (c=47)) I (Fy c 47) (Aa (zE ?_)))
  refine AA I (fun h47=> ?_) (fun h47=> ?_)
  ·have h47:c=47:=of_decide_eq_true h47
   have eb:b=b.take i++47::b.drop (i+1):=by
    conv=>lhs;rw[←List.take_append_drop i b]
    rw[List.drop_eq_getElem_cons hlt]
    have:b[i]=47:=by rw[List.getElem?_eq_getElem hlt] at hc;rw[Option.some.inj hc];exact h47
    rw[this]
   have ec:=F4 (b.drop (i+1)) hno
   rw[←eb,hb] at ec
   refine zA (zU (qP I (qP I (qP I ?_))))
   refine UK i tH I I I I I I I I (by omega) ?_
   refine qP I (qP I (qP I (qV 37 ((i+1:Nat):Int) I (Av (by omega)) ?_)))
   refine Np (i+1) tH I I I I I I I I (by omega) ?_
   exact qP I (qP I (qP I (qP I (AJ (Aa (zE (zO (zQ (zP (zP (zQ (zP (Kg tH I (.tmp I) (.tmp I) (.tmp I) (.tmp I) () (by rw[Ps,ec,hb]) tO fun W _=>A3.nil _ _)))))))))))))
  ·have h47: ¬c=47:=of_decide_eq_false h47
   refine zI (zN (zE (zB (wP I (wP I (wV 26 ((i+1:Nat):Int) I (Av (by omega)) (wP I (Aa ?_))))))))
   refine A0 (i+1) ⟨hlt,fun h=> ?_⟩ (by show b.length-(i+1)<b.length-i;omega) ⟨I,I,I,tO⟩ [] I
   rw[List.take_add_one,hc,List.mem_append] at h
   rcases h with h|h
   ·exact hno h
   ·exact h47 (by simpa using h:(47:UInt8)=c).symm
 ·refine wU 24 false I (dF (by omega)) (Aa (zE (zS I (zJ (zK (zK (zL (zE (zA (zB ?_))))))))))
  rw[List.take_of_length_le (by omega)] at hno
  have ec:=En hno
  rw[hb] at ec
  iterate 6 refine wP I ?_
  exact Aa (zE (zO (Kg tH I (.tmp I) (.tmp I) (.tmp I) (.tmp I) () (by rw[Ps,ec,hb]) tO fun W _=>A3.nil _ _)))
theorem QZ {z:Int} {d:Nat} (_hd:1≤d):hasPrefix (FJ z d) [45]=decide (z<0)∧cut (trimPrefix (FJ z d) [45]) [47]=(decDigits z.natAbs,if d=1 then[] else decDigits d,decide (d≠1)):=by
 have hn47:(47:UInt8)∉decDigits z.natAbs:=fun h=>by have:=EM _ _ h;exact absurd this.1 (by decide)
 have hp: ∀r,hasPrefix (itoa z++r) [45]=decide (z<0):=fun r=>by
  rw[Bt]
  unfold itoa
  split
  ·rename_i h;rw[dT h];rfl
  ·rename_i h
   rw[dF h]
   obtain⟨b,t,hb,h3,_⟩:=Cz z.toNat
   rw[hb]
   refine dF fun e=> ?_
   have e:b=45:=by simpa using e
   rw[e] at h3;exact absurd h3 (by decide)
 have ht: ∀r,trimPrefix (itoa z++r) [45]=decDigits z.natAbs++r:=fun r=>by
  have h1:=hp r
  rw[Bb]
  rw[Bt] at h1
  by_cases hz:z<0
  ·rw[dT hz] at h1
   rw[if_pos (of_decide_eq_true h1)]
   unfold itoa
   rw[if_pos hz];rfl
  ·rw[dF hz] at h1
   rw[if_neg (of_decide_eq_false h1)]
   unfold itoa
   rw[if_neg hz,show z.toNat=z.natAbs by omega]
 unfold FJ
 by_cases h1:d=1
 ·rw[if_pos h1]
  have e1:=hp []
  have e2:=ht []
  rw[List.append_nil] at e1 e2
  rw[List.append_nil] at e2
  exact⟨e1,by rw[e2,En hn47,if_pos h1,h1];rfl⟩
 ·rw[if_neg h1]
  exact⟨hp _,by rw[ht,F4 _ hn47,if_neg h1,dT (show d≠1 from h1)]⟩
theorem MS (q:Rat):Ps (Af q)= .tuple #[.bool (decide (q.num<0)),str (decDigits q.num.natAbs),str (if q.den=1 then[] else decDigits q.den), .bool (decide (q.den≠1))]:=by
 obtain⟨h1,h2⟩:=QZ (z:=q.num) q.den_pos
 unfold Ps Af
 rw[h1,h2]
def Ew (q:Rat):Bool:=decide ((decDigits q.num.natAbs).length≤9)&&(decide (q.den=1)||decide ((decDigits q.den).length≤9))
theorem Lj {n:Nat} (h:(decDigits n).length≤9):n<1000000000:=Nat.lt_of_lt_of_le (FM n) (Nat.pow_le_pow_right (by decide) h)
theorem Jd {q:Rat} (h:Ew q=true):q.num.natAbs<1000000000∧q.den<1000000000:=by
 unfold Ew at h
 simp only[Bool.and_eq_true,Bool.or_eq_true,decide_eq_true_eq] at h
 refine⟨Lj h.1, ?_⟩
 rcases h.2 with e|e
 ·rw[e];decide
 ·exact Lj e
theorem Q3 (q:Rat) (hl:(Af q).length<4611686018427387904):B7 Tryz.prog 120 [str (Af q)] (if Ew q=true then .tuple #[.int .i64 q.num, .int .i64 (q.den:Nat), .bool true] else .tuple #[.int .i64 0, .int .i64 0, .bool false]):=by
 intro W
 obtain⟨n,hn⟩: ∃n,n=decDigits q.num.natAbs:=⟨_,rfl⟩
 obtain⟨e,he⟩: ∃e,e=(if q.den=1 then[] else decDigits q.den):=⟨_,rfl⟩
 have hsp:Ap Tryz.prog 82 #[str (Af q)] W (fun _:Unit=> .tuple #[.bool (decide (q.num<0)),str n,str e, .bool (decide (q.den≠1))]) (fun _=>True) (fun _=>[]):=(F2 (Af q) hl W).cast (by rw[MS,hn,he])
 have hsh:Ew q=(decide (n.length≤9)&&decide (e.length≤9)):=by
  unfold Ew
  rw[hn,he]
  by_cases h1:q.den=1
  ·rw[if_pos h1,dT h1];rfl
  ·rw[if_neg h1,dF h1,Bool.false_or]
 have hnd: ∀b∈n,D7 b=true:=by rw[hn];exact(GD _).all
 refine Ae Tryz.func120 I I I ?_
 refine zA (zB (wP I (wP I (wP I (Aa (zE (zA (zB (wP I (wC I I (fun W1 hp=>(F2 (Af q) hl W1).cast (v':= .tuple #[.bool (decide (q.num<0)),str n,str e, .bool (decide (q.den≠1))]) (by rw[MS,hn,he])) ?_))))))))))
 iterate 9 refine wP I ?_
 refine Aa ?_
 by_cases hs:Ew q=true
 ·rw[if_pos hs]
  have hs2:=hs
  rw[hsh,Bool.and_eq_true,decide_eq_true_eq,decide_eq_true_eq] at hs2
  obtain⟨hs2,hs3⟩:=hs2
  obtain⟨l1,l2⟩:=Jd hs
  refine zE (zA (zA (zB (wP I (wP I ?_)))))
  refine Al 19 (.int .i64 (n.length:Nat)) I (congrArg (fun n:Nat=>Value.int .i64 (n:Int)) (AH n)) ?_
  refine wP I (wU 20 false I (dF (by omega)) (wP I (wP I (wP I ?_))))
  refine Al 23 (.int .i64 (e.length:Nat)) I (congrArg (fun n:Nat=>Value.int .i64 (n:Int)) (AH e)) ?_
  refine wP I (wU 24 false I (dF (by omega)) (wP I (Aa (zE (zS I (zI (zE (zA (zB (wP I (wC I I (fun W1 hp=>(Ec n (by omega) hnd W1).cast (v':= .int .i64 (q.num.natAbs:Nat)) (by rw[hn,Cu])) (wP I (wP I ?_)))))))))))))
  refine Aa (zE (zA (zA (zB (wP I (Aa (AT ?_)))))))
  try refine Au ?_
  refine AM (X:=Unit) (fun _=>[(5, .bool (decide (q.num<0))),(9, .int .i64 (q.num.natAbs:Nat)),(10, .int .i64 (q.den:Nat))]) (fun _=>[]) (fun _=>True) ?_ ?_
  ·refine AA I (fun h1=> ?_) (fun h1=> ?_)
   ·have h1:q.den≠1:=of_decide_eq_true h1
    have e1:e=decDigits q.den:=by rw[he,if_neg h1]
    exact zB (wP I (wC I I (fun W1 hp=>(Ec e (by omega) (by rw[e1];exact(GD _).all) W1).cast (v':= .int .i64 (q.den:Nat)) (by rw[e1,Cu])) (wP I (Aa (At () tO ⟨I,I,I,tO⟩ [] I)))))
   ·have h1:q.den=1:=Decidable.byContradiction fun h=>absurd h1 (by rw[dT h];decide)
    exact zI (At () tO ⟨I,I,by rw[h1];rfl,tO⟩ [] I)
  intro _ _
  refine zA (zA (zB (wP I (Aa (AT ?_)))))
  try refine Au ?_
  refine AM (X:=Unit) (fun _=>[(9, .int .i64 q.num),(10, .int .i64 (q.den:Nat))]) (fun _=>[]) (fun _=>True) ?_ ?_
  ·refine AA I (fun h1=> ?_) (fun h1=> ?_)
   ·have h1:q.num<0:=of_decide_eq_true h1
    exact zB (wP I (wP I (wV 33 q.num I (by show w64 (0-((q.num.natAbs:Nat):Int))=_;rw[Ak (by omega) (by omega)];omega) (wP I (Aa (At () tO ⟨I,I,tO⟩ [] I))))))
   ·have h1: ¬q.num<0:=of_decide_eq_false h1
    exact zI (At () tO ⟨congrArg (fun z=>some (Value.int .i64 z)) (by omega),I,tO⟩ [] I)
  intro _ _
  refine zA (zB ?_)
  iterate 5 refine wP I ?_
  exact Aa (zE (zO (wR3 I I I)))
 ·rw[if_neg hs]
  have hs2: ¬(n.length≤9∧e.length≤9):=fun h=>hs (by rw[hsh,dT h.1,dT h.2];rfl)
  refine AT (Au (Au ?_))
  refine AM (X:=Unit) (fun _=>[(25, .bool true)]) (fun _=>[]) (fun _=>True) ?_ ?_
  ·refine zB (wP I (wP I ?_))
   refine Al 19 (.int .i64 (n.length:Nat)) I (congrArg (fun n:Nat=>Value.int .i64 (n:Int)) (AH n)) ?_
   refine wP I ?_
   by_cases h1:n.length≤9
   ·refine wU 20 false I (dF (by omega)) (wP I (wP I (wP I ?_)))
    refine Al 23 (.int .i64 (e.length:Nat)) I (congrArg (fun n:Nat=>Value.int .i64 (n:Int)) (AH e)) ?_
    exact wP I (wU 24 true I (dT (by omega)) (wP I (Aa (At () tO ⟨I,tO⟩ [] I))))
   ·refine wU 20 true I (dT (by omega)) (wP I ?_)
    iterate 3 refine Aw I I ?_
    exact wP I (Aa (At () tO ⟨I,tO⟩ [] I))
  intro _ _
  exact zR I (zA (zB (wP I (wP I (wP I (Aa (zE (zO (zP (wR3 I I I))))))))))
theorem NZ (q:Rat) (hl:(Af q).length≤1000):B7 Tryz.prog 121 [str (Af q)] (.tuple #[str (itoa q.num),str (decDigits q.den)]):=by
 intro W
 have hlen:(decDigits q.num.natAbs).length≤1000:=by
  have:=QI (a:=Af q) (FS q.num q.den_pos)
  omega
 refine Ae Tryz.func121 I I I ?_
 refine zA (zB (wP I (wP I (Aa (zE (zA (zB (wP I (wC I I (fun W1 hp=>(F2 (Af q) (by omega) W1).cast (MS q)) ?_)))))))))
 iterate 9 refine wP I ?_
 refine Aa (zE (zA (zA (zB (wP I (Aa (AT ?_)))))))
 try refine Au ?_
 refine AM (X:=Unit) (fun _=>[(5,str (itoa q.num)),(6,str (if q.den=1 then[] else decDigits q.den)),(7, .bool (decide (q.den≠1)))]) (fun _=>[]) (fun _=>True) ?_ ?_
 ·refine AA I (fun h1=> ?_) (fun h1=> ?_)
  ·have h1:q.num<0:=of_decide_eq_true h1
   refine zB (wP I ?_)
   refine DX I I I I I (a:=[45]) (b:=decDigits q.num.natAbs) (by decide) (by omega) ?_
   exact wP I (Aa (At () tO ⟨by unfold itoa;rw[if_pos h1];rfl,I,I,tO⟩ [] I))
  ·have h1: ¬q.num<0:=of_decide_eq_false h1
   exact zI (At () tO ⟨by unfold itoa;rw[if_neg h1,show q.num.toNat=q.num.natAbs by omega];rfl,I,I,tO⟩ [] I)
 intro _ _
 refine zA (zA (zB (wP I (wP I (Aa (AT ?_))))))
 try refine Au ?_
 refine AM (X:=Unit) (fun _=>[(5,str (itoa q.num)),(6,str (decDigits q.den))]) (fun _=>[]) (fun _=>True) ?_ ?_
 ·refine AA I (fun h1=> ?_) (fun h1=> ?_)
  ·have h1:q.den=1:=Decidable.byContradiction fun h=>absurd h1 (by rw[dT h];decide)
   exact zB (wP I (Aa (At () tO ⟨I,by rw[h1,F6];rfl,tO⟩ [] I)))
  ·have h1:q.den≠1:=Decidable.byContradiction fun h=>absurd h1 (by rw[dF h];decide)
   exact zI (At () tO ⟨I,by rw[if_neg h1];rfl,tO⟩ [] I)
 intro _ _
 exact zA (zB (wP I (wP I (wP I (wP I (Aa (zE (zO (wR2 I I I)))))))))
-- BOXES 1
-- CODE2
def byV (l:List UInt8):List Value:=l.map fun b=> .int .u8 (b.toNat:Int)
def zrV (k:Nat):List Value:=BQ [.int .u8 0] k
theorem Kq (k:Nat):(zrV k).length=k:=by unfold zrV;rw[Eu];simp
theorem SJ (k:Nat):zrV (k+1)=zrV k++[.int .u8 0]:=by
 induction k with
 |zero=>rfl
 |succ k ih=>
  have e: ∀j,zrV (j+1)=[.int .u8 0]++zrV j:=fun j=>rfl
  rw[e,ih, ←List.append_assoc, ←e,ih]
theorem Vu {k:Nat} {c:UInt8} {suf:List UInt8}:B0 (zrV (k+1)++byV suf) (0+k*1) [.int .u8 (c.toNat:Int)]=zrV k++byV (c::suf):=by
 rw[SJ,show 0+k*1=(zrV k).length+0 by rw[Kq];omega,List.append_assoc,Dk]
 rfl
theorem UI {k:Nat} {l:List UInt8} {j:Nat} (hj:j<l.length):(zrV k++byV l)[k+j]? =some (.int .u8 (l[j].toNat:Int)):=by
 rw[List.getElem?_append_right (by rw[Kq];omega),Kq,Nat.add_sub_cancel_left]
 unfold byV
 rw[List.getElem?_map,List.getElem?_eq_getElem hj];rfl
theorem Wg (u:Nat):IntKind.u8.wrap ((48+u%10:Nat):Int)=((UInt8.ofNat (48+u%10)).toNat:Int):=by
 rw[Ou (by omega) (by omega),Dh (Nat.mod_lt _ (by omega))]
-- BOXES 5
-- CODE2
abbrev cvV (p:Ah):Value:= .agg #[str (Af p.1),str (Af p.2)]
def C3 (W:World) (c:Nat):Prop:=W.heap[c]? =some (.cells #[.int .i64 0] 61 (0,0))
theorem C3.hp {W0 W:World} {bxs:List Bx} {c:Nat} (h:C3 W0 c) (hp:Hp W0 bxs W):C3 W c:=
 (hp.below.block c (Array.getElem?_eq_some_iff.1 h).1).trans h
theorem C3.row {W:World} {c:Nat} (h:C3 W c):Ar W c 0 [.int .i64 0]:=Ar.of_block h
theorem H1 (c g:Nat) (a b v:List UInt8) (W:World) (hc:C3 W c) (hE:Bd Tryz.prog g=true) (hg: ∀W1,Below W.heap.size W W1→Ap Tryz.prog g #[str a,str b] W1 (fun _:Unit=> .tuple #[str v, .int .i64 0]) (fun _=>True) (fun _=>[])):
  Ap Tryz.prog 104 #[An c, .func (.func g) #[] #[],str a,str b] W (fun _:Unit=>str v) (fun _=>True) (fun _=>[]):=by
 refine Ae (args:=[An c, .func (.func g) #[] #[],str a,str b]) Tryz.func104 I I I ?_
 refine zA (zB (wP I (Aa (zE (zA (zA (zB (wP I ?_))))))))
 refine AP I I I I ?_
 refine wP I (wL 0 I I (fun W1 hp=>(hc.hp hp).row) I (wP I (Aa (zE (zS I (zI (zE (zA (zB (wP I (wP I (wP I ?_))))))))))))
 refine AW (capt:=[]) I I I I I I hE (fun W1 h=>hg W1 h.below) ?_
 iterate 5 refine wP I ?_
 refine Aa (zE (zA (zA (zB (wP I (wP I ?_))))))
 refine AP I I I I ?_
 refine wP I ?_
 refine IJ (c:=[.int .i64 0]) (ty:=61) tH I I I I I I I I I I (fun W1 hp=>hc.hp hp) ?_
 refine Aa (zE (zA (zB (wP I (wP I (Aa (zE (zS I (zI (zE (zA (zB (wP I (wP I ?_))))))))))))))
 exact Aa (zE (zO (wR1 I I I)))
theorem C7 (c:Nat) (p q:Rat) (hz:Sz2 p q) (W:World) (hc:C3 W c) (hv:BP W) (ht:Bc W):
  Ap Tryz.prog 45 #[An c,str (Af p),str (Af q)] W (fun _:Unit=>str (Af (p+q))) (fun _=>True) (fun _=>[]):=by
 refine Ae (args:=[An c,str (Af p),str (Af q)]) Tryz.func45 I I I ?_
 refine zA (zB (wP I (Aa (zE (zA (zB (wP I (wP I (wP I (wC I I (fun W hp=>H1 c 16 (Af p) (Af q) (Af (p+q)) W (hc.hp hp) (by kernel_rfl) (fun W1 hb=>PY p q hz W1 ((hv.hp hp).below hb) ((ht.hp hp).below hb))) (wP I (Aa (zE ?_)))))))))))))
 exact zO (wR1 I I I)
theorem C9 (c:Nat) (p q:Rat) (hz:Sz2 p q) (W:World) (hc:C3 W c) (hv:BP W) (ht:Bc W):
  Ap Tryz.prog 59 #[An c,str (Af p),str (Af q)] W (fun _:Unit=>str (Af (p-q))) (fun _=>True) (fun _=>[]):=by
 refine Ae (args:=[An c,str (Af p),str (Af q)]) Tryz.func59 I I I ?_
 refine zA (zB (wP I (Aa (zE (zA (zB (wP I (wP I (wP I (wC I I (fun W hp=>H1 c 126 (Af p) (Af q) (Af (p-q)) W (hc.hp hp) (by kernel_rfl) (fun W1 hb=>PU p q hz W1 ((hv.hp hp).below hb) ((ht.hp hp).below hb))) (wP I (Aa (zE ?_)))))))))))))
 exact zO (wR1 I I I)
theorem Ca (c:Nat) (p q:Rat) (hz:Sz2 p q) (W:World) (hc:C3 W c) (hv:BP W) (ht:Bc W):
  Ap Tryz.prog 60 #[An c,str (Af p),str (Af q)] W (fun _:Unit=>str (Af (p*q))) (fun _=>True) (fun _=>[]):=by
 refine Ae (args:=[An c,str (Af p),str (Af q)]) Tryz.func60 I I I ?_
 refine zA (zB (wP I (Aa (zE (zA (zB (wP I (wP I (wP I (wC I I (fun W hp=>H1 c 72 (Af p) (Af q) (Af (p*q)) W (hc.hp hp) (by kernel_rfl) (fun W1 hb=>Qf p q hz W1 ((hv.hp hp).below hb) ((ht.hp hp).below hb))) (wP I (Aa (zE ?_)))))))))))))
 exact zO (wR1 I I I)
theorem Gg (c:Nat) (p q:Rat) (hz:Sz2 p q) (h0:q.num≠0) (W:World) (hc:C3 W c) (hv:BP W) (ht:Bc W):
  Ap Tryz.prog 47 #[An c,str (Af p),str (Af q)] W (fun _:Unit=>str (Af (p/q))) (fun _=>True) (fun _=>[]):=by
 refine Ae (args:=[An c,str (Af p),str (Af q)]) Tryz.func47 I I I ?_
 refine zA (zB (wP I (Aa (zE (zA (zB (wP I (wP I (wP I (wC I I (fun W hp=>H1 c 105 (Af p) (Af q) (Af (p/q)) W (hc.hp hp) (by kernel_rfl) (fun W1 hb=>(Ql p q hz W1 ((hv.hp hp).below hb) ((ht.hp hp).below hb)).cast (by rw[LR,if_neg h0]))) (wP I (Aa (zE ?_)))))))))))))
 exact zO (wR1 I I I)
theorem DF (c:Nat) (p q:Rat) (hz:Sz2 p q) (W:World) (hc:C3 W c) (hv:BP W) (ht:Bc W):
  Ap Tryz.prog 53 #[An c,str (Af p),str (Af q)] W (fun _:Unit=> .int .i64 (DN p q)) (fun _=>True) (fun _=>[]):=by
 refine Ae (args:=[An c,str (Af p),str (Af q)]) Tryz.func53 I I I ?_
 refine zA (zB (wP I (Aa (zE (zA (zA (zB (wP I ?_))))))))
 refine AP I I I I ?_
 refine wP I (wL 0 I I (fun W1 hp=>(hc.hp hp).row) I (wP I (Aa (zE (zS I (zI (zE (zA (zB (wP I (wP I (wC I I (fun W hp=>(KF p q hz W (hv.hp hp) (ht.hp hp)).cast (v':= .tuple #[.int .i64 (DN p q), .int .i64 0]) (by rw[Qy])) ?_))))))))))))
 iterate 5 refine wP I ?_
 refine Aa (zE (zA (zB (wP I (wP I ?_)))))
 refine AP I I I I ?_
 refine wP I ?_
 refine IJ (c:=[.int .i64 0]) (ty:=61) tH I I I I I I I I I I (fun W1 hp=>hc.hp hp) ?_
 exact Aa (zE (zA (zB (wP I (wP I (Aa (zE (zO (wR1 I I I)))))))))
structure Wb (p q r:Ah):Prop where
 s1:Sz2 q.1 p.1
 s2:Sz2 r.2 p.2
 s3:Sz2 q.2 p.2
 s4:Sz2 r.1 p.1
 m1:Sz2 (q.1-p.1) (r.2-p.2)
 m2:Sz2 (q.2-p.2) (r.1-p.1)
 o:Sz2 ((q.1-p.1)*(r.2-p.2)) ((q.2-p.2)*(r.1-p.1))
def QB (p q r:Ah):Int:=DN ((q.1-p.1)*(r.2-p.2)) ((q.2-p.2)*(r.1-p.1))
theorem OD (c:Nat) (p q r:Ah) (hz:Wb p q r) (W:World) (hc:C3 W c) (hv:BP W) (ht:Bc W):
  Ap Tryz.prog 55 #[An c,cvV p,cvV q,cvV r] W (fun _:Unit=> .int .i64 (QB p q r)) (fun _=>True) (fun _=>[]):=by
 refine Ae (args:=[An c,cvV p,cvV q,cvV r]) Tryz.func55 I I I ?_
 refine zA (zB ?_)
 (refine AD rfl rfl rfl rfl ?_;intro)
 (refine AD rfl rfl rfl rfl ?_;intro)
 (refine AD rfl rfl rfl rfl ?_;intro)
 refine wP I (Aa (zE (zA (zU (qP I (qP I (qB 1 I I I (qP I (qB 0 I I I (qC I I (fun W hp=>C9 c q.1 p.1 hz.s1 W (hc.hp hp) (hv.hp hp) (ht.hp hp)) (qP I (qP I (qB 2 I I I ?_)))))))))))))
 refine qP I (qB 0 I I I (qC I I (fun W hp=>C9 c r.2 p.2 hz.s2 W (hc.hp hp) (hv.hp hp) (ht.hp hp)) (qP I (qP I (AJ (Aa (zE (zA (zU (qP I (qP I (qB 1 I I I (qP I ?_)))))))))))))
 refine qB 0 I I I (qC I I (fun W hp=>C9 c q.2 p.2 hz.s3 W (hc.hp hp) (hv.hp hp) (ht.hp hp)) (qP I (qP I (qB 2 I I I (qP I (qB 0 I I I (qC I I (fun W hp=>C9 c r.1 p.1 hz.s4 W (hc.hp hp) (hv.hp hp) (ht.hp hp)) (qP I (qP I (AJ (Aa (zE (zA ?_)))))))))))))
 refine zB (wP I (wP I (wP I (wP I (wC I I (fun W hp=>Ca c (q.1-p.1) (r.2-p.2) hz.m1 W (hc.hp hp) (hv.hp hp) (ht.hp hp)) (wP I (wP I (wP I (wC I I (fun W hp=>Ca c (q.2-p.2) (r.1-p.1) hz.m2 W (hc.hp hp) (hv.hp hp) (ht.hp hp)) (wC I I (fun W hp=>DF c _ _ hz.o W (hc.hp hp) (hv.hp hp) (ht.hp hp)) (wP I (Aa (zE ?_)))))))))))))
 exact zO (wR1 I I I)
def GP (p q:Ah):Int:=if DN p.1 q.1=0 then DN p.2 q.2 else DN p.1 q.1
theorem EZ (p q:Rat):DN p q= -1∨DN p q=0∨DN p q=1:=by
 unfold DN
 split
 ·exact Or.inl I
 ·split
  ·exact Or.inr (Or.inl I)
  ·exact Or.inr (Or.inr I)
theorem JE (c:Nat) (p q:Ah) (h1:Sz2 p.1 q.1) (h2:Sz2 p.2 q.2) (W:World) (hc:C3 W c) (hv:BP W) (ht:Bc W):
  Ap Tryz.prog 71 #[An c,cvV p,cvV q] W (fun _:Unit=> .int .i64 (GP p q)) (fun _=>True) (fun _=>[]):=by
 refine Ae (args:=[An c,cvV p,cvV q]) Tryz.func71 I I I ?_
 refine zA (zB ?_)
 (refine AD rfl rfl rfl rfl ?_;intro)
 (refine AD rfl rfl rfl rfl ?_;intro)
 refine wP I (Aa (zE (zA (zA (zB (wP I (wP I (wB 0 I I I (wP I (wB 1 I I I ?_))))))))))
 rcases EZ p.1 q.1 with e|e|e
 ·refine wC I I (fun W hp=>(DF c p.1 q.1 h1 W (hc.hp hp) (hv.hp hp) (ht.hp hp)).cast (congrArg (Value.int .i64) e)) (wP I (Aa (zE (zA (zB (wP I (wP I (Aa (zE (zR I (zA (zB (wP I (wP I ?_))))))))))))))
  exact Aa (zE (zO (zP (wR1 I I (by rw[GP,e,if_neg (by decide)])))))
 ·refine wC I I (fun W hp=>(DF c p.1 q.1 h1 W (hc.hp hp) (hv.hp hp) (ht.hp hp)).cast (congrArg (Value.int .i64) e)) (wP I (Aa (zE (zA (zB (wP I (wP I (Aa (zE (zS I (zI (zE (zA ?_)))))))))))))
  exact zB (wP I (wP I (wB 0 I I I (wP I (wB 1 I I I (wC I I (fun W hp=>DF c p.2 q.2 h2 W (hc.hp hp) (hv.hp hp) (ht.hp hp)) (wP I (Aa (zE (zO (wR1 I I (by rw[GP,if_pos e]))))))))))))
 ·refine wC I I (fun W hp=>(DF c p.1 q.1 h1 W (hc.hp hp) (hv.hp hp) (ht.hp hp)).cast (congrArg (Value.int .i64) e)) (wP I (Aa (zE (zA (zB (wP I (wP I (Aa (zE (zR I (zA (zB (wP I (wP I ?_))))))))))))))
  exact Aa (zE (zO (zP (wR1 I I (by rw[GP,e,if_neg (by decide)])))))
def E7 (q:Rat):Int:=if q.num=0 then 0 else if q.num<0 then -1 else 1
theorem El (q:Rat):B7 Tryz.prog 68 [str (Af q)] (.int .i64 (E7 q)):=by
 intro W
 refine Ae Tryz.func68 I I I ?_
 refine zA (zB (wP I (Aa (zE (zA (zH (zA (zB (wP I (wP I (wU 5 (decide (Af q=[48])) I (B4 _ _) (wP I (Aa ?_)))))))))))))
 refine zE ?_
 refine AA I (fun h=> ?_) (fun h=> ?_)
 ·have h:q.num=0:=KZ.1 (of_decide_eq_true h)
  exact zA (zB (wP I (Aa (zE (zO (zQ (zP (wR1 I I (by rw[E7,if_pos h])))))))))
 have h: ¬q.num=0:=fun e=>of_decide_eq_false h (KZ.2 e)
 have hpre:=(QZ (z:=q.num) q.den_pos).1
 rw[Bt] at hpre
 obtain⟨c,hc⟩: ∃c,(Af q)[0]? =some c:=by
  cases e:Af q with
  |nil=>
   have:=congrArg List.length e
   unfold Af FJ at this
   have h2:itoa q.num≠[]:=by unfold itoa;split;simp;exact G2 _
   split at this
   ·exact absurd (List.length_eq_zero_iff.1 this) h2
   ·rw[List.length_append] at this;simp at this
  |cons c t=>exact⟨c,rfl⟩
 have hc45:decide (c=45)=decide (q.num<0):=by
  rw[←hpre]
  show _=decide ((Af q)[0]? =some 45)
  exact decide_eq_decide.2 (by rw[hc];simp)
 refine zA (zB (wP I ?_))
 refine Bp 0 tH I I I I I I I I hc ?_
 refine wP I (wU 9 (decide (q.num<0)) I ((Fy c 45).trans hc45) (wP I (Aa (zE ?_))))
 refine AA I (fun hn=> ?_) (fun hn=> ?_)
 ·have hn:q.num<0:=of_decide_eq_true hn
  exact zA (zB (wP I (Aa (zE (zO (zQ (zP (wR1 I I (by rw[E7,if_neg h,if_pos hn])))))))))
 ·have hn: ¬q.num<0:=of_decide_eq_false hn
  exact zI (zN (zE (zA (zB (wP I (Aa (zE (zO (wR1 I I (by rw[E7,if_neg h,if_neg hn]))))))))))
-- BOXES 4
-- CODE2
abbrev br:Nat:=1000000
theorem br2:2≤br:=by decide
theorem D5 {g cap:Nat} {junk:List Value} {l:List Nat} (h:(⟨some g,cap,junk⟩:Vec).OK 1 l.length (nI l)) (hl: ∀x∈l,x<br):
  ∃junk',(⟨some g,cap,junk'⟩:Vec).OK 1 (lbs br (lv br l)).length (nI (lbs br (lv br l)))∧nI l++junk=nI (lbs br (lv br l))++junk':=by
 obtain⟨h1,h2,h3⟩:=h.cap (by simp)
 have e:=Lg br2 hl
 have hlen:=(BI br2).2 (EV br2 hl)
 have e2:nI l=nI (lbs br (lv br l))++nI (l.drop (lbs br (lv br l)).length):=by
  conv=>lhs;rw[←List.take_append_drop (lbs br (lv br l)).length l]
  rw[HX, ←e]
 have h3':(nI l).length+junk.length=cap*1:=h3
 have h2':cap≤maxLen:=h2
 refine⟨nI (l.drop (lbs br (lv br l)).length)++junk,⟨Eb _,(fun h=>by cases h),fun _=>⟨by show _≤cap;rw[B5] at h3';omega,h2', ?_⟩⟩, ?_⟩
 ·show(nI (lbs br (lv br l))).length+(nI (l.drop (lbs br (lv br l)).length)++junk).length=cap*1
  rw[List.length_append,B5,B5,List.length_drop]
  rw[B5] at h3';omega
 ·rw[←List.append_assoc, ←e2]
theorem CU (W:World) (p:Option Addr) (cap n:Nat) (l:List Nat) (i x:Nat) (h:A7 W p l) (hn:l.length=n) (hi:i<4611686018427387904) (hx:lim l i=x):Ap Tryz.prog 195 #[slv p n cap, .int .i64 (i:Nat)] W (fun _:Unit=> .int .i64 (x:Nat)) (fun _=>True) (fun _=>[]):=by
 subst hn hx
 refine Ae (args:=[slv p l.length cap, .int .i64 (i:Nat)]) Tryz.func195 I I I ?_
 refine zA (zB (wP I (Aa (zE (zA (zA (zB (wP I (wP I (wP I (wP I (Aa (zE ?_)))))))))))))
 refine AA I (fun hc=> ?_) (fun hc=> ?_)
 ·have hl:i<l.length:=by simp at hc;omega
  obtain⟨b,off,rfl,hrow⟩:=h.row hl
  refine zA (zB (wP I (wP I ?_)))
  refine wJ ?_
  exact wL 0 I I (fun W hp=>(hrow i hl).hp hp) I (wP I (Aa (zE (zO (zP (wR1 I I I))))))
 ·have hl:l.length≤i:=by simp at hc;omega
  exact zI (zE (zA (zB (wP I (Aa (zE (zO (wR1 I I (by rw[OC hl];rfl)))))))))
theorem C0 (W:World) (p:Option Addr) (cap:Nat) (l:List Nat) (h:A7 W p l) (hl: ∀x∈l,x<br) (hc:l.length≤cap) (hn:l.length<4611686018427387904):
  Ap Tryz.prog 193 #[slv p l.length cap] W (fun _:Unit=>slv p (lbs br (lv br l)).length cap) (fun _=>True) (fun _=>[]):=by
 refine Ae (args:=[slv p l.length cap]) Tryz.func193 I I I ?_
 refine zA (zB (wP I (Aa (zE (zA (zB (wP I (wP I (wP I (Aa (zE (zA (zH ?_)))))))))))))
 refine A9 (X:=Nat) (fun k=>[(0,slv p l.length cap),(3, .int .i64 (k:Nat))]) (fun _=>[]) (fun k=>k≤l.length∧ ∀i,k≤i→i<l.length→l[i]? =some 0) (fun k=>k) l.length ⟨Nat.le_refl _,fun i h1 h2=>by omega⟩ ⟨I,I,tO⟩ [] I ?_
 rintro k ⟨hk,hz⟩
 have hk:k≤l.length:=hk
 have hend:(k=0∨l[k-1]? ≠some 0)→(lbs br (lv br l)).length=k:=fun h0=>by
  rw[←Oc br2 hk hl hz h0,List.length_take];omega
 by_cases h0:k=0
 ·subst h0
  refine zA (zA (zB (wP I (wP I ?_))))
  refine Al 7 (.bool false) I I ?_
  refine wP I ?_
  iterate 6 refine Aw I I ?_
  refine wP I (Aa (zE (zS I (zJ (zK (zK (zL (zE (zA (zB (wP I (wP I ?_))))))))))))
  refine Cs 0 tH I I I I I I I I (by omega) ?_
  exact wP I (Aa (zE (zO (wR1 I I (by rw[hend (.inl I)])))))
 ·refine zA (zA (zB (wP I (wP I (wU 7 true I (by simp;omega) ?_)))))
  obtain⟨b,off,rfl,hrow⟩:=h.row (show k-1<l.length by omega)
  refine wP I (wP I (wP I (wP I (wV 11 ((k-1:Nat):Int) I (by show w64 ((k:Int)-1)=_;rw[Ak (by omega) (by omega)];omega) ?_))))
  refine wJ ?_
  refine wL 0 I I (fun W hp=>(hrow (k-1) (by omega)).hp hp) I (wP I (wP I (Aa (zE ?_))))
  have e1:((lim l (k-1):Int)==0)=decide (l[k-1]? =some 0):=by
   rw[Dn (show k-1<l.length by omega),ON]
   simp
  refine AA I (fun hc=> ?_) (fun hc=> ?_)
  ·have hz0:l[k-1]? =some 0:=by simpa[e1] using hc
   refine zI (zE (zH (zB (wP I (wP I (wV 17 ((k-1:Nat):Int) I (by show w64 ((k:Int)-1)=_;rw[Ak (by omega) (by omega)];omega) (wP I (Aa (zN ?_)))))))))
   refine A0 (k-1) ⟨by show k-1≤_;omega,fun i h1 h2=> ?_⟩ (by show k-1<k;omega) ⟨I,I,tO⟩ [] I
   by_cases hi:i=k-1
   ·rw[hi];exact hz0
   ·exact hz i (by have h1:k-1≤i:=h1;omega) h2
  ·have hz0:l[k-1]? ≠some 0:=by simpa[e1] using hc
   refine zJ (zK (zK (zL (zE (zA (zB (wP I (wP I ?_))))))))
   refine Cs k tH I I I I I I I I (by omega) ?_
   exact wP I (Aa (zE (zO (wR1 I I (by rw[hend (.inr hz0)])))))
theorem L4 {a b:Nat} (h:(lbs br a).length<(lbs br b).length):a<b:=by
 rcases Nat.lt_or_ge a b with h1|h1
 ·exact h1
 ·have:=(BI br2 (n:=b)).2 (Nat.lt_of_le_of_lt h1 (AQ br2 a))
  omega
theorem VG {B:Nat} (_hB:2≤B) {a b:Nat} {k:Nat} (h:a/B^(k+1)=b/B^(k+1)):(a/B^k<b/B^k↔a/B^k%B<b/B^k%B)∧(a/B^k=b/B^k↔a/B^k%B=b/B^k%B):=by
 have h1:=Nat.mod_add_div (a/B^k) B
 have h2:=Nat.mod_add_div (b/B^k) B
 rw[Nat.div_div_eq_div_mul,show B^k*B=B^(k+1) from(Nat.pow_succ ..).symm] at h1 h2
 rw[h] at h1
 constructor<;>constructor<;>intro<;>omega
theorem ME {a b c:Nat} (h:a/c<b/c):a<b:=by
 rcases Nat.lt_or_ge a b with h1|h1
 ·exact h1
 ·exact absurd (Nat.div_le_div_right (c:=c) h1) (by omega)
def L7 (a b:Nat):Int:=if a<b then -1 else if b<a then 1 else 0
theorem J6 (W:World) (p q:Option Addr) (cap cap2:Nat) (a b:Nat) (hA:A7 W p (lbs br a)) (hB:A7 W q (lbs br b)) (hna:(lbs br a).length≤1000000) (_hnb:(lbs br b).length≤1000000):
  Ap Tryz.prog 198 #[slv p (lbs br a).length cap,slv q (lbs br b).length cap2] W (fun _:Unit=> .int .i64 (L7 a b)) (fun _=>True) (fun _=>[]):=by
 have hal:=AQ br2 a
 have hbl:=AQ br2 b
 refine Ae (args:=[slv p (lbs br a).length cap,slv q (lbs br b).length cap2]) Tryz.func198 I I I ?_
 refine zA (zB (wP I (Aa (zE (zA (zA (zB ?_)))))))
 iterate 5 refine wP I ?_
 by_cases hl:(lbs br a).length=(lbs br b).length
 rotate_left
 ·refine wU 10 true I (bne_iff_ne.2 (by omega)) (Aa (zE (zR I (zA (zA (zB ?_))))))
  iterate 5 refine wP I ?_
  by_cases h:(lbs br a).length<(lbs br b).length
  ·have hlt:=L4 h
   exact wU 15 true I (dT (by omega)) (Aa (zE (zR I (zA (zB (wP I (Aa (zE (zO (zP (zP (wR1 I I (by unfold L7;rw[if_pos hlt])))))))))))))
  ·have hlt:=L4 (a:=b) (b:=a) (by omega)
   exact wU 15 false I (dF (by omega)) (Aa (zE (zS I (zI (zE (zA (zB (wP I (Aa (zE (zO (zP (wR1 I I (by unfold L7;rw[if_neg (by omega),if_pos hlt]))))))))))))))
 obtain⟨K,hK⟩: ∃K,(lbs br b).length=K:=⟨_,rfl⟩
 rw[hl,hK] at hal
 rw[hK] at hbl hl
 rw[hl,hK]
 refine wU 10 false I (by simp) (Aa (zE (zS I (zI (zE (zA (zA (zB (wP I (wP I (wP I (wV 18 ((K:Int)-1) I (Ak (by omega) (by omega)) (wP I ?_)))))))))))))
 refine Aa (zE (zH ?_))
 refine A9 (X:=Nat) (fun k=>[(0,slv p K cap),(1,slv q K cap2),(5, .int .i64 ((k:Nat)-1:Int))]) (fun _=>[]) (fun k=>k≤K∧a/br^k=b/br^k) (fun k=>k) K ⟨Nat.le_refl _,by rw[Nat.div_eq_of_lt hal,Nat.div_eq_of_lt hbl]⟩ ⟨I,I,I,tO⟩ [] I ?_
 rintro k ⟨hk,hq⟩
 have hk:k≤K:=hk
 refine zA (zA (zB (wP I (wP I ?_))))
 cases k with
 |zero=>
  have e:a=b:=by have hq:a/br^0=b/br^0:=hq;simpa using hq
  refine wU 20 false I (dF (by show¬(((0:Nat):Int)-1≥0);omega)) (Aa (zE (zS I (zJ (zK (zK (zL (zE (zA (zB (wP I (Aa (zE ?_)))))))))))))
  exact zO (wR1 I I (by unfold L7;rw[e,if_neg (Nat.lt_irrefl _),if_neg (Nat.lt_irrefl _)]))
 |succ k=>
  have hq:a/br^(k+1)=b/br^(k+1):=hq
  obtain⟨h1,h2⟩:=VG br2 hq
  obtain⟨b1,o1,rfl,r1⟩:=hA.row (show k<(lbs br a).length by omega)
  obtain⟨b2,o2,rfl,r2⟩:=hB.row (show k<(lbs br b).length by omega)
  have r1:=r1 k (by omega)
  have r2:=r2 k (by omega)
  obtain⟨x,hx⟩: ∃x,lim (lbs br a) k=x:=⟨_,rfl⟩
  obtain⟨y,hy⟩: ∃y,lim (lbs br b) k=y:=⟨_,rfl⟩
  rw[hx] at r1
  rw[hy] at r2
  rw[Bi br2] at hx hy
  rw[hx,hy] at h1 h2
  have hxb:x<br:=by rw[←hx];exact Nat.mod_lt _ (by decide)
  have hyb:y<br:=by rw[←hy];exact Nat.mod_lt _ (by decide)
  have hxb:x<1000000:=hxb
  have hyb:y<1000000:=hyb
  refine wU 20 true I (dT (by show(((k+1:Nat):Int)-1≥0);omega)) (Aa (zE (zR I (zI (zE (zA (zH (zA (zA (zU (qP I (qP I (qV 24 (k:Nat) I (by show((k+1:Nat):Int)-1=_;omega) ?_)))))))))))))
  refine qJ ?_
  refine qL 0 I I (fun W hp=>r1.hp hp) I (qP I (qP I (qV 28 (k:Nat) I (by show((k+1:Nat):Int)-1=_;omega) ?_)))
  refine qJ ?_
  refine qL 0 I I (fun W hp=>r2.hp hp) I (qP I ?_)
  by_cases hlt:x<y
  ·have:=ME (h1.2 hlt)
   refine qU 31 true I (dT (by omega)) (AJ (Aa (zE (zR I (zA (zB (wP I (Aa (zE (zO (zP (zQ (zP (zP ?_))))))))))))))
   exact zQ (zP (wR1 I I (by unfold L7;rw[if_pos this])))
  refine qU 31 false I (dF (by omega)) (AJ (Aa (zE (zS I (zI (zE (zA (zU (qP I (qP I (qV 33 (k:Nat) I (by show((k+1:Nat):Int)-1=_;omega) ?_)))))))))))
  refine qJ ?_
  refine qL 0 I I (fun W hp=>r1.hp hp) I (qP I (qP I (qV 37 (k:Nat) I (by show((k+1:Nat):Int)-1=_;omega) ?_)))
  refine qJ ?_
  refine qL 0 I I (fun W hp=>r2.hp hp) I (qP I ?_)
  by_cases hgt:y<x
  ·have h3: ¬a/br^k<b/br^k:=fun h=>hlt (h1.1 h)
   have h4: ¬a/br^k=b/br^k:=fun h=>by have:=h2.1 h;omega
   have:=ME (a:=b) (b:=a) (c:=br^k) (by omega)
   refine qU 40 true I (dT (by show((x:Nat):Int)>(y:Nat);omega)) (AJ (Aa (zE (zR I (zA (zB (wP I (Aa (zE (zO (zQ (zP (zP ?_)))))))))))))
   exact zQ (zP (wR1 I I (by unfold L7;rw[if_neg (by omega),if_pos this])))
  refine qU 40 false I (dF (by show¬((x:Nat):Int)>(y:Nat);omega)) (AJ (Aa (zE (zS I (zI (zN (zE (zB (wP I (wV 21 (k:Nat) I (by show((k+1:Nat):Int)-1=_;omega) (wP I (wV 22 ((k:Nat)-1:Int) I (Ak (by omega) (by omega)) (wP I ?_)))))))))))))
  exact Aa (A0 k ⟨by show k≤K;omega,h2.2 (by omega)⟩ (by show k<k+1;omega) ⟨I,I,I,tO⟩ [] I)
def F5 (a b:List Nat):Nat→List Nat×Nat
 |0=>([],0)
 |i+1=>((F5 a b i).1++[(lim a i+lim b i+(F5 a b i).2)%br],(lim a i+lim b i+(F5 a b i).2)/br)
theorem L0 (a b:List Nat): ∀i,(F5 a b i).1.length=i
 |0=>rfl
 |i+1=>by show(_++[_]).length=_;rw[List.length_append,L0 a b i];rfl
theorem Rs {a b:List Nat} (ha: ∀x∈a,x<br) (hb: ∀x∈b,x<br): ∀i,(∀x∈(F5 a b i).1,x<br)∧(F5 a b i).2≤1
 |0=>⟨fun x h=>(by cases h),Nat.zero_le _⟩
 |i+1=>by
  obtain⟨h1,h2⟩:=Rs ha hb i
  have l1:lim a i<1000000:=Bg br2 ha i
  have l2:lim b i<1000000:=Bg br2 hb i
  refine⟨fun x hx=> ?_, ?_⟩
  ·rcases List.mem_append.1 hx with hx|hx
   ·exact h1 x hx
   ·obtain rfl:=List.mem_singleton.1 hx;exact Nat.mod_lt _ (by decide)
  ·show _/1000000≤1;omega
theorem Ll (a b:Nat): ∀i,lv br (F5 (lbs br a) (lbs br b) i).1+br^i*(F5 (lbs br a) (lbs br b) i).2=a%br^i+b%br^i
 |0=>by show 0+br^0*0=_;rw[Nat.pow_zero,Nat.mod_one,Nat.mod_one]
 |i+1=>M8 (L0 _ _ i) (Ll a b i) (by rw[Bi br2,Bi br2])
theorem O4 (W:World) (p q:Option Addr) (cap cap2:Nat) (a b:Nat) (hA:A7 W p (lbs br a)) (hB:A7 W q (lbs br b)) (hna:(lbs br a).length≤1000000) (hnb:(lbs br b).length≤1000000):
  Ap Tryz.prog 221 #[slv p (lbs br a).length cap,slv q (lbs br b).length cap2] W (fun x:NV=>BA x (lbs br (a+b)).length) (fun x=>Cd x (lbs br (a+b))) (fun x=>[BD x (lbs br (a+b))]):=by
 have hla:=Bl br2 a
 have hlb:=Bl br2 b
 have hal:=AQ br2 a
 have hbl:=AQ br2 b
 obtain⟨na,hna'⟩: ∃n,(lbs br a).length=n:=⟨_,rfl⟩
 obtain⟨nb,hnb'⟩: ∃n,(lbs br b).length=n:=⟨_,rfl⟩
 rw[hna'] at hna hal
 rw[hnb'] at hnb hbl
 obtain⟨M,hM⟩: ∃M,M=max na nb:=⟨_,rfl⟩
 have ham:a<br^M:=Nat.lt_of_lt_of_le hal (Nat.pow_le_pow_right (by decide) (by omega))
 have hbm:b<br^M:=Nat.lt_of_lt_of_le hbl (Nat.pow_le_pow_right (by decide) (by omega))
 refine Ae (args:=[slv p (lbs br a).length cap,slv q (lbs br b).length cap2]) Tryz.func221 I I I ?_
 rw[hna',hnb']
 refine zA (zB (wP I (Aa (zE (zA (zB ?_))))))
 refine Ef tH I I I I I ?_
 intro g
 refine wP I (Aa (zE (zA (zB (wP I (Aa (zE (zA (zA (zB (wP I (Aa (zE ?_)))))))))))))
 refine zH ?_
 refine A9 (X:=Nat×NV) (fun x=>[(0,slv p na cap),(1,slv q nb cap2),(5,BA x.2 x.1),(6, .int .i64 ((F5 (lbs br a) (lbs br b) x.1).2:Nat)),(7, .int .i64 (x.1:Nat))]) (fun x=>[BD x.2 (F5 (lbs br a) (lbs br b) x.1).1])
  (fun x=>x.1≤M+1∧Cd x.2 (F5 (lbs br a) (lbs br b) x.1).1∧(x.1=M+1→(F5 (lbs br a) (lbs br b) (M+1)).2=0)) (fun x=>M+1-x.1) (0,g,0,[]) ⟨Nat.zero_le _,⟨rfl,(fun h=>by cases h),fun _=>⟨Nat.le_refl _,Nat.zero_le _,rfl⟩⟩,fun h=>by have h:0=M+1:=h;omega⟩ ⟨rfl,rfl,rfl,rfl,rfl,trivial⟩ [] rfl ?_
 rintro⟨i,x⟩ ⟨hi,hx,hend⟩
 have hi:i≤M+1:=hi
 have hx:Cd x (F5 (lbs br a) (lbs br b) i).1:=hx
 have hlen:=L0 (lbs br a) (lbs br b) i
 obtain⟨hob,hc1⟩:=Rs hla hlb i
 have hval:=Ll a b i
 obtain⟨out,hout⟩: ∃out,(F5 (lbs br a) (lbs br b) i).1=out:=⟨_,rfl⟩
 obtain⟨c,hc⟩: ∃c,(F5 (lbs br a) (lbs br b) i).2=c:=⟨_,rfl⟩
 rw[hout] at hx hlen hob hval
 rw[hc] at hc1 hval
 have eout:BD x (F5 (lbs br a) (lbs br b) i).1=BD x out:=by rw[hout]
 simp only[hc,hout]
 refine Au (Au ?_)
 refine AM (X:=Unit) (fun _=>[(0,slv p na cap),(1,slv q nb cap2),(5,BA x i),(6, .int .i64 (c:Nat)),(7, .int .i64 (i:Nat)),(23, .bool (decide (i<na∨i<nb∨0<c)))]) (fun _=>[BD x out]) (fun _=>True) ?_ ?_
 ·refine zB (wP I (wP I (wP I (wP I ?_))))
  by_cases h1:i<na
  ·refine wU 13 true I (dT (by omega)) (wP I ?_)
   iterate 4 refine Aw I I ?_
   refine wP I (wP I ?_)
   iterate 2 refine Aw I I ?_
   exact wP I (Aa (At () tO ⟨I,I,I,I,I,by rw[dT (Or.inl h1)];rfl,tO⟩ [] I))
  refine wU 13 false I (dF (by omega)) ?_
  iterate 5 refine wP I ?_
  by_cases h2:i<nb
  ·refine wU 18 true I (dT (by omega)) (wP I (wP I ?_))
   iterate 2 refine Aw I I ?_
   exact wP I (Aa (At () tO ⟨I,I,I,I,I,by rw[dT (Or.inr (Or.inl h2))];rfl,tO⟩ [] I))
  exact wU 18 false I (dF (by omega)) (wP I (wP I (wP I (wP I (wU 22 (decide (i<na∨i<nb∨0<c)) I (decide_eq_decide.2 (by omega)) (wP I (Aa (At () tO ⟨I,I,I,I,I,I,tO⟩ [] I))))))))
 intro _ _
 refine AA I (fun hcd=> ?_) (fun hcd=> ?_)
 ·have hcd:i<na∨i<nb∨0<c:=of_decide_eq_true hcd
  have hiM:i≤M:=by
   rcases Nat.lt_or_ge M i with h|h
   ·have h1:i=M+1:=by omega
    have h2:=hend h1
    rw[←h1,hc] at h2
    omega
   ·exact h
  obtain⟨u,hu⟩: ∃u,lim (lbs br a) i=u:=⟨_,rfl⟩
  obtain⟨v,hv⟩: ∃v,lim (lbs br b) i=v:=⟨_,rfl⟩
  have hub:u<1000000:=by rw[←hu];exact Bg br2 hla i
  have hvb:v<1000000:=by rw[←hv];exact Bg br2 hlb i
  have e1:(F5 (lbs br a) (lbs br b) (i+1)).1=out++[(u+v+c)%br]:=by show _++[_]=_;rw[hout,hu,hv,hc]
  have e2:(F5 (lbs br a) (lbs br b) (i+1)).2=(u+v+c)/br:=by show _/_=_;rw[hu,hv,hc]
  refine zI (zE (zA (zH (zA (zB (wP I (wP I (wC I I (fun W' hp=>CU W' p cap na (lbs br a) i u (hA.hp hp) hna' (by omega) hu) (wP I (wP I (wC I I (fun W' hp=>CU W' q cap2 nb (lbs br b) i v (hB.hp hp) hnb' (by omega) hv) (wP I (wP I (wP I ?_))))))))))))))
  refine wV 34 ((u+v+c:Nat):Int) I (by show w64 (w64 ((u:Int)+v)+c)=_;rw[AZ (by omega),AZ (by omega)]) (wP I (Aa (zE (zA (zB (wP I (wP I ?_)))))))
  refine Gk I I I I I (by decide) ?_
  refine AO Tryz.hZ tH I I I I I I I I I I I fun bN=> ?_
  refine BJ (V:=nvV x) (len:=i) (xs:=nI out) 0 1 Tryz.vec130 (i+1) (nI (out++[(u+v+c)%br])) I I I I I I I I I I I (by rw[←hlen];exact hx) I I I (by rw[HX];rfl) (by simp only[maxLen];omega) (by omega) I ?_
  intro g1 c1 j1 hV1
  refine wP I (Aa (zE (zB (wP I ?_))))
  refine CT I I I I I (by decide) ?_
  refine wV 41 (((u+v+c)/br:Nat):Int) I (BN (show(u+v+c)/1000000<9223372036854775808 by omega)) (wP I (Aa (zN (zE (zB (wP I (wP I (wV 25 ((i+1:Nat):Int) I (Av (by omega)) (wP I (Aa ?_))))))))))
  refine A0 (i+1,g1,c1,j1) ⟨by show i+1≤M+1;omega, ?_,fun h=> ?_⟩ (by show M+1-(i+1)<M+1-i;omega) ⟨I,I,I,by rw[e2];rfl,I,tO⟩ _ (by show _=[BD _ (F5 _ _ (i+1)).1]++_;rw[e1];rfl)
  ·show Cd _ (F5 (lbs br a) (lbs br b) (i+1)).1
   rw[e1]
   show Vec.OK _ 1 (out++[_]).length _
   rw[List.length_append,hlen]
   exact hV1
  ·have h:i+1=M+1:=h
   have h9:=Ll a b (M+1)
   have hp1:br^(M+1)=br^M*br:=Nat.pow_succ ..
   have hp2:br^M*2≤br^M*br:=Nat.mul_le_mul_left _ br2
   rw[Nat.mod_eq_of_lt (by omega),Nat.mod_eq_of_lt (by omega)] at h9
   rcases Nat.eq_zero_or_pos (F5 (lbs br a) (lbs br b) (M+1)).2 with h0|h0
   ·exact h0
   ·have:=Nat.mul_le_mul_left (br^(M+1)) h0
    omega
 ·have hcd: ¬(i<na∨i<nb∨0<c):=of_decide_eq_false hcd
  have ev:lv br out=a+b:=by
   have hc0:c=0:=by omega
   rw[hc0,Nat.mul_zero,Nat.add_zero] at hval
   have h3:br^M≤br^i:=Nat.pow_le_pow_right (by decide) (by omega)
   rw[Nat.mod_eq_of_lt (by omega),Nat.mod_eq_of_lt (by omega)] at hval
   exact hval
  obtain⟨j2,hj1,hj2⟩:=D5 hx hob
  rw[ev] at hj1 hj2
  refine zJ (zK (zK (zL (zE (zA (zB (wP I ?_)))))))
  refine Al 42 (slv (some ⟨x.1,0,none⟩) out.length x.2.1) I (by rw[hlen]) ?_
  exact wC I I (fun W' hp=>C0 W' (some ⟨x.1,0,none⟩) x.2.1 out (A7.of_bx hp 0 I) hob (by have:=(hx.cap (by simp)).1;exact this) (by omega)) (wP I (Aa (zE (zO (A8 tH I (.tmp I) ((x.1,x.2.1,j2):NV) (by rw[ev]) hj1 fun W hp=>A3.of_hp1 hp 0 (by show some (⟨x.1,3,nI out++x.2.2,true,none⟩:Bx)=some ⟨x.1,3,nI (lbs br (a+b))++j2,true,none⟩;rw[hj2]))))))
-- BOXES 4
-- CODE2
def Hl (x y c:Nat):Nat×Nat:=if y+c≤x then(x-y-c,0) else(x+br-y-c,1)
theorem Rx {x y c:Nat} (hx:x<br) (hy:y<br) (hc:c≤1):(Hl x y c).1<br∧(Hl x y c).2≤1∧(Hl x y c).1+y+c=x+br*(Hl x y c).2:=by
 have hx:x<1000000:=hx
 have hy:y<1000000:=hy
 unfold Hl
 split
 ·exact⟨by show x-y-c<1000000;omega,Nat.zero_le _,by show x-y-c+y+c=x+1000000*0;omega⟩
 ·exact⟨by show x+1000000-y-c<1000000;omega,Nat.le_refl _,by show x+1000000-y-c+y+c=x+1000000*1;omega⟩
def G6 (a b:List Nat):Nat→List Nat×Nat
 |0=>([],0)
 |i+1=>((G6 a b i).1++[(Hl (lim a i) (lim b i) (G6 a b i).2).1],(Hl (lim a i) (lim b i) (G6 a b i).2).2)
theorem Ln (a b:List Nat): ∀i,(G6 a b i).1.length=i
 |0=>rfl
 |i+1=>by show(_++[_]).length=_;rw[List.length_append,Ln a b i];rfl
theorem Nk {a b:List Nat} (ha: ∀x∈a,x<br) (hb: ∀x∈b,x<br): ∀i,(∀x∈(G6 a b i).1,x<br)∧(G6 a b i).2≤1
 |0=>⟨fun x h=>(by cases h),Nat.zero_le _⟩
 |i+1=>by
  obtain⟨h1,h2⟩:=Nk ha hb i
  obtain⟨h3,h4,_⟩:=Rx (Bg br2 ha i) (Bg br2 hb i) h2
  refine⟨fun x hx=> ?_,h4⟩
  rcases List.mem_append.1 hx with hx|hx
  ·exact h1 x hx
  ·obtain rfl:=List.mem_singleton.1 hx;exact h3
theorem O0 (a b:Nat): ∀i,lv br (G6 (lbs br a) (lbs br b) i).1+b%br^i=a%br^i+br^i*(G6 (lbs br a) (lbs br b) i).2
 |0=>by show 0+_=_+br^0*0;rw[Nat.pow_zero,Nat.mod_one,Nat.mod_one]
 |i+1=>by
  have hc:=(Nk (Bl br2 a) (Bl br2 b) i).2
  exact K1 (Ln _ _ i) (O0 a b i) (by rw[←Bi br2 b i, ←Bi br2 a i];exact(Rx (Bg br2 (Bl br2 a) i) (Bg br2 (Bl br2 b) i) hc).2.2)
theorem EA (W:World) (p q:Option Addr) (cap cap2:Nat) (a b:Nat) (hba:b≤a) (hA:A7 W p (lbs br a)) (hB:A7 W q (lbs br b)) (hna:(lbs br a).length≤1000000):
  Ap Tryz.prog 196 #[slv p (lbs br a).length cap,slv q (lbs br b).length cap2] W (fun x:NV=>BA x (lbs br (a-b)).length) (fun x=>Cd x (lbs br (a-b))) (fun x=>[BD x (lbs br (a-b))]):=by
 have hla:=Bl br2 a
 have hlb:=Bl br2 b
 have hal:=AQ br2 a
 obtain⟨na,hna'⟩: ∃n,(lbs br a).length=n:=⟨_,rfl⟩
 obtain⟨nb,hnb'⟩: ∃n,(lbs br b).length=n:=⟨_,rfl⟩
 rw[hna'] at hna hal
 refine Ae (args:=[slv p (lbs br a).length cap,slv q (lbs br b).length cap2]) Tryz.func196 I I I ?_
 rw[hna',hnb']
 refine zA (zB (wP I (Aa (zE (zA (zB ?_))))))
 refine Ef tH I I I I I ?_
 intro g
 refine wP I (Aa (zE (zA (zB (wP I (Aa (zE (zA (zA (zB (wP I (Aa (zE ?_)))))))))))))
 refine zH ?_
 refine A9 (X:=Nat×NV) (fun x=>[(0,slv p na cap),(1,slv q nb cap2),(5,BA x.2 x.1),(6, .int .i64 ((G6 (lbs br a) (lbs br b) x.1).2:Nat)),(7, .int .i64 (x.1:Nat))]) (fun x=>[BD x.2 (G6 (lbs br a) (lbs br b) x.1).1])
  (fun x=>x.1≤na∧Cd x.2 (G6 (lbs br a) (lbs br b) x.1).1) (fun x=>na-x.1) (0,g,0,[]) ⟨Nat.zero_le _,⟨rfl,(fun h=>by cases h),fun _=>⟨Nat.le_refl _,Nat.zero_le _,rfl⟩⟩⟩ ⟨rfl,rfl,rfl,rfl,rfl,trivial⟩ [] rfl ?_
 rintro⟨i,x⟩ ⟨hi,hx⟩
 have hi:i≤na:=hi
 have hx:Cd x (G6 (lbs br a) (lbs br b) i).1:=hx
 have hlen:=Ln (lbs br a) (lbs br b) i
 obtain⟨hob,hc1⟩:=Nk hla hlb i
 have hval:=O0 a b i
 obtain⟨out,hout⟩: ∃out,(G6 (lbs br a) (lbs br b) i).1=out:=⟨_,rfl⟩
 obtain⟨c,hc⟩: ∃c,(G6 (lbs br a) (lbs br b) i).2=c:=⟨_,rfl⟩
 rw[hout] at hx hlen hob hval
 rw[hc] at hc1 hval
 simp only[hc,hout]
 refine zA (zA (zB (wP I (wP I (wP I (wP I ?_))))))
 by_cases h1:i<na
 ·refine wU 13 true I (dT (by omega)) (Aa (zE (zR I (zI (zE (zA (zH (zA (zU ?_)))))))))
  obtain⟨u,hu⟩: ∃u,lim (lbs br a) i=u:=⟨_,rfl⟩
  obtain⟨v,hv⟩: ∃v,lim (lbs br b) i=v:=⟨_,rfl⟩
  have hub:u<1000000:=by rw[←hu];exact Bg br2 hla i
  have hvb:v<1000000:=by rw[←hv];exact Bg br2 hlb i
  obtain⟨b1,o1,rfl,r1⟩:=hA.row (show i<(lbs br a).length by omega)
  have r1:=r1 i (by omega)
  rw[hu] at r1
  have e1:(G6 (lbs br a) (lbs br b) (i+1)).1=out++[(Hl u v c).1]:=by show _++[_]=_;rw[hout,hu,hv,hc]
  have e2:(G6 (lbs br a) (lbs br b) (i+1)).2=(Hl u v c).2:=by show(Hl _ _ _).2=_;rw[hu,hv,hc]
  refine qP I (qP I ?_)
  refine qJ ?_
  refine qL 0 I I (fun W hp=>r1.hp hp) I (qP I (qP I (qC I I (fun W' hp=>CU W' q cap2 nb (lbs br b) i v (hB.hp hp) hnb' (by omega) hv) (qP I (qP I (qP I (qV 25 ((u:Int)-v-c) I (by show w64 (w64 ((u:Int)-v)-c)=_;rw[Ak (x:=(u:Int)-v) (by omega) (by omega),Ak (by omega) (by omega)]) (qP I (AJ (Aa (zE (zA (zB ?_)))))))))))))
  refine wP I (Aa (AT (Au (Au (zB (wP I (wP I ?_)))))))
  refine Al 27 (.bool (decide ((u:Int)-v-c<0))) I I ?_
  refine Aa (AT ?_)
  try refine Au ?_
  refine AM (X:=Unit) (fun _=>[(0,slv (some ⟨b1,o1,none⟩) na cap),(1,slv q nb cap2),(5,BA x i),(6, .int .i64 ((Hl u v c).2:Nat)),(7, .int .i64 (i:Nat)),(8, .int .i64 ((Hl u v c).1:Nat))]) (fun _=>[BD x out]) (fun _=>True) ?_ ?_
  ·refine AA I (fun hn=> ?_) (fun hn=> ?_)
   ·have hn:(u:Int)-v-c<0:=of_decide_eq_true hn
    have em:Hl u v c=(u+br-v-c,1):=by unfold Hl;rw[if_neg (by omega)]
    exact zA (zB (wP I (wP I (wV 29 ((u+br-v-c:Nat):Int) I (by show w64 (((u:Int)-v-c)+((1000000:Nat):Int))=_;rw[Ak (by omega) (by omega)];show _=((u+1000000-v-c:Nat):Int);omega) (wP I (Aa (zE (zB (wP I (Aa (At () tO ⟨I,I,I,by rw[em];rfl,I,by rw[em];rfl,tO⟩ [] I)))))))))))
   ·have hn: ¬(u:Int)-v-c<0:=of_decide_eq_false hn
    have em:Hl u v c=(u-v-c,0):=by unfold Hl;rw[if_pos (by omega)]
    exact zI (At () tO ⟨I,I,I,by rw[em];rfl,I,by rw[em];exact congrArg (fun z=>some (Value.int .i64 z)) (by show(u:Int)-v-c=((u-v-c:Nat):Int);omega),tO⟩ [] I)
  intro _ _
  refine zB (wP I (wP I ?_))
  refine AO Tryz.hZ tH I I I I I I I I I I I fun bN=> ?_
  refine BJ (V:=nvV x) (len:=i) (xs:=nI out) 0 1 Tryz.vec130 (i+1) (nI (out++[(Hl u v c).1])) I I I I I I I I I I I (by rw[←hlen];exact hx) I I I (by rw[HX];rfl) (by simp only[maxLen];omega) (by omega) I ?_
  intro g1 c1 j1 hV1
  refine wP I (Aa (zN (zE (zB (wP I (wP I (wV 15 ((i+1:Nat):Int) I (Av (by omega)) (wP I (Aa ?_)))))))))
  refine A0 (i+1,g1,c1,j1) ⟨h1, ?_⟩ (by show na-(i+1)<na-i;omega) ⟨I,I,I,by rw[e2];rfl,I,tO⟩ _ (by show _=[BD _ (G6 _ _ (i+1)).1]++_;rw[e1];rfl)
  show Cd _ (G6 (lbs br a) (lbs br b) (i+1)).1
  rw[e1]
  show Vec.OK _ 1 (out++[_]).length _
  rw[List.length_append,hlen]
  exact hV1
 ·have e:i=na:=by omega
  subst e
  have ev:lv br out=a-b:=Ml br2 hlen hob hval hal hba
  obtain⟨j2,hj1,hj2⟩:=D5 hx hob
  rw[ev] at hj1 hj2
  refine wU 13 false I (dF (by omega)) (Aa (zE (zS I (zJ (zK (zK (zL (zE (zA (zB (wP I ?_)))))))))))
  refine Al 34 (slv (some ⟨x.1,0,none⟩) out.length x.2.1) I (by rw[hlen]) ?_
  exact wC I I (fun W' hp=>C0 W' (some ⟨x.1,0,none⟩) x.2.1 out (A7.of_bx hp 0 I) hob (by have:=(hx.cap (by simp)).1;exact this) (by omega)) (wP I (Aa (zE (zO (A8 tH I (.tmp I) ((x.1,x.2.1,j2):NV) (by rw[ev]) hj1 fun W hp=>A3.of_hp1 hp 0 (by show some (⟨x.1,3,nI out++x.2.2,true,none⟩:Bx)=some ⟨x.1,3,nI (lbs br (a-b))++j2,true,none⟩;rw[hj2]))))))
-- BOXES 4
-- CODE2
theorem Uj {x y:Nat} (hx:x<br) (hy:y<br):x*y≤999998000001:=(Nat.mul_le_mul (Nat.le_of_lt_succ hx) (Nat.le_of_lt_succ hy):x*y≤999999*999999)
theorem HA (W:World) (p q:Option Addr) (cap cap2:Nat) (a:Nat) (lb:List Nat) (hlb: ∀x∈lb,x<br) (hA:A7 W p (lbs br a)) (hB:A7 W q lb) (hna:(lbs br a).length≤1000000) (hnb:lb.length≤1000000):
  Ap Tryz.prog 197 #[slv p (lbs br a).length cap,slv q lb.length cap2] W (fun x:NV=>BA x (lbs br (a*lv br lb)).length) (fun x=>Cd x (lbs br (a*lv br lb))) (fun x=>[BD x (lbs br (a*lv br lb))]):=by
 have hla:=Bl br2 a
 have hal:=AQ br2 a
 have hbl:=EV br2 hlb
 obtain⟨b,hbv⟩: ∃b,lv br lb=b:=⟨_,rfl⟩
 rw[hbv] at hbl⊢
 obtain⟨na,hna'⟩: ∃n,(lbs br a).length=n:=⟨_,rfl⟩
 obtain⟨nb,hnb'⟩: ∃n,lb.length=n:=⟨_,rfl⟩
 obtain⟨M,hM⟩: ∃M,M=na+nb+1:=⟨_,rfl⟩
 rw[hna'] at hna hal
 rw[hnb'] at hnb hbl
 refine Ae (args:=[slv p (lbs br a).length cap,slv q lb.length cap2]) Tryz.func197 I I I ?_
 rw[hna',hnb']
 refine zA (zB (wP I (Aa (zE (zA (zB ?_))))))
 iterate 6 refine wP I ?_
 refine wV 15 (M:Nat) I (by show w64 (w64 ((na:Int)+nb)+1)=_;rw[AZ (by omega),Av (by omega),hM]) ?_
 refine Cl Tryz.vec130 M I I I I I I I (by simp only[maxLen];omega) (by omega) ?_
 intro g
 have ez:BQ (Value.cells (.int .i64 0)).toList M=nI (List.replicate M 0)++[]:=by rw[List.append_nil];exact EU M
 rw[ez]
 refine wP I (Aa (zE (zA (zA (zB (wP I (Aa (zE (zH ?_)))))))))
 refine A9 (X:=Nat×List Nat) (fun x=>[(0,slv p na cap),(1,slv q nb cap2),(5,slv (some ⟨g,0,none⟩) M M),(6, .int .i64 (x.1:Nat))]) (fun x=>[⟨g,3,nI x.2++[],true,none⟩])
  (fun x=>x.1≤na∧x.2.length=M∧(∀y∈x.2,y<br)∧lv br x.2=a%br^x.1*b) (fun x=>na-x.1) (0,List.replicate M 0) ⟨Nat.zero_le _,List.length_replicate,fun y hy=>by rw[List.eq_of_mem_replicate hy];decide,by rw[Ek];show 0=a%br^0*b;rw[Nat.pow_zero,Nat.mod_one,Nat.zero_mul]⟩ ⟨rfl,rfl,rfl,rfl,trivial⟩ [] rfl ?_
 rintro⟨i,out⟩ ⟨hi,hlen,hob,hov⟩
 have hi:i≤na:=hi
 have hlen:out.length=M:=hlen
 refine zA (zA (zB (wP I (wP I (wP I (wP I ?_))))))
 by_cases hi':i<na
 ·refine wU 20 true I (dT (by omega)) (Aa (zE (zR I (zI (zE (zA (zH (zA (zB ?_)))))))))
  obtain⟨pb,po,rfl,hrow⟩:=hA.row (show i<(lbs br a).length by omega)
  obtain⟨x,hx⟩: ∃x,lim (lbs br a) i=x:=⟨_,rfl⟩
  have hrx: ∀W' bx,Hp W bx W'→Ar W' pb (po+i*1) [.int .i64 (x:Nat)]:=fun W' bx hp=>by
   have:=(hrow i (by omega)).hp hp
   rwa [hx] at this
  have hxb:x<br:=by rw[←hx];exact Bg br2 hla i
  have hxe:x=a/br^i%br:=by rw[←hx];exact Bi br2 a i
  refine wP I (Aa (zE (zA (zB (wP I (Aa (zE (zH ?_))))))))
  refine A9 (X:=Nat×List Nat×Nat) (fun x'=>[(0,slv (some ⟨pb,po,none⟩) na cap),(1,slv q nb cap2),(5,slv (some ⟨g,0,none⟩) M M),(6, .int .i64 (i:Nat)),(7, .int .i64 (x'.2.2:Nat)),(8, .int .i64 (x'.1:Nat))]) (fun x'=>[⟨g,3,nI x'.2.1++[],true,none⟩])
   (fun x'=>x'.1≤nb+1∧x'.2.1.length=M∧(∀y∈x'.2.1,y<br)∧x'.2.2<br∧lv br x'.2.1+br^(i+x'.1)*x'.2.2=lv br out+br^i*(x*(b%br^x'.1))) (fun x'=>nb+1-x'.1) (0,out,0) ⟨Nat.zero_le _,hlen,hob,show 0<br by decide,by show lv br out+br^(i+0)*0=lv br out+br^i*(x*(b%br^0));rw[Nat.pow_zero,Nat.mod_one];simp⟩ ⟨rfl,rfl,rfl,rfl,rfl,rfl,trivial⟩ [] rfl ?_
  rintro⟨k,u,c⟩ ⟨hk,hul,hub,hcb,huv⟩
  have hk:k≤nb+1:=hk
  have hul:u.length=M:=hul
  have hcb:c<1000000:=hcb
  have huv:lv br u+br^(i+k)*c=lv br out+br^i*(x*(b%br^k)):=huv
  have hlast:k=nb+1→c=0:=fun e=>by
   subst e
   exact(Ms br2 huv hbl hxb (by rw[hov];exact J7 br2 hbl)).2
  refine Au (Au ?_)
  refine AM (X:=Unit) (fun _=>[(0,slv (some ⟨pb,po,none⟩) na cap),(1,slv q nb cap2),(5,slv (some ⟨g,0,none⟩) M M),(6, .int .i64 (i:Nat)),(7, .int .i64 (c:Nat)),(8, .int .i64 (k:Nat)),(30, .bool (decide (k<nb∨0<c)))]) (fun _=>[⟨g,3,nI u++[],true,none⟩]) (fun _=>True) ?_ ?_
  ·refine zB (wP I (wP I (wP I (wP I ?_))))
   by_cases h1:k<nb
   ·refine wU 26 true I (dT (by omega)) (wP I ?_)
    iterate 2 refine Aw I I ?_
    exact wP I (Aa (At () tO ⟨I,I,I,I,I,I,by rw[dT (Or.inl h1)];rfl,tO⟩ [] I))
   ·exact wU 26 false I (dF (by omega)) (wP I (wP I (wP I (wU 29 (decide (k<nb∨0<c)) I (decide_eq_decide.2 (by show((c:Nat):Int)>0↔(k<nb∨0<c);omega)) (wP I (Aa (At () tO ⟨I,I,I,I,I,I,I,tO⟩ [] I)))))))
  intro _ _
  refine AA I (fun hc=> ?_) (fun hc=> ?_)
  ·have hc:k<nb∨0<c:=of_decide_eq_true hc
   have hk':k<nb+1:=by
    rcases Nat.lt_or_ge k (nb+1) with h|h
    ·exact h
    ·have:=hlast (by omega);omega
   have hik:i+k<u.length:=by rw[hul];omega
   obtain⟨o,ho⟩: ∃o,lim u (i+k)=o:=⟨_,rfl⟩
   obtain⟨y,hy⟩: ∃y,lim lb k=y:=⟨_,rfl⟩
   have hob':o<br:=by rw[←ho];exact Bg br2 hub _
   have hyb:y<br:=by rw[←hy];exact Bg br2 hlb _
   have hou:u[i+k]? =some o:=by rw[Dn hik,ho]
   obtain⟨n,hn⟩: ∃n,n=o+x*y+c:=⟨_,rfl⟩
   have hnb2:=J5 hxb hyb hob' hcb hn
   have hn63:n<1000000000000:=hnb2.2
   have hxy:=Uj hxb hyb
   have hyy:=hy
   rw[Cq br2 k hlb,hbv] at hyy
   have hstep:=HV (n:=n) hou huv (by rw[hn,hyy])
   have hrx':=hrx
   refine zI (zE (zA (zH (zA (zU (qP I (qP I (qP I (qP I (qV 36 ((i+k:Nat):Int) I (AZ (by omega)) ?_))))))))))
   refine qJ ?_
   refine qL 0 I I (fun W' hp=>Ar.of_intsX hp 0 I hik ho) I (qP I (qP I ?_))
   refine qJ ?_
   refine qL 0 I I (fun W' hp=>hrx W' _ hp) I (qP I (qP I (qC I I (fun W' hp=>CU W' q cap2 nb lb k y (hB.hp hp) hnb' (by omega) hy) (qP I (qP I (qP I (qP I (qV 49 (n:Nat) I (by show w64 (w64 ((o:Int)+w64 ((x:Int)*y))+c)=_;rw[BZ (by omega),AZ (by omega),AZ (by omega),hn]) (qP I (AJ (Aa (zE (zA ?_)))))))))))))
   refine zB (wP I (wP I (wP I (wP I (wV 53 ((i+k:Nat):Int) I (AZ (by omega)) (wP I ?_))))))
   refine Gk I I I I I (by decide) ?_
   refine wJ ?_
   refine Ad 0 (nI (u.set (i+k) (n%br))++[]) tH I I I I I I I I I I (by show 0+(i+k)*1+1≤(nI u++[]).length;rw[List.append_nil,B5];omega) (Cn hik (n%br)) ?_
   refine Aa (zE (zB (wP I ?_)))
   refine CT I I I I I (by decide) ?_
   exact wV 58 ((n/br:Nat):Int) I (BN (show n/1000000<9223372036854775808 by omega)) (wP I (Aa (zN (zE (zB (wP I (wP I (wV 32 ((k+1:Nat):Int) I (Av (by omega)) (wP I (Aa (A0 (k+1,u.set (i+k) (n%br),n/br) ⟨hk',by rw[List.length_set];exact hul,C6 hub (Nat.mod_lt _ (by decide)),hnb2.1,hstep⟩ (by show nb+1-(k+1)<nb+1-k;omega) ⟨I,I,I,I,I,I,tO⟩ [] I)))))))))))
  ·have hc: ¬(k<nb∨0<c):=of_decide_eq_false hc
   have hc0:c=0:=by omega
   have h1:lv br u=lv br out+br^i*(x*b):=by
    rw[hc0,Nat.mul_zero,Nat.add_zero] at huv
    have h3:br^nb≤br^k:=Nat.pow_le_pow_right (by decide) (by omega)
    rw[Nat.mod_eq_of_lt (show b<br^k by omega)] at huv
    exact huv
   have h2:=K0 (a:=a) (b:=b) (i:=i) hov
   rw[←hxe, ←h1] at h2
   exact zJ (zK (zK (zL (zN (zE (zB (wP I (wP I (wV 22 ((i+1:Nat):Int) I (Av (by omega)) (wP I (Aa (A0 (i+1,u) ⟨hi',hul,hub,h2⟩ (by show na-(i+1)<na-i;omega) ⟨I,I,I,I,tO⟩ [] I))))))))))))
 ·have hi':i=na:=by omega
  subst hi'
  rw[Nat.mod_eq_of_lt hal] at hov
  refine wU 20 false I (dF (by omega)) (Aa (zE (zS I (zJ (zK (zK (zL (zE (zA (zB ?_))))))))))
  have hV0:(⟨some g,M,[]⟩:Vec).OK 1 out.length (nI out):=⟨Eb _,(fun h=>by cases h),fun _=>⟨by show _≤M;omega,by show M≤maxLen;simp only[maxLen];omega,by show(nI out).length+0=M*1;rw[B5];omega⟩⟩
  obtain⟨j',hV2,he⟩:=D5 hV0 hob
  refine wP I ?_
  refine Al 59 (slv (some ⟨g,0,none⟩) out.length M) I (by rw[hlen]) ?_
  refine wC I I (fun W hp=>C0 W _ M _ (A7.of_bx hp 0 I) hob (by omega) (by omega)) (wP I (Aa (zE (zO ?_))))
  rw[hov] at hV2 he
  exact A8 tH I (.tmp I) ((g,M,j'):NV) (by rw[hov]) hV2 fun W hp=>A3.of_hp1 hp 0 (by show some (⟨g,3,nI out++[],true,none⟩:Bx)=some ⟨g,3,nI (lbs br (a*b))++j',true,none⟩;rw[he])
theorem IV (W:World) (p q:Option Addr) (cap cap2:Nat) (a b:Nat) (hA:A7 W p (lbs br a)) (hB:A7 W q (lbs br b)) (hna:(lbs br a).length≤1000000) (hnb:(lbs br b).length≤1000000):
  Ap Tryz.prog 197 #[slv p (lbs br a).length cap,slv q (lbs br b).length cap2] W (fun x:NV=>BA x (lbs br (a*b)).length) (fun x=>Cd x (lbs br (a*b))) (fun x=>[BD x (lbs br (a*b))]):=by
 have h:=HA W p q cap cap2 a (lbs br b) (Bl br2 b) hA hB hna hnb
 rwa [Jy br2] at h
-- BOXES 2
-- CODE2
def Ih (z:Int):List UInt8:=if z<0 then[45] else[]
theorem CX (z:Int):itoa z=Ih z++decDigits z.natAbs:=by
 unfold itoa Ih
 split
 ·rfl
 ·rw[show z.toNat=z.natAbs by omega];rfl
theorem N6 (z:Int):(Ih z).length≤1:=by unfold Ih;split<;>decide
theorem Ly (z:Int): ∃c,(itoa z)[0]? =some c∧decide (c=45)=decide (z<0):=by
 have h:=JN z
 rw[Bt] at h
 cases e:itoa z with
 |nil=>
  rw[CX] at e
  exact absurd (List.append_eq_nil_iff.1 e).2 (G2 _)
 |cons c t=>
  rw[e] at h
  exact⟨c,I,by rw[←h];exact decide_eq_decide.2 (by simp)⟩
theorem TU {n:Nat} (h:(decDigits n)[0]? =some 48):n=0:=by
 rcases Nat.eq_zero_or_pos n with h0|h0
 ·exact h0
 ·obtain⟨b,r,h1,h2⟩:=Kt n (by omega)
  rw[h1] at h
  have h:b=48:=by simpa using h
  rw[h] at h2;exact absurd rfl h2
theorem Gi (z:Int) (hl:(decDigits z.natAbs).length≤300):B7 Tryz.prog 191 [str (itoa z)] (.int .i64 0):=by
 intro W
 obtain⟨s,hs⟩: ∃s,s=itoa z:=⟨_,rfl⟩
 obtain⟨dd,hdd⟩: ∃dd,dd=decDigits z.natAbs:=⟨_,rfl⟩
 obtain⟨f,hf⟩: ∃f,f=(Ih z).length:=⟨_,rfl⟩
 have hss:s=Ih z++dd:=by rw[hs,hdd];exact CX z
 have hf1:f≤1:=hf▸N6 z
 have hsl:s.length=f+dd.length:=by rw[hss,List.length_append,hf]
 have hd0:0<dd.length:=by rw[hdd];exact List.length_pos_iff.2 (G2 _)
 have hget: ∀i,f≤i→s[i]? =dd[i-f]? :=fun i hi=>by rw[hss,List.getElem?_append_right (by omega),hf]
 obtain⟨c0,hc0,hc45⟩:=Ly z
 rw[←hs] at hc0⊢
 rw[←hdd] at hl
 have hdg: ∀b∈dd,D7 b=true:=by rw[hdd];exact(GD _).all
 refine Ae Tryz.func191 I I I ?_
 refine zA (zB (wP I (Aa (zE (zA (zB (wP I (Aa (zE (zA (zA (zB (wP I (wP I ?_))))))))))))))
 refine Al 6 (.int .i64 (s.length:Nat)) I (congrArg (fun n:Nat=>Value.int .i64 (n:Int)) (AH s)) ?_
 refine wP I (wU 7 true I (dT (by omega)) (wP I (wP I ?_)))
 refine Bp 0 tH I I I I I I I I hc0 ?_
 refine wP I (wU 11 (decide (z<0)) I ((Fy c0 45).trans hc45) (wP I (Aa (AT ?_))))
 try refine Au ?_
 refine AM (X:=Unit) (fun _=>[(0,str s),(3, .int .i64 (f:Nat))]) (fun _=>[]) (fun _=>True) ?_ ?_
 ·refine AA I (fun h=> ?_) (fun h=> ?_)
  ·have h:z<0:=of_decide_eq_true h
   exact zB (wP I (Aa (At () tO ⟨I,by rw[hf];unfold Ih;rw[if_pos h];rfl,tO⟩ [] I)))
  ·have h: ¬z<0:=of_decide_eq_false h
   exact zI (At () tO ⟨I,by rw[hf];unfold Ih;rw[if_neg h];rfl,tO⟩ [] I)
 intro _ _
 refine Au (Au ?_)
 refine AM (X:=Unit) (fun _=>[(0,str s),(3, .int .i64 (f:Nat)),(27, .bool false)]) (fun _=>[]) (fun _=>True) ?_ ?_
 ·refine zB (wP I (wP I (wP I ?_)))
  refine Al 15 (.int .i64 (s.length:Nat)) I (congrArg (fun n:Nat=>Value.int .i64 (n:Int)) (AH s)) ?_
  refine wP I (wU 16 false I (by rw[beq_eq_false_iff_ne];omega) ?_)
  obtain⟨b,hb⟩: ∃b,dd[0]? =some b:=⟨dd[0],List.getElem?_eq_getElem hd0⟩
  have hsb:s[f]? =some b:=by rw[hget f (Nat.le_refl _),Nat.sub_self];exact hb
  refine wP I (wP I (wP I ?_))
  refine Bp f tH I I I I I I I I hsb ?_
  refine wP I ?_
  by_cases h48:b=48
  ·rw[h48,hdd] at hb
   have h0:=TU hb
   have hz:z=0:=by omega
   have hs1:s.length=1:=by rw[hs,hz,CY];rfl
   refine wU 21 true I ((Fy b 48).trans (dT h48)) (wP I (wP I (wP I ?_)))
   refine Al 24 (.int .i64 (s.length:Nat)) I (congrArg (fun n:Nat=>Value.int .i64 (n:Int)) (AH s)) ?_
   exact wP I (wU 25 false I (dF (by omega)) (wP I (wP I (Aa (At () tO ⟨I,I,I,tO⟩ [] I)))))
  ·refine wU 21 false I ((Fy b 48).trans (dF h48)) (wP I ?_)
   iterate 3 refine Aw I I ?_
   exact wP I (wP I (Aa (At () tO ⟨I,I,I,tO⟩ [] I)))
 intro _ _
 refine zS I (zI (zE (zA (zA (zB (wP I (wP I (Aa (zE (zH ?_))))))))))
 refine A9 (X:=Nat) (fun i=>[(0,str s),(3, .int .i64 (f:Nat)),(4, .int .i64 (i:Nat))]) (fun _=>[]) (fun i=>i≤s.length∧f≤i) (fun i=>s.length-i) f ⟨by omega,Nat.le_refl _⟩ ⟨I,I,I,tO⟩ [] I ?_
 rintro i ⟨hi,hfi⟩
 have hi:i≤s.length:=hi
 have hfi:f≤i:=hfi
 refine zA (zA (zB (wP I (wP I (wP I ?_)))))
 refine Al 31 (.int .i64 (s.length:Nat)) I (congrArg (fun n:Nat=>Value.int .i64 (n:Int)) (AH s)) ?_
 refine wP I ?_
 by_cases hlt:i<s.length
 ·refine wU 32 true I (dT (by omega)) (Aa (zE (zR I (zI (zE (zA (zH (zA (zB ?_)))))))))
  obtain⟨b,hb⟩: ∃b,dd[i-f]? =some b:=⟨dd[i-f]'(by omega),List.getElem?_eq_getElem (by omega)⟩
  have hsb:s[i]? =some b:=by rw[hget i hfi];exact hb
  have hbd:=Cx.1 (hdg b (List.mem_of_getElem? hb))
  refine wP I (wP I ?_)
  refine Bp i tH I I I I I I I I hsb ?_
  refine wP I (wU 38 false I ((T0 b).trans (dF (by omega))) (wP I (wP I (wP I ?_))))
  refine Bp i tH I I I I I I I I hsb ?_
  refine wP I (wU 43 false I ((SU b).trans (dF (by omega))) (wP I (Aa (zE (zS I (zI (zN (zE (zB (wP I (wP I (wV 34 ((i+1:Nat):Int) I (Av (by omega)) (wP I ?_)))))))))))))
  exact Aa (A0 (i+1) ⟨hlt,by show f≤i+1;omega⟩ (by show s.length-(i+1)<s.length-i;omega) ⟨I,I,I,tO⟩ [] I)
 ·refine wU 32 false I (dF (by omega)) (Aa (zE (zS I (zJ (zK (zK (zL (zE (zA (zA (zB (wP I (wP I ?_)))))))))))))
  refine Al 46 (.int .i64 (s.length:Nat)) I (congrArg (fun n:Nat=>Value.int .i64 (n:Int)) (AH s)) ?_
  refine wP I (wP I (wV 48 (dd.length:Nat) I (by show w64 ((s.length:Int)-f)=_;rw[Ak (by omega) (by omega)];omega) (wP I (wU 49 false I (dF (by omega)) (Aa (zE (zS I (zI (zE (zA (zB (wP I (Aa ?_)))))))))))))
  exact zE (zO (wR1 I I I))
theorem GZ (a b:Int) (ha:(decDigits a.natAbs).length≤300) (hb:(decDigits b.natAbs).length≤300):B7 Tryz.prog 141 [str (itoa a),str (itoa b)] (.int .i64 0):=by
 intro W
 refine Ae Tryz.func141 I I I ?_
 refine zA (zB (wP I (Aa (zE (zA (zA (zB (wP I (wC I I (fun W _=>Gi a ha W) (wP I (Aa (zE (zA ?_)))))))))))))
 refine zB (wP I (wP I (Aa (zE (zS I (zI (zE (zA (zB (wP I (wC I I (fun W _=>Gi b hb W) (wP I (Aa ?_)))))))))))))
 exact zE (zO (wR1 I I I))
def smI (z:Int):Bool:=decide ((itoa z).length≤17)
theorem TB {z:Int} (h:smI z=true):z.natAbs<100000000000000000:=by
 have h:(itoa z).length≤17:=of_decide_eq_true h
 rw[CX,List.length_append] at h
 exact Nat.lt_of_lt_of_le (FM _) (show _≤10^17 from Nat.pow_le_pow_right (by decide) (by omega))
theorem Im (z:Int) (hl:(itoa z).length<4611686018427387904):B7 Tryz.prog 192 [str (itoa z)] (.tuple #[.int .i64 (if smI z=true then z else 0), .bool (smI z)]):=by
 intro W
 obtain⟨s,hs⟩: ∃s,s=itoa z:=⟨_,rfl⟩
 obtain⟨dd,hdd⟩: ∃dd,dd=decDigits z.natAbs:=⟨_,rfl⟩
 obtain⟨f,hf⟩: ∃f,f=(Ih z).length:=⟨_,rfl⟩
 have hss:s=Ih z++dd:=by rw[hs,hdd];exact CX z
 have hf1:f≤1:=hf▸N6 z
 have hsl:s.length=f+dd.length:=by rw[hss,List.length_append,hf]
 have hd0:0<dd.length:=by rw[hdd];exact List.length_pos_iff.2 (G2 _)
 have hget: ∀i,f≤i→s[i]? =dd[i-f]? :=fun i hi=>by rw[hss,List.getElem?_append_right (by omega),hf]
 have hneg: ∀i,i<f→s[i]? =some 45:=fun i hi=>by
  have h0:i=0:=by omega
  subst h0
  rw[hss]
  unfold Ih at hf⊢
  split
  ·rfl
  ·rename_i h;rw[if_neg h] at hf;simp at hf;omega
 obtain⟨c0,hc0,hc45⟩:=Ly z
 have hsm:smI z=decide (s.length≤17):=by rw[hs];rfl
 rw[←hs] at hc0 hl⊢
 have hdg: ∀b∈dd,D7 b=true:=by rw[hdd];exact(GD _).all
 refine Ae Tryz.func192 I I I ?_
 refine zA (zB (wP I (wP I (Aa (zE (zA (zA (zB (wP I (wP I ?_))))))))))
 refine Al 7 (.int .i64 (s.length:Nat)) I (congrArg (fun n:Nat=>Value.int .i64 (n:Int)) (AH s)) ?_
 refine wP I ?_
 by_cases h17:s.length≤17
 rotate_left
 ·exact wU 8 true I (dT (by show((s.length:Nat):Int)>17;omega)) (Aa (zE (zR I (zA (zB (wP I (wP I (Aa (zE (zO (zP (wR2 I I (by rw[hsm,dF h17];rfl)))))))))))))
 have hlt: ∀i,AV (dd.take i)<100000000000000000:=fun i=>by
  have h1:=F0 (dd.take i).length (s:=dd.take i) rfl fun b hb=>hdg b (List.mem_of_mem_take hb)
  have h2:(dd.take i).length≤17:=by rw[List.length_take];omega
  exact Nat.lt_of_lt_of_le h1 (show _≤10^17 from Nat.pow_le_pow_right (by decide) h2)
 refine wU 8 false I (dF (by show¬((s.length:Nat):Int)>17;omega)) (Aa (zE (zS I (zI (zE (zA (zB (wP I (Aa (zE (zA (zA (zB ?_)))))))))))))
 refine wP I (Aa (zE (zH ?_)))
 refine A9 (X:=Nat) (fun i=>[(0,str s),(4, .int .i64 (AV (dd.take (i-f)):Nat)),(5, .int .i64 (i:Nat))]) (fun _=>[]) (fun i=>i≤s.length) (fun i=>s.length-i) 0 (Nat.zero_le _) ⟨I,by show some _=some (Value.int .i64 (AV (dd.take (0-f)):Nat));rw[Nat.zero_sub,List.take_zero];rfl,I,tO⟩ [] I ?_
 intro i hi
 have hi:i≤s.length:=hi
 refine zA (zA (zB (wP I (wP I (wP I ?_)))))
 refine Al 11 (.int .i64 (s.length:Nat)) I (congrArg (fun n:Nat=>Value.int .i64 (n:Int)) (AH s)) ?_
 refine wP I ?_
 by_cases hlt':i<s.length
 ·refine wU 12 true I (dT (by omega)) (Aa (zE (zR I (zI (zE ?_)))))
  try refine Au ?_
  refine AM (X:=Unit) (fun _=>[(0,str s),(4, .int .i64 (AV (dd.take (i+1-f)):Nat)),(5, .int .i64 (i:Nat))]) (fun _=>[]) (fun _=>True) ?_ ?_
  ·refine zH (zA (zB (wP I (wP I ?_))))
   by_cases hif:i<f
   ·refine Bp i tH I I I I I I I I (hneg i hif) ?_
    exact wP I (Aa (zE (zS I (zI (zN (At () tO ⟨I,by rw[show i+1-f=0 by omega,show i-f=0 by omega];rfl,I,tO⟩ [] I))))))
   obtain⟨b,hb⟩: ∃b,dd[i-f]? =some b:=⟨dd[i-f]'(by omega),List.getElem?_eq_getElem (by omega)⟩
   have hsb:s[i]? =some b:=by rw[hget i (by omega)];exact hb
   have hbd:=Cx.1 (hdg b (List.mem_of_getElem? hb))
   have e1:AV (dd.take (i+1-f))=10*AV (dd.take (i-f))+(b.toNat-48):=by
    rw[show i+1-f=i-f+1 by omega,List.take_add_one,hb];exact Da _ _
   have l1:=hlt (i-f)
   have l2:=hlt (i+1-f)
   refine Bp i tH I I I I I I I I hsb ?_
   refine wP I ?_
   refine Al 18 (.bool true) I (congrArg Value.bool (by
    show(!((((b.toNat:Nat):Int))==(45:Int)))=true
    rw[Bool.not_eq_true',beq_eq_false_iff_ne];omega)) ?_
   refine Aa (zE (zR I (zB (wP I (wP I (wV 20 ((10*AV (dd.take (i-f)):Nat):Int) I (show w64 (10*(AV (dd.take (i-f)):Nat))=_ by rw[Ak (by omega) (by omega)];omega) (wP I (wP I ?_))))))))
   refine Bp i tH I I I I I I I I hsb ?_
   refine wP I ?_
   refine Al 24 (.int .u8 ((b.toNat-48:Nat):Int)) I (congrArg (Value.int .u8) (by show IntKind.u8.wrap (((b.toNat:Nat):Int)-48)=_;rw[show((b.toNat:Nat):Int)-48=((b.toNat-48:Nat):Int) by omega,Ou (by omega) (by omega)])) ?_
   refine F9 Tryz.underlying5 Tryz.underlying3 I I I I ?_
   exact wV 25 ((b.toNat-48:Nat):Int) I (BN (by omega)) (wP I (wV 26 ((AV (dd.take (i+1-f)):Nat):Int) I (show w64 (((10*AV (dd.take (i-f)):Nat):Int)+((b.toNat-48:Nat):Int))=_ by rw[Ak (by omega) (by omega),e1];omega) (wP I (Aa (zN (At () tO ⟨I,I,I,tO⟩ [] I))))))
  intro _ _
  exact zB (wP I (wP I (wV 14 ((i+1:Nat):Int) I (Av (by omega)) (wP I (Aa (A0 (i+1) hlt' (by show s.length-(i+1)<s.length-i;omega) ⟨I,I,I,tO⟩ [] I))))))
 ·refine wU 12 false I (dF (by omega)) (Aa (zE (zS I (zJ (zK (zK (zL (zE (zA (zA (zB ?_)))))))))))
  have hv:AV (dd.take (i-f))=z.natAbs:=by rw[List.take_of_length_le (by omega),hdd,Cu]
  have hzl:z.natAbs<100000000000000000:=by rw[←hv];exact hlt _
  refine wP I ?_
  refine Bp 0 tH I I I I I I I I hc0 ?_
  refine wP I (wU 29 (decide (z<0)) I ((Fy c0 45).trans hc45) (Aa (AT ?_)))
  try refine Au ?_
  refine AM (X:=Unit) (fun _=>[(4, .int .i64 z)]) (fun _=>[]) (fun _=>True) ?_ ?_
  ·refine AA I (fun h=> ?_) (fun h=> ?_)
   ·have h:z<0:=of_decide_eq_true h
    exact zB (wP I (wP I (wV 31 z I (by rw[hv];show w64 (0-((z.natAbs:Nat):Int))=_;rw[Ak (by omega) (by omega)];omega) (wP I (Aa (At () tO ⟨I,tO⟩ [] I))))))
   ·have h: ¬z<0:=of_decide_eq_false h
    exact zI (At () tO ⟨congrArg (fun z=>some (Value.int .i64 z)) (by rw[hv];omega),tO⟩ [] I)
  intro _ _
  exact zA (zB (wP I (wP I (wP I (Aa (zE (zO (wR2 I I (by rw[hsm,dT h17,if_pos I])))))))))
theorem LL (a b:Int) (ha:(itoa a).length<4611686018427387904) (hb:(itoa b).length<4611686018427387904):B7 Tryz.prog 142 [str (itoa a),str (itoa b)] (.tuple #[.int .i64 (if smI a=true then a else 0), .int .i64 (if smI a=true then(if smI b=true then b else 0) else 0), .bool (smI a&&smI b)]):=by
 intro W
 refine Ae Tryz.func142 I I I ?_
 refine zA (zB (wP I (wP I (wP I (Aa (zE (zA (zB (wP I (wC I I (fun W _=>Im a ha W) ?_))))))))))
 iterate 5 refine wP I ?_
 refine Aa ?_
 cases hsa:smI a with
 |false=>
  refine zE (zA (zA (zB (wP I (wP I (Aa (zE (zR I (zA (zB (wP I (wP I (wP I ?_)))))))))))))
  exact Aa (zE (zO (zP (wR3 I I I))))
 |true=>
  refine zE (zA (zA (zB (wP I (wP I (Aa (zE (zS I (zI (zE (zA (zB (wP I ?_)))))))))))))
  refine wC I I (fun W _=>Im b hb W) ?_
  iterate 5 refine wP I ?_
  refine Aa (zE (zA (zB ?_)))
  iterate 6 refine wP I ?_
  exact Aa (zE (zO (wR3 I I I)))
-- BOXES 4
-- CODE2
theorem MC (a:List UInt8): ∀(n:Nat) (b:List UInt8),b.length=n→AV (a++b)=AV a*10^n+AV b
 |0,b,h=>by
  rw[List.length_eq_zero_iff.1 h,List.append_nil,Nat.pow_zero,Nat.mul_one];rfl
 |n+1,b,h=>by
  obtain⟨c,d,rfl⟩: ∃c d,b=c++[d]:=⟨b.dropLast,b.getLast (fun e=>by rw[e] at h;cases h),(List.dropLast_concat_getLast _).symm⟩
  have hc:c.length=n:=by rw[List.length_append] at h;exact Nat.succ.inj h
  rw[←List.append_assoc,Da,MC a n c hc,Da,Nat.pow_succ]
  grind
theorem Pf (a b:List UInt8):AV (a++b)=AV a*10^b.length+AV b:=MC a b.length b rfl
theorem SY {m lo e:Nat} (_h1:lo≤e) (h2:e≤(decDigits m).length):AV (((decDigits m).take e).drop lo)=m/10^((decDigits m).length-e)%10^(e-lo):=by
 obtain⟨dd,hdd⟩: ∃dd,dd=decDigits m:=⟨_,rfl⟩
 have hdg: ∀b∈dd,D7 b=true:=by rw[hdd];exact(GD m).all
 have hv:AV dd=m:=by rw[hdd];exact Cu m
 rw[←hdd] at h2⊢
 have a1:=Pf (dd.take e) (dd.drop e)
 rw[List.take_append_drop,hv,List.length_drop] at a1
 have b1:=F0 (dd.drop e).length (s:=dd.drop e) rfl fun b hb=>hdg b (List.mem_of_mem_drop hb)
 rw[List.length_drop] at b1
 have c1:m/10^(dd.length-e)=AV (dd.take e):=by
  rw[a1,Nat.mul_comm,Nat.mul_add_div (Nat.pow_pos (by decide)),Nat.div_eq_of_lt b1,Nat.add_zero]
 rw[c1]
 have a2:=Pf ((dd.take e).take lo) ((dd.take e).drop lo)
 have b2:=F0 ((dd.take e).drop lo).length (s:=(dd.take e).drop lo) rfl fun b hb=>hdg b (List.mem_of_mem_take (List.mem_of_mem_drop hb))
 rw[List.take_append_drop] at a2
 have hl:((dd.take e).drop lo).length=e-lo:=by rw[List.length_drop,List.length_take,Nat.min_eq_left h2]
 rw[hl] at a2 b2
 rw[a2,Nat.mul_comm,Nat.mul_add_mod,Nat.mod_eq_of_lt b2]
def rdL (m:Nat) (j:Nat):List Nat:=(List.range j).map fun i=>m/br^i%br
theorem OV (m j:Nat):rdL m (j+1)=rdL m j++[m/br^j%br]:=by unfold rdL;rw[List.range_succ,List.map_append];rfl
theorem Kl (m j:Nat):(rdL m j).length=j:=by unfold rdL;rw[List.length_map,List.length_range]
theorem Ud (m j:Nat): ∀x∈rdL m j,x<br:=fun x hx=>by
 obtain⟨i,_,rfl⟩:=List.mem_map.1 hx
 exact Nat.mod_lt _ (by decide)
theorem QO (m:Nat): ∀j,lv br (rdL m j)=m%br^j
 |0=>by show 0=_;rw[Nat.pow_zero,Nat.mod_one]
 |j+1=>by rw[OV,ND (Kl m j),QO m j, ←DM]
theorem Ja (j:Nat):br^j=10^(6*j):=by rw[Nat.pow_mul]
theorem Ue {m k:Nat} (h:m<10^(6*k)):(lbs br m).length≤k:=(BI br2).2 (by rw[Ja];exact h)
theorem VW {m e k:Nat} (h:(decDigits m).length≤e) (he:e=6*k):(lbs br m).length≤k:=by
 subst he
 exact Ue (Nat.lt_of_lt_of_le (FM m) (Nat.pow_le_pow_right (by decide) h))
theorem ES {m:Nat} (h:(decDigits m).length≤606):(lbs br m).length≤101:=VW h rfl
abbrev VL (z:Int) (x:NV):Value:= .agg #[.bool (decide (z<0)),BA x (lbs br z.natAbs).length]
theorem UG (y:Int):(if y>0 then y else 0)=max 0 y:=by omega
theorem C2 (z:Int) (hl:(decDigits z.natAbs).length≤1000) (W:World):
  Ap Tryz.prog 143 #[str (itoa z)] W (fun x:NV=>VL z x) (fun x=>Cd x (lbs br z.natAbs)) (fun x=>[BD x (lbs br z.natAbs)]):=by
 obtain⟨m,hm⟩: ∃m,m=z.natAbs:=⟨_,rfl⟩
 obtain⟨c0,hc0,hc45⟩:=Ly z
 have hzl:=CX z
 refine Ae (args:=[str (itoa z)]) Tryz.func143 I I I ?_
 refine zA (zB ?_)
 (refine Ao Tryz.hZ rfl rfl rfl rfl ?_;intro)
 refine Aa ?_
 rename_i b2
 refine zE (zA (zB ?_))
 refine AC Tryz.hZ tH I I I I I I I I ?_
 (refine Ao Tryz.hZ rfl rfl rfl rfl ?_;intro)
 refine wS 1 I I I (Aa ?_)
 rename_i b3
 refine zE (zA (zA (zB (wP I ?_))))
 refine Bp 0 tH I I I I I I I I hc0 ?_
 refine wP I (wU 10 (decide (z<0)) I ((Fy c0 45).trans hc45) (Aa (AT ?_)))
 try refine Au ?_
 refine AM (X:=Unit) (fun _=>[(0,str (decDigits m)),(2,An b2),(3,An b3)]) (fun _=>[⟨b2,153,[.bool false, .slice none 0 0],true,none⟩,⟨b3,153,[.bool (decide (z<0)), .slice none 0 0],true,none⟩]) (fun _=>True) ?_ ?_
 ·refine AA I (fun h=> ?_) (fun h=> ?_)
  ·have h:z<0:=of_decide_eq_true h
   have e:itoa z=45::decDigits m:=by rw[hzl,hm];unfold Ih;rw[if_pos h];rfl
   refine zA (zB (wP I (wS 1 I I I (Aa (zE (zB (wP I ?_)))))))
   refine Kk 1 tH I I I I I I I I (by rw[e,List.length_cons];omega) ?_
   exact wP I (Aa (At () tO ⟨by rw[e];rfl,I,I,tO⟩ [] (by rw[dT h];rfl)))
  ·have h: ¬z<0:=of_decide_eq_false h
   have e:itoa z=decDigits m:=by rw[hzl,hm];unfold Ih;rw[if_neg h];rfl
   exact zI (At () tO ⟨by rw[e];rfl,I,I,tO⟩ [] (by rw[dF h];rfl))
 intro _ _
 rw[←hm] at hl⊢
 obtain⟨dd,hdd⟩: ∃dd,dd=decDigits m:=⟨_,rfl⟩
 have hdg: ∀b∈dd,D7 b=true:=by rw[hdd];exact(GD m).all
 have hd0:0<dd.length:=by rw[hdd];exact List.length_pos_iff.2 (G2 _)
 have hmid: ∀lo e,lo≤e→e≤dd.length→AV ((dd.take e).drop lo)=m/10^(dd.length-e)%10^(e-lo):=fun lo e h1 h2=>by
  rw[hdd] at h2⊢;exact SY h1 h2
 have hmlt:m<10^dd.length:=by rw[hdd];exact FM m
 rw[←hdd] at hl⊢
 refine zA (zA (zB (wP I (wP I ?_))))
 refine Al 15 (.int .i64 (dd.length:Nat)) I (congrArg (fun n:Nat=>Value.int .i64 (n:Int)) (AH dd)) ?_
 refine wP I (Aa (zE (zH ?_)))
 refine Fj ?_
 refine A9 (X:=Nat×Vec) (fun x=>[(0,str dd),(2,An b2),(3,An b3),(4, .int .i64 ((dd.length:Int)-6*(x.1:Nat)))])
  (fun x=>[⟨b2,153,[.bool false, .slice none 0 0],true,none⟩,⟨b3,153,[.bool (decide (z<0)),x.2.val x.1],true,none⟩,x.2.bx 3 (nI (rdL m x.1))])
  (fun x=>x.2.OK 1 x.1 (nI (rdL m x.1))∧6*x.1<dd.length+6) (fun x=>dd.length+6-6*x.1) (0,Vec.empty) ⟨Vec.OK.empty 1,by show 6*0<_;omega⟩ ⟨rfl,rfl,rfl,congrArg (fun z=>some (Value.int .i64 z)) (by show((dd.length:Nat):Int)=(dd.length:Int)-6*((0:Nat):Int);omega),trivial⟩ [] rfl ?_
 rintro⟨j,V⟩ ⟨hV,hj⟩
 have hV:V.OK 1 j (nI (rdL m j)):=hV
 have hj:6*j<dd.length+6:=hj
 refine zA (zA (zB (wP I (wP I ?_))))
 by_cases hlt:6*j<dd.length
 ·refine wU 17 true I (dT (by show(dd.length:Int)-6*(j:Nat)>0;omega)) (Aa (zE (zR I (zI (zE (zA (zH (zA (zB ?_)))))))))
  obtain⟨e,he⟩: ∃e,e=dd.length-6*j:=⟨_,rfl⟩
  have hev:(dd.length:Int)-6*(j:Nat)=(e:Nat):=by omega
  obtain⟨lo,hlo⟩: ∃lo,lo=e-6:=⟨_,rfl⟩
  have hlim:AV ((dd.take e).drop lo)=m/br^j%br:=by
   rw[hmid lo e (by omega) (by omega),Ja,show dd.length-e=6*j by omega]
   by_cases h6:6≤e
   ·rw[show e-lo=6 by omega]
   ·have hl0:lo=0:=by omega
    have h1:m/10^(6*j)<10^e:=by
     apply Nat.div_lt_of_lt_mul
     rw[←Nat.pow_add,show 6*j+e=dd.length by omega];exact hmlt
    have h2:(10:Nat)^e≤10^6:=Nat.pow_le_pow_right (by decide) (by omega)
    rw[hl0,Nat.sub_zero,Nat.mod_eq_of_lt h1,Nat.mod_eq_of_lt (show m/10^(6*j)<br by show _<10^6;omega)]
  refine wP I (Aa (zE (zA (zA (zB (wP I (wP I (wV 21 ((e:Int)-6) I (by show w64 ((dd.length:Int)-6*(j:Nat)-6)=_;rw[hev,Ak (by omega) (by omega)]) (wP I (wV 22 (lo:Nat) I (by show(if (e:Int)-6>0 then(e:Int)-6 else 0)=_;rw[UG];omega) (wP I (Aa (zE ?_)))))))))))))
  refine zH ?_
  refine A9 (X:=Nat) (fun i=>[(0,str dd),(2,An b2),(3,An b3),(4, .int .i64 (e:Nat)),(5, .int .i64 (AV ((dd.take i).drop lo):Nat)),(6, .int .i64 (i:Nat))])
   (fun _=>[⟨b2,153,[.bool false, .slice none 0 0],true,none⟩,⟨b3,153,[.bool (decide (z<0)),V.val j],true,none⟩,V.bx 3 (nI (rdL m j))])
   (fun i=>lo≤i∧i≤e) (fun i=>e-i) lo ⟨Nat.le_refl _,by omega⟩ ⟨rfl,rfl,rfl,(by rw[hev];rfl),by show some _=some (Value.int .i64 (AV ((dd.take lo).drop lo):Nat));rw[List.drop_of_length_le (by rw[List.length_take];omega)];rfl,rfl,trivial⟩ [] rfl ?_
  rintro i ⟨hi1,hi2⟩
  have hi1:lo≤i:=hi1
  have hi2:i≤e:=hi2
  refine zA (zA (zB (wP I (wP I (wP I ?_)))))
  by_cases hie:i<e
  ·refine wU 25 true I (dT (by omega)) (Aa (zE (zR I (zI (zE (zA (zH (zB ?_))))))))
   obtain⟨b,hb⟩: ∃b,dd[i]? =some b:=⟨dd[i]'(by omega),List.getElem?_eq_getElem (by omega)⟩
   have hbd:=Cx.1 (hdg b (List.mem_of_getElem? hb))
   have e1:AV ((dd.take (i+1)).drop lo)=10*AV ((dd.take i).drop lo)+(b.toNat-48):=by
    rw[List.take_add_one,hb,List.drop_append_of_le_length (by rw[List.length_take];omega)]
    exact Da _ _
   have hbnd: ∀k,k≤e→AV ((dd.take k).drop lo)<1000000:=fun k hk=>by
    have h1:=F0 ((dd.take k).drop lo).length (s:=(dd.take k).drop lo) rfl fun b hb=>hdg b (List.mem_of_mem_take (List.mem_of_mem_drop hb))
    have h2:((dd.take k).drop lo).length≤6:=by rw[List.length_drop,List.length_take];omega
    exact Nat.lt_of_lt_of_le h1 (show _≤10^6 from Nat.pow_le_pow_right (by decide) h2)
   have l1:=hbnd i hi2
   have l2:=hbnd (i+1) hie
   refine wP I (wP I (wV 29 ((10*AV ((dd.take i).drop lo):Nat):Int) I (show w64 (10*(AV ((dd.take i).drop lo):Nat))=_ by rw[Ak (by omega) (by omega)];omega) (wP I (wP I ?_))))
   refine Bp i tH I I I I I I I I hb ?_
   refine wP I ?_
   refine Al 33 (.int .u8 ((b.toNat-48:Nat):Int)) I (congrArg (Value.int .u8) (by show IntKind.u8.wrap (((b.toNat:Nat):Int)-48)=_;rw[show((b.toNat:Nat):Int)-48=((b.toNat-48:Nat):Int) by omega,Ou (by omega) (by omega)])) ?_
   refine F9 Tryz.underlying5 Tryz.underlying3 I I I I ?_
   exact wV 34 ((b.toNat-48:Nat):Int) I (BN (by omega)) (wP I (wV 35 ((AV ((dd.take (i+1)).drop lo):Nat):Int) I (show w64 (((10*AV ((dd.take i).drop lo):Nat):Int)+((b.toNat-48:Nat):Int))=_ by rw[Ak (by omega) (by omega),e1];omega) (wP I (Aa (zN (zE (zB (wP I (wP I (wV 27 ((i+1:Nat):Int) I (Av (by omega)) (wP I (Aa (A0 (i+1) ⟨by show lo≤i+1;omega,hie⟩ (by show e-(i+1)<e-i;omega) ⟨I,I,I,I,I,I,tO⟩ [] I)))))))))))))
  ·have hie:i=e:=by omega
   subst hie
   refine wU 25 false I (dF (by omega)) (Aa (zE (zS I (zJ (zK (zK (zL (zE (zB ?_)))))))))
   rw[hlim]
   refine wP I (wB 1 I I I (wP I ?_))
   refine AO Tryz.hZ tH I I I I I I I I I I I fun bN=> ?_
   refine BJ (V:=V) (len:=j) (xs:=nI (rdL m j)) 2 3 Tryz.vec130 (j+1) (nI (rdL m (j+1))) I I I I I I I I I I I hV I I I (by rw[OV,HX];rfl) (by simp only[maxLen];omega) (by omega) I ?_
   intro g1 c1 j1 hV1
   exact wP I (wS 1 I I I (Aa (zN (zE (zB (wP I (wP I (wV 19 ((dd.length:Int)-6*((j+1:Nat):Int)) I (by show w64 (((i:Nat):Int)-6)=_;rw[Ak (by omega) (by omega)];omega) (wP I (Aa (A0 (j+1,⟨some g1,c1,j1⟩) ⟨hV1,by show 6*(j+1)<_;omega⟩ (by show dd.length+6-6*(j+1)<dd.length+6-6*j;omega) ⟨I,I,I,I,tO⟩ _ I)))))))))))
 ·refine wU 17 false I (dF (by show¬(dd.length:Int)-6*(j:Nat)>0;omega)) (Aa (zE (zS I (zJ (zK (zK (zL (zE (zA (zB ?_))))))))))
  obtain⟨pV,cV,jV⟩:=V
  cases pV with
  |none=>have:=hV.nil rfl;omega
  |some g=>
  have hval:lv br (rdL m j)=m:=by
   rw[QO,Ja]
   exact Nat.mod_eq_of_lt (Nat.lt_of_lt_of_le hmlt (Nat.pow_le_pow_right (by decide) (by omega)))
  have hV2:(⟨some g,cV,jV⟩:Vec).OK 1 (rdL m j).length (nI (rdL m j)):=by rw[Kl];exact hV
  obtain⟨j2,hj1,hj2⟩:=D5 hV2 (Ud m j)
  rw[hval] at hj1 hj2
  refine wP I (wB 1 I I I ?_)
  refine Al 43 (slv (some ⟨g,0,none⟩) (rdL m j).length cV) I (by rw[Kl];rfl) ?_
  refine wC I I (fun W' hp=>(C0 W' (some ⟨g,0,none⟩) cV (rdL m j) (A7.of_bx hp 2 I) (Ud m j) (by have:=(hV2.cap (by simp)).1;exact this) (by rw[Kl];omega)).cast (v':=slv (some ⟨g,0,none⟩) (lbs br m).length cV) (by rw[hval])) (wP I (wS 1 I I I (Aa (zE (zA (zB (wB 1 I I I (wS 0 I I I (Aa (zE (zO ?_)))))))))))
  subst hm
  exact A8 tH I (.cell 0 I I I I I) ((g,cV,j2):NV) I hj1 fun W hp=>A3.of_hp1 hp 2 (by
   show some (⟨g,3,nI (rdL z.natAbs j)++jV,true,none⟩:Bx)=some (⟨g,3,nI (lbs br z.natAbs)++j2,true,none⟩:Bx)
   rw[hj2])
def FC (m:Nat):Nat→List UInt8
 |0=>[]
 |d+1=>UInt8.ofNat (48+m/10^d%10)::FC m d
theorem IK (m:Nat): ∀d,(FC m d).length=d
 |0=>rfl
 |d+1=>by show(FC m d).length+1=_;rw[IK m d]
theorem PE (m:Nat): ∀(d i:Nat),i<d→(FC m d)[d-1-i]? =some (UInt8.ofNat (48+m/10^i%10))
 |0,_,h=>absurd h (Nat.not_lt_zero _)
 |d+1,i,h=>by
  by_cases e:i=d
  ·subst e
   rw[show i+1-1-i=0 by omega];rfl
  ·rw[show d+1-1-i=(d-1-i)+1 by omega]
   show(_::FC m d)[_+1]? =_
   rw[List.getElem?_cons_succ]
   exact PE m d i (by omega)
theorem U7 {m d:Nat} (h:(decDigits m).length≤d):FC m d=List.replicate (d-(decDigits m).length) 48++decDigits m:=by
 apply List.ext_getElem?
 intro t
 by_cases ht:t<d
 ·have h1:=PE m d (d-1-t) (by omega)
  rw[show d-1-(d-1-t)=t by omega] at h1
  rw[h1]
  by_cases h2:t<d-(decDigits m).length
  ·rw[List.getElem?_append_left (by rw[List.length_replicate];exact h2),List.getElem?_replicate_of_lt h2]
   have h3:m/10^(d-1-t)=0:=Nat.div_eq_of_lt (Nat.lt_of_lt_of_le (FM m) (Nat.pow_le_pow_right (by decide) (by omega)))
   rw[h3];rfl
  ·rw[List.getElem?_append_right (by rw[List.length_replicate];omega),List.length_replicate]
   have h3:=SH (n:=m) (i:=d-1-t) (by omega)
   rw[←h3]
   congr 1;omega
 ·rw[List.getElem?_eq_none (by rw[IK];omega),List.getElem?_eq_none (by rw[List.length_append,List.length_replicate];omega)]
theorem SC {m i k:Nat} (hk:k<6):m/br^i%br/10^k%10=m/10^(6*i+k)%10:=by
 rw[Nat.pow_add, ←Ja, ←Nat.div_div_eq_div_mul]
 generalize m/br^i=x
 have h:k=0∨k=1∨k=2∨k=3∨k=4∨k=5:=by omega
 show x%1000000/10^k%10=x/10^k%10
 rcases h with rfl|rfl|rfl|rfl|rfl|rfl<;>simp only[Nat.reducePow,Nat.div_one]<;>omega
theorem IF (z:Int) (hl:(decDigits z.natAbs).length≤606) (W:World) (p:Option Addr) (cap:Nat) (hA:A7 W p (lbs br z.natAbs)):
  Ap Tryz.prog 145 #[.agg #[.bool (decide (z<0)),slv p (lbs br z.natAbs).length cap]] W (fun _:Unit=>str (itoa z)) (fun _=>True) (fun _=>[]):=by
 obtain⟨m,hm⟩: ∃m,z.natAbs=m:=⟨_,rfl⟩
 rw[hm] at hl hA⊢
 obtain⟨L,hL⟩: ∃L,(lbs br m).length=L:=⟨_,rfl⟩
 have hL101:L≤101:=by rw[←hL];exact ES hl
 have hml:m<br^L:=by rw[←hL];exact AQ br2 m
 refine Ae (args:=[.agg #[.bool (decide (z<0)),slv p (lbs br m).length cap]]) Tryz.func145 I I I ?_
 rw[hL]
 refine zA (zB ?_)
 (refine AD rfl rfl rfl rfl ?_;intro)
 refine wP I (Aa ?_)
 rename_i b1
 refine zE (zA (zA (zB (wP I (wB 0 I I I (wP I (wP I ?_)))))))
 by_cases hm0:m=0
 ·have hL0:L=0:=by rw[←hL,hm0,Bh];rfl
  have hz:z=0:=by omega
  exact wU 10 true I (by rw[beq_iff_eq,hL0];rfl) (Aa (zE (zR I (zA (zB (wP I (Aa (zE (zO (zP (wR1 I I (by rw[hz,CY]))))))))))))
 have hL0:L≠0:=fun e=>hm0 ((Dq br2).1 (List.length_eq_zero_iff.1 (hL.trans e)))
 refine wU 10 false I (by rw[beq_eq_false_iff_ne];omega) (Aa (zE (zS I (zI (zE (zA (zB ?_)))))))
 obtain⟨K,hK⟩: ∃K,K=6*L:=⟨_,rfl⟩
 refine wP I (wB 0 I I I (wP I (wP I (wV 14 (K:Nat) I (by show w64 (6*(L:Int))=_;rw[Ak (by omega) (by omega)];omega) ?_))))
 refine Cl Tryz.vec202 K I I I I I I I (by simp only[maxLen];omega) (by omega) ?_
 intro g
 refine wP I (Aa (zE (zA (zA (zB (wP I (Aa (AT ?_))))))))
 try refine Au ?_
 refine AM (X:=Unit) (fun _=>[(1,An b1),(3, .slice (some ⟨g,0,none⟩) K K)]) (fun _=>[⟨b1,153,[.bool (decide (z<0)),slv p L cap],true,none⟩,⟨g,5,zrV 0++byV (FC m K),true,none⟩]) (fun _=>True) ?_ ?_
 ·refine zH ?_
  refine A9 (X:=Nat) (fun i=>[(1,An b1),(3, .slice (some ⟨g,0,none⟩) K K),(4, .int .i64 (i:Nat))]) (fun i=>[⟨b1,153,[.bool (decide (z<0)),slv p L cap],true,none⟩,⟨g,5,zrV (K-6*i)++byV (FC m (6*i)),true,none⟩]) (fun i=>i≤L) (fun i=>L-i) 0 (Nat.zero_le _) ⟨I,I,I,tO⟩ [] (by show _=[_,(⟨g,5,zrV (K-0)++[],true,none⟩:Bx)]++[];simp only[List.append_nil,Nat.sub_zero];rfl) ?_
  intro i hi
  have hi:i≤L:=hi
  refine zA (zA (zB (wP I (wP I (wB 0 I I I (wP I (wP I ?_)))))))
  by_cases hiL:i<L
  ·refine wU 20 true I (dT (by omega)) (Aa (zE (zR I (zI (zE (zA (zH (zA (zB ?_)))))))))
   obtain⟨bA,oA,rfl,rA⟩:=hA.row (show i<(lbs br m).length by omega)
   have rA:=rA i (by omega)
   rw[Bi br2] at rA
   obtain⟨v,hv⟩: ∃v,v=m/br^i%br:=⟨_,rfl⟩
   rw[←hv] at rA
   have hvb:v<1000000:=by rw[hv];exact Nat.mod_lt _ (by decide)
   refine wP I (wB 0 I I I (wP I ?_))
   refine wJ ?_
   refine wL 0 I I (fun W hp=>rA.hp hp) I (wP I (Aa (zE (zA (zB (wP I (Aa (zE (zH ?_)))))))))
   refine A9 (X:=Nat) (fun k=>[(1,An b1),(3, .slice (some ⟨g,0,none⟩) K K),(4, .int .i64 (i:Nat)),(5, .int .i64 ((v/10^k:Nat):Int)),(6, .int .i64 ((k+1:Nat):Int))]) (fun k=>[⟨b1,153,[.bool (decide (z<0)),slv (some ⟨bA,oA,none⟩) L cap],true,none⟩,⟨g,5,zrV (K-(6*i+k))++byV (FC m (6*i+k)),true,none⟩]) (fun k=>k≤6) (fun k=>6-k) 0 (by decide) ⟨I,I,I,by show some _=some (Value.int .i64 ((v/1:Nat):Int));rw[Nat.div_one],I,tO⟩ [] I ?_
   intro k hk
   have hk:k≤6:=hk
   refine zA (zA (zB (wP I (wP I ?_))))
   by_cases hk6:k<6
   ·refine wU 29 true I (dT (by show((k+1:Nat):Int)≤6;omega)) (Aa (zE (zR I (zI (zE (zA (zH (zA (zB ?_)))))))))
    obtain⟨u,hu⟩: ∃u,u=v/10^k:=⟨_,rfl⟩
    have hub:u<1000000:=by rw[hu];exact Nat.lt_of_le_of_lt (Nat.div_le_self ..) hvb
    have hdig:u%10=m/10^(6*i+k)%10:=by rw[hu,hv];exact SC hk6
    have hu2:v/10^(k+1)=u/10:=by rw[hu,Nat.pow_succ,Nat.div_div_eq_div_mul]
    obtain⟨d,hd⟩: ∃d,d=6*i+k:=⟨_,rfl⟩
    have hdK:d<K:=by omega
    rw[←hu, ←hd]
    rw[←hd] at hdig
    iterate 5 refine wP I ?_
    refine wV 36 ((6*i:Nat):Int) I (by show w64 (6*(i:Int))=_;rw[Ak (by omega) (by omega)];omega) (wP I (wV 37 ((K-6*i:Nat):Int) I (by show w64 ((K:Int)-((6*i:Nat):Int))=_;rw[Ak (by omega) (by omega)];omega) (wP I (wP I (wV 39 ((K-d-1:Nat):Int) I (by show w64 (((K-6*i:Nat):Int)-((k+1:Nat):Int))=_;rw[Ak (by omega) (by omega)];omega) (wP I ?_))))))
    refine Gk I I I I I (by decide) ?_
    refine wV 41 ((u%10:Nat):Int) I (show Int.tmod (u:Nat) ((10:Nat):Int)=_ from(Int.ofNat_tmod _ _).symm) (wP I (wV 42 ((48+u%10:Nat):Int) I (show w64 (48+((u%10:Nat):Int))=_ by rw[Ak (by omega) (by omega)];omega) ?_))
    refine Wu Tryz.underlying3 Tryz.underlying5 I I I I ?_
    refine Al 43 (.int .u8 ((UInt8.ofNat (48+m/10^d%10)).toNat:Int)) I (congrArg (Value.int .u8) (by rw[Wg u,hdig])) ?_
    refine wJ ?_
    refine Ad 1 (zrV (K-d-1)++byV (FC m (d+1))) tH I I I I I I I I I I (by show 0+(K-d-1)*1+1≤(zrV (K-d)++byV (FC m d)).length;rw[List.length_append,Kq];omega) (by
     show B0 (zrV (K-d)++byV (FC m d)) _ _=_
     rw[show K-d=K-d-1+1 by omega]
     exact Vu) ?_
    refine Aa (zE (zB (wP I ?_)))
    refine CT I I I I I (by decide) ?_
    exact wV 46 ((u/10:Nat):Int) I (show w64 (Int.tdiv (u:Nat) ((10:Nat):Int))=_ by rw[←Int.ofNat_tdiv,Ak (by omega) (by omega)]) (wP I (Aa (zN (zE (zB (wP I (wP I (wV 31 ((k+1+1:Nat):Int) I (Av (by omega)) (wP I (Aa (A0 (k+1) hk6 (by show 6-(k+1)<6-k;omega) ⟨I,I,I,by show some _=some (Value.int .i64 ((v/10^(k+1):Nat):Int));rw[hu2],I,tO⟩ [] (by show _=[_,(⟨g,5,zrV (K-(6*i+(k+1)))++byV (FC m (6*i+(k+1))),true,none⟩:Bx)]++[];rw[show 6*i+(k+1)=d+1 by omega,show K-(d+1)=K-d-1 by omega];rfl))))))))))))
   ·have hk6:k=6:=by omega
    subst hk6
    refine wU 29 false I (dF (by decide)) (Aa (zE (zS I (zJ (zK (zK (zL (zN (zE (zB (wP I (wP I (wV 22 ((i+1:Nat):Int) I (Av (by omega)) ?_)))))))))))))
    exact wP I (Aa (A0 (i+1) hiL (by show L-(i+1)<L-i;omega) ⟨I,I,I,tO⟩ [] (by show _=[_,(⟨g,5,zrV (K-6*(i+1))++byV (FC m (6*(i+1))),true,none⟩:Bx)]++[];rw[show 6*(i+1)=6*i+6 by omega];rfl)))
  ·have hiL:i=L:=by omega
   subst hiL
   exact wU 20 false I (dF (by omega)) (Aa (zE (zS I (zJ (zK (zK (zL (At () tO ⟨I,I,tO⟩ [] (by rw[←hK,Nat.sub_self];rfl)))))))))
 intro _ _
 obtain⟨nd,hnd⟩: ∃nd,(decDigits m).length=nd:=⟨_,rfl⟩
 have hndK:nd≤K:=by
  rw[←hnd]
  refine Gl K m (by omega) ?_
  rw[hK, ←Ja];exact hml
 have hnd0:0<nd:=by rw[←hnd];exact List.length_pos_iff.2 (G2 _)
 have hlow:=U7 (m:=m) (d:=K) (by rw[hnd];exact hndK)
 rw[hnd] at hlow
 have hgetB: ∀j,j<K→ ∃b,(FC m K)[j]? =some b∧(zrV 0++byV (FC m K))[0+j]? =some (.int .u8 (b.toNat:Int)):=fun j hj=>by
  refine⟨(FC m K)[j]'(by rw[IK];exact hj),List.getElem?_eq_getElem _, ?_⟩
  exact UI (k:=0) (by rw[IK];exact hj)
 try refine AT ?_
 try refine Au ?_
 refine AM (X:=Unit) (fun _=>[(1,An b1),(3, .slice (some ⟨g,K-nd,none⟩) nd nd)]) (fun _=>[⟨b1,153,[.bool (decide (z<0)),slv p L cap],true,none⟩,⟨g,5,zrV 0++byV (FC m K),true,none⟩]) (fun _=>True) ?_ ?_
 ·refine zH ?_
  refine A9 (X:=Nat) (fun j=>[(1,An b1),(3, .slice (some ⟨g,j,none⟩) (K-j) (K-j))]) (fun _=>[⟨b1,153,[.bool (decide (z<0)),slv p L cap],true,none⟩,⟨g,5,zrV 0++byV (FC m K),true,none⟩]) (fun j=>j≤K-nd) (fun j=>K-nd-j) 0 (Nat.zero_le _) ⟨I,I,tO⟩ [] I ?_
  intro j hj
  have hj:j≤K-nd:=hj
  obtain⟨b,hb,hbc⟩:=hgetB j (by omega)
  rw[Nat.zero_add] at hbc
  have hrow: ∀W1 bxs,Hp W bxs W1→nth bxs 1=some (⟨g,5,zrV 0++byV (FC m K),true,none⟩:Bx)→Ar W1 g j [.int .u8 (b.toNat:Int)]:=fun W1 bxs hp h1=>by
   have h:=Ar.of_bx hp 1 h1 rfl
   exact⟨h.lt,fun t u hu=>by
    have ht:t=0:=by have:=(List.getElem?_eq_some_iff.1 hu).1;simpa using this
    subst ht
    have hu:u= .int .u8 (b.toNat:Int):=by simpa using hu.symm
    rw[hu]
    have:=h.get j _ hbc
    rwa [Nat.zero_add] at this⟩
  refine zA (zA (zB (wP I (wI I I (by decide) (by show(0:Int)<((K-j:Nat):Int);omega) ?_))))
  refine Al 48 (.pointer (some ⟨g,j,none⟩)) I I ?_
  refine wL 0 I I (fun W1 hp=>hrow W1 _ hp I) I (wP I (wU 50 (decide (b=48)) I (Fy b 48) (Aa (zE ?_))))
  refine AA I (fun h48=> ?_) (fun h48=> ?_)
  ·have h48:b=48:=of_decide_eq_true h48
   have hjl:j<K-nd:=by
    rcases Nat.lt_or_ge j (K-nd) with h|h
    ·exact h
    ·have e:j=K-nd:=by omega
     rw[hlow,List.getElem?_append_right (by rw[List.length_replicate];omega),List.length_replicate,e,Nat.sub_self,h48] at hb
     exact absurd (TU hb) hm0
   refine zI (zE (zH (zB (wP I ?_))))
   refine Fb 1 tH I I I I I I I I (by show 1≤K-j;omega) (Nat.le_refl _) ?_
   refine Al 52 (.slice (some ⟨g,j+1,none⟩) (K-(j+1)) (K-(j+1))) I (by rw[if_neg (show¬K-j=1 by omega)];show Value.slice (some ⟨g,j+1*1,none⟩) (K-j-1) (K-j-1)=_;rw[show K-(j+1)=K-j-1 by omega]) ?_
   exact wP I (Aa (zN (A0 (j+1) hjl (by show K-nd-(j+1)<K-nd-j;omega) ⟨I,I,tO⟩ [] I)))
  ·have h48: ¬b=48:=of_decide_eq_false h48
   have e:j=K-nd:=by
    rcases Nat.lt_or_ge j (K-nd) with h|h
    ·rw[hlow,List.getElem?_append_left (by rw[List.length_replicate];exact h),List.getElem?_replicate_of_lt h] at hb
     exact absurd (Option.some.inj hb).symm h48
    ·omega
   exact zJ (zK (zK (zL (At () tO ⟨I,by rw[e,show K-(K-nd)=nd by omega];rfl,tO⟩ [] I))))
 intro _ _
 have hbytes: ∀j (hj:j<(decDigits m).length),(zrV 0++byV (FC m K))[K-nd+j]? =some (.int .u8 ((decDigits m)[j].toNat:Int)):=fun j hj=>by
  obtain⟨b,hb,hbc⟩:=hgetB (K-nd+j) (by omega)
  rw[Nat.zero_add] at hbc
  rw[hbc]
  rw[hlow,List.getElem?_append_right (by rw[List.length_replicate];omega),List.length_replicate,Nat.add_sub_cancel_left,List.getElem?_eq_getElem hj] at hb
  rw[Option.some.inj hb]
 refine zA (zA (zB (wP I (wB 0 I I I (Aa (zE ?_))))))
 refine AA I (fun hn=> ?_) (fun hn=> ?_)
 ·have hn:z<0:=of_decide_eq_true hn
  refine zA (zB (wP I ?_))
  refine JM 1 (decDigits m) (e:=5) (by kernel_rfl) Tryz.underlying5 (by kernel_rfl) I I I I I I hnd.symm hbytes ?_
  refine DX I I I I I (a:=[45]) (b:=decDigits m) (by decide) (by omega) ?_
  exact wP I (Aa (zE (zO (zP (wR1 I I (by rw[CX,hm];unfold Ih;rw[if_pos hn]))))))
 ·have hn: ¬z<0:=of_decide_eq_false hn
  refine zI (zE (zA (zB (wP I ?_))))
  refine JM 1 (decDigits m) (e:=5) (by kernel_rfl) Tryz.underlying5 (by kernel_rfl) I I I I I I hnd.symm hbytes ?_
  exact wP I (Aa (zE (zO (wR1 I I (by rw[CX,hm];unfold Ih;rw[if_neg hn];rfl)))))
theorem H7 (z:Int) (hl:(decDigits z.natAbs).length≤300) (W:World) (p:Option Addr) (cap:Nat) (hA:A7 W p (lbs br z.natAbs)):
  Ap Tryz.prog 200 #[.agg #[.bool (decide (z<0)),slv p (lbs br z.natAbs).length cap]] W (fun _:Unit=> .tuple #[str (itoa z), .int .i64 0]) (fun _=>True) (fun _=>[]):=by
 refine Ae (args:=[.agg #[.bool (decide (z<0)),slv p (lbs br z.natAbs).length cap]]) Tryz.func200 I I I ?_
 refine zA (zB ?_)
 (refine AD rfl rfl rfl rfl ?_;intro)
 refine wP I (wP I (Aa (zE (zA (zB (wB 0 I I I (wC I I (fun W hp=>IF z (by omega) W p cap (hA.hp hp)) (wP I (Aa (zE (zA (zA (zB ?_)))))))))))))
 refine wP I (wC I I (fun W _=>Gi z hl W) (wP I (Aa (zE (zS I (zI (zE (zA (zB (wP I (wP I (wP I (Aa ?_)))))))))))))
 exact zE (zO (wR2 I I I))
-- BOXES 6
-- CODE2
abbrev Iz (z:Int) (p:Option Addr) (cap:Nat):Value:= .agg #[.bool (decide (z<0)),slv p (lbs br z.natAbs).length cap]
abbrev LP (b:Nat) (z:Int) (p:Option Addr) (cap:Nat):Bx:=⟨b,153,[.bool (decide (z<0)),slv p (lbs br z.natAbs).length cap],true,none⟩
theorem Qz (z:Int) (W:World) (p:Option Addr) (cap:Nat):Ap Tryz.prog 177 #[Iz z p cap] W (fun _:Unit=>Iz (-z) p cap) (fun _=>True) (fun _=>[]):=by
 obtain⟨n,hn⟩: ∃n,z.natAbs=n:=⟨_,rfl⟩
 refine Ae (args:=[Iz z p cap]) Tryz.func177 I I I ?_
 unfold Iz
 rw[Int.natAbs_neg,hn]
 refine zA (zB ?_)
 (refine AD rfl rfl rfl rfl ?_;intro)
 (refine Ao Tryz.hZ rfl rfl rfl rfl ?_;intro)
 refine Aa (zE (zA (zA (zB (wP I (wB 0 I I I (wP I (wP I ?_))))))))
 by_cases h0:n=0
 ·have hz:z=0:=by omega
  exact wU 6 true I (by rw[h0,Bh];rfl) (Aa (zE (zR I (zA (zB (wB 0 I I I (wS 1 I I I (Aa (zE (zO (zP (A8 tH I (.cell 1 I I I I I) () (by rw[hz];rfl) tO fun W _=>A3.nil _ _))))))))))))
 ·have hL:(lbs br n).length≠0:=fun e=>h0 ((Dq br2).1 (List.length_eq_zero_iff.1 e))
  refine wU 6 false I (by rw[beq_eq_false_iff_ne];omega) (Aa (zE (zS I (zI (zE (zA (zB (wP I (wB 0 I I I (wP I (wP I (wB 0 I I I ?_))))))))))))
  refine AC Tryz.hZ tH I I I I I I I I ?_
  refine wS 1 I I I (Aa (zE (zO ?_)))
  exact A8 tH I (.cell 1 I I I I I) () (by
   show Value.agg #[.bool (!decide (z<0)),_]=_
   have e:(!decide (z<0))=decide (-z<0):=by
    by_cases h:z<0
    ·rw[dT h,dF (by omega)];rfl
    ·rw[dF h,dT (by omega)];rfl
   rw[e]) trivial fun W _=>A3.nil _ _
theorem PX (a b:Int) (W:World) (p q:Option Addr) (cap cap2:Nat) (hA:A7 W p (lbs br a.natAbs)) (hB:A7 W q (lbs br b.natAbs)) (hna:(lbs br a.natAbs).length≤1000) (hnb:(lbs br b.natAbs).length≤1000):
  Ap Tryz.prog 176 #[Iz a p cap,Iz b q cap2] W (fun x:NV=>VL (a+b) x) (fun x=>Cd x (lbs br (a+b).natAbs)) (fun x=>[BD x (lbs br (a+b).natAbs)]):=by
 refine Ae (args:=[Iz a p cap,Iz b q cap2]) Tryz.func176 I I I ?_
 refine zA (zB ?_)
 (refine AD rfl rfl rfl rfl ?_;intro)
 (refine AD rfl rfl rfl rfl ?_;intro)
 (refine Ao Tryz.hZ rfl rfl rfl rfl ?_;intro)
 refine Aa ?_
 rename_i b2 b3 b4
 refine zE (zA (zA (zB (wP I (wB 0 I I I (wP I (wB 1 I I I ?_)))))))
 by_cases hs:decide (a<0)=decide (b<0)
 ·refine Ha (c:=true) Tryz.underlying4 I I I I I (congrArg some (by rw[hs];exact beq_self_eq_true _)) ?_
  refine Aa ?_
  have en:(a+b).natAbs=a.natAbs+b.natAbs:=by
   by_cases h1:a<0<;>by_cases h2:b<0<;>simp[h1,h2] at hs<;>omega
  have es:decide (a<0)=decide (a+b<0):=by
   by_cases h1:a<0<;>by_cases h2:b<0<;>simp[h1,h2] at hs⊢ <;>omega
  refine zE (zR I (Au ?_))
  refine AU (X:= { x:NV//Cd x (lbs br (a+b).natAbs) }) [true,true,true,true,true,true,false,false,false] (fun _=>[(4,An b4)]) (fun x=>[LP b2 a p cap,LP b3 b q cap2,⟨b4,153,[.bool (decide (a+b<0)),BA x.1 (lbs br (a+b).natAbs).length],true,none⟩,BD x.1 (lbs br (a+b).natAbs)])
   3 [LP b2 a p cap,LP b3 b q cap2,⟨b4,153,[.bool false, .slice none 0 0],true,none⟩] Tryz.mixed (by kernel_rfl) ?_ ?_
  ·refine qP I (qB 0 I I I (qP I (qB 0 I I I (qP I (qB 1 I I I (B6 (wX (wZ ?_))))))))
   refine wD (X:=NV) rfl rfl (fun W' hp=>O4 W' p q cap cap2 a.natAbs b.natAbs (hA.hp hp) (hB.hp hp) (by omega) (by omega)) ?_;intro x hx
   refine Aa (Ab (wX (wZ ?_)))
   refine AC Tryz.hZ tH I I I I I I I I ?_
   refine Aa (Ab (wX (wZ (wS 2 I I I (Aa (Ab ?_))))))
   rw[←en] at hx⊢;first|refine AI rfl (by((repeat (first|refine AN.same ?_|refine AN.off rfl ?_));exact trivial)) ?_|refine Aj rfl (by kernel_rfl) ?_
   exact Ag ⟨x,hx⟩ ⟨I,tO⟩ [0,1,2,3] (by decide) (by rw[es];rfl)
  rintro⟨x,hx⟩
  exact zE (zO (zP (A8 tH I (.cell 2 I I I I I) x I hx fun W hp=>A3.of_hp1 hp 3 I)))
 refine Ha (c:=false) Tryz.underlying4 I I I I I (congrArg some (beq_eq_false_iff_ne.2 hs)) ?_
 refine Aa (zE (zS I (zI (zE (zA (zA (zB (wP I (wB 0 I I I (wP I (wB 1 I I I (wC I I (fun W' hp=>J6 W' p q cap cap2 a.natAbs b.natAbs (hA.hp hp) (hB.hp hp) (by omega) (by omega)) (wP I ?_)))))))))))))
 refine wU 24 (decide (a.natAbs<b.natAbs)) I (decide_eq_decide.2 (by unfold L7;split<;>(try split)<;>omega)) (Aa (AT ?_))
 try refine Au ?_
 refine AM (X:=(Int×Option Addr×Nat)×(Int×Option Addr×Nat)) (fun _=>[(2,An b2),(3,An b3),(4,An b4)]) (fun x=>[LP b2 x.1.1 x.1.2.1 x.1.2.2,LP b3 x.2.1 x.2.2.1 x.2.2.2,⟨b4,153,[.bool false, .slice none 0 0],true,none⟩])
  (fun x=>A7 W x.1.2.1 (lbs br x.1.1.natAbs)∧A7 W x.2.2.1 (lbs br x.2.1.natAbs)∧x.2.1.natAbs≤x.1.1.natAbs∧x.1.1+x.2.1=a+b∧(decide (x.1.1<0)≠decide (x.2.1<0))∧(lbs br x.1.1.natAbs).length≤1000) ?_ ?_
 ·refine AA I (fun h=> ?_) (fun h=> ?_)
  ·have h:a.natAbs<b.natAbs:=of_decide_eq_true h
   exact zB (wB 1 I I I (wB 0 I I I (wS 0 I I I (wS 1 I I I (Aa (At ((b,q,cap2),(a,p,cap)) ⟨hB,hA,Nat.le_of_lt h,Int.add_comm ..,Ne.symm hs,hnb⟩ ⟨I,I,I,tO⟩ [] I))))))
  ·have h: ¬a.natAbs<b.natAbs:=of_decide_eq_false h
   exact zI (At ((a,p,cap),(b,q,cap2)) ⟨hA,hB,by show b.natAbs≤a.natAbs;omega,I,hs,hna⟩ ⟨I,I,I,tO⟩ [] I)
 rintro⟨⟨u,pu,cu⟩,⟨v,pv,cv⟩⟩ ⟨hU,hV,hle,hsum,hsg,hul⟩
 have hU:A7 W pu (lbs br u.natAbs):=hU
 have hV:A7 W pv (lbs br v.natAbs):=hV
 have hle:v.natAbs≤u.natAbs:=hle
 have hsum:u+v=a+b:=hsum
 have hsg:decide (u<0)≠decide (v<0):=hsg
 have hul:(lbs br u.natAbs).length≤1000:=hul
 have en:(a+b).natAbs=u.natAbs-v.natAbs:=by
  rw[←hsum]
  by_cases h1:u<0<;>by_cases h2:v<0<;>simp[h1,h2] at hsg<;>omega
 have es:(a+b).natAbs≠0→decide (u<0)=decide (a+b<0):=fun h0=>by
  rw[←hsum] at h0⊢
  by_cases h1:u<0<;>by_cases h2:v<0<;>simp[h1,h2] at hsg⊢ <;>omega
 refine Au ?_
 refine AU (X:= { y:Nat×NV//Cd y.2 (lbs br (a+b).natAbs) }) [true,true,true,true,true,true,false,false,false,false] (fun y=>[(4,An b4),(5,An y.1.1)]) (fun y=>[⟨b4,153,[.bool false, .slice none 0 0],true,none⟩,⟨y.1.1,153,[.bool (decide (u<0)),BA y.1.2 (lbs br (a+b).natAbs).length],true,none⟩,BD y.1.2 (lbs br (a+b).natAbs)])
  4 [LP b2 u pu cu,LP b3 v pv cv,⟨b4,153,[.bool false, .slice none 0 0],true,none⟩] Tryz.mixed (by kernel_rfl) ?_ ?_
 ·refine qP I (qB 0 I I I (qP I (qB 0 I I I (qP I (qB 1 I I I (B6 (wX ?_)))))))
  refine RS.cons ?_ (RS.cons ?_ (RS.nil))
  ·refine wD (X:=NV) rfl rfl (fun W' hp=>EA W' pu pv cu cv u.natAbs v.natAbs hle (hU.hp hp) (hV.hp hp) (by omega)) ?_;intro x hx
   refine Aa (Ab (wX ?_))
   refine RS.cons ?_ (RS.cons ?_ (RS.nil))
   ·refine AC Tryz.hZ tH I I I I I I I I ?_
    refine Aa (Ab (wX (wZ ?_)))
    refine Ao Tryz.hZ rfl rfl rfl rfl ?_;intro b5
    refine Aa (Ab (wX (wZ (wS 4 I I I (Aa (Ab ?_))))))
    rw[←en] at hx⊢;first|refine AI rfl (by((repeat (first|refine AN.same ?_|refine AN.off rfl ?_));exact trivial)) ?_|refine Aj rfl (by kernel_rfl) ?_
    exact Ag ⟨(b5,x),hx⟩ ⟨I,I,tO⟩ [2,4,3] (by decide) I
   ·refine Ao Tryz.hZ rfl rfl rfl rfl ?_;intro b5
    refine Aa (Ab (wX (wZ ?_)))
    refine AC Tryz.hZ tH I I I I I I I I ?_
    refine Aa (Ab (wX (wZ (wS 4 I I I (Aa (Ab ?_))))))
    rw[←en] at hx⊢;first|refine AI rfl (by((repeat (first|refine AN.same ?_|refine AN.off rfl ?_));exact trivial)) ?_|refine Aj rfl (by kernel_rfl) ?_
    exact Ag ⟨(b5,x),hx⟩ ⟨I,I,tO⟩ [2,4,3] (by decide) I
  ·refine Ao Tryz.hZ rfl rfl rfl rfl ?_;intro b5
   refine Aa (Ab (wX (wZ ?_)))
   refine wD (X:=NV) rfl rfl (fun W' hp=>EA W' pu pv cu cv u.natAbs v.natAbs hle (hU.hp hp) (hV.hp hp) (by omega)) ?_;intro x hx
   refine Aa (Ab (wX (wZ ?_)))
   refine AC Tryz.hZ tH I I I I I I I I ?_
   refine Aa (Ab (wX (wZ (wS 3 I I I (Aa (Ab ?_))))))
   rw[←en] at hx⊢;first|refine AI rfl (by((repeat (first|refine AN.same ?_|refine AN.off rfl ?_));exact trivial)) ?_|refine Aj rfl (by kernel_rfl) ?_
   exact Ag ⟨(b5,x),hx⟩ ⟨I,I,tO⟩ [2,3,4] (by decide) I
 rintro⟨⟨b5,x⟩,hx⟩
 have hx:Cd x (lbs br (a+b).natAbs):=hx
 refine zE (zA (zA (zB (wP I (wB 1 I I I (wP I (wP I ?_)))))))
 refine Al 38 (.bool (decide ((a+b).natAbs=0))) I (congrArg Value.bool (by
  by_cases h0:(a+b).natAbs=0
  ·rw[dT h0,h0,Bh];rfl
  ·have hL:(lbs br (a+b).natAbs).length≠0:=fun e=>h0 ((Dq br2).1 (List.length_eq_zero_iff.1 e))
   rw[dF h0,beq_eq_false_iff_ne];omega)) ?_
 refine Aa (AT ?_)
 try refine Au ?_
 refine AM (X:=Unit) (fun _=>[(4,An b4),(5,An b5)]) (fun _=>[⟨b4,153,[.bool false, .slice none 0 0],true,none⟩,⟨b5,153,[.bool (decide (a+b<0)),BA x (lbs br (a+b).natAbs).length],true,none⟩,BD x (lbs br (a+b).natAbs)]) (fun _=>True) ?_ ?_
 ·refine AA I (fun h=> ?_) (fun h=> ?_)
  ·have h:(a+b).natAbs=0:=of_decide_eq_true h
   exact zB (wP I (wS 1 I I I (Aa (At () tO ⟨I,I,tO⟩ [] (by rw[dF (show¬a+b<0 by omega)];rfl)))))
  ·have h: ¬(a+b).natAbs=0:=of_decide_eq_false h
   exact zI (At () tO ⟨I,I,tO⟩ [] (by rw[←es h];rfl))
 intro _ _
 exact zA (zB (wB 1 I I I (wS 0 I I I (Aa (zE (zO (A8 tH I (.cell 0 I I I I I) x I hx fun W hp=>A3.of_hp1 hp 2 I)))))))
theorem L8 (a b:Int) (W:World) (p q:Option Addr) (cap cap2:Nat) (hA:A7 W p (lbs br a.natAbs)) (hB:A7 W q (lbs br b.natAbs)) (hna:(lbs br a.natAbs).length≤1000) (hnb:(lbs br b.natAbs).length≤1000):
  Ap Tryz.prog 220 #[Iz a p cap,Iz b q cap2] W (fun x:NV=>VL (a*b) x) (fun x=>Cd x (lbs br (a*b).natAbs)) (fun x=>[BD x (lbs br (a*b).natAbs)]):=by
 have en:(a*b).natAbs=a.natAbs*b.natAbs:=Int.natAbs_mul a b
 have es:(a*b).natAbs≠0→(decide (a<0) !=decide (b<0))=decide (a*b<0):=fun h0=>by
  rw[en] at h0
  have ha:a≠0:=fun e=>h0 (by rw[e];simp)
  have hb:b≠0:=fun e=>h0 (by rw[e];simp)
  by_cases h1:a<0<;>by_cases h2:b<0
  ·rw[dT h1,dT h2,dF (by have:=Int.mul_pos_of_neg_of_neg h1 h2;omega)];rfl
  ·rw[dT h1,dF h2,dT (Int.mul_neg_of_neg_of_pos h1 (by omega))];rfl
  ·rw[dF h1,dT h2,dT (Int.mul_neg_of_pos_of_neg (by omega) h2)];rfl
  ·rw[dF h1,dF h2,dF (by have:=Int.mul_pos (show 0<a by omega) (show 0<b by omega);omega)];rfl
 refine Ae (args:=[Iz a p cap,Iz b q cap2]) Tryz.func220 I I I ?_
 refine zA (zB ?_)
 (refine AD rfl rfl rfl rfl ?_;intro)
 (refine AD rfl rfl rfl rfl ?_;intro)
 (refine Ao Tryz.hZ rfl rfl rfl rfl ?_;intro)
 refine Aa ?_
 rename_i b2 b3 b4
 refine zE (Au ?_)
 refine AU (X:= { y:Nat×NV//Cd y.2 (lbs br (a*b).natAbs) }) [true,true,true,true,true,true,true,true,true,false,false,false,false] (fun y=>[(4,An b4),(5,An y.1.1)]) (fun y=>[⟨b4,153,[.bool false, .slice none 0 0],true,none⟩,⟨y.1.1,153,[.bool (decide (a<0) !=decide (b<0)),BA y.1.2 (lbs br (a*b).natAbs).length],true,none⟩,BD y.1.2 (lbs br (a*b).natAbs)])
  4 [LP b2 a p cap,LP b3 b q cap2,⟨b4,153,[.bool false, .slice none 0 0],true,none⟩] Tryz.mixed (by kernel_rfl) ?_ ?_
 ·refine qP I (qB 0 I I I (qP I (qB 1 I I I ?_)))
  refine S9 Tryz.underlying4 I I I I I I ?_
  refine qP I (qB 0 I I I (qP I (qB 1 I I I (B6 (wX ?_)))))
  refine RS.cons ?_ (RS.cons ?_ (RS.nil))
  ·refine wD (X:=NV) rfl rfl (fun W' hp=>IV W' p q cap cap2 a.natAbs b.natAbs (hA.hp hp) (hB.hp hp) (by omega) (by omega)) ?_;intro x hx
   refine Aa (Ab (wX ?_))
   refine RS.cons ?_ (RS.cons ?_ (RS.nil))
   ·refine AC Tryz.hZ tH I I I I I I I I ?_
    refine Aa (Ab (wX (wZ ?_)))
    refine Ao Tryz.hZ rfl rfl rfl rfl ?_;intro b5
    refine Aa (Ab (wX (wZ (wS 4 I I I (Aa (Ab ?_))))))
    rw[←en] at hx⊢;first|refine AI rfl (by((repeat (first|refine AN.same ?_|refine AN.off rfl ?_));exact trivial)) ?_|refine Aj rfl (by kernel_rfl) ?_
    exact Ag ⟨(b5,x),hx⟩ ⟨I,I,tO⟩ [2,4,3] (by decide) I
   ·refine Ao Tryz.hZ rfl rfl rfl rfl ?_;intro b5
    refine Aa (Ab (wX (wZ ?_)))
    refine AC Tryz.hZ tH I I I I I I I I ?_
    refine Aa (Ab (wX (wZ (wS 4 I I I (Aa (Ab ?_))))))
    rw[←en] at hx⊢;first|refine AI rfl (by((repeat (first|refine AN.same ?_|refine AN.off rfl ?_));exact trivial)) ?_|refine Aj rfl (by kernel_rfl) ?_
    exact Ag ⟨(b5,x),hx⟩ ⟨I,I,tO⟩ [2,4,3] (by decide) I
  ·refine Ao Tryz.hZ rfl rfl rfl rfl ?_;intro b5
   refine Aa (Ab (wX (wZ ?_)))
   refine wD (X:=NV) rfl rfl (fun W' hp=>IV W' p q cap cap2 a.natAbs b.natAbs (hA.hp hp) (hB.hp hp) (by omega) (by omega)) ?_;intro x hx
   refine Aa (Ab (wX (wZ ?_)))
   refine AC Tryz.hZ tH I I I I I I I I ?_
   refine Aa (Ab (wX (wZ (wS 3 I I I (Aa (Ab ?_))))))
   rw[←en] at hx⊢;first|refine AI rfl (by((repeat (first|refine AN.same ?_|refine AN.off rfl ?_));exact trivial)) ?_|refine Aj rfl (by kernel_rfl) ?_
   exact Ag ⟨(b5,x),hx⟩ ⟨I,I,tO⟩ [2,3,4] (by decide) I
 rintro⟨⟨b5,x⟩,hx⟩
 have hx:Cd x (lbs br (a*b).natAbs):=hx
 refine zE (zA (zA (zB (wP I (wB 1 I I I (wP I (wP I ?_)))))))
 refine Al 20 (.bool (decide ((a*b).natAbs=0))) I (congrArg Value.bool (by
  by_cases h0:(a*b).natAbs=0
  ·rw[dT h0,h0,Bh];rfl
  ·have hL:(lbs br (a*b).natAbs).length≠0:=fun e=>h0 ((Dq br2).1 (List.length_eq_zero_iff.1 e))
   rw[dF h0,beq_eq_false_iff_ne];omega)) ?_
 refine Aa (AT ?_)
 try refine Au ?_
 refine AM (X:=Unit) (fun _=>[(4,An b4),(5,An b5)]) (fun _=>[⟨b4,153,[.bool false, .slice none 0 0],true,none⟩,⟨b5,153,[.bool (decide (a*b<0)),BA x (lbs br (a*b).natAbs).length],true,none⟩,BD x (lbs br (a*b).natAbs)]) (fun _=>True) ?_ ?_
 ·refine AA I (fun h=> ?_) (fun h=> ?_)
  ·have h:(a*b).natAbs=0:=of_decide_eq_true h
   exact zB (wP I (wS 1 I I I (Aa (At () tO ⟨I,I,tO⟩ [] (by rw[dF (show¬a*b<0 by omega)];rfl)))))
  ·have h: ¬(a*b).natAbs=0:=of_decide_eq_false h
   exact zI (At () tO ⟨I,I,tO⟩ [] (by rw[←es h];rfl))
 intro _ _
 exact zA (zB (wB 1 I I I (wS 0 I I I (Aa (zE (zO (A8 tH I (.cell 0 I I I I I) x I hx fun W hp=>A3.of_hp1 hp 2 I)))))))
-- BOXES 6
-- CODE2
theorem Nn {z:Int} (h:(decDigits z.natAbs).length≤300):(itoa z).length≤301:=by
 rw[CX,List.length_append]
 have:=N6 z
 omega
theorem MV {a b:Int} (h:(smI a&&smI b)=true):B7 Tryz.prog 142 [str (itoa a),str (itoa b)] (.tuple #[.int .i64 a, .int .i64 b, .bool true]):=fun W=>by
 obtain⟨h1,h2⟩:=Bool.and_eq_true_iff.1 h
 have l1:(itoa a).length≤17:=of_decide_eq_true h1
 have l2:(itoa b).length≤17:=of_decide_eq_true h2
 have:=LL a b (by omega) (by omega) W
 rw[h1,h2] at this
 exact this
theorem Nt {a b:Int} (h:(smI a&&smI b)=false) (ha:(decDigits a.natAbs).length≤300) (hb:(decDigits b.natAbs).length≤300): ∃x y:Int,B7 Tryz.prog 142 [str (itoa a),str (itoa b)] (.tuple #[.int .i64 x, .int .i64 y, .bool false]):=
 ⟨_,_,fun W=>by
  have l1:=Nn ha
  have l2:=Nn hb
  have:=LL a b (by omega) (by omega) W
  rw[h] at this
  exact this⟩
theorem LC (a b:Int) (ha:(decDigits a.natAbs).length≤300) (hb:(decDigits b.natAbs).length≤300) (hab:(decDigits (a*b).natAbs).length≤300) (W:World) (ht:Bc W):
  Ap Tryz.prog 175 #[str (itoa a),str (itoa b)] W (fun _:Unit=> .tuple #[str (itoa (a*b)), .int .i64 0]) (fun _=>True) (fun _=>[]):=by
 have la:=ES (m:=a.natAbs) (by omega)
 have lb:=ES (m:=b.natAbs) (by omega)
 have l1:=Nn ha
 have l2:=Nn hb
 refine Ae (args:=[str (itoa a),str (itoa b)]) Tryz.func175 I I I ?_
 refine zA (zB (wP I (wP I (Aa (zE (zA (zA (zB (wP I (wP I (wC I I (fun W _=>GZ a b ha hb W) (wP I (Aa ?_)))))))))))))
 refine zE (zA (zB (wP I (wP I (Aa (zE (zS I (zI (zE (zA (zA (zB ?_))))))))))))
 cases hs:smI a&&smI b with
 |true=>
  refine wP I (wP I (wC I I (fun W _=>MV hs W) ?_))
  iterate 7 refine wP I ?_
  refine Aa (zE (zA (zB (wP I (wP I (wP I (wP I ?_)))))))
  refine Al 26 (.int .i64 ((itoa a).length:Nat)) I (congrArg (fun n:Nat=>Value.int .i64 (n:Int)) (AH _)) ?_
  refine wP I (wP I ?_)
  refine Al 28 (.int .i64 ((itoa b).length:Nat)) I (congrArg (fun n:Nat=>Value.int .i64 (n:Int)) (AH _)) ?_
  refine wP I (wV 29 (((itoa a).length+(itoa b).length:Nat):Int) I (AZ (by omega)) (wP I (wU 30 (decide ((itoa a).length+(itoa b).length≤18)) I (decide_eq_decide.2 (by omega)) (wP I (Aa (zE ?_))))))
  refine AA I (fun h18=> ?_) (fun h18=> ?_)
  ·have h18:(itoa a).length+(itoa b).length≤18:=of_decide_eq_true h18
   have hm:(a*b).natAbs<1000000000000000000:=by
    have p1:=FM a.natAbs
    have p2:=FM b.natAbs
    have q1:(decDigits a.natAbs).length≤(itoa a).length:=by rw[CX,List.length_append];omega
    have q2:(decDigits b.natAbs).length≤(itoa b).length:=by rw[CX,List.length_append];omega
    rw[Int.natAbs_mul]
    have r1:=Nat.mul_lt_mul'' p1 p2
    rw[←Nat.pow_add] at r1
    exact Nat.lt_of_lt_of_le r1 (show _≤10^18 from Nat.pow_le_pow_right (by decide) (by omega))
   exact zA (zB (wP I (wP I (wP I (wV 34 (a*b) I (Ak (by omega) (by omega)) (wC I I (fun W hp=>BO (a*b) (by omega) (by omega) W (ht.hp hp)) (wP I (wP I (Aa (zE (zO (zP (wR2 I I I)))))))))))))
  ·refine zI (zE (zA (zB (wP I ?_))))
   refine wD (X:=NV) I I (fun W' _=>C2 a (by omega) W') ?_
   intro x hx
   refine wP I ?_
   refine wD (X:=NV) I I (fun W' _=>C2 b (by omega) W') ?_
   intro y hy
   refine wD (X:=NV) I I (fun W' hp=>L8 a b W' (some ⟨x.1,0,none⟩) (some ⟨y.1,0,none⟩) x.2.1 y.2.1 (A7.of_bx hp 0 I) (A7.of_bx hp 1 I) (by omega) (by omega)) ?_
   intro w hw
   exact wC I I (fun W' hp=>H7 (a*b) hab W' (some ⟨w.1,0,none⟩) w.2.1 (A7.of_bx hp 2 I)) (wP I (wP I (wP I (wP I (Aa (zE (zO (wR2 I I I))))))))
 |false=>
  obtain⟨x0,y0,h2⟩:=Nt hs ha hb
  refine wP I (wP I (wC I I (fun W _=>h2 W) ?_))
  iterate 7 refine wP I ?_
  refine Aa (zE (zA (zB (wP I (wP I ?_)))))
  iterate 6 refine Aw I I ?_
  refine wP I (Aa (zE (zS I (zI (zE (zA (zB (wP I ?_))))))))
  refine wD (X:=NV) I I (fun W' _=>C2 a (by omega) W') ?_
  intro x hx
  refine wP I ?_
  refine wD (X:=NV) I I (fun W' _=>C2 b (by omega) W') ?_
  intro y hy
  refine wD (X:=NV) I I (fun W' hp=>L8 a b W' (some ⟨x.1,0,none⟩) (some ⟨y.1,0,none⟩) x.2.1 y.2.1 (A7.of_bx hp 0 I) (A7.of_bx hp 1 I) (by omega) (by omega)) ?_
  intro w hw
  exact wC I I (fun W' hp=>H7 (a*b) hab W' (some ⟨w.1,0,none⟩) w.2.1 (A7.of_bx hp 2 I)) (wP I (wP I (wP I (wP I (Aa (zE (zO (wR2 I I I))))))))
theorem Qb (a b:Int) (ha:(decDigits a.natAbs).length≤300) (hb:(decDigits b.natAbs).length≤300) (W:World):
  Ap Tryz.prog 123 #[str (itoa a),str (itoa b)] W (fun _:Unit=> .tuple #[.int .i64 (F7 a b), .int .i64 0]) (fun _=>True) (fun _=>[]):=by
 have la:=ES (m:=a.natAbs) (by omega)
 have lb:=ES (m:=b.natAbs) (by omega)
 refine Ae (args:=[str (itoa a),str (itoa b)]) Tryz.func123 I I I ?_
 refine zA (zB (wP I (wP I (Aa (zE (zA (zA (zB (wP I (wP I (wC I I (fun W _=>GZ a b ha hb W) (wP I (Aa ?_)))))))))))))
 refine zE (zA (zB (wP I (wP I (Aa (zE (zS I (zI (zE (zA (zA (zB ?_))))))))))))
 cases hs:smI a&&smI b with
 |true=>
  refine wP I (wP I (wC I I (fun W _=>MV hs W) ?_))
  iterate 7 refine wP I ?_
  refine Aa (zE (zA (zB (wP I (Aa (zE (zR I (zA (zA (zB (wP I (wP I (wP I ?_)))))))))))))
  by_cases h1:a<b
  ·exact wU 27 true I (dT h1) (Aa (zE (zR I (zA (zB (wP I (wP I (Aa (zE (zO (zP (zP (wR2 I I (by rw[F7,if_pos h1]))))))))))))))
  refine wU 27 false I (dF h1) (Aa (zE (zS I (zI (zE (zA (zA (zB (wP I (wP I (wP I ?_)))))))))))
  by_cases h2:b<a
  ·exact wU 30 true I (dT h2) (Aa (zE (zR I (zA (zB (wP I (wP I (Aa (zE (zO (zP (zP (wR2 I I (by rw[F7,if_neg h1,if_neg (by omega)]))))))))))))))
  exact wU 30 false I (dF h2) (Aa (zE (zS I (zI (zE (zA (zB (wP I (wP I (Aa (zE (zO (zP (wR2 I I (by rw[F7,if_neg h1,if_pos (by omega)])))))))))))))))
 |false=>
  obtain⟨x0,y0,h2⟩:=Nt hs ha hb
  refine wP I (wP I (wC I I (fun W _=>h2 W) ?_))
  iterate 7 refine wP I ?_
  refine Aa (zE (zA (zB (wP I (Aa (zE (zS I (zI (zE (zA (zB (wP I ?_))))))))))))
  refine wD (X:=NV) I I (fun W' _=>C2 a (by omega) W') ?_
  intro x hx
  refine wP I ?_
  refine wD (X:=NV) I I (fun W' _=>C2 b (by omega) W') ?_
  intro y hy
  refine wC I I (fun W' hp=>Qz b W' (some ⟨y.1,0,none⟩) y.2.1) ?_
  refine wD (X:=NV) I I (fun W' hp=>PX a (-b) W' (some ⟨x.1,0,none⟩) (some ⟨y.1,0,none⟩) x.2.1 y.2.1 (A7.of_bx hp 0 I) (by rw[Int.natAbs_neg];exact A7.of_bx hp 1 I) (by omega) (by rw[Int.natAbs_neg];omega)) ?_
  intro w hw
  (refine Ao Tryz.hZ rfl rfl rfl rfl ?_;intro)
  refine wS 3 I I I (Aa ?_)
  rename_i b10
  refine zE (zA (zA (zB (wP I (wB 3 I I I (wP I (wP I ?_)))))))
  refine Al 40 (.bool (decide (a=b))) I (congrArg Value.bool (by
   by_cases h0:a=b
   ·rw[dT h0,show(a+ -b).natAbs=0 by omega,Bh];rfl
   ·have hL:(lbs br (a+ -b).natAbs).length≠0:=fun e=>by have:=(Dq br2).1 (List.length_eq_zero_iff.1 e);omega
    rw[dF h0,beq_eq_false_iff_ne];omega)) ?_
  refine Aa (zE ?_)
  refine AA I (fun h0=> ?_) (fun h0=> ?_)
  ·have h0:a=b:=of_decide_eq_true h0
   exact zA (zB (wP I (wP I (Aa (zE (zO (zP (wR2 I I (by rw[F7,if_neg (by omega),if_pos h0])))))))))
  have h0: ¬a=b:=of_decide_eq_false h0
  refine zI (zE (zA (zA (zB (wP I (wB 3 I I I (Aa (zE ?_))))))))
  refine AA I (fun h1=> ?_) (fun h1=> ?_)
  ·have h1:a+ -b<0:=of_decide_eq_true h1
   exact zA (zB (wP I (wP I (Aa (zE (zO (zP (wR2 I I (by rw[F7,if_pos (by omega)])))))))))
  ·have h1: ¬a+ -b<0:=of_decide_eq_false h1
   exact zI (zE (zA (zB (wP I (wP I (Aa (zE (zO (wR2 I I (by rw[F7,if_neg (by omega),if_neg h0]))))))))))
-- BOXES 6
-- CODE2
theorem Ht {z:Int} (h: ¬okN z):Jn z= .tuple #[str [], .int .i64 4]:=if_neg h
-- BOXES 4
-- CODE2
theorem No (r:Nat):lv br [r]=r:=by show r+br*0=r;rw[Nat.mul_zero,Nat.add_zero]
theorem N1 (W:World) (p:Option Addr) (cap a dv:Nat) (hA:A7 W p (lbs br a)) (hna:(lbs br a).length≤1000000) (hd0:0<dv) (hd1:dv<br):
  Ap Tryz.prog 194 #[slv p (lbs br a).length cap, .int .i64 (dv:Nat)] W (fun x:NV×NV=> .tuple #[BA x.1 (lbs br (a/dv)).length,BA x.2 (lbs br (a%dv)).length]) (fun x=>Cd x.1 (lbs br (a/dv))∧Cd x.2 (lbs br (a%dv))) (fun x=>[BD x.1 (lbs br (a/dv)),BD x.2 (lbs br (a%dv))]):=by
 obtain⟨K,hK⟩: ∃K,(lbs br a).length=K:=⟨_,rfl⟩
 have hd1':dv<1000000:=hd1
 have hal:=AQ br2 a
 rw[hK] at hna hal
 refine Ae (args:=[slv p (lbs br a).length cap, .int .i64 (dv:Nat)]) Tryz.func194 I I I ?_
 rw[hK]
 refine zA (zB (wP I (wP I (Aa (zE (zA (zB (wP I (wP I ?_)))))))))
 refine Cl Tryz.vec130 K I I I I I I I (by simp only[maxLen];omega) (by omega) ?_
 intro g
 have ez:BQ (Value.cells (.int .i64 0)).toList K=nI (List.replicate K 0)++[]:=by rw[List.append_nil];exact EU K
 rw[ez]
 refine wP I (Aa (zE (zA (zB (wP I (Aa (zE (zA (zA (zB (wP I (wP I (wP I ?_)))))))))))))
 refine wV 14 ((K:Int)-1) I (Ak (by omega) (by omega)) (wP I (Aa (zE (zH ?_))))
 refine A9 (X:=Nat×List Nat×Nat×Nat) (fun x=>[(0,slv p K cap),(1, .int .i64 (dv:Nat)),(6,slv (some ⟨g,0,none⟩) K K),(7, .int .i64 (x.2.2.2:Nat)),(8, .int .i64 ((x.1:Nat)-1:Int))]) (fun x=>[⟨g,3,nI x.2.1++[],true,none⟩])
  (fun x=>x.1≤K∧x.2.1.length=K∧(∀y∈x.2.1,y<br)∧lv br x.2.1=br^x.1*x.2.2.1∧a/br^x.1=x.2.2.1*dv+x.2.2.2∧x.2.2.2<dv) (fun x=>x.1) (K,List.replicate K 0,0,0) ⟨Nat.le_refl _,List.length_replicate,Hg (by decide) K,by rw[Ek];show 0=br^K*0;rw[Nat.mul_zero],by show a/br^K=0*dv+0;rw[Nat.div_eq_of_lt hal];omega,hd0⟩ ⟨rfl,rfl,rfl,rfl,rfl,trivial⟩ [] rfl ?_
 rintro⟨k,l,qh,rs⟩ ⟨hk,hl,hlb,hlv,hq,hr⟩
 have hk:k≤K:=hk
 have hl:l.length=K:=hl
 have hlv:lv br l=br^k*qh:=hlv
 have hq:a/br^k=qh*dv+rs:=hq
 have hr:rs<dv:=hr
 refine zA (zA (zB (wP I (wP I ?_))))
 cases k with
 |zero=>
  have hq:a=qh*dv+rs:=by simpa using hq
  have hlv:lv br l=qh:=by rw[hlv];simp
  have eq1:a/dv=qh:=by rw[hq,Nat.mul_comm,Nat.mul_add_div hd0,Nat.div_eq_of_lt hr,Nat.add_zero]
  have eq2:a%dv=rs:=by rw[hq,Nat.mul_comm,Nat.mul_add_mod,Nat.mod_eq_of_lt hr]
  refine wU 16 false I (dF (by show¬(((0:Nat):Int)-1≥0);omega)) (Aa (zE (zS I (zJ (zK (zK (zL (zE (zA (zB ?_))))))))))
  have hV0:(⟨some g,K,[]⟩:Vec).OK 1 l.length (nI l):=⟨Eb _,(fun h=>by cases h),fun _=>⟨by show _≤K;omega,by show K≤maxLen;simp only[maxLen];omega,by show(nI l).length+0=K*1;rw[B5];omega⟩⟩
  obtain⟨j1,hV1,he1⟩:=D5 hV0 hlb
  have hrb: ∀x∈[rs],x<br:=fun x hx=>by obtain rfl:=List.mem_singleton.1 hx;show x<1000000;omega
  refine wP I ?_
  refine Al 35 (slv (some ⟨g,0,none⟩) l.length K) I (by rw[hl]) ?_
  refine wC I I (fun W hp=>C0 W _ K _ (A7.of_bx hp 0 I) hlb (by omega) (by omega)) (wP I ?_)
  refine AO Tryz.hZ tH I I I I I I I I I I I fun bN=> ?_
  have hV2:(⟨some bN,1,[]⟩:Vec).OK 1 [rs].length (nI [rs]):=⟨rfl,(fun h=>by cases h),fun _=>⟨Nat.le_refl _,(by show 1≤maxLen;decide),rfl⟩⟩
  obtain⟨j2,hV3,he2⟩:=D5 hV2 hrb
  refine wC I I (fun W hp=>C0 W (some ⟨bN,0,none⟩) 1 [rs] (A7.of_bx (junk:=[]) hp 1 I) hrb (by show 1≤1;omega) (by show 1<_;decide)) (wP I (wP I (Aa (zE (zO ?_)))))
  rw[hlv, ←eq1] at hV1 he1
  rw[No, ←eq2] at hV3 he2
  exact AR tH I (.tmp I) (.tmp I) (((g,K,j1):NV),((bN,1,j2):NV)) (by rw[hlv, ←eq1,No, ←eq2]) ⟨hV1,hV3⟩ fun W hp=>A3.of_hp (hp.pick (l:=[BD (g,K,j1) (lbs br (a/dv)),BD (bN,1,j2) (lbs br (a%dv))]) [0,1] (by decide) (by
   show some [(⟨g,3,nI l++[],true,none⟩:Bx),⟨bN,3,nI [rs]++[],true,none⟩]=some [⟨g,3,nI (lbs br (a/dv))++j1,true,none⟩,⟨bN,3,nI (lbs br (a%dv))++j2,true,none⟩]
   rw[he1, ←eq2,he2]))
 |succ k=>
  have hq:a/br^(k+1)=qh*dv+rs:=hq
  have hi:k<l.length:=by rw[hl];omega
  obtain⟨b1,o1,rfl,r1⟩:=hA.row (show k<(lbs br a).length by omega)
  have r1:=r1 k (by omega)
  obtain⟨v,hv⟩: ∃v,lim (lbs br a) k=v:=⟨_,rfl⟩
  rw[hv] at r1
  have hvb:v<br:=by rw[←hv];exact Bg br2 (Bl br2 a) _
  have hvb':v<1000000:=hvb
  have hve:v=a/br^k%br:=by rw[←hv];exact Bi br2 a _
  obtain⟨n,hn⟩: ∃n,n=v+rs*br:=⟨_,rfl⟩
  have hn':n=v+rs*1000000:=hn
  have hn63:n<1000000000000:=by omega
  have hnq:=Py (B:=br) (d:=dv) hvb hr hn
  have hnq':n/dv<1000000:=hnq
  have hs:=HW (B:=br) (d:=dv) (q:=qh) (r:=rs) (i:=k) hq (n:=n) (by rw[hn,hve])
  have hzero:l[k]? =some 0:=by
   rw[Dn hi,Cq br2 _ hlb,hlv,Nat.pow_succ,Nat.mul_assoc,Nat.mul_div_cancel_left _ (Nat.pow_pos (by decide)),Nat.mul_mod_right]
  have hset:=GI (B:=br) (n/dv) hzero
  rw[Nat.mul_zero,Nat.add_zero,hlv,Nat.pow_succ,Nat.mul_assoc, ←Nat.mul_add] at hset
  have hrm:n%dv<dv:=Nat.mod_lt _ hd0
  refine wU 16 true I (dT (by show(((k+1:Nat):Int)-1≥0);omega)) (Aa (zE (zR I (zI (zE (zA (zH (zA (zB (wP I (wP I (wP I (wP I ?_)))))))))))))
  refine wV 22 (k:Nat) I (by show((k+1:Nat):Int)-1=_;omega) ?_
  refine wJ ?_
  refine wL 0 I I (fun W hp=>r1.hp hp) I (wP I (wV 25 (n:Nat) I (by show w64 (w64 ((rs:Int)*((1000000:Nat):Int))+v)=_;rw[BZ (by omega),AZ (by omega),hn',Nat.add_comm]) (wP I (Aa (zE (zA (zB (wP I (wP I (wV 27 (k:Nat) I (by show((k+1:Nat):Int)-1=_;omega) (wP I (wP I ?_))))))))))))
  refine CT I I I I I (by omega) ?_
  refine wV 30 ((n/dv:Nat):Int) I (BN (by omega)) ?_
  refine wJ ?_
  refine Ad 0 (nI (l.set k (n/dv))++[]) tH I I I I I I I I I I (by show 0+k*1+1≤(nI l++[]).length;rw[List.append_nil,B5];omega) (Cn hi (n/dv)) ?_
  refine Aa (zE (zB (wP I (wP I ?_))))
  refine Gk I I I I I (by omega) ?_
  refine Al 34 (.int .i64 ((n%dv:Nat):Int)) I I ?_
  exact wP I (Aa (zN (zE (zB (wP I (wV 17 (k:Nat) I (by show((k+1:Nat):Int)-1=_;omega) (wP I (wV 18 ((k:Nat)-1:Int) I (Ak (by omega) (by omega)) (wP I (Aa (A0 (k,l.set k (n/dv),qh*br+n/dv,n%dv) ⟨by show k≤K;omega,by rw[List.length_set];exact hl,C6 hlb hnq,by show lv br (l.set k (n/dv))=br^k*(qh*br+n/dv);rw[hset,Nat.mul_comm qh],by show a/br^k=_;exact hs,hrm⟩ (by show k<k+1;omega) ⟨I,I,I,I,I,tO⟩ [] I)))))))))))
-- BOXES 4
-- CODE2
theorem WW {W m:Nat} (h:W<br^(m+3)):((W/br^(m+2)%br)*br+W/br^(m+1)%br)*br+W/br^m%br=W/br^m:=by
 have h1:W/br^(m+1)=W/br^m/br:=by rw[Nat.pow_succ,Nat.div_div_eq_div_mul]
 have h2:W/br^(m+2)=W/br^m/br/br:=by rw[Nat.pow_succ, ←Nat.div_div_eq_div_mul,h1]
 have h3:W/br^m<br*br*br:=by
  apply Nat.div_lt_of_lt_mul
  have:br^(m+3)=br^m*(br*br*br):=by rw[Nat.pow_succ,Nat.pow_succ,Nat.pow_succ];simp[Nat.mul_assoc]
  rw[←this];exact h
 rw[h2,h1]
 generalize W/br^m=x at h3⊢
 have h3:x<1000000*1000000*1000000:=h3
 show((x/1000000/1000000%1000000)*1000000+x/1000000%1000000)*1000000+x%1000000=x
 omega
theorem WN {b m:Nat} (h:b<br^(m+2)):(b/br^(m+1)%br)*br+b/br^m%br=b/br^m:=by
 have h1:b/br^(m+1)=b/br^m/br:=by rw[Nat.pow_succ,Nat.div_div_eq_div_mul]
 have h3:b/br^m<br*br:=by
  apply Nat.div_lt_of_lt_mul
  have:br^(m+2)=br^m*(br*br):=by rw[Nat.pow_succ,Nat.pow_succ];simp[Nat.mul_assoc]
  rw[←this];exact h
 rw[h1]
 generalize b/br^m=x at h3⊢
 have h3:x<1000000*1000000:=h3
 show(x/1000000%1000000)*1000000+x%1000000=x
 omega
theorem Wr {W b m g:Nat} (hg:g=W/m/(b/m+1)) (hm:0<m):g*b≤W:=by
 have h1:b<(b/m+1)*m:=Nat.lt_mul_of_div_lt (Nat.lt_succ_self _) hm
 have h2:g*(b/m+1)≤W/m:=by rw[hg];exact Nat.div_mul_le_self ..
 have h3:g*(b/m+1)*m≤W/m*m:=Nat.mul_le_mul_right _ h2
 have h4:W/m*m≤W:=Nat.div_mul_le_self ..
 have h5:g*b≤g*((b/m+1)*m):=Nat.mul_le_mul_left _ (by omega)
 rw[←Nat.mul_assoc] at h5
 omega
theorem TQ {x r:Nat} (_hx:x<br):lv br (x::lbs br r)=r*br+x:=by
 show x+br*lv br (lbs br r)=_
 rw[Jy br2,Nat.mul_comm,Nat.add_comm]
theorem Mx {w b g r:Nat} (h:w=g*b+r) (hr:r<b):w/b=g∧w%b=r:=by
 have hb:0<b:=by omega
 subst h
 rw[Nat.mul_comm]
 exact⟨by rw[Nat.mul_add_div hb,Nat.div_eq_of_lt hr,Nat.add_zero],by rw[Nat.mul_add_mod,Nat.mod_eq_of_lt hr]⟩
theorem LZ (W:World) (p q:Option Addr) (cap cap2:Nat) (a b:Nat) (hb0:0<b) (hA:A7 W p (lbs br a)) (hB:A7 W q (lbs br b)) (hna:(lbs br a).length≤1000) (hnb:(lbs br b).length≤1000):
  Ap Tryz.prog 144 #[slv p (lbs br a).length cap,slv q (lbs br b).length cap2] W (fun x:NV×NV=> .tuple #[BA x.1 (lbs br (a/b)).length,BA x.2 (lbs br (a%b)).length]) (fun x=>Cd x.1 (lbs br (a/b))∧Cd x.2 (lbs br (a%b))) (fun x=>[BD x.1 (lbs br (a/b)),BD x.2 (lbs br (a%b))]):=by
 have hla:=Bl br2 a
 have hlb:=Bl br2 b
 have hal:=AQ br2 a
 have hbl:=AQ br2 b
 obtain⟨K,hK⟩: ∃n,(lbs br a).length=n:=⟨_,rfl⟩
 obtain⟨n,hn⟩: ∃n,(lbs br b).length=n:=⟨_,rfl⟩
 have hn0:n≠0:=fun e=>by
  have:=(Dq br2).1 (List.length_eq_zero_iff.1 (hn.trans e));omega
 rw[hK] at hna hal
 rw[hn] at hnb hbl
 refine Ae (args:=[slv p (lbs br a).length cap,slv q (lbs br b).length cap2]) Tryz.func144 I I I ?_
 rw[hK,hn]
 refine zA (zB (wP I (wP I (Aa (zE (zA (zA (zB (wP I (wP I (wP I ?_)))))))))))
 by_cases hn1:n=1
 ·subst hn1
  obtain⟨b1,o1,rfl,r1⟩:=hB.row (show 0<(lbs br b).length by omega)
  have r1:=r1 0 (by omega)
  obtain⟨v,hv⟩: ∃v,lim (lbs br b) 0=v:=⟨_,rfl⟩
  rw[hv] at r1
  have hvb:v<br:=by rw[←hv];exact Bg br2 hlb _
  rw[Bi br2,Nat.pow_zero,Nat.div_one,Nat.mod_eq_of_lt (by rw[Nat.pow_one] at hbl;exact hbl)] at hv
  subst hv
  refine wU 14 true I (by simp) (Aa (zE (zR I (zA (zB (wP I (wP I ?_)))))))
  refine wJ ?_
  refine wL 0 I I (fun W hp=>r1.hp hp) I ?_
  refine wD (X:=NV×NV) I I (fun W' hp=>by have h:=N1 W' p cap a b (hA.hp hp) (by omega) hb0 hvb;rw[hK] at h;exact h) ?_
  rintro⟨x,y⟩ ⟨h1,h2⟩
  exact wP I (wP I (wP I (wP I (Aa (zE (zO (zP (AR tH I (.tmp I) (.tmp I) (x,y) I ⟨h1,h2⟩ fun W hp=>A3.of_hp hp))))))))
 obtain⟨m,rfl⟩: ∃m,n=m+2:=⟨n-2,by omega⟩
 refine wU 14 false I (by rw[beq_eq_false_iff_ne];omega) (Aa ?_)
 obtain⟨bq,oq,rfl,rq⟩:=hB.row (show 0<(lbs br b).length by omega)
 obtain⟨u1,hu1⟩: ∃v,lim (lbs br b) (m+1)=v:=⟨_,rfl⟩
 obtain⟨u0,hu0⟩: ∃v,lim (lbs br b) m=v:=⟨_,rfl⟩
 have rq1:=rq (m+1) (by omega)
 have rq0:=rq m (by omega)
 rw[hu1] at rq1
 rw[hu0] at rq0
 have hu1b:u1<1000000:=by rw[←hu1];exact Bg br2 hlb _
 have hu0b:u0<1000000:=by rw[←hu0];exact Bg br2 hlb _
 rw[Bi br2] at hu1 hu0
 have ht2:=WN hbl
 rw[hu1,hu0] at ht2
 have ht2:u1*1000000+u0=b/br^m:=ht2
 obtain⟨tp,htp⟩: ∃tp,tp=b/br^m:=⟨_,rfl⟩
 have hpm:0<br^m:=Nat.pow_pos (by decide)
 refine zE (zS I (zI (zE (zA (zB (wP I (wP I (wP I (Aa (zE (zA (zU (qP I (qP I (qP I ?_)))))))))))))))
 refine qV 26 ((m+1:Nat):Int) I (by show w64 (((m+2:Nat):Int)-1)=_;rw[Ak (by omega) (by omega)];omega) ?_
 refine qJ ?_
 refine qL 0 I I (fun W hp=>rq1.hp hp) I (qP I (qP I (qP I (qP I (qV 32 (m:Nat) I (by show w64 (((m+2:Nat):Int)-2)=_;rw[Ak (by omega) (by omega)];omega) ?_)))))
 refine qJ ?_
 refine qL 0 I I (fun W hp=>rq0.hp hp) I (qP I (qV 35 (tp:Nat) I (by show w64 (w64 ((u1:Int)*((1000000:Nat):Int))+u0)=_;rw[BZ (by omega),AZ (by omega),htp,ht2]) (qP I (AJ (Aa (zE (zA (zB (wP I (wP I ?_))))))))))
 refine Cl Tryz.vec130 K I I I I I I I (by simp only[maxLen];omega) (by omega) ?_
 intro g
 have ez:BQ (Value.cells (.int .i64 0)).toList K=nI (List.replicate K 0)++[]:=by rw[List.append_nil];exact EU K
 rw[ez]
 refine wP I (Aa (zE (zA (zB ?_))))
 refine Ef tH I I I I I ?_
 intro gr
 refine wP I (Aa (zE (zA (zA (zB (wP I (wP I (wP I (wV 42 ((K:Int)-1) I (Ak (by omega) (by omega)) (wP I (Aa (zE (zH ?_)))))))))))))
 have e0:lbs br 0=[]:=Bh
 refine A9 (X:=Nat×List Nat×Nat×Nat×NV) (fun x=>[(0,slv p K cap),(1,slv (some ⟨bq,oq,none⟩) (m+2) cap2),(6, .int .i64 ((m+2:Nat):Int)),(7, .int .i64 (tp:Nat)),(8,slv (some ⟨g,0,none⟩) K K),(9,BA x.2.2.2.2 (lbs br x.2.2.2.1).length),(10, .int .i64 ((x.1:Nat)-1:Int))]) (fun x=>[⟨g,3,nI x.2.1++[],true,none⟩,BD x.2.2.2.2 (lbs br x.2.2.2.1)])
  (fun x=>(x.1≤K∧x.2.1.length=K∧(∀y∈x.2.1,y<br)∧lv br x.2.1=br^x.1*x.2.2.1∧a/br^x.1=x.2.2.1*b+x.2.2.2.1∧x.2.2.2.1<b)∧Cd x.2.2.2.2 (lbs br x.2.2.2.1)) (fun x=>x.1) (K,List.replicate K 0,0,0,(gr,0,[])) ⟨⟨Nat.le_refl _,List.length_replicate,Hg (by decide) K,by rw[Ek];show 0=br^K*0;rw[Nat.mul_zero],by show a/br^K=0*b+0;rw[Nat.div_eq_of_lt hal];omega,hb0⟩,by show Cd _ (lbs br 0);rw[e0];exact⟨rfl,(fun h=>by cases h),fun _=>⟨Nat.le_refl _,Nat.zero_le _,rfl⟩⟩⟩ ⟨rfl,rfl,rfl,rfl,rfl,by show _=some (slv _ (lbs br 0).length 0);rw[e0];rfl,rfl,trivial⟩ [] (by show _=[_,BD _ (lbs br 0)]++[];rw[e0];rfl) ?_
 rintro⟨k,l,qh,rs,x⟩ ⟨⟨hk,hl,hllt,hlv,hq,hr⟩,hx⟩
 have hk:k≤K:=hk
 have hl:l.length=K:=hl
 have hlv:lv br l=br^k*qh:=hlv
 have hq:a/br^k=qh*b+rs:=hq
 have hr:rs<b:=hr
 have hx:Cd x (lbs br rs):=hx
 refine zA (zA (zB (wP I (wP I ?_))))
 cases k with
 |zero=>
  have hq:a=qh*b+rs:=by simpa using hq
  have hlv:lv br l=qh:=by rw[hlv];simp
  obtain⟨eq1,eq2⟩:=Mx hq hr
  refine wU 44 false I (dF (by show¬(((0:Nat):Int)-1≥0);omega)) (Aa (zE (zS I (zJ (zK (zK (zL (zE (zA (zB ?_))))))))))
  have hV0:(⟨some g,K,[]⟩:Vec).OK 1 l.length (nI l):=⟨Eb _,(fun h=>by cases h),fun _=>⟨by show _≤K;omega,by show K≤maxLen;simp only[maxLen];omega,by show(nI l).length+0=K*1;rw[B5];omega⟩⟩
  obtain⟨j1,hV1,he1⟩:=D5 hV0 hllt
  refine wP I ?_
  refine Al 92 (slv (some ⟨g,0,none⟩) l.length K) I (by rw[hl]) ?_
  refine wC I I (fun W hp=>C0 W _ K _ (A7.of_bx hp 0 I) hllt (by omega) (by omega)) (wP I (wP I (wP I (Aa (zE (zO ?_))))))
  rw[hlv, ←eq1] at hV1 he1
  rw[←eq2] at hx
  exact AR tH I (.tmp I) (.tmp I) (((g,K,j1):NV),x) (by rw[hlv, ←eq1, ←eq2]) ⟨hV1,hx⟩ fun W hp=>A3.of_hp (hp.pick (l:=[BD (g,K,j1) (lbs br (a/b)),BD x (lbs br (a%b))]) [0,1] (by decide) (by
   show some [(⟨g,3,nI l++[],true,none⟩:Bx),BD x (lbs br rs)]=some [⟨g,3,nI (lbs br (a/b))++j1,true,none⟩,BD x (lbs br (a%b))]
   rw[he1,eq2]))
 |succ k=>
  have hq:a/br^(k+1)=qh*b+rs:=hq
  have hi:k<l.length:=by rw[hl];omega
  obtain⟨b1,o1,rfl,r1⟩:=hA.row (show k<(lbs br a).length by omega)
  have r1:=r1 k (by omega)
  obtain⟨v,hv⟩: ∃v,lim (lbs br a) k=v:=⟨_,rfl⟩
  rw[hv] at r1
  have hvb:v<br:=by rw[←hv];exact Bg br2 hla _
  have hvb':v<1000000:=hvb
  have hve:v=a/br^k%br:=by rw[←hv];exact Bi br2 a _
  obtain⟨w,hw⟩: ∃w,w=v+rs*br:=⟨_,rfl⟩
  have hlw:lv br (v::lbs br rs)=w:=by rw[TQ hvb,hw,Nat.add_comm]
  have hrsb:=hr
  have hwlt:w<br*b:=by
   have:(rs+1)*br≤b*br:=Nat.mul_le_mul_right _ hr
   rw[Nat.add_mul,Nat.one_mul] at this
   rw[hw,Nat.mul_comm br b];omega
  have hwlt3:w<br^(m+3):=by
   have h1:br*b<br*br^(m+2):=Nat.mul_lt_mul_of_pos_left hbl (by decide)
   rw[show br^(m+3)=br*br^(m+2) by rw[Nat.pow_succ,Nat.mul_comm]];omega
  have hwb:w/b<br:=Nat.div_lt_of_lt_mul (by rw[Nat.mul_comm];exact hwlt)
  have hs:=HW (B:=br) (d:=b) (q:=qh) (r:=rs) (i:=k) hq (n:=w) (by rw[hw,hve])
  have hzero:l[k]? =some 0:=by
   rw[Dn hi,Cq br2 _ hllt,hlv,Nat.pow_succ,Nat.mul_assoc,Nat.mul_div_cancel_left _ (Nat.pow_pos (by decide)),Nat.mul_mod_right]
  have hset:=GI (B:=br) (w/b) hzero
  rw[Nat.mul_zero,Nat.add_zero,hlv,Nat.pow_succ,Nat.mul_assoc, ←Nat.mul_add] at hset
  have hrl:(lbs br rs).length≤m+2:=(BI br2).2 (by omega)
  have hwl:(lbs br w).length≤m+3:=(BI br2).2 hwlt3
  refine wU 44 true I (dT (by show(((k+1:Nat):Int)-1≥0);omega)) (Aa (zE (zR I (zI (zE (zA (zH (zA (zB (wP I (wP I (wV 48 (k:Nat) I (by show((k+1:Nat):Int)-1=_;omega) ?_))))))))))))
  refine wJ ?_
  refine wL 0 I I (fun W hp=>r1.hp hp) I ?_
  refine AO Tryz.hZ tH I I I I I I I I I I I fun bN=> ?_
  refine wP I ?_
  refine EG (len:=1) (V:=⟨some bN,1,[]⟩) (xs:=nI [v]) (news:=nI (lbs br rs)) 2 Tryz.vec130 rfl rfl rfl rfl rfl rfl rfl rfl rfl ⟨rfl,(fun h=>by cases h),fun _=>⟨Nat.le_refl _,(by show 1≤maxLen;decide),rfl⟩⟩ (Eb _) (fun W' hp j u hj=> ?_) (fun u hu=> ?_) (by dsimp only;simp only[maxLen];omega) (by dsimp only;omega) ?_
  ·have hrow:=Ar.of_bx hp 1 rfl rfl
   have:=hrow.get j u (by show(nI (lbs br rs)++x.2.2)[j]? =_;rw[List.getElem?_append_left (List.getElem?_eq_some_iff.1 hj).1];exact hj)
   rw[Addr.add_none]
   exact this
  ·obtain⟨z,_,rfl⟩:=List.mem_map.1 hu;rfl
  intro V' hV' hV0
  obtain⟨pv,cv,jv⟩:=V'
  cases pv with
  |none=>have:=hV'.nil rfl;omega
  |some gv=>
  have ecat:nI [v]++nI (lbs br rs)=nI (v::lbs br rs):=rfl
  rw[ecat] at hV'⊢
  have hV':(⟨some gv,cv,jv⟩:Vec).OK 1 (v::lbs br rs).length (nI (v::lbs br rs)):=by rw[List.length_cons,Nat.add_comm];exact hV'
  have hclt: ∀y∈v::lbs br rs,y<br:=fun y hy=>by
   rcases List.mem_cons.1 hy with rfl|hy
   ·exact hvb
   ·exact Bl br2 rs y hy
  obtain⟨jw,hVw,hew⟩:=D5 hV' hclt
  rw[hlw] at hVw hew
  refine Al 53 (slv (some ⟨gv,0,none⟩) (v::lbs br rs).length cv) I (by show slv _ (1+_) _=_;rw[List.length_cons,Nat.add_comm]) ?_
  refine wC I I (fun W hp=>(C0 W (some ⟨gv,0,none⟩) cv _ (A7.of_bx hp 2 I) hclt (by have:=(hV'.cap (by simp)).1;exact this) (by rw[List.length_cons];omega)).cast (v':=slv (some ⟨gv,0,none⟩) (lbs br w).length cv) (by rw[hlw])) (wP I (Aa ?_))
  obtain⟨l2,hl2⟩: ∃v,lim (lbs br w) (m+2)=v:=⟨_,rfl⟩
  obtain⟨l1,hl1⟩: ∃v,lim (lbs br w) (m+1)=v:=⟨_,rfl⟩
  obtain⟨l0,hl0⟩: ∃v,lim (lbs br w) m=v:=⟨_,rfl⟩
  have hl2b:l2<1000000:=by rw[←hl2];exact Bg br2 (Bl br2 w) _
  have hl1b:l1<1000000:=by rw[←hl1];exact Bg br2 (Bl br2 w) _
  have hl0b:l0<1000000:=by rw[←hl0];exact Bg br2 (Bl br2 w) _
  have ht3:=WW hwlt3
  rw[←Bi br2, ←Bi br2, ←Bi br2,hl2,hl1,hl0] at ht3
  have ht3:(l2*1000000+l1)*1000000+l0=w/br^m:=ht3
  obtain⟨e,he⟩: ∃e,e=w/br^m/(b/br^m+1):=⟨_,rfl⟩
  have hest:=Wr he hpm
  have heb:e≤w/b:=(Nat.le_div_iff_mul_le hb0).2 hest
  have hebr:e<1000000:=Nat.lt_of_le_of_lt heb hwb
  have htpb:tp<1000000000000:=by rw[htp, ←ht2];omega
  have hlW: ∀ {W1:World} {bxs:List Bx},Hp W bxs W1→nth bxs 2=some (⟨gv,3,nI (v::lbs br rs)++jv,true,none⟩:Bx)→A7 W1 (some ⟨gv,0,none⟩) (lbs br w):=fun hp h2=>by rw[hew] at h2;exact A7.of_bx hp 2 h2
  refine zE (zA (zB (wP I (wP I (wC I I (fun W' hp=>CU W' (some ⟨gv,0,none⟩) cv _ (lbs br w) (m+2) l2 (hlW hp I) I (by omega) hl2) (wP I (wP I (wP I (wP I (wV 61 ((m+1:Nat):Int) I (by show w64 (((m+2:Nat):Int)-1)=_;rw[Ak (by omega) (by omega)];omega) (wC I I (fun W' hp=>CU W' (some ⟨gv,0,none⟩) cv _ (lbs br w) (m+1) l1 (hlW hp I) I (by omega) hl1) ?_)))))))))))
  iterate 5 refine wP I ?_
  refine wV 67 (m:Nat) I (by show w64 (((m+2:Nat):Int)-2)=_;rw[Ak (by omega) (by omega)];omega) (wC I I (fun W' hp=>CU W' (some ⟨gv,0,none⟩) cv _ (lbs br w) m l0 (hlW hp I) I (by omega) hl0) (wP I (wV 69 ((w/br^m:Nat):Int) I (by show w64 (w64 (w64 (w64 ((l2:Int)*((1000000:Nat):Int))+l1)*((1000000:Nat):Int))+l0)=_;rw[BZ (by omega),AZ (by omega),BZ (by omega),AZ (by omega),ht3]) (wP I (wP I (wV 71 ((tp+1:Nat):Int) I (Av (by omega)) ?_))))))
  refine CT I I I I I (by omega) ?_
  refine wV 72 (e:Nat) I (by rw[he, ←htp];exact BN (by rw[←htp] at he;rw[←he];omega)) (wP I (Aa (zE (zA (zB (wP I (wP I (wP I ?_))))))))
  refine AO Tryz.hZ tH I I I I I I I I I I I fun bE=> ?_
  refine wD (X:=NV) I I (fun W' hp=>by
   have h:=HA W' (some ⟨bq,oq,none⟩) (some ⟨bE,0,none⟩) cap2 1 b [e] (fun y hy=>by obtain rfl:=List.mem_singleton.1 hy;exact hebr) (hB.hp hp) (A7.of_bx (junk:=[]) hp 3 rfl) (by omega) (by show 1≤1000000;decide)
   rw[hn,No] at h
   exact h) ?_
  intro xt hxt
  refine wD (X:=NV) I I (fun W' hp=>EA W' (some ⟨gv,0,none⟩) (some ⟨xt.1,0,none⟩) cv xt.2.1 w (b*e) (by rw[Nat.mul_comm];exact hest) (hlW hp I) (A7.of_bx hp 4 I) (by omega)) ?_
  intro x1 hx1
  refine wP I (Aa (AT ?_))
  try refine Au ?_
  refine AM (X:=NV) (fun x2=>[(0,slv (some ⟨b1,o1,none⟩) K cap),(1,slv (some ⟨bq,oq,none⟩) (m+2) cap2),(6, .int .i64 ((m+2:Nat):Int)),(7, .int .i64 (tp:Nat)),(8,slv (some ⟨g,0,none⟩) K K),(9,BA x2 (lbs br (w%b)).length),(10, .int .i64 (k:Nat)),(11, .int .i64 ((w/b:Nat):Int))]) (fun x2=>[⟨g,3,nI l++[],true,none⟩,BD x2 (lbs br (w%b))]) (fun x2=>Cd x2 (lbs br (w%b))) ?_ ?_
  ·refine zH ?_
   refine DI (X:=Nat×Nat×NV) (fun y=>[(0,slv (some ⟨b1,o1,none⟩) K cap),(1,slv (some ⟨bq,oq,none⟩) (m+2) cap2),(6, .int .i64 ((m+2:Nat):Int)),(7, .int .i64 (tp:Nat)),(8,slv (some ⟨g,0,none⟩) K K),(9,BA y.2.2 (lbs br y.2.1).length),(10, .int .i64 (k:Nat)),(11, .int .i64 (y.1:Nat))]) (fun y=>Hp W [⟨g,3,nI l++[],true,none⟩,BD y.2.2 (lbs br y.2.1)]) (fun y=>w=y.1*b+y.2.1∧Cd y.2.2 (lbs br y.2.1)) (fun y=>y.2.1) (e,w-b*e,x1) ⟨by show w=e*b+(w-b*e);rw[Nat.mul_comm b e];omega,hx1⟩ ⟨I,I,I,I,I,I,congrArg (fun z=>some (Value.int .i64 z)) (by show((k+1:Nat):Int)-1=(k:Nat);omega),I,tO⟩ (fun W hp=>hp.pick [0,5] (by decide) I) ?_
   rintro⟨e1,w1,x2⟩ ⟨hw1,hx2⟩
   have hw1:w=e1*b+w1:=hw1
   have hx2:Cd x2 (lbs br w1):=hx2
   have hw1l:(lbs br w1).length≤m+3:=(BI br2).2 (by omega)
   refine zA (zA (zB (wP I (wP I ?_))))
   refine wC I I (fun W' hp=>by
    have h:=J6 W' (some ⟨x2.1,0,none⟩) (some ⟨bq,oq,none⟩) x2.2.1 cap2 w1 b (A7.of_bx hp 1 rfl) (hB.hp hp) (by omega) (by omega)
    rw[hn] at h
    exact h) ?_
   refine wP I ?_
   by_cases hge:b≤w1
   ·have hc:0≤L7 w1 b:=by unfold L7;rw[if_neg (by omega)];split<;>decide
    have he1:e1<w/b:=by
     have h1:(e1+1)*b≤w:=by rw[Nat.add_mul,Nat.one_mul];omega
     have:=(Nat.le_div_iff_mul_le hb0).2 h1
     omega
    have he1b:e1<1000000:=Nat.lt_trans he1 hwb
    refine wU 82 true I (dT hc) (Aa (zE (zR I (zI (zE (zH (zA (zB (wP I (wP I ?_))))))))))
    refine wD (X:=NV) I I (fun W' hp=>by
     have h:=EA W' (some ⟨x2.1,0,none⟩) (some ⟨bq,oq,none⟩) x2.2.1 cap2 w1 b hge (A7.of_bx hp 1 rfl) (hB.hp hp) (by omega)
     rw[hn] at h
     exact h) ?_
    intro x3 hx3
    exact wP I (Aa (zE (zB (wP I (wP I (wV 87 ((e1+1:Nat):Int) I (Av (by omega)) (wP I (Aa (zN (DO (e1+1,w1-b,x3) ⟨by show w=(e1+1)*b+(w1-b);rw[Nat.add_mul,Nat.one_mul];omega,hx3⟩ (by show w1-b<w1;omega) ⟨I,I,I,I,I,I,I,I,tO⟩ (fun W hp=>hp.pick [0,2] (by decide) I)))))))))))
   ·have hc: ¬(0:Int)≤L7 w1 b:=by unfold L7;rw[if_pos (by omega)];decide
    obtain⟨d1,d2⟩:=Mx hw1 (show w1<b by omega)
    exact wU 82 false I (dF hc) (Aa (zE (zS I (zJ (zK (zK (zL (At x2 (by show Cd x2 (lbs br (w%b));rw[d2];exact hx2) ⟨I,I,I,I,I,by rw[d2];rfl,I,by rw[d1];rfl,tO⟩ [] (by rw[d2];rfl)))))))))
  intro x2 hx2
  have hx2:Cd x2 (lbs br (w%b)):=hx2
  refine zB (wP I (wP I (wP I ?_)))
  refine wJ ?_
  refine Ad 0 (nI (l.set k (w/b))++[]) tH I I I I I I I I I I (by show 0+k*1+1≤(nI l++[]).length;rw[List.append_nil,B5];omega) (Cn hi (w/b)) ?_
  exact Aa (zN (zE (zB (wP I (wP I (wV 46 ((k:Nat)-1:Int) I (Ak (by omega) (by omega)) (wP I (Aa (A0 (k,l.set k (w/b),qh*br+w/b,w%b,x2) ⟨⟨by show k≤K;omega,by rw[List.length_set];exact hl,C6 hllt hwb,by show lv br (l.set k (w/b))=br^k*(qh*br+w/b);rw[hset,Nat.mul_comm qh],by show a/br^k=_;exact hs,Nat.mod_lt _ hb0⟩,hx2⟩ (by show k<k+1;omega) ⟨I,I,I,I,I,I,I,tO⟩ [] I)))))))))
-- BOXES 6
-- CODE2
theorem S5 (x y:Int):Nat.gcd y.natAbs (x.tmod y).natAbs=Nat.gcd x.natAbs y.natAbs:=by
 rw[Int.natAbs_tmod,Nat.gcd_comm, ←Nat.gcd_rec,Nat.gcd_comm]
theorem Qp (a b:Int) (ha:(decDigits a.natAbs).length≤300) (hb:(decDigits b.natAbs).length≤300) (W:World) (ht:Bc W):
  Ap Tryz.prog 86 #[str (itoa a),str (itoa b)] W (fun _:Unit=> .tuple #[str (itoa ((Nat.gcd a.natAbs b.natAbs:Nat):Int)), .int .i64 0]) (fun _=>True) (fun _=>[]):=by
 have la:=ES (m:=a.natAbs) (by omega)
 have lb:=ES (m:=b.natAbs) (by omega)
 refine Ae (args:=[str (itoa a),str (itoa b)]) Tryz.func86 I I I ?_
 refine zA (zB (wP I (wP I (Aa (zE (zA (zA (zB (wP I (wP I (wC I I (fun W _=>GZ a b ha hb W) (wP I (Aa ?_)))))))))))))
 refine zE (zA (zB (wP I (wP I (Aa (zE (zS I (zI (zE (zA (zA (zB ?_))))))))))))
 cases hs:smI a&&smI b with
 |true=>
  obtain⟨h1,h2⟩:=Bool.and_eq_true_iff.1 hs
  have b1:=TB h1
  have b2:=TB h2
  refine wP I (wP I (wC I I (fun W _=>MV hs W) ?_))
  iterate 7 refine wP I ?_
  refine Aa (zE (zA (zB (wP I (Aa (zE (zR I (zA (zH ?_)))))))))
  refine A9 (X:=Int×Int) (fun x=>[(7, .int .i64 x.1),(8, .int .i64 x.2)]) (fun _=>[]) (fun x=>x.1.natAbs<100000000000000000∧x.2.natAbs<100000000000000000∧Nat.gcd x.1.natAbs x.2.natAbs=Nat.gcd a.natAbs b.natAbs) (fun x=>x.2.natAbs) (a,b) ⟨b1,b2,I⟩ ⟨I,I,tO⟩ [] I ?_
  rintro⟨x,y⟩ ⟨hx,hy,hg⟩
  have hx:x.natAbs<100000000000000000:=hx
  have hy:y.natAbs<100000000000000000:=hy
  have hg:Nat.gcd x.natAbs y.natAbs=Nat.gcd a.natAbs b.natAbs:=hg
  refine zA (zA (zB (wP I (wP I ?_))))
  by_cases h0:y=0
  ·refine wU 29 false I (by rw[bne_eq_false_iff_eq];exact h0) (Aa (zE (zS I (zJ (zK (zK (zL (zE (zA (zB (wP I (wP I (wP I ?_)))))))))))))
   refine wV 36 (-x) I (show w64 (0-x)=_ by rw[Ak (by omega) (by omega)];omega) (wP I ?_)
   refine Al 37 (.int .i64 ((Nat.gcd a.natAbs b.natAbs:Nat):Int)) I (congrArg (Value.int .i64) (by
    rw[←hg,h0,Int.natAbs_zero,Nat.gcd_zero_right]
    show(if -x>x then -x else x)=_;split<;>omega)) ?_
   have hgl:Nat.gcd a.natAbs b.natAbs<100000000000000000:=by rw[←hg,h0,Int.natAbs_zero,Nat.gcd_zero_right];exact hx
   exact wC I I (fun W hp=>BO ((Nat.gcd a.natAbs b.natAbs:Nat):Int) (by omega) (by omega) W (ht.hp hp)) (wP I (wP I (Aa (zE (zO (zP (wR2 I I I)))))))
  ·refine wU 29 true I (by rw[bne_iff_ne];exact h0) (Aa (zE (zR I (zI (zE (zH (zU (qP I (qP I (qP I ?_))))))))))
   refine Ex I I I I I h0 ?_
   refine qP I (qP I (AJ (Aa (zN ?_))))
   have hr:(x.tmod y).natAbs<y.natAbs:=by rw[Int.natAbs_tmod];exact Nat.mod_lt _ (by omega)
   exact A0 (y,x.tmod y) ⟨hy,Nat.lt_trans hr hy,by show Nat.gcd y.natAbs (x.tmod y).natAbs=_;rw[S5];exact hg⟩ hr ⟨I,I,tO⟩ [] I
 |false=>
  obtain⟨x0,y0,h2⟩:=Nt hs ha hb
  refine wP I (wP I (wC I I (fun W _=>h2 W) ?_))
  iterate 7 refine wP I ?_
  refine Aa (zE (zA (zB (wP I (Aa (zE (zS I (zI (zE (zA (zB (wP I ?_))))))))))))
  refine wD (X:=NV) I I (fun W' _=>C2 a (by omega) W') ?_
  intro x hx
  refine wP I (wP I ?_)
  refine wD (X:=NV) I I (fun W' _=>C2 b (by omega) W') ?_
  intro y hy
  refine wP I (wP I (wP I (Aa (zE (zA (zH ?_))))))
  refine DI (X:=(Nat×NV)×(Nat×NV)) (fun s=>[(10,BA s.1.2 (lbs br s.1.1).length),(11,BA s.2.2 (lbs br s.2.1).length)]) (fun s=>Hp W [BD s.1.2 (lbs br s.1.1),BD s.2.2 (lbs br s.2.1)]) (fun s=>Nat.gcd s.1.1 s.2.1=Nat.gcd a.natAbs b.natAbs∧(lbs br s.1.1).length≤101∧(lbs br s.2.1).length≤101) (fun s=>s.2.1) ((a.natAbs,x),(b.natAbs,y)) ⟨I,la,lb⟩ ⟨I,I,tO⟩ (fun W hp=>hp) ?_
  rintro⟨⟨u,x⟩,⟨v,y⟩⟩ ⟨hg,hu,hv⟩
  have hg:Nat.gcd u v=Nat.gcd a.natAbs b.natAbs:=hg
  have hu:(lbs br u).length≤101:=hu
  have hv:(lbs br v).length≤101:=hv
  refine zA (zA (zB (wP I (wP I (wP I ?_)))))
  by_cases h0:v=0
  ·have e1:Nat.gcd a.natAbs b.natAbs=u:=by rw[←hg,h0,Nat.gcd_zero_right]
   have key: ∀e k,e=6*k→0<e→(lbs br u).length≤k→(decDigits u).length≤e:=fun e k he h0e hk=>by
    refine Gl e u (by omega) ?_
    have:=AQ br2 u
    refine Nat.lt_of_lt_of_le this ?_
    rw[Ja];exact Nat.pow_le_pow_right (by decide) (by omega)
   have hul:=key 606 101 rfl (by decide) hu
   refine wU 47 false I (dF (by rw[h0,Bh];decide)) (Aa (zE (zS I (zJ (zK (zK (zL (zE (zA (zB (wP I ?_)))))))))))
   refine AC Tryz.hZ tH I I I I I I I I ?_
   refine Al 57 (Iz ((u:Nat):Int) (some ⟨x.1,0,none⟩) x.2.1) I (by unfold Iz;rw[dF (show¬((u:Nat):Int)<0 by omega),Int.natAbs_natCast];rfl) ?_
   exact wC I I (fun W' hp=>IF ((u:Nat):Int) (by rw[Int.natAbs_natCast];exact hul) W' (some ⟨x.1,0,none⟩) x.2.1 (by rw[Int.natAbs_natCast];exact A7.of_bx hp 0 I)) (wP I (wP I (Aa (zE (zO (wR2 I I (by rw[e1])))))))
  ·have hL:(lbs br v).length≠0:=fun e=>h0 ((Dq br2).1 (List.length_eq_zero_iff.1 e))
   have hr:u%v<v:=Nat.mod_lt _ (by omega)
   refine wU 47 true I (dT (by show(((lbs br v).length:Nat):Int)>0;omega)) (Aa (zE (zR I (zI (zE (zH (zA (zB (wP I (wP I ?_))))))))))
   refine wD (X:=NV×NV) I I (fun W' hp=>LZ W' (some ⟨x.1,0,none⟩) (some ⟨y.1,0,none⟩) x.2.1 y.2.1 u v (by omega) (A7.of_bx hp 0 I) (A7.of_bx hp 1 I) (by omega) (by omega)) ?_
   rintro⟨q,w⟩ ⟨hq,hw⟩
   iterate 5 refine wP I ?_
   exact Aa (zE (zB (wP I (wP I (wP I (wP I (Aa (zN (DO ((v,y),(u%v,w)) ⟨by show Nat.gcd v (u%v)=_;rw[Nat.gcd_comm, ←Nat.gcd_rec,Nat.gcd_comm];exact hg,hv,by show(lbs br (u%v)).length≤101;exact Nat.le_trans ((BI br2).2 (Nat.lt_trans hr (AQ br2 v))) hv⟩ hr ⟨I,I,tO⟩ (fun W hp=>hp.pick [1,3] (by decide) I))))))))))
-- BOXES 4
def Hk (W:World) (p:Option Addr) (l:List (List UInt8)):Prop:=l=[]∨ ∃b off,p=some ⟨b,off,none⟩∧Ar W b off (l.map str)
theorem Hk.below {W W':World} {p:Option Addr} {l:List (List UInt8)} {n:Nat} (h:Hk W p l) (hn:W.heap.size≤n) (hb:Below n W W'):Hk W' p l:=by
 rcases h with h|⟨b,off,h1,h2⟩
 ·exact .inl h
 ·exact .inr ⟨b,off,h1,h2.below hn hb⟩
theorem Hk.hp {W0 W:World} {bxs:List Bx} {p:Option Addr} {l:List (List UInt8)} (h:Hk W0 p l) (hp:Hp W0 bxs W):Hk W p l:=h.below (Nat.le_refl _) hp.below
theorem Hk.row {W:World} {p:Option Addr} {l:List (List UInt8)} (h:Hk W p l) {i:Nat} (hi:i<l.length): ∃b off,p=some ⟨b,off,none⟩∧ ∀k (hk:k<l.length),Ar W b (off+k*1) [str l[k]]:=by
 rcases h with rfl|⟨b,off,h1,h2⟩
 ·exact absurd hi (Nat.not_lt_zero _)
 ·refine⟨b,off,h1,fun k hk=>⟨h2.lt,fun j u hu=> ?_⟩⟩
  have hj:j=0:=by have:=(List.getElem?_eq_some_iff.1 hu).1;simpa using this
  subst hj
  have:=h2.get k (str l[k]) (by rw[List.getElem?_map,List.getElem?_eq_getElem hk];rfl)
  rw[Nat.mul_one,Nat.add_zero,this]
  simpa using hu
theorem J1 (n:Nat):itoa (n:Int)=decDigits n:=by
 unfold itoa;rw[if_neg (by omega)];rfl
abbrev q2 (n:Int) (d:Nat) (h:d≠0:=by decide) (hc:n.natAbs.Coprime d:=by decide):Rat:=⟨n,d,h,hc⟩
theorem dd1 (n:Nat) (h:n<10):decDigits n=[UInt8.ofNat (48+n)]:=by rw[decDigits,dif_pos h]
theorem ns2:Af (q2 2 1)=[50]:=by rw[Af,FJ,if_pos rfl];exact(J1 2).trans (dd1 2 (by decide))
theorem ns3:Af (q2 3 1)=[51]:=by rw[Af,FJ,if_pos rfl];exact(J1 3).trans (dd1 3 (by decide))
end
end Go.Proofs.YthndmdimmgkpgaaGreatDoor
