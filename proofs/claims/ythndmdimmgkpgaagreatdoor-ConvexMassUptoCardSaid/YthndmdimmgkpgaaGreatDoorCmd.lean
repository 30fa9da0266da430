/-
  Lemmas that the theorem convexMass_upto_card needs (part 4 of 7).
-/
import Derived.Test.YthndmdimmgkpgaaGreatDoorCmc
set_option maxHeartbeats 64000000
namespace Go.Proofs.YthndmdimmgkpgaaGreatDoor
section
def EQ (k:Nat) (l:List Ah):List Ah:=l.drop k++l.take k
theorem DF {k:Nat} {l:List Ah} (hk:k≤l.length):(EQ k l).length=l.length:=by
 unfold EQ;rw[List.length_append,List.length_drop,List.length_take];omega
theorem Mu {k:Nat} {l:List Ah} {x:Ah}:x∈EQ k l↔x∈l:=by
 unfold EQ
 conv=>rhs;rw[←List.take_append_drop k l]
 rw[List.mem_append,List.mem_append]
 exact Or.comm
theorem Fq {k:Nat} {l:List Ah} (hk:k≤l.length) (i:Nat):Ae (EQ k l) i=Ae l (i+k):=by
 by_cases h0:l.length=0
 ·have e:l=[]:=List.length_eq_zero_iff.1 h0
  subst e
  simp[EQ,Ae]
 rw[←BH (EQ k l) i,DF hk, ←BH l (i+k)]
 have hi:=Nat.mod_lt i (show 0<l.length by omega)
 have e:(i+k)%l.length=(i%l.length+k)%l.length:=by rw[Nat.mod_add_mod]
 rw[e]
 generalize i%l.length=j at*
 rw[AG (by rw[DF hk];exact hi)]
 by_cases c:j+k<l.length
 ·rw[Nat.mod_eq_of_lt c,AG c]
  unfold EQ
  rw[List.getElem_append_left (by rw[List.length_drop];omega),List.getElem_drop]
  congr 1;omega
 ·have e2:(j+k)%l.length=j+k-l.length:=by rw[Nat.mod_eq_sub_mod (by omega),Nat.mod_eq_of_lt (by omega)]
  rw[e2,AG (by omega)]
  unfold EQ
  rw[List.getElem_append_right (by rw[List.length_drop];omega),List.getElem_take]
  congr 1;rw[List.length_drop];omega
theorem Bh.per {l:List Ah} (i:Nat):Ae l (i+l.length)=Ae l i:=by
 rw[←BH l (i+l.length),Nat.add_mod_right,BH]
theorem Bh.rot {l:List Ah} (h:Bh l) {k:Nat} (hk:k≤l.length):Bh (EQ k l):=by
 refine⟨by rw[DF hk];exact h.n3,E2, ?_⟩
 intro a b c hab hbc hc
 rw[DF hk] at hc
 rw[Fq hk,Fq hk,Fq hk]
 have low: ∀i,l.length≤i→Ae l i=Ae l (i-l.length):=fun i hi=>by
  have:=Bh.per (l:=l) (i-l.length)
  rw[show i-l.length+l.length=i by omega] at this
  exact this
 by_cases c1:c+k<l.length
 ·exact h.tri _ _ _ (by omega) (by omega) c1
 rw[low (c+k) (by omega)]
 by_cases b1:b+k<l.length
 ·rw[←Ef];exact h.tri _ _ _ (by omega) (by omega) b1
 rw[low (b+k) (by omega)]
 by_cases a1:a+k<l.length
 ·rw[Ef];exact h.tri _ _ _ (by omega) (by omega) a1
 rw[low (a+k) (by omega)]
 exact h.tri _ _ _ (by omega) (by omega) (by omega)
theorem Gb.rot {l:List Ah} {x:Ah} (h:Gb l x) {k:Nat} (hk:k≤l.length):Gb (EQ k l) x:=by
 intro i hi
 rw[DF hk] at hi
 rw[Fq hk,Fq hk]
 have e:=h ((i+k)%l.length) (Nat.mod_lt _ (by omega))
 rw[BH] at e
 have e2:Ae l ((i+k)%l.length+1)=Ae l (i+1+k):=by
  rw[←BH,Nat.mod_add_mod,BH];congr 1;omega
 rw[e2] at e
 exact e
def AJ (p q:Ah):Prop:=p.1<q.1∨p.1=q.1∧p.2<q.2
theorem DT (p q:Ah):AJ p q∨p=q∨AJ q p:=by
 unfold AJ
 rcases CE p.1 q.1 with a|a
 ·exact Or.inl (Or.inl a)
 rcases CE q.1 p.1 with b|b
 ·exact Or.inr (Or.inr (Or.inl b))
 have e:p.1=q.1:=by grind
 rcases CE p.2 q.2 with c|c
 ·exact Or.inl (Or.inr ⟨e,c⟩)
 rcases CE q.2 p.2 with d|d
 ·exact Or.inr (Or.inr (Or.inr ⟨e.symm,d⟩))
 ·refine Or.inr (Or.inl ?_)
  ext
  ·exact e
  ·grind
theorem CY {p q:Ah} (h:AJ p q): ¬AJ q p:=by
 unfold AJ at*
 rintro(c|⟨c,d⟩)<;>rcases h with a|⟨a,b⟩<;>grind
theorem Er (p:Ah): ¬AJ p p:=fun h=>CY h h
def Eh (l:List Ah):Prop:= ∀p∈l, ¬AJ p (Ae l 0)
theorem LF {α:Type} {R:α→α→Prop} (has: ∀a b,R a b→ ¬R b a): ∀(l m:List α),l.Pairwise R→m.Pairwise R→(∀x,x∈l↔x∈m)→l=m:=by
 intro l
 induction l with
 |nil=>
  intro m _ _ h
  cases m with
  |nil=>rfl
  |cons b m=>exact absurd ((h b).2 List.mem_cons_self) (by simp)
 |cons a l ih=>
  intro m hl hm h
  cases m with
  |nil=>exact absurd ((h a).1 List.mem_cons_self) (by simp)
  |cons b m=>
   obtain⟨l1,l2⟩:=List.pairwise_cons.1 hl
   obtain⟨m1,m2⟩:=List.pairwise_cons.1 hm
   have e:a=b:=by
    rcases List.mem_cons.1 ((h a).1 List.mem_cons_self) with c|c
    ·exact c
    ·rcases List.mem_cons.1 ((h b).2 List.mem_cons_self) with d|d
     ·exact d.symm
     ·exact absurd (l1 b d) (has _ _ (m1 a c))
   subst e
   have irr: ∀x, ¬R x x:=fun x hx=>has x x hx hx
   refine congrArg (a:: ·) (ih m l2 m2 fun x=>⟨fun hx=> ?_,fun hx=> ?_⟩)
   ·rcases List.mem_cons.1 ((h x).1 (List.mem_cons_of_mem _ hx)) with c|c
    ·subst c;exact absurd (l1 x hx) (irr x)
    ·exact c
   ·rcases List.mem_cons.1 ((h x).2 (List.mem_cons_of_mem _ hx)) with c|c
    ·subst c;exact absurd (m1 x hx) (irr x)
    ·exact c
theorem AX {l:List Ah} (h:0<l.length) (i:Nat):Ae l i∈l:=by
 rw[←BH,AG (Nat.mod_lt i h)]
 exact List.getElem_mem _
theorem Cs {l:List Ah} {x:Ah} (h:x∈l): ∃i,i<l.length∧Ae l i=x:=by
 obtain⟨i,hi,rfl⟩:=List.getElem_of_mem h
 exact⟨i,hi,AG hi⟩
theorem QP {A B:List Ah} (hA:Bh A) (hB:Bh B) (h1: ∀x∈B,Gb A x) (h2: ∀x∈A,Gb B x) (la:Eh A) (lb:Eh B):A=B:=by
 have a3:=hA.n3;have b3:=hB.n3
 have mem: ∀x,x∈A↔x∈B:=fun x=>by
  constructor
  ·intro hx
   obtain⟨j,hj,rfl⟩:=Cs hx
   obtain⟨i,hi,e⟩:=hA.uniq hB (fun i hi=>h1 _ (AX (by omega) i)) (fun i hi=>h2 _ (AX (by omega) i)) hj
   rw[←e];exact AX (by omega) i
  ·intro hx
   obtain⟨j,hj,rfl⟩:=Cs hx
   obtain⟨i,hi,e⟩:=hB.uniq hA (fun i hi=>h2 _ (AX (by omega) i)) (fun i hi=>h1 _ (AX (by omega) i)) hj
   rw[←e];exact AX (by omega) i
 have e0:Ae A 0=Ae B 0:=by
  rcases DT (Ae A 0) (Ae B 0) with c|c|c
  ·exact absurd c (lb _ ((mem _).1 (AX (by omega) 0)))
  ·exact c
  ·exact absurd c (la _ ((mem _).2 (AX (by omega) 0)))
 have prs: ∀ {C:List Ah},Bh C→ ∃t,C=Ae C 0::t∧t.Pairwise (fun u v=>0<A9 (Ae C 0) u v):=by
  intro C hC
  have c3:=hC.n3
  match C,hC,c3 with
  |c::t,hC,c3=>
   refine⟨t,by rw[AG (by simp)];rfl, ?_⟩
   rw[List.pairwise_iff_getElem]
   intro i j hi hj hij
   have:=hC.tri 0 (i+1) (j+1) (by omega) (by omega) (by simp;omega)
   rw[AG (i:=i+1) (by simp;omega),AG (i:=j+1) (by simp;omega)] at this
   exact this
 obtain⟨s,ea,pa⟩:=prs hA
 obtain⟨t,eb,pb⟩:=prs hB
 rw[←e0] at eb pb
 have has: ∀u v:Ah,0<A9 (Ae A 0) u v→ ¬0<A9 (Ae A 0) v u:=fun u v h c=>by
  have e:A9 (Ae A 0) v u= -A9 (Ae A 0) u v:=by unfold A9;grind
  grind
 have notin: ∀ {l:List Ah},l.Pairwise (fun u v=>0<A9 (Ae A 0) u v)→2≤l.length→Ae A 0∉l:=by
  intro l hp hl hx
  match l,hp,hl,hx with
  |x::y::l,hp,_,hx=>
   obtain⟨p1,p2⟩:=List.pairwise_cons.1 hp
   rcases List.mem_cons.1 hx with c|c
   ·have:=p1 y List.mem_cons_self
    rw[c,Ow] at this;grind
   ·have:=p1 _ c
    rw[HY] at this;grind
 have ls:2≤s.length:=by have:=congrArg List.length ea;simp at this;omega
 have lt:2≤t.length:=by have:=congrArg List.length eb;simp at this;omega
 have mm: ∀x,x∈s↔x∈t:=fun x=>by
  constructor
  ·intro hx
   have:x∈B:=(mem x).1 (by rw[ea];exact List.mem_cons_of_mem _ hx)
   rw[eb] at this
   rcases List.mem_cons.1 this with c|c
   ·subst c;exact absurd hx (notin pa ls)
   ·exact c
  ·intro hx
   have:x∈A:=(mem x).2 (by rw[eb];exact List.mem_cons_of_mem _ hx)
   rw[ea] at this
   rcases List.mem_cons.1 this with c|c
   ·subst c;exact absurd hx (notin pb lt)
   ·exact c
 rw[ea,eb,LF has s t pa pb mm]
end
section
def Ca (p q:Ah):Bool:=decide (p.1<q.1)||(decide (p.1=q.1)&&decide (p.2<q.2))
theorem CR {p q:Ah}:Ca p q=true↔AJ p q:=by unfold Ca AJ;simp
def C3 (l:List Ah):Nat→Nat
 |0=>0
 |k+1=>if Ca (Ae l k) (Ae l (C3 l k)) then k else C3 l k
theorem Hr (l:List Ah): ∀k,(C3 l k=0∨C3 l k<k)∧ ∀i,i<k→ ¬AJ (Ae l i) (Ae l (C3 l k)):=by
 intro k
 induction k with
 |zero=>exact⟨Or.inl rfl,fun i h=>by omega⟩
 |succ k ih=>
  unfold C3
  split
  ·rename_i c
   refine⟨Or.inr (by omega),fun i hi=> ?_⟩
   rcases Nat.eq_or_lt_of_le (show i≤k by omega) with rfl|q
   ·exact Er _
   ·intro hp
    have hc:=CR.1 c
    have a:=ih.2 i q
    -- i < k < the least one
    apply a
    unfold AJ at*
    rcases hp with hp|⟨hp,hp2⟩<;>rcases hc with hc|⟨hc,hc2⟩<;>grind
  ·rename_i c
   refine⟨by rcases ih.1 with a|a<;>omega,fun i hi=> ?_⟩
   rcases Nat.eq_or_lt_of_le (show i≤k by omega) with rfl|q
   ·intro hp;exact c (CR.2 hp)
   ·exact ih.2 i q
def B3 (l:List Ah):List Ah:=EQ (C3 l l.length) l
theorem G1 (l:List Ah):C3 l l.length≤l.length:=by
 rcases(Hr l l.length).1 with a|a<;>omega
theorem L3 {l:List Ah}:Eh (B3 l):=by
 intro p hp
 unfold B3 at*
 rw[Fq (G1 l),Nat.zero_add]
 obtain⟨i,hi,rfl⟩:=Cs (Mu.1 hp)
 exact(Hr l l.length).2 i hi
theorem Oh {l:List Ah} {x:Ah}:x∈B3 l↔x∈l:=Mu
theorem MD {l:List Ah} (h:Bh l):Bh (B3 l):=h.rot (G1 l)
theorem ND {l:List Ah} {x:Ah} (h:Gb l x):Gb (B3 l) x:=h.rot (G1 l)
def Kc (f:Bn) (l:List Ah):Bool:=l.any fun p=>decide (f.at p<0)
theorem Q6 {f:Bn} {l:List Ah}:Kc f l=true↔ ∃p∈l,f.at p<0:=by unfold Kc;simp
def Dy (f:Bn) (l:List Ah):List Ah:=if Kc f l then B3 (C6 f l) else[]
def Dn (l:List Ah) (x:Ah):Prop:= ∀g:Bn,(∀p∈l,0≤g.at p)→0≤g.at x
theorem Dn.mem {l:List Ah} {x:Ah} (h:x∈l):Dn l x:=fun _ hg=>hg _ h
theorem Dn.ins {l:List Ah} (h:Bh l) {x:Ah} (hx:Dn l x):Gb l x:=by
 intro i hi
 rw[←Ec]
 refine hx _ fun p hp=> ?_
 obtain⟨k,hk,rfl⟩:=Cs hp
 rw[Ec]
 exact h.side hi (Nat.le_of_lt hk)
end
section
def Bd (F:Nat→Rat):Nat→Rat
 |0=>0
 |n+1=>Bd F n+F n
theorem HX {F G:Nat→Rat} {n:Nat} (h: ∀i,i<n→F i=G i):Bd F n=Bd G n:=by
 induction n with
 |zero=>rfl
 |succ n ih=>unfold Bd;rw[ih fun i hi=>h i (by omega),h n (by omega)]
theorem Rf (F G:Nat→Rat) (n:Nat):Bd (fun i=>F i+G i) n=Bd F n+Bd G n:=by
 induction n with
 |zero=>show(0:Rat)=0+0;grind
 |succ n ih=>unfold Bd;rw[ih];grind
def Cn (p q:Ah):Rat:=p.1*q.2-q.1*p.2
def AS (l:List Ah):Rat:=Bd (fun i=>Cn (Ae l i) (Ae l (i+1))) l.length
def GI (o:Ah) (l:List Ah):Rat:=Bd (fun i=>A9 o (Ae l i) (Ae l (i+1))) l.length
theorem Dk (o:Ah) (l:List Ah):GI o l=AS l:=by
 have tel: ∀n,Bd (fun i=>A9 o (Ae l i) (Ae l (i+1))) n=Bd (fun i=>Cn (Ae l i) (Ae l (i+1))) n-o.1*((Ae l n).2-(Ae l 0).2)+o.2*((Ae l n).1-(Ae l 0).1):=by
  intro n
  induction n with
  |zero=>show(0:Rat)=0-_+_;grind
  |succ n ih=>unfold Bd;rw[ih];unfold A9 Cn;grind
 unfold GI AS
 rw[tel,E2]
 grind
theorem SP {f:Bn} (hf:f.a≠0∨f.b≠0) {o p q:Ah} (ho:f.at o=0) (hp:f.at p=0) (hq:f.at q=0):A9 o p q=0:=by
 unfold Bn.at at*
 have e1:f.a*A9 o p q=0:=by unfold A9;grind
 have e2:f.b*A9 o p q=0:=by unfold A9;grind
 rcases hf with h|h
 ·rcases Rat.mul_eq_zero.1 e1 with a|a
  ·exact absurd a h
  ·exact a
 ·rcases Rat.mul_eq_zero.1 e2 with a|a
  ·exact absurd a h
  ·exact a
theorem I0 {u v:Rat}:u*v<0↔(u<0∧0<v)∨(0<u∧v<0):=by
 constructor
 ·intro h
  rcases CE u 0 with a|a
  ·rcases CE 0 v with b|b
   ·exact Or.inl ⟨a,b⟩
   ·have:=Rat.mul_nonneg (show 0≤ -u by grind) (show 0≤ -v by grind);grind
  ·rcases CE v 0 with b|b
   ·refine Or.inr ⟨?_,b⟩
    rcases CE 0 u with c|c
    ·exact c
    ·have e:u=0:=by grind
     rw[e] at h;grind
   ·have:=Rat.mul_nonneg a b;grind
 ·rintro(⟨a,b⟩|⟨a,b⟩)
  ·have:=Rat.mul_pos (show 0< -u by grind) b;grind
  ·have:=Rat.mul_pos a (show 0< -v by grind);grind
def O3 (f:Bn) (p q:Ah):List Ah:=(if f.at p≤0 then[p] else[])++(if f.at p*f.at q<0 then[Lr (f.at p/(f.at p-f.at q)) p q] else[])
theorem Oy (P:Nat→Ah) (n:Nat) (f:Bn):(Dj P (n+1) f).map (M2 P)=(Dj P n f).map (M2 P)++O3 f (P n) (P (n+1)):=by
 unfold Dj O3
 rw[List.range_succ,List.flatMap_append,List.map_append]
 congr 1
 rw[List.flatMap_cons,List.flatMap_nil,List.append_nil,List.map_append]
 congr 1
 ·split
  ·show[M2 P (n,0)]=_
   unfold M2;rw[UN]
  ·rfl
 ·split<;>rfl
end
section
def Js (u1 u2:Rat):Prop:=0<u1∨u1=0∧0<u2
theorem B9 {p q:Ah} (h:AJ p q):Js (q.1-p.1) (q.2-p.2):=by
 unfold AJ at h;unfold Js
 rcases h with h|⟨h,h2⟩
 ·left;grind
 ·right;constructor<;>grind
theorem RM {u1 u2 v1 v2 w1 w2:Rat} (hu:Js u1 u2) (hv:Js v1 v2) (hw:Js w1 w2) (h1:0≤u1*v2-u2*v1) (h2:0≤v1*w2-v2*w1):0≤u1*w2-u2*w1:=by
 unfold Js at*
 have u0:0≤u1:=by rcases hu with h|⟨h,_⟩<;>grind
 have w0:0≤w1:=by rcases hw with h|⟨h,_⟩<;>grind
 rcases hv with h|⟨h,h3⟩
 ·apply NQ h
  have a:=Rat.mul_nonneg u0 h2
  have b:=Rat.mul_nonneg w0 h1
  grind
 ·subst h
  have e:w1=0:=by
   rcases CE 0 w1 with c|c
   ·have:=Rat.mul_pos h3 c;grind
   ·grind
  subst e
  rcases hw with c|⟨_,c⟩
  ·grind
  ·have:=Rat.mul_nonneg u0 (Rat.le_of_lt c);grind
theorem KJ {u1 u2 v1 v2 w1 w2:Rat} (hu:Js u1 u2) (hv:Js v1 v2) (hw:Js w1 w2) (h1:0<u1*v2-u2*v1) (h2:0≤v1*w2-v2*w1):0<u1*w2-u2*w1:=by
 unfold Js at*
 have u0:0≤u1:=by rcases hu with h|⟨h,_⟩<;>grind
 have v0:0≤v1:=by rcases hv with h|⟨h,_⟩<;>grind
 have u1p:0<u1:=by
  rcases hu with h|⟨h,h3⟩
  ·exact h
  ·subst h
   have:=Rat.mul_nonneg (Rat.le_of_lt h3) v0
   grind
 rcases hw with c|⟨c,c2⟩
 ·rcases hv with h|⟨h,h3⟩
  ·apply Fy h
   have a:=Rat.mul_nonneg u0 h2
   have b:=Rat.mul_pos c h1
   grind
  ·subst h
   have:=Rat.mul_pos h3 c;grind
 ·subst c
  have:=Rat.mul_pos u1p c2;grind
theorem Si {u1 u2 v1 v2 w1 w2:Rat} (hu:Js u1 u2) (hv:Js v1 v2) (hw:Js w1 w2) (h1:0≤u1*v2-u2*v1) (h2:0<v1*w2-v2*w1):0<u1*w2-u2*w1:=by
 unfold Js at*
 have w0:0≤w1:=by rcases hw with h|⟨h,_⟩<;>grind
 rcases hv with h|⟨h,h3⟩
 ·rcases hu with a|⟨a,a2⟩
  ·apply Fy h
   have x:=Rat.mul_pos a h2
   have y:=Rat.mul_nonneg w0 h1
   grind
  ·subst a
   have:=Rat.mul_pos a2 h;grind
 ·subst h
  have:=Rat.mul_nonneg (Rat.le_of_lt h3) w0
  grind
theorem Fv (a b c:Ah):A9 a b c=(b.1-a.1)*(c.2-b.2)-(b.2-a.2)*(c.1-b.1):=by unfold A9;grind
theorem Kf {p q r:Ah} (h1:AJ p q) (h2:AJ q r):AJ p r:=by
 unfold AJ at*
 rcases h1 with h1|⟨h1,h3⟩<;>rcases h2 with h2|⟨h2,h4⟩<;>grind
theorem Ue {a b c p:Ah} (h1:AJ a b) (h2:AJ b c) (h3:AJ c p) (t1:0<A9 a b c) (t2:0<A9 b c p):0<A9 a b p:=by
 rw[Fv] at*
 have x:=KJ (B9 h1) (B9 h2) (B9 h3) t1 (Rat.le_of_lt t2)
 grind
theorem US {a b c p:Ah} (h1:AJ a b) (h2:AJ b c) (h3:AJ c p) (t1:0<A9 a b c) (t2:0<A9 b c p):0<A9 a c p:=by
 rw[Fv] at*
 have x:=KJ (B9 h1) (B9 h2) (B9 h3) t1 (Rat.le_of_lt t2)
 grind
theorem U3 {a b p x:Ah} (h1:AJ a b) (h2:AJ b p) (h3:AJ x b) (t1:0<A9 a b p) (t2:0≤A9 a b x):0<A9 b p x∨0≤A9 b p x:=by
 right
 have y:=RM (u1:=b.1-x.1) (u2:=b.2-x.2) (v1:=b.1-a.1) (v2:=b.2-a.2) (w1:=p.1-b.1) (w2:=p.2-b.2) (B9 h3) (B9 h1) (B9 h2) (by unfold A9 at t2;grind) (by rw[Fv] at t1;grind)
 unfold A9;grind
theorem V4 {a b p x:Ah} (h1:AJ a b) (h2:AJ a p) (h3:AJ a x) (t1:A9 a b p≤0) (t2:0≤A9 a b x):0≤A9 a p x:=by
 have y:=RM (u1:=p.1-a.1) (u2:=p.2-a.2) (v1:=b.1-a.1) (v2:=b.2-a.2) (w1:=x.1-a.1) (w2:=x.2-a.2) (B9 h2) (B9 h1) (B9 h3) (by unfold A9 at t1;grind) (by unfold A9 at t2;grind)
 unfold A9;grind
def B1 (p:Ah):List Ah→List Ah
 |b::a::t=>if A9 a b p≤0 then B1 p (a::t) else b::a::t
 |l=>l
def Ao (l:List Ah):List Ah:=l.foldl (fun r p=>p::B1 p r) []
def Ll:List Ah→Prop
 |[]=>True
 |a::l=>l.Pairwise (fun b c=>0<A9 c b a)∧Ll l
def I3 (X:List Ah):List Ah→Prop
 |b::a::z=>(∀x∈X,0≤A9 a b x)∧I3 X (a::z)
 |_=>True
structure Iz (X r:List Ah):Prop where
 desc:r.Pairwise (fun p q=>AJ q p)
 mem: ∀p∈r,p∈X
 tri:Ll r
 edge:I3 X r
theorem QC {X:List Ah} {p:Ah} (hp: ∀x∈X,AJ x p): ∀(r:List Ah),Iz X r→ ∀(b:Ah) (z:List Ah),r=b::z→
  (∀x∈X,x=b∨AJ x b∨0≤A9 b p x)→(∀m,r.getLast? =some m→ ∀x∈X,x=m∨AJ m x)→
  ∃c y,B1 p r=c::y∧Iz X (c::y)∧(∀x∈X,0≤A9 c p x)∧(c::y).Pairwise (fun u v=>0<A9 v u p)∧(c::y).getLast? =r.getLast? :=by
 intro r
 induction r with
 |nil=>intro _ b z e;exact absurd e (by simp)
 |cons b0 t ih=>
  intro hc b z e hb hm
  obtain⟨rfl,rfl⟩:=List.cons.inj e
  cases t with
  |nil=>
   refine⟨b0,[],I,hc,fun x hx=> ?_,List.pairwise_singleton _ _,I⟩
   rcases hb x hx with rfl|q|q
   ·rw[HY];grind
   ·rcases hm b0 rfl x hx with rfl|q2
    ·rw[HY];grind
    ·exact absurd q2 (CY q)
   ·exact q
  |cons a t=>
   have ab:AJ a b0:=(List.pairwise_cons.1 hc.desc).1 a List.mem_cons_self
   have bp:AJ b0 p:=hp _ (hc.mem _ List.mem_cons_self)
   have ap:AJ a p:=Kf ab bp
   have hca:Iz X (a::t):=⟨(List.pairwise_cons.1 hc.desc).2,fun q hq=>hc.mem q (List.mem_cons_of_mem _ hq),hc.tri.2,hc.edge.2⟩
   have hE:=hc.edge.1
   unfold B1
   split
   ·rename_i c
    obtain⟨c',y,e1,e2,e3,e4,e5⟩:=ih hca a t rfl (fun x hx=>by
     rcases DT x a with q|q|q
     ·exact Or.inr (Or.inl q)
     ·exact Or.inl q
     ·exact Or.inr (Or.inr (V4 ab ap q c (hE x hx)))) (fun m hm'=>hm m (by rw[List.getLast?_cons_cons];exact hm'))
    exact⟨c',y,e1,e2,e3,e4,by rw[e5,List.getLast?_cons_cons]⟩
   ·rename_i c
    have tp:0<A9 a b0 p:=by grind
    refine⟨b0,a::t,I,hc,fun x hx=> ?_, ?_,I⟩
    ·rcases DT x b0 with q|q|q
     ·rcases U3 ab bp q tp (hE x hx) with w|w<;>grind
     ·subst q;rw[HY];grind
     ·rcases hb x hx with rfl|w|w
      ·exact absurd q (Er _)
      ·exact absurd w (CY q)
      ·exact w
    ·
     have h1: ∀v∈a::t,0<A9 v b0 p:=by
      intro v hv
      rcases List.mem_cons.1 hv with rfl|hv
      ·exact tp
      ·have va:AJ v a:=(List.pairwise_cons.1 hca.desc).1 v hv
       have tv:0<A9 v a b0:=(List.pairwise_cons.1 hc.tri.1).1 v hv
       exact US va ab bp tv tp
     rw[List.pairwise_cons]
     refine⟨h1, ?_⟩
     have hd:=(List.pairwise_cons.1 hc.desc)
     have:=List.Pairwise.and hc.tri.1 hd.2
     refine List.Pairwise.imp_of_mem ?_ this
     rintro u v hu hv ⟨t1,t2⟩
     exact Ue t2 (hd.1 u hu) bp t1 (h1 u hu)
theorem I3.more {X:List Ah} {p:Ah}: ∀ {l:List Ah},I3 X l→l.Pairwise (fun u v=>0<A9 v u p)→I3 (X++[p]) l
 |[],_,_=>trivial
 |[_],_,_=>trivial
 |b::a::z,h,hp=>by
  obtain⟨p1,p2⟩:=List.pairwise_cons.1 hp
  refine⟨fun x hx=> ?_,I3.more h.2 p2⟩
  rcases List.mem_append.1 hx with q|q
  ·exact h.1 x q
  ·rw[List.mem_singleton] at q;subst q
   exact Rat.le_of_lt (p1 a List.mem_cons_self)
theorem IY: ∀(l:List Ah),l.Pairwise AJ→Iz l (Ao l)∧(Ao l).getLast? =l.head? ∧(Ao l).head? =l.getLast? :=by
 intro l
 -- from the end
 suffices H: ∀n (l:List Ah),l.length=n→l.Pairwise AJ→Iz l (Ao l)∧(Ao l).getLast? =l.head? ∧(Ao l).head? =l.getLast? from H _ l rfl
 intro n
 induction n with
 |zero=>
  intro l hl _
  have e:l=[]:=List.length_eq_zero_iff.1 hl
  subst e
  exact⟨⟨List.Pairwise.nil,fun _ h=>h,tO,tO⟩,I,I⟩
 |succ n ih=>
  intro l hl hs
  obtain⟨X,p,rfl⟩: ∃X p,l=X++[p]:=⟨l.dropLast,l.getLast (by intro e;subst e;simp at hl),(List.dropLast_concat_getLast _).symm⟩
  obtain⟨s1,_,s3⟩:=List.pairwise_append.1 hs
  obtain⟨i1,i2,i3⟩:=ih X (by simp at hl;exact hl) s1
  have hp: ∀x∈X,AJ x p:=fun x hx=>s3 x hx p List.mem_cons_self
  have eC:Ao (X++[p])=p::B1 p (Ao X):=by unfold Ao;rw[List.foldl_append];rfl
  rw[eC]
  cases hX:Ao X with
  |nil=>
   rw[hX] at i2
   have e:X=[]:=by
    cases X with
    |nil=>rfl
    |cons x X=>exact absurd i2 (by simp)
   subst e
   refine⟨⟨List.pairwise_singleton _ _,fun q hq=>hq,⟨List.Pairwise.nil,tO⟩,tO⟩,I,I⟩
  |cons b z=>
   rw[hX] at i1 i2 i3
   have hb: ∀x∈X,x=b∨AJ x b:=by
    intro x hx
    have e:X.getLast? =some b:=by rw[←i3];rfl
    obtain⟨Y,rfl⟩: ∃Y,X=Y++[b]:=by
     have:=List.getLast?_eq_some_iff.1 e
     exact this
    rcases List.mem_append.1 hx with q|q
    ·exact Or.inr ((List.pairwise_append.1 s1).2.2 x q b List.mem_cons_self)
    ·exact Or.inl (List.mem_singleton.1 q)
   have hm: ∀m,(b::z).getLast? =some m→ ∀x∈X,x=m∨AJ m x:=by
    intro m e x hx
    rw[i2] at e
    cases X with
    |nil=>exact absurd hx (by simp)
    |cons y X=>
     have e:y=m:=Option.some.inj e
     subst e
     rcases List.mem_cons.1 hx with q|q
     ·exact Or.inl q
     ·exact Or.inr ((List.pairwise_cons.1 s1).1 x q)
   obtain⟨c,y,e1,e2,e3,e4,e5⟩:=QC hp (b::z) i1 b z rfl (fun x hx=>(hb x hx).elim Or.inl fun q=>Or.inr (Or.inl q)) hm
   rw[e1]
   refine⟨⟨?_, ?_,⟨e4,e2.tri⟩, ?_,(I3.more e2.edge e4)⟩, ?_,by simp⟩
   ·rw[List.pairwise_cons]
    exact⟨fun q hq=>hp q (e2.mem q hq),e2.desc⟩
   ·intro q hq
    rcases List.mem_cons.1 hq with w|w
    ·subst w;simp
    ·exact List.mem_append_left _ (e2.mem q w)
   ·intro x hx
    rcases List.mem_append.1 hx with w|w
    ·exact e3 x w
    ·rw[List.mem_singleton] at w;subst w;rw[NZ];grind
   ·rw[List.getLast?_cons_cons,e5,i2]
    cases X with
    |nil=>rw[i2] at*;simp at i3
    |cons x X=>rfl
end
section
theorem Ll.get: ∀ {l:List Ah},Ll l→ ∀(i j k:Nat) (hij:i<j) (hjk:j<k) (hk:k<l.length),0<A9 l[k] l[j] l[i]
 |a::l,h,i,j,k,hij,hjk,hk=>by
  cases i with
  |zero=>
   obtain⟨j,rfl⟩: ∃j',j=j'+1:=⟨j-1,by omega⟩
   obtain⟨k,rfl⟩: ∃k',k=k'+1:=⟨k-1,by omega⟩
   have:=List.pairwise_iff_getElem.1 h.1 j k (by simp at hk;omega) (by simp at hk;omega) (by omega)
   exact this
  |succ i=>
   obtain⟨j,rfl⟩: ∃j',j=j'+1:=⟨j-1,by omega⟩
   obtain⟨k,rfl⟩: ∃k',k=k'+1:=⟨k-1,by omega⟩
   exact Ll.get h.2 i j k (by omega) (by omega) (by simp at hk;omega)
theorem I3.get {X:List Ah}: ∀ {l:List Ah},I3 X l→ ∀(i:Nat) (hi:i+1<l.length), ∀x∈X,0≤A9 l[i+1] l[i] x
 |[a],_,i,hi=>by simp at hi
 |b::a::z,h,i,hi=>by
  cases i with
  |zero=>exact h.1
  |succ i=>exact I3.get h.2 i (by simp at hi⊢;omega)
structure Ky (S:List Ah) (f:Nat→Ah) (r:Nat):Prop where
 lt: ∀i j,i<j→j≤r→AJ (f i) (f j)
 mem: ∀i,i≤r→f i∈S
 tri: ∀i j k,i<j→j<k→k≤r→0<A9 (f i) (f j) (f k)
 edge: ∀i,i<r→ ∀x∈S,0≤A9 (f i) (f (i+1)) x
theorem Iz.asc {S l:List Ah} (h:Iz S l) (h0:0<l.length):Ky S (fun i=>Ae l (l.length-1-i)) (l.length-1):=by
 have g: ∀i,i≤l.length-1→ ∃(hi:l.length-1-i<l.length),Ae l (l.length-1-i)=l[l.length-1-i]:=fun i _=>⟨by omega,AG _⟩
 refine⟨?_, ?_, ?_, ?_⟩
 ·intro i j hij hj
  show AJ (Ae l _) (Ae l _)
  rw[AG (by omega),AG (by omega)]
  exact List.pairwise_iff_getElem.1 h.desc _ _ (by omega) (by omega) (by omega)
 ·intro i hi
  exact h.mem _ (AX h0 _)
 ·intro i j k hij hjk hk
  show 0<A9 (Ae l _) (Ae l _) (Ae l _)
  rw[AG (i:=l.length-1-i) (by omega),AG (i:=l.length-1-j) (by omega),AG (i:=l.length-1-k) (by omega)]
  exact h.tri.get _ _ _ (by omega) (by omega) (by omega)
 ·intro i hi x hx
  show 0≤A9 (Ae l _) (Ae l _) x
  rw[AG (i:=l.length-1-i) (by omega),AG (i:=l.length-1-(i+1)) (by omega)]
  have e:l.length-1-i=l.length-1-(i+1)+1:=by omega
  have:=h.edge.get (l.length-1-(i+1)) (by omega) x hx
  simp only[←e] at this
  exact this
def Bt (p:Ah):Ah:=(-p.1, -p.2)
theorem Ha (a b c:Ah):A9 (Bt a) (Bt b) (Bt c)=A9 a b c:=by unfold A9 Bt;grind
theorem Mo {a b:Ah}:AJ (Bt a) (Bt b)↔AJ b a:=by
 unfold AJ Bt
 constructor<;>rintro(h|⟨h,h2⟩)
 ·left;grind
 ·right;constructor<;>grind
 ·left;grind
 ·right;constructor<;>grind
theorem MV (p:Ah): ∀l:List Ah,B1 (Bt p) (l.map Bt)=(B1 p l).map Bt
 |[]=>rfl
 |[_]=>rfl
 |b::a::t=>by
  show(if A9 (Bt a) (Bt b) (Bt p)≤0 then B1 (Bt p) ((a::t).map Bt) else Bt b::Bt a::t.map Bt)=List.map Bt (if A9 a b p≤0 then B1 p (a::t) else b::a::t)
  rw[Ha]
  split
  ·exact MV p (a::t)
  ·rfl
theorem Pd (l:List Ah):Ao (l.map Bt)=(Ao l).map Bt:=by
 have H: ∀(l r:List Ah),(l.map Bt).foldl (fun r p=>p::B1 p r) (r.map Bt)=(l.foldl (fun r p=>p::B1 p r) r).map Bt:=by
  intro l
  induction l with
  |nil=>intro r;rfl
  |cons a l ih=>
   intro r
   show(l.map Bt).foldl _ (Bt a::B1 (Bt a) (r.map Bt))=_
   rw[MV]
   exact ih (a::B1 a r)
 exact H l []
theorem Tl {S:List Ah} {a b x u w:Ah} (ab:AJ a b) (xu:AJ x u) (wx:AJ w x) (t:0<A9 u x w) (eu: ∀s∈S,0≤A9 u x s) (ew: ∀s∈S,0≤A9 x w s) (ha:a∈S) (hb:b∈S)
  (nb:AJ b x∨b=x→ ∃c,c∈S∧AJ b c∧0<A9 a b c∧0≤A9 b c x) (na:AJ x a∨x=a→ ∃z,z∈S∧AJ z a∧0<A9 z a b∧0≤A9 z a x):A9 a b x≠0:=by
 intro h0
 -- three ways about x: D, A, B, C
 have core: ∀c d:Ah,AJ c x→AJ x d→c∈S→d∈S→0≤A9 c x d→False:=by
  intro c d hc hd mc md ht
  have DA:0≤(d.1-x.1)*(u.2-x.2)-(d.2-x.2)*(u.1-x.1):=by have:=eu d md;unfold A9 at this;grind
  have AB:0<(u.1-x.1)*(x.2-w.2)-(u.2-x.2)*(x.1-w.1):=by unfold A9 at t;grind
  have BC:0≤(x.1-w.1)*(x.2-c.2)-(x.2-w.2)*(x.1-c.1):=by have:=ew c mc;unfold A9 at this;grind
  have DB:=Si (B9 hd) (B9 xu) (B9 wx) DA AB
  have DC:=KJ (B9 hd) (B9 wx) (B9 hc) DB BC
  rw[Fv] at ht
  grind
 rcases DT x a with q|q|q
 ·obtain⟨z,mz,za,t1,t2⟩:=na (Or.inl q)
  have h1:0≤(a.1-x.1)*(a.2-z.2)-(a.2-x.2)*(a.1-z.1):=by unfold A9 at t2;grind
  have h2:0<(a.1-z.1)*(b.2-a.2)-(a.2-z.2)*(b.1-a.1):=by rw[Fv] at t1;exact t1
  have:=Si (B9 q) (B9 za) (B9 ab) h1 h2
  unfold A9 at h0
  grind
 ·subst q
  obtain⟨z,mz,za,t1,t2⟩:=na (Or.inr rfl)
  exact core z b za ab mz hb (Rat.le_of_lt t1)
 rcases DT x b with q2|q2|q2
 ·refine core a b q q2 ha hb ?_
  have:A9 a x b= -A9 a b x:=by unfold A9;grind
  rw[this,h0];grind
 ·subst q2
  obtain⟨c,mc,bc,t1,t2⟩:=nb (Or.inr rfl)
  exact core a c ab bc ha mc (Rat.le_of_lt t1)
 ·obtain⟨c,mc,bc,t1,t2⟩:=nb (Or.inl q2)
  have h1:0<(b.1-a.1)*(c.2-b.2)-(b.2-a.2)*(c.1-b.1):=by rw[Fv] at t1;exact t1
  have h2:0≤(c.1-b.1)*(x.2-b.2)-(c.2-b.2)*(x.1-b.1):=by unfold A9 at t2;grind
  have:=KJ (B9 ab) (B9 bc) (B9 q2) h1 h2
  rw[Fv] at h0
  grind
theorem Ky.strict {S T:List Ah} {f g:Nat→Ah} {r q:Nat} (hf:Ky S f r) (hg:Ky T (fun i=>Bt (g i)) q) (hT: ∀x,x∈S→Bt x∈T) (hT': ∀x,Bt x∈T→x∈S) (e0:f 0=g q) (e1:f r=g 0) {i l:Nat} (hi:i<r) (h0:0<l) (hl:l<q):0<A9 (f i) (f (i+1)) (g l):=by
 have gm: ∀j,j≤q→g j∈S:=fun j hj=>hT' _ (hg.mem j hj)
 have gl: ∀j k,j<k→k≤q→AJ (g k) (g j):=fun j k h1 h2=>Mo.1 (hg.lt j k h1 h2)
 have ge: ∀j,j<q→ ∀s∈S,0≤A9 (g j) (g (j+1)) s:=fun j hj s hs=>by
  have:=hg.edge j hj _ (hT s hs);rw[Ha] at this;exact this
 have gt: ∀j k m,j<k→k<m→m≤q→0<A9 (g j) (g k) (g m):=fun j k m h1 h2 h3=>by
  have:=hg.tri j k m h1 h2 h3;rw[Ha] at this;exact this
 have nn:=hf.edge i hi (g l) (gm l (by omega))
 have xlt:AJ (g l) (f r):=by rw[e1];exact gl 0 l h0 (by omega)
 have xgt:AJ (f 0) (g l):=by rw[e0];exact gl l q hl (by omega)
 obtain⟨l',rfl⟩: ∃l',l=l'+1:=⟨l-1,by omega⟩
 have ne:=Tl (S:=S) (a:=f i) (b:=f (i+1)) (x:=g (l'+1)) (u:=g l') (w:=g (l'+1+1)) (hf.lt _ _ (by omega) (by omega)) (gl _ _ (by omega) (by omega)) (gl _ _ (by omega) (by omega)) (gt _ _ _ (by omega) (by omega) (by omega)) (ge l' (by omega)) (ge (l'+1) (by omega)) (hf.mem _ (by omega)) (hf.mem _ (by omega)) (fun h=>by
   have hr:i+1≠r:=by
    intro e
    rw[e] at h
    rcases h with h|h
    ·exact CY h xlt
    ·rw[h] at xlt;exact Er _ xlt
   exact⟨f (i+2),hf.mem _ (by omega),hf.lt _ _ (by omega) (by omega),hf.tri _ _ _ (by omega) (by omega) (by omega),hf.edge (i+1) (by omega) _ (gm _ (by omega))⟩) (fun h=>by
   have hr:i≠0:=by
    intro e
    rw[e] at h
    rcases h with h|h
    ·exact CY h xgt
    ·rw[←h] at xgt;exact Er _ xgt
   obtain⟨i',rfl⟩: ∃i',i=i'+1:=⟨i-1,by omega⟩
   exact⟨f i',hf.mem _ (by omega),hf.lt _ _ (by omega) (by omega),hf.tri _ _ _ (by omega) (by omega) (by omega),hf.edge i' (by omega) _ (gm _ (by omega))⟩)
 grind
theorem NH {S T:List Ah} {f g:Nat→Ah} {r q:Nat} (hf:Ky S f r) (hg:Ky T (fun i=>Bt (g i)) q) (hT: ∀x,x∈S→Bt x∈T) (hT': ∀x,Bt x∈T→x∈S) (e0:f 0=g q) (e1:f r=g 0) {P:Nat→Ah} (hP: ∀i,i≤r→P i=f i) (hQ: ∀i,i≤q→P (r+i)=g i) (n3:3≤r+q):Cp P (r+q)∧ ∀x∈S,MT P (r+q) x:=by
 have ge: ∀j,j<q→ ∀s∈S,0≤A9 (g j) (g (j+1)) s:=fun j hj s hs=>by
  have:=hg.edge j hj _ (hT s hs);rw[Ha] at this;exact this
 have gt: ∀j k m,j<k→k<m→m≤q→0<A9 (g j) (g k) (g m):=fun j k m h1 h2 h3=>by
  have:=hg.tri j k m h1 h2 h3;rw[Ha] at this;exact this
 have cl:P (r+q)=P 0:=by rw[hQ q (Nat.le_refl _),hP 0 (Nat.zero_le _),e0]
 refine⟨Cp.of_chk n3 cl ?_, ?_⟩
 ·intro i k hi hk h1 h2 h3
  rcases Nat.lt_or_ge i r with c|c
  ·rw[hP i (by omega),hP (i+1) (by omega)]
   rcases Nat.lt_or_ge r k with d|d
   ·obtain⟨l,rfl⟩: ∃l,k=r+l:=⟨k-r,by omega⟩
    rw[hQ l (by omega)]
    exact hf.strict hg hT hT' e0 e1 c (by omega) (by omega)
   ·rw[hP k d]
    rcases Nat.lt_or_ge k i with w|w
    ·rw[←Ef];exact hf.tri _ _ _ w (by omega) (by omega)
    ·exact hf.tri _ _ _ (by omega) (by omega) (by omega)
  ·obtain⟨j,rfl⟩: ∃j,i=r+j:=⟨i-r,by omega⟩
   rw[hQ j (by omega),show r+j+1=r+(j+1) by omega,hQ (j+1) (by omega)]
   by_cases k0:k=0
   ·subst k0
    rw[←cl,hQ q (Nat.le_refl _)]
    exact gt _ _ _ (by omega) (by omega) (by omega)
   rcases Nat.lt_or_ge k r with d|d
   ·
    rw[hP k (by omega), ←Ha]
    have hf':Ky S (fun i=>Bt (Bt (f i))) r:=by
     have e:(fun i=>Bt (Bt (f i)))=f:=by
      funext i;unfold Bt;ext<;>grind
     rw[e];exact hf
    have nn: ∀x:Ah,Bt (Bt x)=x:=fun x=>by unfold Bt;ext<;>grind
    exact Ky.strict (S:=T) (T:=S) (f:=fun i=>Bt (g i)) (g:=fun i=>Bt (f i)) hg hf' (fun x hx=>hT' _ (by rw[nn];exact hx)) (fun x hx=>by have:=hT _ hx;rw[nn] at this;exact this) (by show Bt (g 0)=Bt (f r);rw[e1]) (by show Bt (g q)=Bt (f 0);rw[e0]) (i:=j) (l:=k) (by omega) (by omega) d
   ·obtain⟨l,rfl⟩: ∃l,k=r+l:=⟨k-r,by omega⟩
    rw[hQ l (by omega)]
    rcases Nat.lt_or_ge l j with w|w
    ·rw[←Ef];exact gt _ _ _ w (by omega) (by omega)
    ·exact gt _ _ _ (by omega) (by omega) (by omega)
 ·intro x hx i hi
  rcases Nat.lt_or_ge i r with c|c
  ·rw[hP i (by omega),hP (i+1) (by omega)]
   exact hf.edge i c x hx
  ·obtain⟨j,rfl⟩: ∃j,i=r+j:=⟨i-r,by omega⟩
   rw[hQ j (by omega),show r+j+1=r+(j+1) by omega,hQ (j+1) (by omega)]
   exact ge j (by omega) x hx
end
section
def BK (S:List Ah):List Ah:=(Ao S).tail.reverse++(Ao S.reverse).tail.reverse
theorem Iz.ne {S l:List Ah} (h0:S≠[]) (h2:l.getLast? =S.head?):0<l.length:=by
 cases S with
 |nil=>exact absurd rfl h0
 |cons a S=>
  cases l with
  |nil=>exact absurd h2 (by simp)
  |cons b l=>simp
theorem Rp {a b:List Ah} {P:Nat→Ah} (ha:0<a.length) (hb:0<b.length) (e0:a.getLast? =b.head?) (e1:a.head? =b.getLast?) (hP:P=Ae (a.tail.reverse++b.tail.reverse)) (hn:0<(a.length-1)+(b.length-1)):
  (a.tail.reverse++b.tail.reverse).length=(a.length-1)+(b.length-1)∧(∀i,i≤a.length-1→P i=Ae a (a.length-1-i))∧(∀i,i≤b.length-1→P (a.length-1+i)=Ae b (b.length-1-i)):=by
 have hlen:(a.tail.reverse++b.tail.reverse).length=(a.length-1)+(b.length-1):=by simp
 have lo: ∀i,i<a.length-1→P i=Ae a (a.length-1-i):=fun i hi=>by
  rw[hP,AG (by rw[hlen];omega),AG (by omega),List.getElem_append_left (by simp;omega),List.getElem_reverse,List.getElem_tail]
  congr 1;simp;omega
 have up: ∀i,i<b.length-1→P (a.length-1+i)=Ae b (b.length-1-i):=fun i hi=>by
  rw[hP,AG (by rw[hlen];omega),AG (by omega),List.getElem_append_right (by simp),List.getElem_reverse,List.getElem_tail]
  congr 1;simp;omega
 have top:Ae a 0=Ae b (b.length-1):=by
  rw[AG ha,AG (by omega)]
  rw[List.head?_eq_getElem?,List.getLast?_eq_getElem?,List.getElem?_eq_getElem ha,List.getElem?_eq_getElem (by omega)] at e1
  exact Option.some.inj e1
 have bot:Ae a (a.length-1)=Ae b 0:=by
  rw[AG hb,AG (by omega)]
  rw[List.head?_eq_getElem?,List.getLast?_eq_getElem?,List.getElem?_eq_getElem hb,List.getElem?_eq_getElem (by omega)] at e0
  exact Option.some.inj e0
 have cl:P ((a.length-1)+(b.length-1))=P 0:=by rw[hP, ←hlen];exact E2
 have p0:P 0=Ae a (a.length-1):=by
  rcases Nat.eq_zero_or_pos (a.length-1) with c|c
  ·have:=up 0 (by omega)
   rw[c] at this⊢
   rw[show 0+0=0 by rfl] at this
   rw[this,top];rfl
  ·exact lo 0 c
 refine⟨hlen,fun i hi=> ?_,fun i hi=> ?_⟩
 ·rcases Nat.lt_or_ge i (a.length-1) with c|c
  ·exact lo i c
  ·obtain rfl:i=a.length-1:=by omega
   rw[Nat.sub_self,top]
   rcases Nat.eq_zero_or_pos (b.length-1) with d|d
   ·have:=cl
    rw[d,Nat.add_zero,p0,bot] at this
    rw[this,d]
   ·exact up 0 d
 ·rcases Nat.lt_or_ge i (b.length-1) with c|c
  ·exact up i c
  ·obtain rfl:i=b.length-1:=by omega
   rw[cl,p0,bot,Nat.sub_self]
theorem MI {l:List Ah} (h:l.Pairwise AJ):(l.reverse.map Bt).Pairwise AJ:=by
 rw[List.pairwise_map,List.pairwise_reverse]
 exact h.imp fun {a b} h=>Mo.2 h
theorem TC {l:List Ah} (h:0<l.length) (i:Nat):Ae (l.map Bt) i=Bt (Ae l i):=by
 rw[←BH, ←BH l]
 have e:(l.map Bt).length=l.length:=by simp
 rw[e,AG (by rw[e];exact Nat.mod_lt i h),AG (Nat.mod_lt i h)]
 exact List.getElem_map Bt
theorem Pt {p q a b c:Ah} (hpq:AJ p q) (ha:A9 p q a=0) (hb:A9 p q b=0) (hc:A9 p q c=0):A9 a b c=0:=by
 refine SP (f:=Tn p q) ?_ (by rw[Ec];exact ha) (by rw[Ec];exact hb) (by rw[Ec];exact hc)
 unfold Tn AJ at*
 rcases hpq with h|⟨_,h⟩
 ·right;grind
 ·left;grind
theorem Ol {S:List Ah} (hs:S.Pairwise AJ) (h0:S≠[]):
  (∀p∈BK S,p∈S)∧
  (3≤(BK S).length→Bh (BK S)∧(∀x∈S,Gb (BK S) x)∧Eh (BK S))∧
  ((BK S).length<3→ ∀a∈S, ∀b∈S, ∀c∈S,A9 a b c=0):=by
 obtain⟨c1,c2,c3⟩:=IY S hs
 obtain⟨d1,d2,d3⟩:=IY (S.reverse.map Bt) (MI hs)
 have eN:Ao (S.reverse.map Bt)=(Ao S.reverse).map Bt:=Pd _
 rw[eN] at d1 d2 d3
 have a0:0<(Ao S).length:=Iz.ne h0 c2
 have b0:0<(Ao S.reverse).length:=by
  have:=Iz.ne (S:=S.reverse.map Bt) (by simp[h0]) d2
  simpa using this
 have nn: ∀x:Ah,Bt (Bt x)=x:=fun x=>by unfold Bt;ext<;>grind
 have inj: ∀x y:Ah,Bt x=Bt y→x=y:=fun x y h=>by rw[←nn x,h,nn]
 have hT: ∀x,x∈S→Bt x∈S.reverse.map Bt:=fun x hx=>List.mem_map.2 ⟨x,List.mem_reverse.2 hx,rfl⟩
 have hT': ∀x,Bt x∈S.reverse.map Bt→x∈S:=fun x hx=>by
  obtain⟨y,hy,e⟩:=List.mem_map.1 hx
  rw[←inj _ _ e];exact List.mem_reverse.1 hy
 have e0:(Ao S).getLast? =(Ao S.reverse).head? :=by
  rw[c2]
  have:(Ao S.reverse).head?.map Bt=S.head?.map Bt:=by
   rw[←List.head?_map,d3,List.getLast?_map,List.getLast?_reverse]
  cases hA:S.head? with
  |none=>rw[hA] at this;cases hB:(Ao S.reverse).head? with
   |none=>rfl
   |some y=>rw[hB] at this;exact absurd this (by simp)
  |some x=>rw[hA] at this;cases hB:(Ao S.reverse).head? with
   |none=>rw[hB] at this;exact absurd this (by simp)
   |some y=>rw[hB] at this;rw[inj _ _ (Option.some.inj this)]
 have e1:(Ao S).head? =(Ao S.reverse).getLast? :=by
  rw[c3]
  have:(Ao S.reverse).getLast?.map Bt=S.getLast?.map Bt:=by
   rw[←List.getLast?_map,d2,List.head?_map,List.head?_reverse]
  cases hA:S.getLast? with
  |none=>rw[hA] at this;cases hB:(Ao S.reverse).getLast? with
   |none=>rfl
   |some y=>rw[hB] at this;exact absurd this (by simp)
  |some x=>rw[hA] at this;cases hB:(Ao S.reverse).getLast? with
   |none=>rw[hB] at this;exact absurd this (by simp)
   |some y=>rw[hB] at this;rw[inj _ _ (Option.some.inj this)]
 have hf:=c1.asc a0
 have hg:=d1.asc (by simpa using b0)
 rw[List.length_map] at hg
 have gfun:(fun i=>Ae ((Ao S.reverse).map Bt) ((Ao S.reverse).length-1-i))=fun i=>Bt (Ae (Ao S.reverse) ((Ao S.reverse).length-1-i)):=by
  funext i;exact TC b0 _
 rw[gfun] at hg
 have memL: ∀p∈Ao S,p∈S:=c1.mem
 have memU: ∀p∈Ao S.reverse,p∈S:=fun p hp=>hT' p (d1.mem _ (List.mem_map.2 ⟨p,hp,rfl⟩))
 have mem: ∀p∈BK S,p∈S:=by
  intro p hp
  unfold BK at hp
  rcases List.mem_append.1 hp with q|q
  ·exact memL _ (List.mem_of_mem_tail (List.mem_reverse.1 q))
  ·exact memU _ (List.mem_of_mem_tail (List.mem_reverse.1 q))
 have b1:Ae (Ao S) ((Ao S).length-1)=Ae (Ao S.reverse) 0:=by
  rw[AG b0,AG (by omega)]
  rw[List.head?_eq_getElem?,List.getLast?_eq_getElem?,List.getElem?_eq_getElem b0,List.getElem?_eq_getElem (by omega)] at e0
  exact Option.some.inj e0
 have t1:Ae (Ao S) 0=Ae (Ao S.reverse) ((Ao S.reverse).length-1):=by
  rw[AG a0,AG (by omega)]
  rw[List.head?_eq_getElem?,List.getLast?_eq_getElem?,List.getElem?_eq_getElem a0,List.getElem?_eq_getElem (by omega)] at e1
  exact Option.some.inj e1
 have E0:Ae (Ao S) ((Ao S).length-1-0)=Ae (Ao S.reverse) ((Ao S.reverse).length-1-((Ao S.reverse).length-1)):=by rw[Nat.sub_self,Nat.sub_zero,b1]
 have E1:Ae (Ao S) ((Ao S).length-1-((Ao S).length-1))=Ae (Ao S.reverse) ((Ao S.reverse).length-1-0):=by rw[Nat.sub_self,Nat.sub_zero,t1]
 have hlen:(BK S).length=((Ao S).length-1)+((Ao S.reverse).length-1):=by unfold BK;simp
 have least: ∀x∈S, ¬AJ x (Ae (Ao S) ((Ao S).length-1)):=by
  intro x hx hp
  have e:Ae (Ao S) ((Ao S).length-1)=S.head h0:=by
   rw[AG (by omega)]
   rw[List.getLast?_eq_getElem?,List.getElem?_eq_getElem (by omega),List.head?_eq_some_head h0] at c2
   exact Option.some.inj c2
  rw[e] at hp
  cases S with
  |nil=>exact h0 rfl
  |cons y S=>
   rcases List.mem_cons.1 hx with q|q
   ·subst q;exact Er _ hp
   ·exact CY hp ((List.pairwise_cons.1 hs).1 x q)
 refine⟨mem,fun n3=> ?_,fun n3=> ?_⟩
 ·obtain⟨l1,l2,l3⟩:=Rp (P:=Ae (BK S)) a0 b0 e0 e1 rfl (by omega)
  have H:=NH hf hg hT hT' E0 E1 (P:=Ae (BK S)) l2 l3 (by omega)
  refine⟨?_,fun x hx=> ?_,fun p hp=> ?_⟩
  ·show Cp (Ae (BK S)) (BK S).length
   rw[hlen];exact H.1
  ·show MT (Ae (BK S)) (BK S).length x
   rw[hlen];exact H.2 x hx
  ·have e:=l2 0 (Nat.zero_le _)
   rw[Nat.sub_zero] at e
   rw[e]
   exact least p (mem p hp)
 ·intro a ha b hb c hc
  rw[hlen] at n3
  have LE: ∀i j:Nat,i<j→j≤(Ao S).length-1→AJ (Ae (Ao S) ((Ao S).length-1-i)) (Ae (Ao S) ((Ao S).length-1-j)):=hf.lt
  have GE: ∀i j:Nat,i<j→j≤(Ao S.reverse).length-1→AJ (Ae (Ao S.reverse) ((Ao S.reverse).length-1-j)) (Ae (Ao S.reverse) ((Ao S.reverse).length-1-i)):=fun i j h1 h2=>Mo.1 (hg.lt i j h1 h2)
  by_cases r0:(Ao S).length-1=0
  ·
   have all: ∀x∈S,x=Ae (Ao S) 0:=by
    intro x hx
    have g1:S.head h0=Ae (Ao S) 0:=by
     rw[AG a0]
     rw[List.getLast?_eq_getElem?,List.head?_eq_some_head h0,List.getElem?_eq_getElem (by omega)] at c2
     have:=Option.some.inj c2
     simp only[r0] at this
     exact this.symm
    have g2:S.getLast h0=Ae (Ao S) 0:=by
     rw[AG a0]
     rw[List.head?_eq_getElem?,List.getLast?_eq_some_getLast h0,List.getElem?_eq_getElem a0] at c3
     exact(Option.some.inj c3).symm
    cases S with
    |nil=>exact absurd rfl h0
    |cons y S=>
     have g1:y=_:=g1
     cases S with
     |nil=>
      rcases List.mem_cons.1 hx with q|q
      ·rw[q];exact g1
      ·exact absurd q (by simp)
     |cons z S=>
      exfalso
      have lm:(y::z::S).getLast h0∈z::S:=by
       rw[List.getLast_cons (by simp)];exact List.getLast_mem _
      have:=(List.pairwise_cons.1 hs).1 _ lm
      rw[g2, ←g1] at this
      exact Er _ this
   rw[all a ha,all b hb,Ow]
  ·have q0:(Ao S.reverse).length-1≠0:=by
    intro q0
    have x:=LE 0 ((Ao S).length-1) (by omega) (Nat.le_refl _)
    rw[Nat.sub_zero,Nat.sub_self,b1,t1,q0] at x
    exact Er _ x
   have r1:(Ao S).length-1=1:=by omega
   have q1:(Ao S.reverse).length-1=1:=by omega
   have lt:=LE 0 1 (by omega) (by omega)
   rw[r1] at lt
   have z: ∀x∈S,A9 (Ae (Ao S) 1) (Ae (Ao S) 0) x=0:=by
    intro x hx
    have u1:=hf.edge 0 (by omega) x hx
    have u2:=hg.edge 0 (by omega) (Bt x) (hT x hx)
    rw[Ha] at u2
    simp only[r1,q1] at u1 u2
    have E0':Ae (Ao S) 1=Ae (Ao S.reverse) 0:=by rw[←b1,r1]
    have E1':Ae (Ao S) 0=Ae (Ao S.reverse) 1:=by rw[t1,q1]
    have u2:0≤A9 (Ae (Ao S.reverse) 1) (Ae (Ao S.reverse) 0) x:=u2
    rw[←E0', ←E1'] at u2
    have u1:0≤A9 (Ae (Ao S) 1) (Ae (Ao S) 0) x:=u1
    have:=RN (Ae (Ao S) 0) (Ae (Ao S) 1) x
    grind
   exact Pt lt (z a ha) (z b hb) (z c hc)
theorem R7 {S R:List Ah} (hs:S.Pairwise AJ) (h0:S≠[]) (hR:Bh R) (hl:Eh R) (h1: ∀p∈R,p∈S) (h2: ∀x∈S,Gb R x):BK S=R:=by
 obtain⟨a1,a2,a3⟩:=Ol hs h0
 have r3:=hR.n3
 have n3:3≤(BK S).length:=by
  rcases Nat.lt_or_ge (BK S).length 3 with c|c
  ·exfalso
   have t:=hR.tri 0 1 2 (by omega) (by omega) (by omega)
   have:=a3 c _ (h1 _ (AX (by omega) 0)) _ (h1 _ (AX (by omega) 1)) _ (h1 _ (AX (by omega) 2))
   grind
  ·exact c
 obtain⟨b1,b2,b3⟩:=a2 n3
 exact QP b1 hR (fun x hx=>b2 x (h1 x hx)) (fun x hx=>h2 x (a1 x hx)) b3 hl
end
section
theorem PN {l S:List Ah} (hl:Bh l) (hs:S.Pairwise AJ) (h1: ∀p∈l,p∈S) (h2: ∀x∈S,Dn l x):BK S=B3 l:=by
 have n3:=hl.n3
 have hR:=MD hl
 refine R7 hs ?_ hR L3 (fun p hp=>h1 p (Oh.1 hp)) (fun x hx=>ND ((h2 x hx).ins hl))
 intro e
 have:=h1 _ (AX (l:=l) (by omega) 0)
 rw[e] at this
 exact absurd this (by simp)
def CT (l:List Ah):Rat:=Bd (fun i=>((Ae l i).1+(Ae l (i+1)).1)*Cn (Ae l i) (Ae l (i+1))) l.length
def Da (l:List Ah):Rat:=Bd (fun i=>((Ae l i).2+(Ae l (i+1)).2)*Cn (Ae l i) (Ae l (i+1))) l.length
theorem GQ (o:Ah) (l:List Ah):CT l=Bd (fun i=>(o.1+(Ae l i).1+(Ae l (i+1)).1)*A9 o (Ae l i) (Ae l (i+1))) l.length:=by
 have tel: ∀n,Bd (fun i=>(o.1+(Ae l i).1+(Ae l (i+1)).1)*A9 o (Ae l i) (Ae l (i+1))) n=Bd (fun i=>((Ae l i).1+(Ae l (i+1)).1)*Cn (Ae l i) (Ae l (i+1))) n+(o.1+(Ae l 0).1)*Cn o (Ae l 0)-(o.1+(Ae l n).1)*Cn o (Ae l n):=by
  intro n
  induction n with
  |zero=>show(0:Rat)=0+_-_;grind
  |succ n ih=>unfold Bd;rw[ih];unfold A9 Cn;grind
 rw[tel,E2]
 unfold CT
 grind
theorem GA (o:Ah) (l:List Ah):Da l=Bd (fun i=>(o.2+(Ae l i).2+(Ae l (i+1)).2)*A9 o (Ae l i) (Ae l (i+1))) l.length:=by
 have tel: ∀n,Bd (fun i=>(o.2+(Ae l i).2+(Ae l (i+1)).2)*A9 o (Ae l i) (Ae l (i+1))) n=Bd (fun i=>((Ae l i).2+(Ae l (i+1)).2)*Cn (Ae l i) (Ae l (i+1))) n+(o.2+(Ae l 0).2)*Cn o (Ae l 0)-(o.2+(Ae l n).2)*Cn o (Ae l n):=by
  intro n
  induction n with
  |zero=>show(0:Rat)=0+_-_;grind
  |succ n ih=>unfold Bd;rw[ih];unfold A9 Cn;grind
 rw[tel,E2]
 unfold Da
 grind
def Hh (l:List Ah):Ah:=(CT l/(3*AS l),Da l/(3*AS l))
theorem MU {F:Nat→Rat} {n:Nat} (h: ∀i,i<n→0≤F i):0≤Bd F n:=by
 induction n with
 |zero=>show(0:Rat)≤0;grind
 |succ n ih=>
  have a:=ih fun i hi=>h i (by omega)
  have b:=h n (by omega)
  show 0≤Bd F n+F n
  grind
theorem QD {F:Nat→Rat} {n k:Nat} (hk:k<n) (h0:0<F k) (h: ∀i,i<n→0≤F i):0<Bd F n:=by
 induction n with
 |zero=>omega
 |succ n ih=>
  show 0<Bd F n+F n
  rcases Nat.lt_or_ge k n with c|c
  ·have a:=ih c fun i hi=>h i (by omega)
   have b:=h n (by omega)
   grind
  ·obtain rfl:k=n:=by omega
   have a:=MU (n:=k) fun i hi=>h i (by omega)
   grind
theorem F8 (c:Rat) (F:Nat→Rat) (n:Nat):Bd (fun i=>c*F i) n=c*Bd F n:=by
 induction n with
 |zero=>show(0:Rat)=c*0;grind
 |succ n ih=>unfold Bd;rw[ih];grind
theorem GM {l:List Ah} (h:Bh l):0<AS l:=by
 have n3:=h.n3
 rw[←Dk (Ae l 0)]
 unfold GI
 exact QD (k:=1) (by omega) (h.tri 0 1 2 (by omega) (by omega) (by omega)) fun i hi=>h.nn (Nat.zero_le _) (by omega) (by omega)
theorem R5 {l:List Ah} (h:Bh l):Dn l (Hh l):=by
 have n3:=h.n3
 have sp:=GM h
 have s3:(3*AS l)≠0:=by grind
 intro g hg
 have ex:(Hh l).1*(3*AS l)=CT l:=Rat.div_mul_cancel s3
 have ey:(Hh l).2*(3*AS l)=Da l:=Rat.div_mul_cancel s3
 have key:3*AS l*g.at (Hh l)=Bd (fun i=>A9 (Ae l 0) (Ae l i) (Ae l (i+1))*(g.at (Ae l 0)+g.at (Ae l i)+g.at (Ae l (i+1)))) l.length:=by
  have e1:3*AS l*g.at (Hh l)=g.a*CT l+g.b*Da l-3*g.c*AS l:=by unfold Bn.at;grind
  rw[e1,GQ (Ae l 0),GA (Ae l 0), ←Dk (Ae l 0)]
  unfold GI
  rw[←F8, ←F8, ←F8]
  have e2: ∀F G H:Nat→Rat, ∀n,Bd F n+Bd G n-Bd H n=Bd (fun i=>F i+G i-H i) n:=by
   intro F G H n
   induction n with
   |zero=>show(0:Rat)+0-0=0;grind
   |succ n ih=>unfold Bd;grind
  rw[e2]
  exact HX fun i _=>by unfold Bn.at;grind
 refine NQ (show 0<3*AS l by grind) ?_
 rw[key]
 refine MU fun i hi=>Rat.mul_nonneg (h.nn (Nat.zero_le _) (by omega) (by omega)) ?_
 have a:=hg _ (AX (l:=l) (by omega) 0)
 have b:=hg _ (AX (l:=l) (by omega) i)
 have c:=hg _ (AX (l:=l) (by omega) (i+1))
 grind
def EG (d p:Ah):Ah:=(p.1+d.1,p.2+d.2)
theorem CU (d:Ah) {l:List Ah} (h:0<l.length) (i:Nat):Ae (l.map (EG d)) i=EG d (Ae l i):=by
 have e:(l.map (EG d)).length=l.length:=by simp
 rw[←BH, ←BH l,e,AG (by rw[e];exact Nat.mod_lt i h),AG (Nat.mod_lt i h)]
 exact List.getElem_map (EG d)
theorem KO (d a b c:Ah):A9 (EG d a) (EG d b) (EG d c)=A9 a b c:=by unfold A9 EG;grind
theorem SO (d:Ah) {l:List Ah} (h:Bh l):Bh (l.map (EG d)):=by
 have n3:=h.n3
 refine⟨by simp;omega,E2,fun i j k h1 h2 h3=> ?_⟩
 rw[CU d (by omega),CU d (by omega),CU d (by omega),KO]
 exact h.tri i j k h1 h2 (by simpa using h3)
theorem Nh (d:Ah) (l:List Ah):AS (l.map (EG d))=AS l:=by
 rcases Nat.eq_zero_or_pos l.length with c|c
 ·have e:l=[]:=List.length_eq_zero_iff.1 c
  subst e;rfl
 ·rw[←Dk (EG d (0,0)), ←Dk (0,0)]
  unfold GI
  rw[List.length_map]
  exact HX fun i _=>by rw[CU d c,CU d c,KO]
theorem UK (d:Ah) {l:List Ah} (h:Bh l):Hh (l.map (EG d))=EG d (Hh l):=by
 have n3:=h.n3
 have sp:=GM h
 have s3:(3*AS l)≠0:=by grind
 have e2: ∀F G:Nat→Rat, ∀n,Bd (fun i=>F i+G i) n=Bd F n+Bd G n:=fun F G n=>Rf F G n
 have mx:CT (l.map (EG d))=CT l+3*d.1*AS l:=by
  rw[GQ (EG d (0,0)),GQ (0,0), ←Dk (0,0)]
  unfold GI
  rw[List.length_map, ←F8, ←e2]
  exact HX fun i _=>by rw[CU d (by omega),CU d (by omega),KO];unfold EG;grind
 have my:Da (l.map (EG d))=Da l+3*d.2*AS l:=by
  rw[GA (EG d (0,0)),GA (0,0), ←Dk (0,0)]
  unfold GI
  rw[List.length_map, ←F8, ←e2]
  exact HX fun i _=>by rw[CU d (by omega),CU d (by omega),KO];unfold EG;grind
 have q: ∀m a:Rat,(m+3*a*AS l)/(3*AS l)=m/(3*AS l)+a:=by
  intro m a
  have x:=Rat.div_mul_cancel (a:=m+3*a*AS l) s3
  have y:=Rat.div_mul_cancel (a:=m) s3
  have z:((m+3*a*AS l)/(3*AS l)-(m/(3*AS l)+a))*(3*AS l)=0:=by grind
  rcases Rat.mul_eq_zero.1 z with c|c
  ·grind
  ·exact absurd c s3
 unfold Hh
 rw[Nh,mx,my]
 exact Prod.ext (q _ _) (q _ _)
end
section
def KM (P:Nat→Ah) (n:Nat) (f:Bn):List P7:=(List.range n).flatMap fun i=>
 (if f.at (P i)=0 then[(i,0)] else[])++(if f.at (P i)*f.at (P (i+1))<0 then[(i,f.at (P i)/(f.at (P i)-f.at (P (i+1))))] else[])
def U9 (P:Nat→Ah) (f:Bn) (i:Nat):List P7:=(if f.at (P i)=0 then[(i,0)] else[])++(if f.at (P i)*f.at (P (i+1))<0 then[(i,f.at (P i)/(f.at (P i)-f.at (P (i+1))))] else[])
theorem R6 (P:Nat→Ah) (f:Bn) (i:Nat):(U9 P f i).length≤1:=by
 unfold U9
 split
 ·rename_i c
  rw[c,if_neg (by grind)]
  simp
 ·split<;>simp
theorem M6 {α β:Type} {g:α→List β} (h: ∀a,(g a).length≤1) (l:List α):(l.flatMap g).length≤l.length:=by
 induction l with
 |nil=>simp
 |cons a l ih=>rw[List.flatMap_cons,List.length_append,List.length_cons];have:=h a;omega
theorem PF (P:Nat→Ah) (n:Nat) (f:Bn):(KM P n f).length≤n:=by
 have:=M6 (R6 P f) (List.range n)
 rw[List.length_range] at this
 exact this
def Fj (f:Bn) (l:List Ah):List Ah:=(KM (Ae l) l.length f).map (M2 (Ae l))
end
section
open Go Go.RowKit Go.Am Go.Lib
set_option maxRecDepth 10000
-- BOXES 3
-- CODE2
theorem Sy (b:UInt8):decide (((b.toNat:Nat):Int)<48)=decide (b.toNat<48):=decide_eq_decide.2 (by omega)
theorem RR (b:UInt8):decide (((b.toNat:Nat):Int)>57)=decide (57<b.toNat):=decide_eq_decide.2 (by omega)
def dgB (s:List UInt8):Bool:=decide (s=decDigits (AR s))
theorem GG {s:List UInt8}:dgB s=true↔Mx s:=by unfold dgB;rw[decide_eq_true_iff];exact Qb.symm
theorem Q4 {s:List UInt8} (h: ¬Mx s):dgB s=false:=by
 cases e:dgB s
 ·rfl
 ·exact absurd (GG.1 e) h
theorem HH (s:List UInt8) (hs:s.length<4611686018427387904):By Tryz.prog 83 [str s] (.bool (dgB s)):=by
 intro W
 refine Ac Tryz.func83 I I I ?_
 refine zA (zB (wP I (Aa (AH (A0 (A0 ?_))))))
 refine AF (X:=Unit) (fun _=>[(0,str s),(16, .bool (decide (s=[]∨(1<s.length∧s[0]? =some 48))))]) (fun _=>[]) (fun _=>True) ?_ ?_
 ·refine zB (wP I (wP I ?_))
  refine Af 5 (.int .i64 (s.length:Nat)) I (congrArg (fun n:Nat=>Value.int .i64 (n:Int)) (A4 s)) ?_
  refine wP I ?_
  by_cases h0:s=[]
  ·refine wU 6 true I (by rw[h0];rfl) (wP I ?_)
   iterate 8 refine An I I ?_
   exact wP I (Aa (Al () tO ⟨I,by rw[dT (Or.inl h0)];rfl,tO⟩ [] I))
  ·have hpos:0<s.length:=List.length_pos_iff.2 h0
   refine wU 6 false I (by rw[beq_eq_false_iff_ne];omega) (wP I (wP I (wP I ?_)))
   refine Af 9 (.int .i64 (s.length:Nat)) I (congrArg (fun n:Nat=>Value.int .i64 (n:Int)) (A4 s)) ?_
   refine wP I ?_
   by_cases h1:1<s.length
   ·refine wU 10 true I (dT (by omega)) ?_
    obtain⟨b,hb⟩: ∃b,s[0]? =some b:=⟨s[0],List.getElem?_eq_getElem hpos⟩
    refine wP I (wP I ?_)
    refine AZ 0 tH I I I I I I I I hb ?_
    refine wP I (wU 14 (decide (b=48)) I (Du b 48) (wP I (wP I (Aa ?_))))
    refine Al () tO ⟨I, ?_,tO⟩ [] I
    have e:decide (s=[]∨(1<s.length∧s[0]? =some 48))=decide (b=48):=by
     rw[decide_eq_decide,hb]
     constructor
     ·rintro(h|⟨_,h⟩)
      ·exact absurd h h0
      ·exact Option.some.inj h
     ·intro h;exact .inr ⟨h1,by rw[h]⟩
    rw[e];rfl
   ·refine wU 10 false I (dF (by omega)) (wP I ?_)
    iterate 3 refine An I I ?_
    exact wP I (wP I (Aa (Al () tO ⟨I,by rw[show decide (s=[]∨1<s.length∧s[0]? =some 48)=false from dF (fun h=>h.elim h0 (fun h=>h1 h.1))];rfl,tO⟩ [] I)))
 intro _ _
 refine Av I (fun hc=> ?_) (fun hc=> ?_)
 ·have hc:=of_decide_eq_true hc
  refine zA (zB (wP I (Aa (zE (zO (zP ?_))))))
  refine wR1 I I ?_
  rw[Q4 fun h=> ?_]
  rcases hc with hc|⟨h1,h2⟩
  ·exact h.ne hc
  ·exact h.lead h1 h2
 have hc:=of_decide_eq_false hc
 have hne:s≠[]:=fun h=>hc (.inl h)
 have hlead:1<s.length→s[0]? ≠some 48:=fun h1 h2=>hc (.inr ⟨h1,h2⟩)
 refine zI (zE (zA (zA (zB (wP I (Aa (zE (zH ?_))))))))
 refine AA (X:=Nat) (fun i=>[(0,str s),(3, .int .i64 (i:Nat))]) (fun _=>[]) (fun i=>i≤s.length∧ ∀b∈s.take i,DG b=true) (fun i=>s.length-i) 0 ⟨Nat.zero_le _,fun b hb=>by simp at hb⟩ ⟨I,I,tO⟩ [] I ?_
 rintro i ⟨hi,hdg⟩
 have hi:i≤s.length:=hi
 have hdg: ∀b∈s.take i,DG b=true:=hdg
 refine zA (zA (zB (wP I (wP I (wP I ?_)))))
 refine Af 19 (.int .i64 (s.length:Nat)) I (congrArg (fun n:Nat=>Value.int .i64 (n:Int)) (A4 s)) ?_
 refine wP I ?_
 by_cases hlt:i<s.length
 ·refine wU 20 true I (dT (by omega)) (Aa (zE (zR I (zI (zE (zA (zH (zA (zB ?_)))))))))
  obtain⟨b,hb⟩: ∃b,s[i]? =some b:=⟨s[i],List.getElem?_eq_getElem hlt⟩
  have hbm:b∈s:=List.mem_of_getElem? hb
  refine wP I (wP I ?_)
  refine AZ i tH I I I I I I I I hb ?_
  refine wP I ?_
  by_cases h48:b.toNat<48
  ·refine wU 26 true I ((Sy b).trans (dT h48)) (wP I ?_)
   iterate 4 refine An I I ?_
   refine wP I (Aa (zE (zR I (zA (zB (wP I (Aa (zE (zO (zQ (zP (zP (zQ ?_)))))))))))))
   refine zP ?_
   refine wR1 I I ?_
   rw[Q4 fun h=>by have:=C0.1 (h.all b hbm);omega]
  ·refine wU 26 false I ((Sy b).trans (dF h48)) (wP I (wP I (wP I ?_)))
   refine AZ i tH I I I I I I I I hb ?_
   refine wP I ?_
   by_cases h57:57<b.toNat
   ·refine wU 31 true I ((RR b).trans (dT h57)) (wP I (Aa (zE (zR I (zA (zB (wP I (Aa (zE (zO (zQ (zP (zP ?_)))))))))))))
    refine zQ (zP ?_)
    refine wR1 I I ?_
    rw[Q4 fun h=>by have:=C0.1 (h.all b hbm);omega]
   ·refine wU 31 false I ((RR b).trans (dF h57)) (wP I (Aa (zE (zS I (zI (zN (zE (zB (wP I (wP I (wV 22 ((i+1:Nat):Int) I (Az (by omega)) (wP I (Aa ?_)))))))))))))
    refine A6 (i+1) ⟨hlt,fun c hc=> ?_⟩ (by show s.length-(i+1)<s.length-i;omega) ⟨I,I,tO⟩ [] I
    rw[List.take_add_one,hb,List.mem_append] at hc
    rcases hc with hc|hc
    ·exact hdg c hc
    ·obtain rfl:c=b:=by simpa using hc
     exact C0.2 ⟨by omega,by omega⟩
 ·refine wU 20 false I (dF (by omega)) (Aa (zE (zS I (zJ (zK (zK (zL (zE (zA (zB (wP I (Aa (zE ?_)))))))))))))
  refine zO ?_
  refine wR1 I I ?_
  rw[List.take_of_length_le (by omega)] at hdg
  rw[GG.2 ⟨hne,hdg,hlead⟩]
theorem Ke (a b:Nat) (ha:a<9223372036854775808) (hb:b<9223372036854775808):By Tryz.prog 84 [.int .i64 (a:Nat), .int .i64 (b:Nat)] (.int .i64 (Nat.gcd a b:Nat)):=by
 intro W
 refine Ac Tryz.func84 I I I ?_
 refine zA (zB (wP I (Aa (zE (zA (zH ?_))))))
 refine AA (X:=Nat×Nat) (fun x=>[(0, .int .i64 (x.1:Nat)),(1, .int .i64 (x.2:Nat))]) (fun _=>[]) (fun x=>x.1<9223372036854775808∧x.2<9223372036854775808∧Nat.gcd x.1 x.2=Nat.gcd a b) (fun x=>x.2) (a,b) ⟨ha,hb,I⟩ ⟨I,I,tO⟩ [] I ?_
 rintro⟨x,y⟩ ⟨hx,hy,hg⟩
 have hx:x<9223372036854775808:=hx
 have hy:y<9223372036854775808:=hy
 have hg:Nat.gcd x y=Nat.gcd a b:=hg
 refine zA (zA (zB (wP I (wP I (Aa (zE ?_))))))
 by_cases h0:y=0
 ·refine Bi 6 (.bool false) I (congrArg Value.bool (by rw[bne_eq_false_iff_eq];omega)) ?_
  exact zS I (zJ (zK (zK (zL (zE (zA (zB (wP I (wP I (Aa (zE (zO (wR1 I I (by rw[←hg,h0,Nat.gcd_zero_right]))))))))))))))
 ·refine Bi 6 (.bool true) I (congrArg Value.bool (by rw[bne_iff_ne];omega)) ?_
  refine zR I (zI (zE (zH (zU (qP I (qP I (qP I ?_)))))))
  refine Ez I I I I I (by omega) ?_
  refine qP I (qP I (AU (Aa (zN ?_))))
  have hr:x%y<y:=Nat.mod_lt _ (by omega)
  exact A6 (y,x%y) ⟨hy,Nat.lt_trans hr hy,by show Nat.gcd y (x%y)=_;rw[Nat.gcd_comm, ←Nat.gcd_rec,Nat.gcd_comm];exact hg⟩ hr ⟨I,I,tO⟩ [] I
theorem Cd (s:List UInt8) (hs:s.length≤18) (hd: ∀b∈s,DG b=true):By Tryz.prog 85 [str s] (.int .i64 (AR s:Nat)):=by
 intro W
 have hlt: ∀i,AR (s.take i)<1000000000000000000:=fun i=>by
  have h1:=FK (s.take i).length (s:=s.take i) rfl fun b hb=>hd b (List.mem_of_mem_take hb)
  have h2:(s.take i).length≤18:=by rw[List.length_take];omega
  exact Nat.lt_of_lt_of_le h1 (Nat.pow_le_pow_right (by decide) h2)
 refine Ac Tryz.func85 I I I ?_
 refine zA (zB (wP I (Aa (zE (zA (zB (wP I (Aa (zE (zA (zA (zB (wP I ?_)))))))))))))
 refine Aa (zE (zH ?_))
 refine AA (X:=Nat) (fun i=>[(0,str s),(3, .int .i64 (AR (s.take i):Nat)),(4, .int .i64 (i:Nat))]) (fun _=>[]) (fun i=>i≤s.length) (fun i=>s.length-i) 0 (Nat.zero_le _) ⟨I,I,I,tO⟩ [] I ?_
 intro i hi
 have hi:i≤s.length:=hi
 refine zA (zA (zB (wP I (wP I (wP I ?_)))))
 refine Af 7 (.int .i64 (s.length:Nat)) I (congrArg (fun n:Nat=>Value.int .i64 (n:Int)) (A4 s)) ?_
 refine wP I ?_
 by_cases h:i<s.length
 ·refine wU 8 true I (dT (by omega)) (Aa (zE (zR I (zI (zE (zA (zH (zB ?_))))))))
  obtain⟨b,hb⟩: ∃b,s[i]? =some b:=⟨s[i],List.getElem?_eq_getElem h⟩
  have hdb:=C0.1 (hd b (List.mem_of_getElem? hb))
  have e1:AR (s.take (i+1))=10*AR (s.take i)+(b.toNat-48):=by
   rw[List.take_add_one,hb];exact Do _ _
  have l1:=hlt i
  have l2:=hlt (i+1)
  refine wP I (wP I (wV 12 ((10*AR (s.take i):Nat):Int) I (show w64 (10*(AR (s.take i):Nat))=_ by rw[Ap (by omega) (by omega)];omega) (wP I (wP I ?_))))
  refine AZ i tH I I I I I I I I hb ?_
  refine wP I ?_
  refine Af 16 (.int .u8 ((b.toNat-48:Nat):Int)) I (congrArg (Value.int .u8) (show IntKind.u8.wrap ((b.toNat:Nat)-48)=_ by
   simp only[IntKind.wrap,IntKind.signed,IntKind.bits];simp;omega)) ?_
  refine IA Tryz.underlying5 Tryz.underlying3 I I I I ?_
  exact wV 17 ((b.toNat-48:Nat):Int) I (BE (by omega)) (wP I (wV 18 ((AR (s.take (i+1)):Nat):Int) I (show w64 (((10*AR (s.take i):Nat):Int)+((b.toNat-48:Nat):Int))=_ by rw[Ap (by omega) (by omega),e1];omega) (wP I (Aa (zN (zE (zB (wP I (wP I (wV 10 ((i+1:Nat):Int) I (Az (by omega)) (wP I (Aa (A6 (i+1) h (by show s.length-(i+1)<s.length-i;omega) ⟨I,I,I,tO⟩ [] I)))))))))))))
 ·refine wU 8 false I (dF (by omega)) (Aa (zE (zS I (zJ (zK (zK (zL (zE (zA (zB (wP I (wP I (Aa ?_)))))))))))))
  exact zE (zO (wR1 I I (by rw[List.take_of_length_le (by omega)])))
-- BOXES 3
-- CODE2
section
variable {r:Option Nat} {n:Nat} {P:Program} {N:Nat} {D:List Deferred} {ops:List Oper} {Q:Exit→Act→World→Prop} {o:Oper} {rest:List Oper} {env:Env} {A:World→Prop} {A2:World→Prop} {R:Act→World→Prop}
theorem UA {T:Tbl} {i:TI} {ρ:Operand→Value} {a:List UInt8} {t:TypeId} {x y:Operand} {k:IntKind} (l:Nat) (hT:Go.Am.okB P T=true) (ho:o.op= .slice t x none (some y) none) (ht:Cg T t=some i) (hk:i.kind=1)
  (hx:ρ x=str a) (hy:ρ y= .int k l) (h1:l≤a.length) (W:World):(execOp ρ o).run P W= .ok (.value (str (a.take l))) W:=by
 have hu:=Gr (Bz hT ht) hk
 have hsz:(⟨a.toArray⟩:ByteArray).size=a.length:=by show a.toArray.size=_;simp
 have e:(⟨a.toArray⟩:ByteArray).extract 0 l=⟨(a.take l).toArray⟩:=by
  apply ByteArray.ext
  rw[ByteArray.data_extract]
  apply Array.toList_inj.1
  simp[List.extract_eq_take_drop]
 simp[execOp,ho,Instr.sliceAt,Instr.slice,Instr.sliceBounds,Instr.sliceBound,hx,hy,asIntOf,run_underlying hu,hsz,h1,e]
theorem VK (l:Nat) {T:Tbl} {i:TI} {a:List UInt8} {d:Nat} {t:TypeId} {x y:Operand} {k:IntKind} {z:Int} (hT:Go.Am.okB P T=true) (hg:A7 ops N env o=some true) (hd:o.dst=some d) (ho:o.op= .slice t x none (some y) none) (ht:Cg T t=some i) (hk:i.kind=1)
  (hx:evO N env x=some (str a)) (hy:evO N env y=some (.int k z)) (hz:z=l) (h1:l≤a.length)
  (hn:WQ P N D ops A2 R rest ((d,str (a.take l))::env) A):WQ P N D ops A2 R (o::rest) env A:=
 D6 hg hd (fun c e=>by rw[ho] at e;cases e) (fun ρ W hρ _=>UA l hT ho ht hk (hρ _ _ hx) (by rw[←hz];exact hρ _ _ hy) h1 W) hn
end
section
variable {n:Nat} {P:Program} {W0:World} {N:Nat} {env:Env} {bxs:List Bx}
theorem KC {fn:Func} {T:Tbl} {r1 r2 r3 r4:ResultVar} {v1 v2 v3 v4:Value} {X:Type} {val:X→Value} {Φ:X→Prop} {nb:X→List Bx} (hT:Go.Am.okB P T=true) (hr:fn.results= #[r1,r2,r3,r4])
  (h1:Res P T env bxs N r1 v1) (h2:Res P T env bxs N r2 v2) (h3:Res P T env bxs N r3 v3) (h4:Res P T env bxs N r4 v4)
  (x:X) (hv: .tuple #[v1,v2,v3,v4]=val x) (hx:Φ x) (hnb: ∀W,Hp W0 bxs W→As W0 W (nb x)):NE N [] (HF P fn W0 val Φ nb) .ret env (Hp W0 bxs):=
 LP (rvs:=[r1,r2,r3,r4]) (vs:=[v1,v2,v3,v4]) hT hr rfl (fun i h _=>by
  match i,h with
  |0,_=>exact h1
  |1,_=>exact h2
  |2,_=>exact h3
  |3,_=>exact h4
  |i+4,h=>exact absurd h (by show¬i+4<4;omega)) x (by simpa using hv) hx hnb
end
def PE (a:List UInt8):Value:= .tuple #[.bool (hasPrefix a [45]),str (cut (trimPrefix a [45]) [47]).1,str (cut (trimPrefix a [45]) [47]).2.1, .bool (cut (trimPrefix a [45]) [47]).2.2]
theorem FO (a:List UInt8) (ha:a.length<4611686018427387904):By Tryz.prog 82 [str a] (PE a):=by
 intro W
 refine Ac Tryz.func82 I I I ?_
 refine zA (zB (wP I (wP I (wP I (wP I (Aa (zE (zA (zB (wP I (wP I (Aa (AH ?_)))))))))))))
 refine A0 ?_
 refine AF (X:=Unit) (fun _=>[(6,str a),(7, .bool (hasPrefix a [45]))]) (fun _=>[]) (fun _=>True) ?_ ?_
 ·refine zB (wP I (wP I ?_))
  refine Af 11 (.int .i64 (a.length:Nat)) I (congrArg (fun n:Nat=>Value.int .i64 (n:Int)) (A4 a)) ?_
  refine wP I ?_
  cases ea:a with
  |nil=>
   refine Af 12 (.bool false) I I ?_
   refine wP I ?_
   iterate 3 refine An I I ?_
   exact wP I (wP I (Aa (Al () tO ⟨I,I,tO⟩ [] I)))
  |cons b t=>
   refine wU 12 true I (dT (by show(((b::t).length:Nat):Int)>0;rw[List.length_cons];omega)) (wP I (wP I ?_))
   refine AZ 0 tH I I I I I I I I (show(b::t)[0]? =some b from I) ?_
   exact wP I (wU 16 (hasPrefix (b::t) [45]) I ((Du b 45).trans (by rw[Bw];exact decide_eq_decide.2 (by simp))) (wP I (wP I (Aa (Al () tO ⟨I,I,tO⟩ [] I)))))
 intro _ _
 refine zA (zA (zB (wP I (Aa (AH ?_)))))
 try refine A0 ?_
 obtain⟨b,hb⟩: ∃b,b=trimPrefix a [45]:=⟨_,rfl⟩
 have hbl:b.length≤a.length:=by rw[hb,Ba];split<;>simp
 refine AF (X:=Unit) (fun _=>[(6,str b),(7, .bool (hasPrefix a [45]))]) (fun _=>[]) (fun _=>True) ?_ ?_
 ·refine Av I (fun hm=> ?_) (fun hm=> ?_)
  ·have hm:a[0]? =some 45:=by rw[Bw] at hm;exact of_decide_eq_true hm
   have h1:1≤a.length:=(List.getElem?_eq_some_iff.1 hm).1
   refine zB (wP I ?_)
   refine EY 1 tH I I I I I I I I h1 ?_
   exact wP I (Aa (Al () tO ⟨by rw[hb,Ba,if_pos hm];rfl,I,tO⟩ [] I))
  ·have hm: ¬a[0]? =some 45:=by rw[Bw] at hm;exact of_decide_eq_false hm
   exact zI (Al () tO ⟨by rw[hb,Ba,if_neg hm];rfl,I,tO⟩ [] I)
 intro _ _
 refine zA (zA (zB (wP I (Aa (zE (zH ?_))))))
 refine AA (X:=Nat) (fun i=>[(6,str b),(7, .bool (hasPrefix a [45])),(8, .int .i64 (i:Nat))]) (fun _=>[]) (fun i=>i≤b.length∧47∉b.take i) (fun i=>b.length-i) 0 ⟨Nat.zero_le _,by simp⟩ ⟨I,I,I,tO⟩ [] I ?_
 rintro i ⟨hi,hno⟩
 have hi:i≤b.length:=hi
 have hno:47∉b.take i:=hno
 refine zA (zA (zB (wP I (wP I (wP I ?_)))))
 refine Af 23 (.int .i64 (b.length:Nat)) I (congrArg (fun n:Nat=>Value.int .i64 (n:Int)) (A4 b)) ?_
 refine wP I ?_
 by_cases hlt:i<b.length
 ·refine wU 24 true I (dT (by omega)) (Aa (zE (zR I (zI (zE (zA (zH (zA (zB ?_)))))))))
  obtain⟨c,hc⟩: ∃c,b[i]? =some c:=⟨b[i],List.getElem?_eq_getElem hlt⟩
  refine wP I (wP I ?_)
  refine AZ i tH I I I I I I I I hc ?_
  refine wP I (wU 30 (decide (c=47)) I (Du c 47) (Aa (zE ?_)))
  refine Av I (fun h47=> ?_) (fun h47=> ?_)
  ·have h47:c=47:=of_decide_eq_true h47
   have eb:b=b.take i++47::b.drop (i+1):=by
    conv=>lhs;rw[←List.take_append_drop i b]
    rw[List.drop_eq_getElem_cons hlt]
    have:b[i]=47:=by rw[List.getElem?_eq_getElem hlt] at hc;rw[Option.some.inj hc];exact h47
    rw[this]
   have ec:=FS (b.drop (i+1)) hno
   rw[←eb,hb] at ec
   refine zA (zU (qP I (qP I (qP I ?_))))
   refine VK i tH I I I I I I I I (by omega) ?_
   refine qP I (qP I (qP I (qV 37 ((i+1:Nat):Int) I (Az (by omega)) ?_)))
   refine OC (i+1) tH I I I I I I I I (by omega) ?_
   exact qP I (qP I (qP I (qP I (AU (Aa (zE (zO (zQ (zP (zP (zQ (zP (KC tH I (.tmp I) (.tmp I) (.tmp I) (.tmp I) () (by rw[PE,ec,hb]) tO fun W _=>As.nil _ _)))))))))))))
  ·have h47: ¬c=47:=of_decide_eq_false h47
   refine zI (zN (zE (zB (wP I (wP I (wV 26 ((i+1:Nat):Int) I (Az (by omega)) (wP I (Aa ?_))))))))
   refine A6 (i+1) ⟨hlt,fun h=> ?_⟩ (by show b.length-(i+1)<b.length-i;omega) ⟨I,I,I,tO⟩ [] I
   rw[List.take_add_one,hc,List.mem_append] at h
   rcases h with h|h
   ·exact hno h
   ·exact h47 (by simpa using h:(47:UInt8)=c).symm
 ·refine wU 24 false I (dF (by omega)) (Aa (zE (zS I (zJ (zK (zK (zL (zE (zA (zB ?_))))))))))
  rw[List.take_of_length_le (by omega)] at hno
  have ec:=EI hno
  rw[hb] at ec
  iterate 6 refine wP I ?_
  exact Aa (zE (zO (KC tH I (.tmp I) (.tmp I) (.tmp I) (.tmp I) () (by rw[PE,ec,hb]) tO fun W _=>As.nil _ _)))
theorem NC {z:Int} {d:Nat} (_hd:1≤d):hasPrefix (EP z d) [45]=decide (z<0)∧cut (trimPrefix (EP z d) [45]) [47]=(decDigits z.natAbs,if d=1 then[] else decDigits d,decide (d≠1)):=by
 have hn47:(47:UInt8)∉decDigits z.natAbs:=fun h=>by have:=Fo _ _ h;exact absurd this.1 (by decide)
 have hp: ∀r,hasPrefix (itoa z++r) [45]=decide (z<0):=fun r=>by
  rw[Bw]
  unfold itoa
  split
  ·rename_i h;rw[dT h];rfl
  ·rename_i h
   rw[dF h]
   obtain⟨b,t,hb,h3,_⟩:=CA z.toNat
   rw[hb]
   refine dF fun e=> ?_
   have e:b=45:=by simpa using e
   rw[e] at h3;exact absurd h3 (by decide)
 have ht: ∀r,trimPrefix (itoa z++r) [45]=decDigits z.natAbs++r:=fun r=>by
  have h1:=hp r
  rw[Ba]
  rw[Bw] at h1
  by_cases hz:z<0
  ·rw[dT hz] at h1
   rw[if_pos (of_decide_eq_true h1)]
   unfold itoa
   rw[if_pos hz];rfl
  ·rw[dF hz] at h1
   rw[if_neg (of_decide_eq_false h1)]
   unfold itoa
   rw[if_neg hz,show z.toNat=z.natAbs by omega]
 unfold EP
 by_cases h1:d=1
 ·rw[if_pos h1]
  have e1:=hp []
  have e2:=ht []
  rw[List.append_nil] at e1 e2
  rw[List.append_nil] at e2
  exact⟨e1,by rw[e2,EI hn47,if_pos h1,h1];rfl⟩
 ·rw[if_neg h1]
  exact⟨hp _,by rw[ht,FS _ hn47,if_neg h1,dT (show d≠1 from h1)]⟩
theorem NY (q:Rat):PE (Ad q)= .tuple #[.bool (decide (q.num<0)),str (decDigits q.num.natAbs),str (if q.den=1 then[] else decDigits q.den), .bool (decide (q.den≠1))]:=by
 obtain⟨h1,h2⟩:=NC (z:=q.num) q.den_pos
 unfold PE Ad
 rw[h1,h2]
def ES (q:Rat):Bool:=decide ((decDigits q.num.natAbs).length≤9)&&(decide (q.den=1)||decide ((decDigits q.den).length≤9))
theorem Lp {n:Nat} (h:(decDigits n).length≤9):n<1000000000:=Nat.lt_of_lt_of_le (CP n) (Nat.pow_le_pow_right (by decide) h)
theorem JP {q:Rat} (h:ES q=true):q.num.natAbs<1000000000∧q.den<1000000000:=by
 unfold ES at h
 simp only[Bool.and_eq_true,Bool.or_eq_true,decide_eq_true_eq] at h
 refine⟨Lp h.1, ?_⟩
 rcases h.2 with e|e
 ·rw[e];decide
 ·exact Lp e
theorem RC (q:Rat) (hl:(Ad q).length<4611686018427387904):By Tryz.prog 120 [str (Ad q)] (if ES q=true then .tuple #[.int .i64 q.num, .int .i64 (q.den:Nat), .bool true] else .tuple #[.int .i64 0, .int .i64 0, .bool false]):=by
 intro W
 obtain⟨n,hn⟩: ∃n,n=decDigits q.num.natAbs:=⟨_,rfl⟩
 obtain⟨e,he⟩: ∃e,e=(if q.den=1 then[] else decDigits q.den):=⟨_,rfl⟩
 have hsp:Aj Tryz.prog 82 #[str (Ad q)] W (fun _:Unit=> .tuple #[.bool (decide (q.num<0)),str n,str e, .bool (decide (q.den≠1))]) (fun _=>True) (fun _=>[]):=(FO (Ad q) hl W).cast (by rw[NY,hn,he])
 have hsh:ES q=(decide (n.length≤9)&&decide (e.length≤9)):=by
  unfold ES
  rw[hn,he]
  by_cases h1:q.den=1
  ·rw[if_pos h1,dT h1];rfl
  ·rw[if_neg h1,dF h1,Bool.false_or]
 have hnd: ∀b∈n,DG b=true:=by rw[hn];exact(ET _).all
 refine Ac Tryz.func120 I I I ?_
 refine zA (zB (wP I (wP I (wP I (Aa (zE (zA (zB (wP I (wC I I (fun W1 hp=>(FO (Ad q) hl W1).cast (v':= .tuple #[.bool (decide (q.num<0)),str n,str e, .bool (decide (q.den≠1))]) (by rw[NY,hn,he])) ?_))))))))))
 iterate 9 refine wP I ?_
 refine Aa ?_
 by_cases hs:ES q=true
 ·rw[if_pos hs]
  have hs2:=hs
  rw[hsh,Bool.and_eq_true,decide_eq_true_eq,decide_eq_true_eq] at hs2
  obtain⟨hs2,hs3⟩:=hs2
  obtain⟨l1,l2⟩:=JP hs
  refine zE (zA (zA (zB (wP I (wP I ?_)))))
  refine Af 19 (.int .i64 (n.length:Nat)) I (congrArg (fun n:Nat=>Value.int .i64 (n:Int)) (A4 n)) ?_
  refine wP I (wU 20 false I (dF (by omega)) (wP I (wP I (wP I ?_))))
  refine Af 23 (.int .i64 (e.length:Nat)) I (congrArg (fun n:Nat=>Value.int .i64 (n:Int)) (A4 e)) ?_
  refine wP I (wU 24 false I (dF (by omega)) (wP I (Aa (zE (zS I (zI (zE (zA (zB (wP I (wC I I (fun W1 hp=>(Cd n (by omega) hnd W1).cast (v':= .int .i64 (q.num.natAbs:Nat)) (by rw[hn,BO])) (wP I (wP I ?_)))))))))))))
  refine Aa (zE (zA (zA (zB (wP I (Aa (AH ?_)))))))
  try refine A0 ?_
  refine AF (X:=Unit) (fun _=>[(5, .bool (decide (q.num<0))),(9, .int .i64 (q.num.natAbs:Nat)),(10, .int .i64 (q.den:Nat))]) (fun _=>[]) (fun _=>True) ?_ ?_
  ·refine Av I (fun h1=> ?_) (fun h1=> ?_)
   ·have h1:q.den≠1:=of_decide_eq_true h1
    have e1:e=decDigits q.den:=by rw[he,if_neg h1]
    exact zB (wP I (wC I I (fun W1 hp=>(Cd e (by omega) (by rw[e1];exact(ET _).all) W1).cast (v':= .int .i64 (q.den:Nat)) (by rw[e1,BO])) (wP I (Aa (Al () tO ⟨I,I,I,tO⟩ [] I)))))
   ·have h1:q.den=1:=Decidable.byContradiction fun h=>absurd h1 (by rw[dT h];decide)
    exact zI (Al () tO ⟨I,I,by rw[h1];rfl,tO⟩ [] I)
  intro _ _
  refine zA (zA (zB (wP I (Aa (AH ?_)))))
  try refine A0 ?_
  refine AF (X:=Unit) (fun _=>[(9, .int .i64 q.num),(10, .int .i64 (q.den:Nat))]) (fun _=>[]) (fun _=>True) ?_ ?_
  ·refine Av I (fun h1=> ?_) (fun h1=> ?_)
   ·have h1:q.num<0:=of_decide_eq_true h1
    exact zB (wP I (wP I (wV 33 q.num I (by show w64 (0-((q.num.natAbs:Nat):Int))=_;rw[Ap (by omega) (by omega)];omega) (wP I (Aa (Al () tO ⟨I,I,tO⟩ [] I))))))
   ·have h1: ¬q.num<0:=of_decide_eq_false h1
    exact zI (Al () tO ⟨congrArg (fun z=>some (Value.int .i64 z)) (by omega),I,tO⟩ [] I)
  intro _ _
  refine zA (zB ?_)
  iterate 5 refine wP I ?_
  exact Aa (zE (zO (wR3 I I I)))
 ·rw[if_neg hs]
  have hs2: ¬(n.length≤9∧e.length≤9):=fun h=>hs (by rw[hsh,dT h.1,dT h.2];rfl)
  refine AH (A0 (A0 ?_))
  refine AF (X:=Unit) (fun _=>[(25, .bool true)]) (fun _=>[]) (fun _=>True) ?_ ?_
  ·refine zB (wP I (wP I ?_))
   refine Af 19 (.int .i64 (n.length:Nat)) I (congrArg (fun n:Nat=>Value.int .i64 (n:Int)) (A4 n)) ?_
   refine wP I ?_
   by_cases h1:n.length≤9
   ·refine wU 20 false I (dF (by omega)) (wP I (wP I (wP I ?_)))
    refine Af 23 (.int .i64 (e.length:Nat)) I (congrArg (fun n:Nat=>Value.int .i64 (n:Int)) (A4 e)) ?_
    exact wP I (wU 24 true I (dT (by omega)) (wP I (Aa (Al () tO ⟨I,tO⟩ [] I))))
   ·refine wU 20 true I (dT (by omega)) (wP I ?_)
    iterate 3 refine An I I ?_
    exact wP I (Aa (Al () tO ⟨I,tO⟩ [] I))
  intro _ _
  exact zR I (zA (zB (wP I (wP I (wP I (Aa (zE (zO (zP (wR3 I I I))))))))))
theorem Pc (q:Rat) (hl:(Ad q).length≤1000):By Tryz.prog 121 [str (Ad q)] (.tuple #[str (itoa q.num),str (decDigits q.den)]):=by
 intro W
 have hlen:(decDigits q.num.natAbs).length≤1000:=by
  have:=Sn (a:=Ad q) (Gx q.num q.den_pos)
  omega
 refine Ac Tryz.func121 I I I ?_
 refine zA (zB (wP I (wP I (Aa (zE (zA (zB (wP I (wC I I (fun W1 hp=>(FO (Ad q) (by omega) W1).cast (NY q)) ?_)))))))))
 iterate 9 refine wP I ?_
 refine Aa (zE (zA (zA (zB (wP I (Aa (AH ?_)))))))
 try refine A0 ?_
 refine AF (X:=Unit) (fun _=>[(5,str (itoa q.num)),(6,str (if q.den=1 then[] else decDigits q.den)),(7, .bool (decide (q.den≠1)))]) (fun _=>[]) (fun _=>True) ?_ ?_
 ·refine Av I (fun h1=> ?_) (fun h1=> ?_)
  ·have h1:q.num<0:=of_decide_eq_true h1
   refine zB (wP I ?_)
   refine BV I I I I I (a:=[45]) (b:=decDigits q.num.natAbs) (by decide) (by omega) ?_
   exact wP I (Aa (Al () tO ⟨by unfold itoa;rw[if_pos h1];rfl,I,I,tO⟩ [] I))
  ·have h1: ¬q.num<0:=of_decide_eq_false h1
   exact zI (Al () tO ⟨by unfold itoa;rw[if_neg h1,show q.num.toNat=q.num.natAbs by omega];rfl,I,I,tO⟩ [] I)
 intro _ _
 refine zA (zA (zB (wP I (wP I (Aa (AH ?_))))))
 try refine A0 ?_
 refine AF (X:=Unit) (fun _=>[(5,str (itoa q.num)),(6,str (decDigits q.den))]) (fun _=>[]) (fun _=>True) ?_ ?_
 ·refine Av I (fun h1=> ?_) (fun h1=> ?_)
  ·have h1:q.den=1:=Decidable.byContradiction fun h=>absurd h1 (by rw[dT h];decide)
   exact zB (wP I (Aa (Al () tO ⟨I,by rw[h1,F7];rfl,tO⟩ [] I)))
  ·have h1:q.den≠1:=Decidable.byContradiction fun h=>absurd h1 (by rw[dF h];decide)
   exact zI (Al () tO ⟨I,by rw[if_neg h1];rfl,tO⟩ [] I)
 intro _ _
 exact zA (zB (wP I (wP I (wP I (wP I (Aa (zE (zO (wR2 I I I)))))))))
-- BOXES 1
-- CODE2
def byV (l:List UInt8):List Value:=l.map fun b=> .int .u8 (b.toNat:Int)
def zrV (k:Nat):List Value:=BW [.int .u8 0] k
theorem Jw (k:Nat):(zrV k).length=k:=by unfold zrV;rw[EF];simp
theorem UL (k:Nat):zrV (k+1)=zrV k++[.int .u8 0]:=by
 induction k with
 |zero=>rfl
 |succ k ih=>
  have e: ∀j,zrV (j+1)=[.int .u8 0]++zrV j:=fun j=>rfl
  rw[e,ih, ←List.append_assoc, ←e,ih]
theorem Ss {k:Nat} {c:UInt8} {suf:List UInt8}:B7 (zrV (k+1)++byV suf) (0+k*1) [.int .u8 (c.toNat:Int)]=zrV k++byV (c::suf):=by
 rw[UL,show 0+k*1=(zrV k).length+0 by rw[Jw];omega,List.append_assoc,Ee]
 rfl
theorem S8 {k:Nat} {l:List UInt8} {j:Nat} (hj:j<l.length):(zrV k++byV l)[k+j]? =some (.int .u8 (l[j].toNat:Int)):=by
 rw[List.getElem?_append_right (by rw[Jw];omega),Jw,Nat.add_sub_cancel_left]
 unfold byV
 rw[List.getElem?_map,List.getElem?_eq_getElem hj];rfl
theorem TS (u:Nat):IntKind.u8.wrap ((48+u%10:Nat):Int)=((UInt8.ofNat (48+u%10)).toNat:Int):=by
 rw[Pq (by omega) (by omega),Dp (Nat.mod_lt _ (by omega))]
-- BOXES 1
-- CODE2
theorem H8 (m:Nat) (hm:m<9223372036854775808):By Tryz.prog 199 [.int .i64 (m:Nat)] (str (decDigits m)):=by
 intro W
 have hlen:(decDigits m).length≤19:=Dd 19 m (by omega) (by omega)
 refine Ac Tryz.func199 I I I ?_
 refine zA (zB (wP I (Aa (zE (zA (zB ?_))))))
 refine Cb Tryz.vec202 20 I I I I I I I (by decide) (by decide) ?_
 intro b
 refine wP I (Aa (zE (zA (zB (wP I (wP I (wP I (Aa (zE (zH ?_))))))))))
 refine AA (X:=Nat×List UInt8) (fun x=>[(0, .int .i64 (x.1:Nat)),(3, .slice (some ⟨b,0,none⟩) 20 20),(4, .int .i64 ((20-x.2.length:Nat):Int))]) (fun x=>[⟨b,5,zrV (20-x.2.length)++byV x.2,true,none⟩])
  (fun x=>x.1<9223372036854775808∧decDigits m=decDigits x.1++x.2) (fun x=>x.1) (m,[]) ⟨hm,by simp⟩ ⟨rfl,rfl,rfl,trivial⟩ [] rfl ?_
 rintro⟨u,suf⟩ ⟨hu0,hd0⟩
 have hu:u<9223372036854775808:=hu0
 have hd:decDigits m=decDigits u++suf:=hd0
 have hs:suf.length≤18:=by
  have h1:=congrArg List.length hd
  rw[List.length_append] at h1
  have h2:(decDigits u).length≠0:=fun e=>FH u (List.length_eq_zero_iff.1 e)
  omega
 refine zH (zA (zB (wP I (wP I (wV 9 ((19-suf.length:Nat):Int) I (show w64 (((20-suf.length:Nat):Int)-1)=_ by rw[Ap (by omega) (by omega)];omega) (wP I (Aa (zE (zA (zB (wP I (wP I (wP I ?_)))))))))))))
 refine Fx I I I I I (by decide) ?_
 refine wV 13 ((u%10:Nat):Int) I (show Int.tmod (u:Nat) ((10:Nat):Int)=_ from(Int.ofNat_tmod _ _).symm) (wP I (wV 14 ((48+u%10:Nat):Int) I (show w64 (48+((u%10:Nat):Int))=_ by rw[Ap (by omega) (by omega)];omega) ?_))
 refine TL Tryz.underlying3 Tryz.underlying5 I I I I ?_
 refine Af 15 (.int .u8 ((UInt8.ofNat (48+u%10)).toNat:Int)) I (congrArg (Value.int .u8) (TS u)) ?_
 refine wJ ?_
 refine Aw 0 (zrV (20-(UInt8.ofNat (48+u%10)::suf).length)++byV (UInt8.ofNat (48+u%10)::suf)) tH I I I I I I I I I I (by show 0+(19-suf.length)*1+1≤(zrV (20-suf.length)++byV suf).length;rw[List.length_append,Jw];omega) (by
  rw[List.length_cons,show 20-(suf.length+1)=19-suf.length by omega]
  show B7 (zrV (20-suf.length)++byV suf) _ _=_
  rw[show 20-suf.length=19-suf.length+1 by omega]
  exact Ss) ?_
 refine Aa (zE (zA (zB (wP I ?_))))
 refine D7 I I I I I (by decide) ?_
 refine wV 18 ((u/10:Nat):Int) I (show w64 (Int.tdiv (u:Nat) ((10:Nat):Int))=_ by rw[←Int.ofNat_tdiv,Ap (by omega) (by omega)]) (wP I (Aa (zE (zA (zB (wP I (wP I (Aa (zE ?_)))))))))
 generalize hc:UInt8.ofNat (48+u%10)=c at*
 refine Av I (fun h=> ?_) (fun h=> ?_)
 ·have h0:u<10:=by have h':(((u/10:Nat):Int)==0)=true:=h;rw[beq_iff_eq] at h';omega
  have he:decDigits m=c::suf:=by rw[hd,decDigits_one h0, ←hc,Nat.mod_eq_of_lt h0];rfl
  refine zA (zB (wP I (wP I ?_)))
  refine DD (19-suf.length) tH I I I I I I I I (by omega) (by omega) ?_
  refine Af 23 (.slice (some ⟨b,19-suf.length,none⟩) (c::suf).length (20-(19-suf.length))) I (by
   rw[if_neg (by omega),List.length_cons,show 20-(19-suf.length)=suf.length+1 by omega,show 0+(19-suf.length)*1=19-suf.length by omega]) ?_
  refine HA 0 (c::suf) (e:=5) (by kernel_rfl) Tryz.underlying5 (by kernel_rfl) I I I I I I I (fun j hj=>by
   show(zrV (20-(c::suf).length)++byV (c::suf))[19-suf.length+j]? =_
   rw[show 20-(c::suf).length=19-suf.length by rw[List.length_cons];omega]
   exact S8 hj) ?_
  exact wP I (Aa (zE (zO (zQ (zP (zQ (wR1 I I (by rw[he]))))))))
 ·have h0: ¬u<10:=by have h':(((u/10:Nat):Int)==0)=false:=h;rw[beq_eq_false_iff_ne] at h';omega
  refine zI (zN ?_)
  refine A6 (u/10,c::suf) ⟨by show u/10<9223372036854775808;omega, ?_⟩ (by show u/10<u;omega) ⟨I,I,congrArg (fun z=>some (Value.int .i64 z)) (by rw[List.length_cons,show 20-(suf.length+1)=19-suf.length by omega]),tO⟩ [] I
  show decDigits m=decDigits (u/10)++c::suf
  rw[hd,decDigits,dif_neg h0,hc,List.append_assoc];rfl
theorem Ux {z:Int} {g:Nat} (hg:0<g) (h:g∣z.natAbs):itoa (z/(g:Int))=(if z<0 then[45] else[])++decDigits (z.natAbs/g):=by
 obtain⟨k,hk⟩:=h
 by_cases hz:z<0
 ·have e:z= -((g*k:Nat):Int):=by omega
  have hk0:k≠0:=fun e=>by rw[e] at hk;omega
  have e2:z/(g:Int)= -(k:Int):=by
   rw[e,Int.natCast_mul, ←Int.mul_neg]
   exact Int.mul_ediv_cancel_left _ (by omega)
  rw[if_pos hz,e2,La hk0,hk,Nat.mul_div_cancel_left _ hg];rfl
 ·have e:z=((g*k:Nat):Int):=by omega
  have e2:z/(g:Int)=(k:Int):=by
   rw[e,Int.natCast_mul]
   exact Int.mul_ediv_cancel_left _ (by omega)
  rw[if_neg hz,e2,hk,Nat.mul_div_cancel_left _ hg]
  unfold itoa
  rw[if_neg (by omega)];rfl
theorem Fl (z:Int) (d:Nat) (hz:z.natAbs<9223372036854775808) (hd0:0<d) (hd:d<9223372036854775808):By Tryz.prog 148 [.int .i64 z, .int .i64 (d:Nat)] (str (Ad (mkRat z d))):=by
 intro W
 obtain⟨n,hn⟩: ∃n,z.natAbs=n:=⟨_,rfl⟩
 obtain⟨g,hg⟩: ∃g,Nat.gcd n d=g:=⟨_,rfl⟩
 have hg0:0<g:=by rw[←hg];exact Nat.gcd_pos_of_pos_right _ hd0
 have hgn:g∣n:=by rw[←hg];exact Nat.gcd_dvd_left ..
 have hgd:g∣d:=by rw[←hg];exact Nat.gcd_dvd_right ..
 have hgle:g≤d:=Nat.le_of_dvd hd0 hgd
 rw[hn] at hz
 have hnq:n/g≤n:=Nat.div_le_self ..
 have hdq:d/g≤d:=Nat.div_le_self ..
 have hnl:(decDigits (n/g)).length≤19:=Dd 19 _ (by decide) (by omega)
 have hdl:(decDigits (d/g)).length≤19:=Dd 19 _ (by decide) (by omega)
 obtain⟨s,hs⟩: ∃s:List UInt8,s=if z<0 then[45] else[]:=⟨_,rfl⟩
 have hsl:s.length≤1:=by rw[hs];split<;>decide
 have hq:itoa (z/(g:Int))=s++decDigits (n/g):=by rw[hs, ←hn];exact Ux hg0 (by rw[hn];exact hgn)
 refine Ac Tryz.func148 I I I ?_
 refine zA (zB (wP I (Aa (zE (zA (zB (wP I (Aa (zE (zA (zA (zB (wP I (wP I ?_))))))))))))))
 refine Aa (AH ?_)
 try refine A0 ?_
 refine AF (X:=Unit) (fun _=>[(0, .int .i64 (n:Nat)),(1, .int .i64 (d:Nat)),(5,str s)]) (fun _=>[]) (fun _=>True) ?_ ?_
 ·refine Av I (fun h=> ?_) (fun h=> ?_)
  ·have h:z<0:=by simpa using h
   exact zB (wP I (wP I (wV 10 (n:Nat) I (show w64 (0-z)=_ by rw[Ap (by omega) (by omega)];omega) (wP I (wP I (Aa (Al () tO ⟨I,I,by rw[hs,if_pos h];rfl,tO⟩ [] I)))))))
  ·have h: ¬z<0:=by simpa using h
   exact zI (Al () tO ⟨congrArg (fun z=>some (Value.int .i64 z)) (by omega),I,by rw[hs,if_neg h];rfl,tO⟩ [] I)
 intro _ _
 refine zA (zB (wP I (wP I (wC I I (fun W hp=>(Ke n d hz hd W).cast (v':= .int .i64 (g:Nat)) (by rw[hg])) (wP I (Aa (zE (zA (zB (wP I (wP I (wP I ?_))))))))))))
 refine D7 I I I I I (by omega) ?_
 refine wV 17 ((n/g:Nat):Int) I (by rw[D1];exact BE (by omega)) (wC I I (fun W hp=>H8 (n/g) (by omega) W) ?_)
 refine BV I I I I I (a:=s) (b:=decDigits (n/g)) (by omega) (by omega) ?_
 refine Af 19 (str (itoa (z/(g:Int)))) I (by rw[hq]) ?_
 refine wP I (Aa (zE (zA (zA (zB (wP I (wP I ?_)))))))
 refine D7 I I I I I (by omega) ?_
 refine wV 22 ((d/g:Nat):Int) I (by rw[D1];exact BE (by omega)) (wP I ?_)
 have hql:(itoa (z/(g:Int))).length≤20:=by rw[hq,List.length_append];omega
 by_cases h1:d/g=1
 ·exact wU 23 true I (by rw[beq_iff_eq];omega) (Aa (zE (zR I (zA (zB (wP I (wP I (Aa (zE (zO (zP (wR1 I I (by rw[Jy (by omega) (by rw[hn,hg];exact h1),hn,hg])))))))))))))
 ·refine wU 23 false I (by rw[beq_eq_false_iff_ne];omega) (Aa (zE (zS I (zI (zE (zA (zB (wP I ?_))))))))
  refine BV I I I I I (a:=itoa (z/(g:Int))) (b:=[47]) (by omega) (by decide) ?_
  refine wP I (wP I ?_)
  refine D7 I I I I I (by omega) ?_
  refine wV 29 ((d/g:Nat):Int) I (by rw[D1];exact BE (by omega)) (wC I I (fun W hp=>H8 (d/g) (by omega) W) ?_)
  refine BV I I I I I (by rw[List.length_append];show _+1≤_;omega) (by omega) ?_
  exact wP I (Aa (zE (zO (wR1 I I (by rw[Jd (by omega) (by rw[hn,hg];exact h1),hn,hg,BT])))))
theorem Qg {z:Int} {d:Nat} (hz:z<0):EP z d=45::EP (-z) d:=by
 have e:itoa z=45::itoa (-z):=by
  unfold itoa
  rw[if_pos hz,if_neg (by omega),show(-z).toNat=z.natAbs by omega]
 unfold EP
 rw[e]
 split<;>rfl
theorem R8 (q:Rat) (hl:(Ad q).length≤1000):By Tryz.prog 102 [str (Ad q)] (str (Ad (-q))):=by
 intro W
 have en:(-q).num= -q.num:=rfl
 have ed:(-q).den=q.den:=rfl
 refine Ac Tryz.func102 I I I ?_
 refine zA (zB (wP I (Aa (zE (zA (zH (zA (zB (wP I (wP I (wU 5 (decide (Ad q=[48])) I (Be _ _) (wP I (Aa ?_)))))))))))))
 refine zE ?_
 refine Av I (fun h=> ?_) (fun h=> ?_)
 ·have h:q.num=0:=GR.1 (of_decide_eq_true h)
  have e0:Ad (-q)=Ad q:=by rw[GR.2 h,GR.2 (by rw[en,h];rfl)]
  exact zA (zB (wP I (wP I (Aa (zE (zO (zQ (zP (wR1 I I (by rw[e0]))))))))))
 have h: ¬q.num=0:=fun e=>of_decide_eq_false h (GR.2 e)
 have hpre:=(NC (z:=q.num) q.den_pos).1
 rw[Bw] at hpre
 obtain⟨c,hc⟩: ∃c,(Ad q)[0]? =some c:=by
  cases e:Ad q with
  |nil=>
   have:=congrArg List.length e
   unfold Ad EP at this
   have h2:itoa q.num≠[]:=by unfold itoa;split;simp;exact FH _
   split at this
   ·exact absurd (List.length_eq_zero_iff.1 this) h2
   ·rw[List.length_append] at this;simp at this
  |cons c t=>exact⟨c,rfl⟩
 have hc45:decide (c=45)=decide (q.num<0):=by
  rw[←hpre]
  show _=decide ((Ad q)[0]? =some 45)
  exact decide_eq_decide.2 (by rw[hc];simp)
 refine zA (zB (wP I ?_))
 refine AZ 0 tH I I I I I I I I hc ?_
 refine wP I (wU 10 (decide (q.num<0)) I ((Du c 45).trans hc45) (wP I (Aa (zE ?_))))
 refine Av I (fun hn=> ?_) (fun hn=> ?_)
 ·have hn:q.num<0:=of_decide_eq_true hn
  have e1:Ad q=45::Ad (-q):=by unfold Ad;rw[en,ed];exact Qg hn
  have hlen:=congrArg List.length e1
  rw[List.length_cons] at hlen
  refine zA (zB (wP I ?_))
  refine EY 1 tH I I I I I I I I (by omega) ?_
  exact wP I (Aa (zE (zO (zQ (zP (wR1 I I (by rw[e1];rfl)))))))
 ·have hn: ¬q.num<0:=of_decide_eq_false hn
  have e1:Ad (-q)=45::Ad q:=by
   unfold Ad
   rw[en,ed,Qg (show -q.num<0 by omega),Int.neg_neg]
  refine zI (zN (zE (zA (zB (wP I ?_)))))
  refine BV I I I I I (a:=[45]) (b:=Ad q) (by decide) (by omega) ?_
  exact wP I (Aa (zE (zO (wR1 I I (by rw[e1];rfl)))))
-- BOXES 5
-- CODE2
abbrev cvV (p:Ah):Value:= .agg #[str (Ad p.1),str (Ad p.2)]
def C9 (W:World) (c:Nat):Prop:=W.heap[c]? =some (.cells #[.int .i64 0] 61 (0,0))
theorem C9.hp {W0 W:World} {bxs:List Bx} {c:Nat} (h:C9 W0 c) (hp:Hp W0 bxs W):C9 W c:=
 (hp.below.block c (Array.getElem?_eq_some_iff.1 h).1).trans h
theorem C9.row {W:World} {c:Nat} (h:C9 W c):Ak W c 0 [.int .i64 0]:=Ak.of_block h
theorem Ij (c g:Nat) (a b v:List UInt8) (W:World) (hc:C9 W c) (hE:Bg Tryz.prog g=true) (hg: ∀W1,Below W.heap.size W W1→Aj Tryz.prog g #[str a,str b] W1 (fun _:Unit=> .tuple #[str v, .int .i64 0]) (fun _=>True) (fun _=>[])):
  Aj Tryz.prog 104 #[Ai c, .func (.func g) #[] #[],str a,str b] W (fun _:Unit=>str v) (fun _=>True) (fun _=>[]):=by
 refine Ac (args:=[Ai c, .func (.func g) #[] #[],str a,str b]) Tryz.func104 I I I ?_
 refine zA (zB (wP I (Aa (zE (zA (zA (zB (wP I ?_))))))))
 refine AL I I I I ?_
 refine wP I (wL 0 I I (fun W1 hp=>(hc.hp hp).row) I (wP I (Aa (zE (zS I (zI (zE (zA (zB (wP I (wP I (wP I ?_))))))))))))
 refine Br (capt:=[]) I I I I I I hE (fun W1 h=>hg W1 h.below) ?_
 iterate 5 refine wP I ?_
 refine Aa (zE (zA (zA (zB (wP I (wP I ?_))))))
 refine AL I I I I ?_
 refine wP I ?_
 refine Jf (c:=[.int .i64 0]) (ty:=61) tH I I I I I I I I I I (fun W1 hp=>hc.hp hp) ?_
 refine Aa (zE (zA (zB (wP I (wP I (Aa (zE (zS I (zI (zE (zA (zB (wP I (wP I ?_))))))))))))))
 exact Aa (zE (zO (wR1 I I I)))
theorem CD (c:Nat) (p q:Rat) (hz:Sz2 p q) (W:World) (hc:C9 W c) (hv:BU W) (ht:AO W):
  Aj Tryz.prog 45 #[Ai c,str (Ad p),str (Ad q)] W (fun _:Unit=>str (Ad (p+q))) (fun _=>True) (fun _=>[]):=by
 refine Ac (args:=[Ai c,str (Ad p),str (Ad q)]) Tryz.func45 I I I ?_
 refine zA (zB (wP I (Aa (zE (zA (zB (wP I (wP I (wP I (wC I I (fun W hp=>Ij c 16 (Ad p) (Ad q) (Ad (p+q)) W (hc.hp hp) (by kernel_rfl) (fun W1 hb=>Fu p q hz W1 ((hv.hp hp).below hb) ((ht.hp hp).below hb))) (wP I (Aa (zE ?_)))))))))))))
 exact zO (wR1 I I I)
theorem CC (c:Nat) (p q:Rat) (hz:Sz2 p q) (W:World) (hc:C9 W c) (hv:BU W) (ht:AO W):
  Aj Tryz.prog 59 #[Ai c,str (Ad p),str (Ad q)] W (fun _:Unit=>str (Ad (p-q))) (fun _=>True) (fun _=>[]):=by
 refine Ac (args:=[Ai c,str (Ad p),str (Ad q)]) Tryz.func59 I I I ?_
 refine zA (zB (wP I (Aa (zE (zA (zB (wP I (wP I (wP I (wC I I (fun W hp=>Ij c 126 (Ad p) (Ad q) (Ad (p-q)) W (hc.hp hp) (by kernel_rfl) (fun W1 hb=>RB p q hz W1 ((hv.hp hp).below hb) ((ht.hp hp).below hb))) (wP I (Aa (zE ?_)))))))))))))
 exact zO (wR1 I I I)
theorem Cj (c:Nat) (p q:Rat) (hz:Sz2 p q) (W:World) (hc:C9 W c) (hv:BU W) (ht:AO W):
  Aj Tryz.prog 60 #[Ai c,str (Ad p),str (Ad q)] W (fun _:Unit=>str (Ad (p*q))) (fun _=>True) (fun _=>[]):=by
 refine Ac (args:=[Ai c,str (Ad p),str (Ad q)]) Tryz.func60 I I I ?_
 refine zA (zB (wP I (Aa (zE (zA (zB (wP I (wP I (wP I (wC I I (fun W hp=>Ij c 72 (Ad p) (Ad q) (Ad (p*q)) W (hc.hp hp) (by kernel_rfl) (fun W1 hb=>R9 p q hz W1 ((hv.hp hp).below hb) ((ht.hp hp).below hb))) (wP I (Aa (zE ?_)))))))))))))
 exact zO (wR1 I I I)
theorem GO (c:Nat) (p q:Rat) (hz:Sz2 p q) (h0:q.num≠0) (W:World) (hc:C9 W c) (hv:BU W) (ht:AO W):
  Aj Tryz.prog 47 #[Ai c,str (Ad p),str (Ad q)] W (fun _:Unit=>str (Ad (p/q))) (fun _=>True) (fun _=>[]):=by
 refine Ac (args:=[Ai c,str (Ad p),str (Ad q)]) Tryz.func47 I I I ?_
 refine zA (zB (wP I (Aa (zE (zA (zB (wP I (wP I (wP I (wC I I (fun W hp=>Ij c 105 (Ad p) (Ad q) (Ad (p/q)) W (hc.hp hp) (by kernel_rfl) (fun W1 hb=>(Q3 p q hz W1 ((hv.hp hp).below hb) ((ht.hp hp).below hb)).cast (by rw[MH,if_neg h0]))) (wP I (Aa (zE ?_)))))))))))))
 exact zO (wR1 I I I)
theorem Cc (c:Nat) (p q:Rat) (hz:Sz2 p q) (W:World) (hc:C9 W c) (hv:BU W) (ht:AO W):
  Aj Tryz.prog 53 #[Ai c,str (Ad p),str (Ad q)] W (fun _:Unit=> .int .i64 (Dv p q)) (fun _=>True) (fun _=>[]):=by
 refine Ac (args:=[Ai c,str (Ad p),str (Ad q)]) Tryz.func53 I I I ?_
 refine zA (zB (wP I (Aa (zE (zA (zA (zB (wP I ?_))))))))
 refine AL I I I I ?_
 refine wP I (wL 0 I I (fun W1 hp=>(hc.hp hp).row) I (wP I (Aa (zE (zS I (zI (zE (zA (zB (wP I (wP I (wC I I (fun W hp=>(Lv p q hz W (hv.hp hp) (ht.hp hp)).cast (v':= .tuple #[.int .i64 (Dv p q), .int .i64 0]) (by rw[NR])) ?_))))))))))))
 iterate 5 refine wP I ?_
 refine Aa (zE (zA (zB (wP I (wP I ?_)))))
 refine AL I I I I ?_
 refine wP I ?_
 refine Jf (c:=[.int .i64 0]) (ty:=61) tH I I I I I I I I I I (fun W1 hp=>hc.hp hp) ?_
 exact Aa (zE (zA (zB (wP I (wP I (Aa (zE (zO (wR1 I I I)))))))))
structure WS (p q r:Ah):Prop where
 s1:Sz2 q.1 p.1
 s2:Sz2 r.2 p.2
 s3:Sz2 q.2 p.2
 s4:Sz2 r.1 p.1
 m1:Sz2 (q.1-p.1) (r.2-p.2)
 m2:Sz2 (q.2-p.2) (r.1-p.1)
 o:Sz2 ((q.1-p.1)*(r.2-p.2)) ((q.2-p.2)*(r.1-p.1))
def RF (p q r:Ah):Int:=Dv ((q.1-p.1)*(r.2-p.2)) ((q.2-p.2)*(r.1-p.1))
theorem Qq (c:Nat) (p q r:Ah) (hz:WS p q r) (W:World) (hc:C9 W c) (hv:BU W) (ht:AO W):
  Aj Tryz.prog 55 #[Ai c,cvV p,cvV q,cvV r] W (fun _:Unit=> .int .i64 (RF p q r)) (fun _=>True) (fun _=>[]):=by
 refine Ac (args:=[Ai c,cvV p,cvV q,cvV r]) Tryz.func55 I I I ?_
 refine zA (zB ?_)
 (refine A5 rfl rfl rfl rfl ?_;intro)
 (refine A5 rfl rfl rfl rfl ?_;intro)
 (refine A5 rfl rfl rfl rfl ?_;intro)
 refine wP I (Aa (zE (zA (zU (qP I (qP I (qB 1 I I I (qP I (qB 0 I I I (qC I I (fun W hp=>CC c q.1 p.1 hz.s1 W (hc.hp hp) (hv.hp hp) (ht.hp hp)) (qP I (qP I (qB 2 I I I ?_)))))))))))))
 refine qP I (qB 0 I I I (qC I I (fun W hp=>CC c r.2 p.2 hz.s2 W (hc.hp hp) (hv.hp hp) (ht.hp hp)) (qP I (qP I (AU (Aa (zE (zA (zU (qP I (qP I (qB 1 I I I (qP I ?_)))))))))))))
 refine qB 0 I I I (qC I I (fun W hp=>CC c q.2 p.2 hz.s3 W (hc.hp hp) (hv.hp hp) (ht.hp hp)) (qP I (qP I (qB 2 I I I (qP I (qB 0 I I I (qC I I (fun W hp=>CC c r.1 p.1 hz.s4 W (hc.hp hp) (hv.hp hp) (ht.hp hp)) (qP I (qP I (AU (Aa (zE (zA ?_)))))))))))))
 refine zB (wP I (wP I (wP I (wP I (wC I I (fun W hp=>Cj c (q.1-p.1) (r.2-p.2) hz.m1 W (hc.hp hp) (hv.hp hp) (ht.hp hp)) (wP I (wP I (wP I (wC I I (fun W hp=>Cj c (q.2-p.2) (r.1-p.1) hz.m2 W (hc.hp hp) (hv.hp hp) (ht.hp hp)) (wC I I (fun W hp=>Cc c _ _ hz.o W (hc.hp hp) (hv.hp hp) (ht.hp hp)) (wP I (Aa (zE ?_)))))))))))))
 exact zO (wR1 I I I)
def MG (p q:Ah):Int:=if Dv p.1 q.1=0 then Dv p.2 q.2 else Dv p.1 q.1
theorem GW (p q:Rat):Dv p q= -1∨Dv p q=0∨Dv p q=1:=by
 unfold Dv
 split
 ·exact Or.inl I
 ·split
  ·exact Or.inr (Or.inl I)
  ·exact Or.inr (Or.inr I)
theorem Kv (c:Nat) (p q:Ah) (h1:Sz2 p.1 q.1) (h2:Sz2 p.2 q.2) (W:World) (hc:C9 W c) (hv:BU W) (ht:AO W):
  Aj Tryz.prog 71 #[Ai c,cvV p,cvV q] W (fun _:Unit=> .int .i64 (MG p q)) (fun _=>True) (fun _=>[]):=by
 refine Ac (args:=[Ai c,cvV p,cvV q]) Tryz.func71 I I I ?_
 refine zA (zB ?_)
 (refine A5 rfl rfl rfl rfl ?_;intro)
 (refine A5 rfl rfl rfl rfl ?_;intro)
 refine wP I (Aa (zE (zA (zA (zB (wP I (wP I (wB 0 I I I (wP I (wB 1 I I I ?_))))))))))
 rcases GW p.1 q.1 with e|e|e
 ·refine wC I I (fun W hp=>(Cc c p.1 q.1 h1 W (hc.hp hp) (hv.hp hp) (ht.hp hp)).cast (congrArg (Value.int .i64) e)) (wP I (Aa (zE (zA (zB (wP I (wP I (Aa (zE (zR I (zA (zB (wP I (wP I ?_))))))))))))))
  exact Aa (zE (zO (zP (wR1 I I (by rw[MG,e,if_neg (by decide)])))))
 ·refine wC I I (fun W hp=>(Cc c p.1 q.1 h1 W (hc.hp hp) (hv.hp hp) (ht.hp hp)).cast (congrArg (Value.int .i64) e)) (wP I (Aa (zE (zA (zB (wP I (wP I (Aa (zE (zS I (zI (zE (zA ?_)))))))))))))
  exact zB (wP I (wP I (wB 0 I I I (wP I (wB 1 I I I (wC I I (fun W hp=>Cc c p.2 q.2 h2 W (hc.hp hp) (hv.hp hp) (ht.hp hp)) (wP I (Aa (zE (zO (wR1 I I (by rw[MG,if_pos e]))))))))))))
 ·refine wC I I (fun W hp=>(Cc c p.1 q.1 h1 W (hc.hp hp) (hv.hp hp) (ht.hp hp)).cast (congrArg (Value.int .i64) e)) (wP I (Aa (zE (zA (zB (wP I (wP I (Aa (zE (zR I (zA (zB (wP I (wP I ?_))))))))))))))
  exact Aa (zE (zO (zP (wR1 I I (by rw[MG,e,if_neg (by decide)])))))
def EZ (q:Rat):Int:=if q.num=0 then 0 else if q.num<0 then -1 else 1
theorem ED (q:Rat):By Tryz.prog 68 [str (Ad q)] (.int .i64 (EZ q)):=by
 intro W
 refine Ac Tryz.func68 I I I ?_
 refine zA (zB (wP I (Aa (zE (zA (zH (zA (zB (wP I (wP I (wU 5 (decide (Ad q=[48])) I (Be _ _) (wP I (Aa ?_)))))))))))))
 refine zE ?_
 refine Av I (fun h=> ?_) (fun h=> ?_)
 ·have h:q.num=0:=GR.1 (of_decide_eq_true h)
  exact zA (zB (wP I (Aa (zE (zO (zQ (zP (wR1 I I (by rw[EZ,if_pos h])))))))))
 have h: ¬q.num=0:=fun e=>of_decide_eq_false h (GR.2 e)
 have hpre:=(NC (z:=q.num) q.den_pos).1
 rw[Bw] at hpre
 obtain⟨c,hc⟩: ∃c,(Ad q)[0]? =some c:=by
  cases e:Ad q with
  |nil=>
   have:=congrArg List.length e
   unfold Ad EP at this
   have h2:itoa q.num≠[]:=by unfold itoa;split;simp;exact FH _
   split at this
   ·exact absurd (List.length_eq_zero_iff.1 this) h2
   ·rw[List.length_append] at this;simp at this
  |cons c t=>exact⟨c,rfl⟩
 have hc45:decide (c=45)=decide (q.num<0):=by
  rw[←hpre]
  show _=decide ((Ad q)[0]? =some 45)
  exact decide_eq_decide.2 (by rw[hc];simp)
 refine zA (zB (wP I ?_))
 refine AZ 0 tH I I I I I I I I hc ?_
 refine wP I (wU 9 (decide (q.num<0)) I ((Du c 45).trans hc45) (wP I (Aa (zE ?_))))
 refine Av I (fun hn=> ?_) (fun hn=> ?_)
 ·have hn:q.num<0:=of_decide_eq_true hn
  exact zA (zB (wP I (Aa (zE (zO (zQ (zP (wR1 I I (by rw[EZ,if_neg h,if_pos hn])))))))))
 ·have hn: ¬q.num<0:=of_decide_eq_false hn
  exact zI (zN (zE (zA (zB (wP I (Aa (zE (zO (wR1 I I (by rw[EZ,if_neg h,if_neg hn]))))))))))
-- BOXES 4
-- CODE2
abbrev br:Nat:=1000000
theorem br2:2≤br:=by decide
theorem DM {g cap:Nat} {junk:List Value} {l:List Nat} (h:(⟨some g,cap,junk⟩:Vec).OK 1 l.length (nI l)) (hl: ∀x∈l,x<br):
  ∃junk',(⟨some g,cap,junk'⟩:Vec).OK 1 (lbs br (lv br l)).length (nI (lbs br (lv br l)))∧nI l++junk=nI (lbs br (lv br l))++junk':=by
 obtain⟨h1,h2,h3⟩:=h.cap (by simp)
 have e:=Lq br2 hl
 have hlen:=(BQ br2).2 (F0 br2 hl)
 have e2:nI l=nI (lbs br (lv br l))++nI (l.drop (lbs br (lv br l)).length):=by
  conv=>lhs;rw[←List.take_append_drop (lbs br (lv br l)).length l]
  rw[IG, ←e]
 have h3':(nI l).length+junk.length=cap*1:=h3
 have h2':cap≤maxLen:=h2
 refine⟨nI (l.drop (lbs br (lv br l)).length)++junk,⟨EA _,(fun h=>by cases h),fun _=>⟨by show _≤cap;rw[BA] at h3';omega,h2', ?_⟩⟩, ?_⟩
 ·show(nI (lbs br (lv br l))).length+(nI (l.drop (lbs br (lv br l)).length)++junk).length=cap*1
  rw[List.length_append,BA,BA,List.length_drop]
  rw[BA] at h3';omega
 ·rw[←List.append_assoc, ←e2]
theorem CZ (W:World) (p:Option Addr) (cap n:Nat) (l:List Nat) (i x:Nat) (h:Ax W p l) (hn:l.length=n) (hi:i<4611686018427387904) (hx:lim l i=x):Aj Tryz.prog 195 #[slv p n cap, .int .i64 (i:Nat)] W (fun _:Unit=> .int .i64 (x:Nat)) (fun _=>True) (fun _=>[]):=by
 subst hn hx
 refine Ac (args:=[slv p l.length cap, .int .i64 (i:Nat)]) Tryz.func195 I I I ?_
 refine zA (zB (wP I (Aa (zE (zA (zA (zB (wP I (wP I (wP I (wP I (Aa (zE ?_)))))))))))))
 refine Av I (fun hc=> ?_) (fun hc=> ?_)
 ·have hl:i<l.length:=by simp at hc;omega
  obtain⟨b,off,rfl,hrow⟩:=h.row hl
  refine zA (zB (wP I (wP I ?_)))
  refine wJ ?_
  exact wL 0 I I (fun W hp=>(hrow i hl).hp hp) I (wP I (Aa (zE (zO (zP (wR1 I I I))))))
 ·have hl:l.length≤i:=by simp at hc;omega
  exact zI (zE (zA (zB (wP I (Aa (zE (zO (wR1 I I (by rw[Pj hl];rfl)))))))))
theorem C8 (W:World) (p:Option Addr) (cap:Nat) (l:List Nat) (h:Ax W p l) (hl: ∀x∈l,x<br) (hc:l.length≤cap) (hn:l.length<4611686018427387904):
  Aj Tryz.prog 193 #[slv p l.length cap] W (fun _:Unit=>slv p (lbs br (lv br l)).length cap) (fun _=>True) (fun _=>[]):=by
 refine Ac (args:=[slv p l.length cap]) Tryz.func193 I I I ?_
 refine zA (zB (wP I (Aa (zE (zA (zB (wP I (wP I (wP I (Aa (zE (zA (zH ?_)))))))))))))
 refine AA (X:=Nat) (fun k=>[(0,slv p l.length cap),(3, .int .i64 (k:Nat))]) (fun _=>[]) (fun k=>k≤l.length∧ ∀i,k≤i→i<l.length→l[i]? =some 0) (fun k=>k) l.length ⟨Nat.le_refl _,fun i h1 h2=>by omega⟩ ⟨I,I,tO⟩ [] I ?_
 rintro k ⟨hk,hz⟩
 have hk:k≤l.length:=hk
 have hend:(k=0∨l[k-1]? ≠some 0)→(lbs br (lv br l)).length=k:=fun h0=>by
  rw[←PU br2 hk hl hz h0,List.length_take];omega
 by_cases h0:k=0
 ·subst h0
  refine zA (zA (zB (wP I (wP I ?_))))
  refine Af 7 (.bool false) I I ?_
  refine wP I ?_
  iterate 6 refine An I I ?_
  refine wP I (Aa (zE (zS I (zJ (zK (zK (zL (zE (zA (zB (wP I (wP I ?_))))))))))))
  refine C5 0 tH I I I I I I I I (by omega) ?_
  exact wP I (Aa (zE (zO (wR1 I I (by rw[hend (.inl I)])))))
 ·refine zA (zA (zB (wP I (wP I (wU 7 true I (by simp;omega) ?_)))))
  obtain⟨b,off,rfl,hrow⟩:=h.row (show k-1<l.length by omega)
  refine wP I (wP I (wP I (wP I (wV 11 ((k-1:Nat):Int) I (by show w64 ((k:Int)-1)=_;rw[Ap (by omega) (by omega)];omega) ?_))))
  refine wJ ?_
  refine wL 0 I I (fun W hp=>(hrow (k-1) (by omega)).hp hp) I (wP I (wP I (Aa (zE ?_))))
  have e1:((lim l (k-1):Int)==0)=decide (l[k-1]? =some 0):=by
   rw[Dz (show k-1<l.length by omega),Pg]
   simp
  refine Av I (fun hc=> ?_) (fun hc=> ?_)
  ·have hz0:l[k-1]? =some 0:=by simpa[e1] using hc
   refine zI (zE (zH (zB (wP I (wP I (wV 17 ((k-1:Nat):Int) I (by show w64 ((k:Int)-1)=_;rw[Ap (by omega) (by omega)];omega) (wP I (Aa (zN ?_)))))))))
   refine A6 (k-1) ⟨by show k-1≤_;omega,fun i h1 h2=> ?_⟩ (by show k-1<k;omega) ⟨I,I,tO⟩ [] I
   by_cases hi:i=k-1
   ·rw[hi];exact hz0
   ·exact hz i (by have h1:k-1≤i:=h1;omega) h2
  ·have hz0:l[k-1]? ≠some 0:=by simpa[e1] using hc
   refine zJ (zK (zK (zL (zE (zA (zB (wP I (wP I ?_))))))))
   refine C5 k tH I I I I I I I I (by omega) ?_
   exact wP I (Aa (zE (zO (wR1 I I (by rw[hend (.inr hz0)])))))
theorem LD {a b:Nat} (h:(lbs br a).length<(lbs br b).length):a<b:=by
 rcases Nat.lt_or_ge a b with h1|h1
 ·exact h1
 ·have:=(BQ br2 (n:=b)).2 (Nat.lt_of_le_of_lt h1 (AK br2 a))
  omega
theorem Xi {B:Nat} (_hB:2≤B) {a b:Nat} {k:Nat} (h:a/B^(k+1)=b/B^(k+1)):(a/B^k<b/B^k↔a/B^k%B<b/B^k%B)∧(a/B^k=b/B^k↔a/B^k%B=b/B^k%B):=by
 have h1:=Nat.mod_add_div (a/B^k) B
 have h2:=Nat.mod_add_div (b/B^k) B
 rw[Nat.div_div_eq_div_mul,show B^k*B=B^(k+1) from(Nat.pow_succ ..).symm] at h1 h2
 rw[h] at h1
 constructor<;>constructor<;>intro<;>omega
theorem Nw {a b c:Nat} (h:a/c<b/c):a<b:=by
 rcases Nat.lt_or_ge a b with h1|h1
 ·exact h1
 ·exact absurd (Nat.div_le_div_right (c:=c) h1) (by omega)
def Lu (a b:Nat):Int:=if a<b then -1 else if b<a then 1 else 0
theorem Ko (W:World) (p q:Option Addr) (cap cap2:Nat) (a b:Nat) (hA:Ax W p (lbs br a)) (hB:Ax W q (lbs br b)) (hna:(lbs br a).length≤1000000) (_hnb:(lbs br b).length≤1000000):
  Aj Tryz.prog 198 #[slv p (lbs br a).length cap,slv q (lbs br b).length cap2] W (fun _:Unit=> .int .i64 (Lu a b)) (fun _=>True) (fun _=>[]):=by
 have hal:=AK br2 a
 have hbl:=AK br2 b
 refine Ac (args:=[slv p (lbs br a).length cap,slv q (lbs br b).length cap2]) Tryz.func198 I I I ?_
 refine zA (zB (wP I (Aa (zE (zA (zA (zB ?_)))))))
 iterate 5 refine wP I ?_
 by_cases hl:(lbs br a).length=(lbs br b).length
 rotate_left
 ·refine wU 10 true I (bne_iff_ne.2 (by omega)) (Aa (zE (zR I (zA (zA (zB ?_))))))
  iterate 5 refine wP I ?_
  by_cases h:(lbs br a).length<(lbs br b).length
  ·have hlt:=LD h
   exact wU 15 true I (dT (by omega)) (Aa (zE (zR I (zA (zB (wP I (Aa (zE (zO (zP (zP (wR1 I I (by unfold Lu;rw[if_pos hlt])))))))))))))
  ·have hlt:=LD (a:=b) (b:=a) (by omega)
   exact wU 15 false I (dF (by omega)) (Aa (zE (zS I (zI (zE (zA (zB (wP I (Aa (zE (zO (zP (wR1 I I (by unfold Lu;rw[if_neg (by omega),if_pos hlt]))))))))))))))
 obtain⟨K,hK⟩: ∃K,(lbs br b).length=K:=⟨_,rfl⟩
 rw[hl,hK] at hal
 rw[hK] at hbl hl
 rw[hl,hK]
 refine wU 10 false I (by simp) (Aa (zE (zS I (zI (zE (zA (zA (zB (wP I (wP I (wP I (wV 18 ((K:Int)-1) I (Ap (by omega) (by omega)) (wP I ?_)))))))))))))
 refine Aa (zE (zH ?_))
 refine AA (X:=Nat) (fun k=>[(0,slv p K cap),(1,slv q K cap2),(5, .int .i64 ((k:Nat)-1:Int))]) (fun _=>[]) (fun k=>k≤K∧a/br^k=b/br^k) (fun k=>k) K ⟨Nat.le_refl _,by rw[Nat.div_eq_of_lt hal,Nat.div_eq_of_lt hbl]⟩ ⟨I,I,I,tO⟩ [] I ?_
 rintro k ⟨hk,hq⟩
 have hk:k≤K:=hk
 refine zA (zA (zB (wP I (wP I ?_))))
 cases k with
 |zero=>
  have e:a=b:=by have hq:a/br^0=b/br^0:=hq;simpa using hq
  refine wU 20 false I (dF (by show¬(((0:Nat):Int)-1≥0);omega)) (Aa (zE (zS I (zJ (zK (zK (zL (zE (zA (zB (wP I (Aa (zE ?_)))))))))))))
  exact zO (wR1 I I (by unfold Lu;rw[e,if_neg (Nat.lt_irrefl _),if_neg (Nat.lt_irrefl _)]))
 |succ k=>
  have hq:a/br^(k+1)=b/br^(k+1):=hq
  obtain⟨h1,h2⟩:=Xi br2 hq
  obtain⟨b1,o1,rfl,r1⟩:=hA.row (show k<(lbs br a).length by omega)
  obtain⟨b2,o2,rfl,r2⟩:=hB.row (show k<(lbs br b).length by omega)
  have r1:=r1 k (by omega)
  have r2:=r2 k (by omega)
  obtain⟨x,hx⟩: ∃x,lim (lbs br a) k=x:=⟨_,rfl⟩
  obtain⟨y,hy⟩: ∃y,lim (lbs br b) k=y:=⟨_,rfl⟩
  rw[hx] at r1
  rw[hy] at r2
  rw[Bl br2] at hx hy
  rw[hx,hy] at h1 h2
  have hxb:x<br:=by rw[←hx];exact Nat.mod_lt _ (by decide)
  have hyb:y<br:=by rw[←hy];exact Nat.mod_lt _ (by decide)
  have hxb:x<1000000:=hxb
  have hyb:y<1000000:=hyb
  refine wU 20 true I (dT (by show(((k+1:Nat):Int)-1≥0);omega)) (Aa (zE (zR I (zI (zE (zA (zH (zA (zA (zU (qP I (qP I (qV 24 (k:Nat) I (by show((k+1:Nat):Int)-1=_;omega) ?_)))))))))))))
  refine qJ ?_
  refine qL 0 I I (fun W hp=>r1.hp hp) I (qP I (qP I (qV 28 (k:Nat) I (by show((k+1:Nat):Int)-1=_;omega) ?_)))
  refine qJ ?_
  refine qL 0 I I (fun W hp=>r2.hp hp) I (qP I ?_)
  by_cases hlt:x<y
  ·have:=Nw (h1.2 hlt)
   refine qU 31 true I (dT (by omega)) (AU (Aa (zE (zR I (zA (zB (wP I (Aa (zE (zO (zP (zQ (zP (zP ?_))))))))))))))
   exact zQ (zP (wR1 I I (by unfold Lu;rw[if_pos this])))
  refine qU 31 false I (dF (by omega)) (AU (Aa (zE (zS I (zI (zE (zA (zU (qP I (qP I (qV 33 (k:Nat) I (by show((k+1:Nat):Int)-1=_;omega) ?_)))))))))))
  refine qJ ?_
  refine qL 0 I I (fun W hp=>r1.hp hp) I (qP I (qP I (qV 37 (k:Nat) I (by show((k+1:Nat):Int)-1=_;omega) ?_)))
  refine qJ ?_
  refine qL 0 I I (fun W hp=>r2.hp hp) I (qP I ?_)
  by_cases hgt:y<x
  ·have h3: ¬a/br^k<b/br^k:=fun h=>hlt (h1.1 h)
   have h4: ¬a/br^k=b/br^k:=fun h=>by have:=h2.1 h;omega
   have:=Nw (a:=b) (b:=a) (c:=br^k) (by omega)
   refine qU 40 true I (dT (by show((x:Nat):Int)>(y:Nat);omega)) (AU (Aa (zE (zR I (zA (zB (wP I (Aa (zE (zO (zQ (zP (zP ?_)))))))))))))
   exact zQ (zP (wR1 I I (by unfold Lu;rw[if_neg (by omega),if_pos this])))
  refine qU 40 false I (dF (by show¬((x:Nat):Int)>(y:Nat);omega)) (AU (Aa (zE (zS I (zI (zN (zE (zB (wP I (wV 21 (k:Nat) I (by show((k+1:Nat):Int)-1=_;omega) (wP I (wV 22 ((k:Nat)-1:Int) I (Ap (by omega) (by omega)) (wP I ?_)))))))))))))
  exact Aa (A6 k ⟨by show k≤K;omega,h2.2 (by omega)⟩ (by show k<k+1;omega) ⟨I,I,I,tO⟩ [] I)
def Gj (a b:List Nat):Nat→List Nat×Nat
 |0=>([],0)
 |i+1=>((Gj a b i).1++[(lim a i+lim b i+(Gj a b i).2)%br],(lim a i+lim b i+(Gj a b i).2)/br)
theorem LS (a b:List Nat): ∀i,(Gj a b i).1.length=i
 |0=>rfl
 |i+1=>by show(_++[_]).length=_;rw[List.length_append,LS a b i];rfl
theorem Sg {a b:List Nat} (ha: ∀x∈a,x<br) (hb: ∀x∈b,x<br): ∀i,(∀x∈(Gj a b i).1,x<br)∧(Gj a b i).2≤1
 |0=>⟨fun x h=>(by cases h),Nat.zero_le _⟩
 |i+1=>by
  obtain⟨h1,h2⟩:=Sg ha hb i
  have l1:lim a i<1000000:=Bj br2 ha i
  have l2:lim b i<1000000:=Bj br2 hb i
  refine⟨fun x hx=> ?_, ?_⟩
  ·rcases List.mem_append.1 hx with hx|hx
   ·exact h1 x hx
   ·obtain rfl:=List.mem_singleton.1 hx;exact Nat.mod_lt _ (by decide)
  ·show _/1000000≤1;omega
theorem L4 (a b:Nat): ∀i,lv br (Gj (lbs br a) (lbs br b) i).1+br^i*(Gj (lbs br a) (lbs br b) i).2=a%br^i+b%br^i
 |0=>by show 0+br^0*0=_;rw[Nat.pow_zero,Nat.mod_one,Nat.mod_one]
 |i+1=>Nj (LS _ _ i) (L4 a b i) (by rw[Bl br2,Bl br2])
theorem P8 (W:World) (p q:Option Addr) (cap cap2:Nat) (a b:Nat) (hA:Ax W p (lbs br a)) (hB:Ax W q (lbs br b)) (hna:(lbs br a).length≤1000000) (hnb:(lbs br b).length≤1000000):
  Aj Tryz.prog 221 #[slv p (lbs br a).length cap,slv q (lbs br b).length cap2] W (fun x:NV=>B0 x (lbs br (a+b)).length) (fun x=>Cl x (lbs br (a+b))) (fun x=>[BF x (lbs br (a+b))]):=by
 have hla:=Bq br2 a
 have hlb:=Bq br2 b
 have hal:=AK br2 a
 have hbl:=AK br2 b
 obtain⟨na,hna'⟩: ∃n,(lbs br a).length=n:=⟨_,rfl⟩
 obtain⟨nb,hnb'⟩: ∃n,(lbs br b).length=n:=⟨_,rfl⟩
 rw[hna'] at hna hal
 rw[hnb'] at hnb hbl
 obtain⟨M,hM⟩: ∃M,M=max na nb:=⟨_,rfl⟩
 have ham:a<br^M:=Nat.lt_of_lt_of_le hal (Nat.pow_le_pow_right (by decide) (by omega))
 have hbm:b<br^M:=Nat.lt_of_lt_of_le hbl (Nat.pow_le_pow_right (by decide) (by omega))
 refine Ac (args:=[slv p (lbs br a).length cap,slv q (lbs br b).length cap2]) Tryz.func221 I I I ?_
 rw[hna',hnb']
 refine zA (zB (wP I (Aa (zE (zA (zB ?_))))))
 refine E3 tH I I I I I ?_
 intro g
 refine wP I (Aa (zE (zA (zB (wP I (Aa (zE (zA (zA (zB (wP I (Aa (zE ?_)))))))))))))
 refine zH ?_
 refine AA (X:=Nat×NV) (fun x=>[(0,slv p na cap),(1,slv q nb cap2),(5,B0 x.2 x.1),(6, .int .i64 ((Gj (lbs br a) (lbs br b) x.1).2:Nat)),(7, .int .i64 (x.1:Nat))]) (fun x=>[BF x.2 (Gj (lbs br a) (lbs br b) x.1).1])
  (fun x=>x.1≤M+1∧Cl x.2 (Gj (lbs br a) (lbs br b) x.1).1∧(x.1=M+1→(Gj (lbs br a) (lbs br b) (M+1)).2=0)) (fun x=>M+1-x.1) (0,g,0,[]) ⟨Nat.zero_le _,⟨rfl,(fun h=>by cases h),fun _=>⟨Nat.le_refl _,Nat.zero_le _,rfl⟩⟩,fun h=>by have h:0=M+1:=h;omega⟩ ⟨rfl,rfl,rfl,rfl,rfl,trivial⟩ [] rfl ?_
 rintro⟨i,x⟩ ⟨hi,hx,hend⟩
 have hi:i≤M+1:=hi
 have hx:Cl x (Gj (lbs br a) (lbs br b) i).1:=hx
 have hlen:=LS (lbs br a) (lbs br b) i
 obtain⟨hob,hc1⟩:=Sg hla hlb i
 have hval:=L4 a b i
 obtain⟨out,hout⟩: ∃out,(Gj (lbs br a) (lbs br b) i).1=out:=⟨_,rfl⟩
 obtain⟨c,hc⟩: ∃c,(Gj (lbs br a) (lbs br b) i).2=c:=⟨_,rfl⟩
 rw[hout] at hx hlen hob hval
 rw[hc] at hc1 hval
 have eout:BF x (Gj (lbs br a) (lbs br b) i).1=BF x out:=by rw[hout]
 simp only[hc,hout]
 refine A0 (A0 ?_)
 refine AF (X:=Unit) (fun _=>[(0,slv p na cap),(1,slv q nb cap2),(5,B0 x i),(6, .int .i64 (c:Nat)),(7, .int .i64 (i:Nat)),(23, .bool (decide (i<na∨i<nb∨0<c)))]) (fun _=>[BF x out]) (fun _=>True) ?_ ?_
 ·refine zB (wP I (wP I (wP I (wP I ?_))))
  by_cases h1:i<na
  ·refine wU 13 true I (dT (by omega)) (wP I ?_)
   iterate 4 refine An I I ?_
   refine wP I (wP I ?_)
   iterate 2 refine An I I ?_
   exact wP I (Aa (Al () tO ⟨I,I,I,I,I,by rw[dT (Or.inl h1)];rfl,tO⟩ [] I))
  refine wU 13 false I (dF (by omega)) ?_
  iterate 5 refine wP I ?_
  by_cases h2:i<nb
  ·refine wU 18 true I (dT (by omega)) (wP I (wP I ?_))
   iterate 2 refine An I I ?_
   exact wP I (Aa (Al () tO ⟨I,I,I,I,I,by rw[dT (Or.inr (Or.inl h2))];rfl,tO⟩ [] I))
  exact wU 18 false I (dF (by omega)) (wP I (wP I (wP I (wP I (wU 22 (decide (i<na∨i<nb∨0<c)) I (decide_eq_decide.2 (by omega)) (wP I (Aa (Al () tO ⟨I,I,I,I,I,I,tO⟩ [] I))))))))
 intro _ _
 refine Av I (fun hcd=> ?_) (fun hcd=> ?_)
 ·have hcd:i<na∨i<nb∨0<c:=of_decide_eq_true hcd
  have hiM:i≤M:=by
   rcases Nat.lt_or_ge M i with h|h
   ·have h1:i=M+1:=by omega
    have h2:=hend h1
    rw[←h1,hc] at h2
    omega
   ·exact h
  obtain⟨u,hu⟩: ∃u,lim (lbs br a) i=u:=⟨_,rfl⟩
  obtain⟨v,hv⟩: ∃v,lim (lbs br b) i=v:=⟨_,rfl⟩
  have hub:u<1000000:=by rw[←hu];exact Bj br2 hla i
  have hvb:v<1000000:=by rw[←hv];exact Bj br2 hlb i
  have e1:(Gj (lbs br a) (lbs br b) (i+1)).1=out++[(u+v+c)%br]:=by show _++[_]=_;rw[hout,hu,hv,hc]
  have e2:(Gj (lbs br a) (lbs br b) (i+1)).2=(u+v+c)/br:=by show _/_=_;rw[hu,hv,hc]
  refine zI (zE (zA (zH (zA (zB (wP I (wP I (wC I I (fun W' hp=>CZ W' p cap na (lbs br a) i u (hA.hp hp) hna' (by omega) hu) (wP I (wP I (wC I I (fun W' hp=>CZ W' q cap2 nb (lbs br b) i v (hB.hp hp) hnb' (by omega) hv) (wP I (wP I (wP I ?_))))))))))))))
  refine wV 34 ((u+v+c:Nat):Int) I (by show w64 (w64 ((u:Int)+v)+c)=_;rw[AV (by omega),AV (by omega)]) (wP I (Aa (zE (zA (zB (wP I (wP I ?_)))))))
  refine Fx I I I I I (by decide) ?_
  refine AD Tryz.hZ tH I I I I I I I I I I I fun bN=> ?_
  refine Bo (V:=nvV x) (len:=i) (xs:=nI out) 0 1 Tryz.vec130 (i+1) (nI (out++[(u+v+c)%br])) I I I I I I I I I I I (by rw[←hlen];exact hx) I I I (by rw[IG];rfl) (by simp only[maxLen];omega) (by omega) I ?_
  intro g1 c1 j1 hV1
  refine wP I (Aa (zE (zB (wP I ?_))))
  refine D7 I I I I I (by decide) ?_
  refine wV 41 (((u+v+c)/br:Nat):Int) I (BE (show(u+v+c)/1000000<9223372036854775808 by omega)) (wP I (Aa (zN (zE (zB (wP I (wP I (wV 25 ((i+1:Nat):Int) I (Az (by omega)) (wP I (Aa ?_))))))))))
  refine A6 (i+1,g1,c1,j1) ⟨by show i+1≤M+1;omega, ?_,fun h=> ?_⟩ (by show M+1-(i+1)<M+1-i;omega) ⟨I,I,I,by rw[e2];rfl,I,tO⟩ _ (by show _=[BF _ (Gj _ _ (i+1)).1]++_;rw[e1];rfl)
  ·show Cl _ (Gj (lbs br a) (lbs br b) (i+1)).1
   rw[e1]
   show Vec.OK _ 1 (out++[_]).length _
   rw[List.length_append,hlen]
   exact hV1
  ·have h:i+1=M+1:=h
   have h9:=L4 a b (M+1)
   have hp1:br^(M+1)=br^M*br:=Nat.pow_succ ..
   have hp2:br^M*2≤br^M*br:=Nat.mul_le_mul_left _ br2
   rw[Nat.mod_eq_of_lt (by omega),Nat.mod_eq_of_lt (by omega)] at h9
   rcases Nat.eq_zero_or_pos (Gj (lbs br a) (lbs br b) (M+1)).2 with h0|h0
   ·exact h0
   ·have:=Nat.mul_le_mul_left (br^(M+1)) h0
    omega
 ·have hcd: ¬(i<na∨i<nb∨0<c):=of_decide_eq_false hcd
  have ev:lv br out=a+b:=by
   have hc0:c=0:=by omega
   rw[hc0,Nat.mul_zero,Nat.add_zero] at hval
   have h3:br^M≤br^i:=Nat.pow_le_pow_right (by decide) (by omega)
   rw[Nat.mod_eq_of_lt (by omega),Nat.mod_eq_of_lt (by omega)] at hval
   exact hval
  obtain⟨j2,hj1,hj2⟩:=DM hx hob
  rw[ev] at hj1 hj2
  refine zJ (zK (zK (zL (zE (zA (zB (wP I ?_)))))))
  refine Af 42 (slv (some ⟨x.1,0,none⟩) out.length x.2.1) I (by rw[hlen]) ?_
  exact wC I I (fun W' hp=>C8 W' (some ⟨x.1,0,none⟩) x.2.1 out (Ax.of_bx hp 0 I) hob (by have:=(hx.cap (by simp)).1;exact this) (by omega)) (wP I (Aa (zE (zO (Au tH I (.tmp I) ((x.1,x.2.1,j2):NV) (by rw[ev]) hj1 fun W hp=>As.of_hp1 hp 0 (by show some (⟨x.1,3,nI out++x.2.2,true,none⟩:Bx)=some ⟨x.1,3,nI (lbs br (a+b))++j2,true,none⟩;rw[hj2]))))))
-- BOXES 4
-- CODE2
def H6 (x y c:Nat):Nat×Nat:=if y+c≤x then(x-y-c,0) else(x+br-y-c,1)
theorem Su {x y c:Nat} (hx:x<br) (hy:y<br) (hc:c≤1):(H6 x y c).1<br∧(H6 x y c).2≤1∧(H6 x y c).1+y+c=x+br*(H6 x y c).2:=by
 have hx:x<1000000:=hx
 have hy:y<1000000:=hy
 unfold H6
 split
 ·exact⟨by show x-y-c<1000000;omega,Nat.zero_le _,by show x-y-c+y+c=x+1000000*0;omega⟩
 ·exact⟨by show x+1000000-y-c<1000000;omega,Nat.le_refl _,by show x+1000000-y-c+y+c=x+1000000*1;omega⟩
def Hl (a b:List Nat):Nat→List Nat×Nat
 |0=>([],0)
 |i+1=>((Hl a b i).1++[(H6 (lim a i) (lim b i) (Hl a b i).2).1],(H6 (lim a i) (lim b i) (Hl a b i).2).2)
theorem LV (a b:List Nat): ∀i,(Hl a b i).1.length=i
 |0=>rfl
 |i+1=>by show(_++[_]).length=_;rw[List.length_append,LV a b i];rfl
theorem Ov {a b:List Nat} (ha: ∀x∈a,x<br) (hb: ∀x∈b,x<br): ∀i,(∀x∈(Hl a b i).1,x<br)∧(Hl a b i).2≤1
 |0=>⟨fun x h=>(by cases h),Nat.zero_le _⟩
 |i+1=>by
  obtain⟨h1,h2⟩:=Ov ha hb i
  obtain⟨h3,h4,_⟩:=Su (Bj br2 ha i) (Bj br2 hb i) h2
  refine⟨fun x hx=> ?_,h4⟩
  rcases List.mem_append.1 hx with hx|hx
  ·exact h1 x hx
  ·obtain rfl:=List.mem_singleton.1 hx;exact h3
theorem Ph (a b:Nat): ∀i,lv br (Hl (lbs br a) (lbs br b) i).1+b%br^i=a%br^i+br^i*(Hl (lbs br a) (lbs br b) i).2
 |0=>by show 0+_=_+br^0*0;rw[Nat.pow_zero,Nat.mod_one,Nat.mod_one]
 |i+1=>by
  have hc:=(Ov (Bq br2 a) (Bq br2 b) i).2
  exact LJ (LV _ _ i) (Ph a b i) (by rw[←Bl br2 b i, ←Bl br2 a i];exact(Su (Bj br2 (Bq br2 a) i) (Bj br2 (Bq br2 b) i) hc).2.2)
theorem Fk (W:World) (p q:Option Addr) (cap cap2:Nat) (a b:Nat) (hba:b≤a) (hA:Ax W p (lbs br a)) (hB:Ax W q (lbs br b)) (hna:(lbs br a).length≤1000000):
  Aj Tryz.prog 196 #[slv p (lbs br a).length cap,slv q (lbs br b).length cap2] W (fun x:NV=>B0 x (lbs br (a-b)).length) (fun x=>Cl x (lbs br (a-b))) (fun x=>[BF x (lbs br (a-b))]):=by
 have hla:=Bq br2 a
 have hlb:=Bq br2 b
 have hal:=AK br2 a
 obtain⟨na,hna'⟩: ∃n,(lbs br a).length=n:=⟨_,rfl⟩
 obtain⟨nb,hnb'⟩: ∃n,(lbs br b).length=n:=⟨_,rfl⟩
 rw[hna'] at hna hal
 refine Ac (args:=[slv p (lbs br a).length cap,slv q (lbs br b).length cap2]) Tryz.func196 I I I ?_
 rw[hna',hnb']
 refine zA (zB (wP I (Aa (zE (zA (zB ?_))))))
 refine E3 tH I I I I I ?_
 intro g
 refine wP I (Aa (zE (zA (zB (wP I (Aa (zE (zA (zA (zB (wP I (Aa (zE ?_)))))))))))))
 refine zH ?_
 refine AA (X:=Nat×NV) (fun x=>[(0,slv p na cap),(1,slv q nb cap2),(5,B0 x.2 x.1),(6, .int .i64 ((Hl (lbs br a) (lbs br b) x.1).2:Nat)),(7, .int .i64 (x.1:Nat))]) (fun x=>[BF x.2 (Hl (lbs br a) (lbs br b) x.1).1])
  (fun x=>x.1≤na∧Cl x.2 (Hl (lbs br a) (lbs br b) x.1).1) (fun x=>na-x.1) (0,g,0,[]) ⟨Nat.zero_le _,⟨rfl,(fun h=>by cases h),fun _=>⟨Nat.le_refl _,Nat.zero_le _,rfl⟩⟩⟩ ⟨rfl,rfl,rfl,rfl,rfl,trivial⟩ [] rfl ?_
 rintro⟨i,x⟩ ⟨hi,hx⟩
 have hi:i≤na:=hi
 have hx:Cl x (Hl (lbs br a) (lbs br b) i).1:=hx
 have hlen:=LV (lbs br a) (lbs br b) i
 obtain⟨hob,hc1⟩:=Ov hla hlb i
 have hval:=Ph a b i
 obtain⟨out,hout⟩: ∃out,(Hl (lbs br a) (lbs br b) i).1=out:=⟨_,rfl⟩
 obtain⟨c,hc⟩: ∃c,(Hl (lbs br a) (lbs br b) i).2=c:=⟨_,rfl⟩
 rw[hout] at hx hlen hob hval
 rw[hc] at hc1 hval
 simp only[hc,hout]
 refine zA (zA (zB (wP I (wP I (wP I (wP I ?_))))))
 by_cases h1:i<na
 ·refine wU 13 true I (dT (by omega)) (Aa (zE (zR I (zI (zE (zA (zH (zA (zU ?_)))))))))
  obtain⟨u,hu⟩: ∃u,lim (lbs br a) i=u:=⟨_,rfl⟩
  obtain⟨v,hv⟩: ∃v,lim (lbs br b) i=v:=⟨_,rfl⟩
  have hub:u<1000000:=by rw[←hu];exact Bj br2 hla i
  have hvb:v<1000000:=by rw[←hv];exact Bj br2 hlb i
  obtain⟨b1,o1,rfl,r1⟩:=hA.row (show i<(lbs br a).length by omega)
  have r1:=r1 i (by omega)
  rw[hu] at r1
  have e1:(Hl (lbs br a) (lbs br b) (i+1)).1=out++[(H6 u v c).1]:=by show _++[_]=_;rw[hout,hu,hv,hc]
  have e2:(Hl (lbs br a) (lbs br b) (i+1)).2=(H6 u v c).2:=by show(H6 _ _ _).2=_;rw[hu,hv,hc]
  refine qP I (qP I ?_)
  refine qJ ?_
  refine qL 0 I I (fun W hp=>r1.hp hp) I (qP I (qP I (qC I I (fun W' hp=>CZ W' q cap2 nb (lbs br b) i v (hB.hp hp) hnb' (by omega) hv) (qP I (qP I (qP I (qV 25 ((u:Int)-v-c) I (by show w64 (w64 ((u:Int)-v)-c)=_;rw[Ap (x:=(u:Int)-v) (by omega) (by omega),Ap (by omega) (by omega)]) (qP I (AU (Aa (zE (zA (zB ?_)))))))))))))
  refine wP I (Aa (AH (A0 (A0 (zB (wP I (wP I ?_)))))))
  refine Af 27 (.bool (decide ((u:Int)-v-c<0))) I I ?_
  refine Aa (AH ?_)
  try refine A0 ?_
  refine AF (X:=Unit) (fun _=>[(0,slv (some ⟨b1,o1,none⟩) na cap),(1,slv q nb cap2),(5,B0 x i),(6, .int .i64 ((H6 u v c).2:Nat)),(7, .int .i64 (i:Nat)),(8, .int .i64 ((H6 u v c).1:Nat))]) (fun _=>[BF x out]) (fun _=>True) ?_ ?_
  ·refine Av I (fun hn=> ?_) (fun hn=> ?_)
   ·have hn:(u:Int)-v-c<0:=of_decide_eq_true hn
    have em:H6 u v c=(u+br-v-c,1):=by unfold H6;rw[if_neg (by omega)]
    exact zA (zB (wP I (wP I (wV 29 ((u+br-v-c:Nat):Int) I (by show w64 (((u:Int)-v-c)+((1000000:Nat):Int))=_;rw[Ap (by omega) (by omega)];show _=((u+1000000-v-c:Nat):Int);omega) (wP I (Aa (zE (zB (wP I (Aa (Al () tO ⟨I,I,I,by rw[em];rfl,I,by rw[em];rfl,tO⟩ [] I)))))))))))
   ·have hn: ¬(u:Int)-v-c<0:=of_decide_eq_false hn
    have em:H6 u v c=(u-v-c,0):=by unfold H6;rw[if_pos (by omega)]
    exact zI (Al () tO ⟨I,I,I,by rw[em];rfl,I,by rw[em];exact congrArg (fun z=>some (Value.int .i64 z)) (by show(u:Int)-v-c=((u-v-c:Nat):Int);omega),tO⟩ [] I)
  intro _ _
  refine zB (wP I (wP I ?_))
  refine AD Tryz.hZ tH I I I I I I I I I I I fun bN=> ?_
  refine Bo (V:=nvV x) (len:=i) (xs:=nI out) 0 1 Tryz.vec130 (i+1) (nI (out++[(H6 u v c).1])) I I I I I I I I I I I (by rw[←hlen];exact hx) I I I (by rw[IG];rfl) (by simp only[maxLen];omega) (by omega) I ?_
  intro g1 c1 j1 hV1
  refine wP I (Aa (zN (zE (zB (wP I (wP I (wV 15 ((i+1:Nat):Int) I (Az (by omega)) (wP I (Aa ?_)))))))))
  refine A6 (i+1,g1,c1,j1) ⟨h1, ?_⟩ (by show na-(i+1)<na-i;omega) ⟨I,I,I,by rw[e2];rfl,I,tO⟩ _ (by show _=[BF _ (Hl _ _ (i+1)).1]++_;rw[e1];rfl)
  show Cl _ (Hl (lbs br a) (lbs br b) (i+1)).1
  rw[e1]
  show Vec.OK _ 1 (out++[_]).length _
  rw[List.length_append,hlen]
  exact hV1
 ·have e:i=na:=by omega
  subst e
  have ev:lv br out=a-b:=Nn br2 hlen hob hval hal hba
  obtain⟨j2,hj1,hj2⟩:=DM hx hob
  rw[ev] at hj1 hj2
  refine wU 13 false I (dF (by omega)) (Aa (zE (zS I (zJ (zK (zK (zL (zE (zA (zB (wP I ?_)))))))))))
  refine Af 34 (slv (some ⟨x.1,0,none⟩) out.length x.2.1) I (by rw[hlen]) ?_
  exact wC I I (fun W' hp=>C8 W' (some ⟨x.1,0,none⟩) x.2.1 out (Ax.of_bx hp 0 I) hob (by have:=(hx.cap (by simp)).1;exact this) (by omega)) (wP I (Aa (zE (zO (Au tH I (.tmp I) ((x.1,x.2.1,j2):NV) (by rw[ev]) hj1 fun W hp=>As.of_hp1 hp 0 (by show some (⟨x.1,3,nI out++x.2.2,true,none⟩:Bx)=some ⟨x.1,3,nI (lbs br (a-b))++j2,true,none⟩;rw[hj2]))))))
-- BOXES 4
-- CODE2
theorem TV {x y:Nat} (hx:x<br) (hy:y<br):x*y≤999998000001:=(Nat.mul_le_mul (Nat.le_of_lt_succ hx) (Nat.le_of_lt_succ hy):x*y≤999999*999999)
theorem Iu (W:World) (p q:Option Addr) (cap cap2:Nat) (a:Nat) (lb:List Nat) (hlb: ∀x∈lb,x<br) (hA:Ax W p (lbs br a)) (hB:Ax W q lb) (hna:(lbs br a).length≤1000000) (hnb:lb.length≤1000000):
  Aj Tryz.prog 197 #[slv p (lbs br a).length cap,slv q lb.length cap2] W (fun x:NV=>B0 x (lbs br (a*lv br lb)).length) (fun x=>Cl x (lbs br (a*lv br lb))) (fun x=>[BF x (lbs br (a*lv br lb))]):=by
 have hla:=Bq br2 a
 have hal:=AK br2 a
 have hbl:=F0 br2 hlb
 obtain⟨b,hbv⟩: ∃b,lv br lb=b:=⟨_,rfl⟩
 rw[hbv] at hbl⊢
 obtain⟨na,hna'⟩: ∃n,(lbs br a).length=n:=⟨_,rfl⟩
 obtain⟨nb,hnb'⟩: ∃n,lb.length=n:=⟨_,rfl⟩
 obtain⟨M,hM⟩: ∃M,M=na+nb+1:=⟨_,rfl⟩
 rw[hna'] at hna hal
 rw[hnb'] at hnb hbl
 refine Ac (args:=[slv p (lbs br a).length cap,slv q lb.length cap2]) Tryz.func197 I I I ?_
 rw[hna',hnb']
 refine zA (zB (wP I (Aa (zE (zA (zB ?_))))))
 iterate 6 refine wP I ?_
 refine wV 15 (M:Nat) I (by show w64 (w64 ((na:Int)+nb)+1)=_;rw[AV (by omega),Az (by omega),hM]) ?_
 refine Cb Tryz.vec130 M I I I I I I I (by simp only[maxLen];omega) (by omega) ?_
 intro g
 have ez:BW (Value.cells (.int .i64 0)).toList M=nI (List.replicate M 0)++[]:=by rw[List.append_nil];exact FF M
 rw[ez]
 refine wP I (Aa (zE (zA (zA (zB (wP I (Aa (zE (zH ?_)))))))))
 refine AA (X:=Nat×List Nat) (fun x=>[(0,slv p na cap),(1,slv q nb cap2),(5,slv (some ⟨g,0,none⟩) M M),(6, .int .i64 (x.1:Nat))]) (fun x=>[⟨g,3,nI x.2++[],true,none⟩])
  (fun x=>x.1≤na∧x.2.length=M∧(∀y∈x.2,y<br)∧lv br x.2=a%br^x.1*b) (fun x=>na-x.1) (0,List.replicate M 0) ⟨Nat.zero_le _,List.length_replicate,fun y hy=>by rw[List.eq_of_mem_replicate hy];decide,by rw[EL];show 0=a%br^0*b;rw[Nat.pow_zero,Nat.mod_one,Nat.zero_mul]⟩ ⟨rfl,rfl,rfl,rfl,trivial⟩ [] rfl ?_
 rintro⟨i,out⟩ ⟨hi,hlen,hob,hov⟩
 have hi:i≤na:=hi
 have hlen:out.length=M:=hlen
 refine zA (zA (zB (wP I (wP I (wP I (wP I ?_))))))
 by_cases hi':i<na
 ·refine wU 20 true I (dT (by omega)) (Aa (zE (zR I (zI (zE (zA (zH (zA (zB ?_)))))))))
  obtain⟨pb,po,rfl,hrow⟩:=hA.row (show i<(lbs br a).length by omega)
  obtain⟨x,hx⟩: ∃x,lim (lbs br a) i=x:=⟨_,rfl⟩
  have hrx: ∀W' bx,Hp W bx W'→Ak W' pb (po+i*1) [.int .i64 (x:Nat)]:=fun W' bx hp=>by
   have:=(hrow i (by omega)).hp hp
   rwa [hx] at this
  have hxb:x<br:=by rw[←hx];exact Bj br2 hla i
  have hxe:x=a/br^i%br:=by rw[←hx];exact Bl br2 a i
  refine wP I (Aa (zE (zA (zB (wP I (Aa (zE (zH ?_))))))))
  refine AA (X:=Nat×List Nat×Nat) (fun x'=>[(0,slv (some ⟨pb,po,none⟩) na cap),(1,slv q nb cap2),(5,slv (some ⟨g,0,none⟩) M M),(6, .int .i64 (i:Nat)),(7, .int .i64 (x'.2.2:Nat)),(8, .int .i64 (x'.1:Nat))]) (fun x'=>[⟨g,3,nI x'.2.1++[],true,none⟩])
   (fun x'=>x'.1≤nb+1∧x'.2.1.length=M∧(∀y∈x'.2.1,y<br)∧x'.2.2<br∧lv br x'.2.1+br^(i+x'.1)*x'.2.2=lv br out+br^i*(x*(b%br^x'.1))) (fun x'=>nb+1-x'.1) (0,out,0) ⟨Nat.zero_le _,hlen,hob,show 0<br by decide,by show lv br out+br^(i+0)*0=lv br out+br^i*(x*(b%br^0));rw[Nat.pow_zero,Nat.mod_one];simp⟩ ⟨rfl,rfl,rfl,rfl,rfl,rfl,trivial⟩ [] rfl ?_
  rintro⟨k,u,c⟩ ⟨hk,hul,hub,hcb,huv⟩
  have hk:k≤nb+1:=hk
  have hul:u.length=M:=hul
  have hcb:c<1000000:=hcb
  have huv:lv br u+br^(i+k)*c=lv br out+br^i*(x*(b%br^k)):=huv
  have hlast:k=nb+1→c=0:=fun e=>by
   subst e
   exact(MM br2 huv hbl hxb (by rw[hov];exact Kp br2 hbl)).2
  refine A0 (A0 ?_)
  refine AF (X:=Unit) (fun _=>[(0,slv (some ⟨pb,po,none⟩) na cap),(1,slv q nb cap2),(5,slv (some ⟨g,0,none⟩) M M),(6, .int .i64 (i:Nat)),(7, .int .i64 (c:Nat)),(8, .int .i64 (k:Nat)),(30, .bool (decide (k<nb∨0<c)))]) (fun _=>[⟨g,3,nI u++[],true,none⟩]) (fun _=>True) ?_ ?_
  ·refine zB (wP I (wP I (wP I (wP I ?_))))
   by_cases h1:k<nb
   ·refine wU 26 true I (dT (by omega)) (wP I ?_)
    iterate 2 refine An I I ?_
    exact wP I (Aa (Al () tO ⟨I,I,I,I,I,I,by rw[dT (Or.inl h1)];rfl,tO⟩ [] I))
   ·exact wU 26 false I (dF (by omega)) (wP I (wP I (wP I (wU 29 (decide (k<nb∨0<c)) I (decide_eq_decide.2 (by show((c:Nat):Int)>0↔(k<nb∨0<c);omega)) (wP I (Aa (Al () tO ⟨I,I,I,I,I,I,I,tO⟩ [] I)))))))
  intro _ _
  refine Av I (fun hc=> ?_) (fun hc=> ?_)
  ·have hc:k<nb∨0<c:=of_decide_eq_true hc
   have hk':k<nb+1:=by
    rcases Nat.lt_or_ge k (nb+1) with h|h
    ·exact h
    ·have:=hlast (by omega);omega
   have hik:i+k<u.length:=by rw[hul];omega
   obtain⟨o,ho⟩: ∃o,lim u (i+k)=o:=⟨_,rfl⟩
   obtain⟨y,hy⟩: ∃y,lim lb k=y:=⟨_,rfl⟩
   have hob':o<br:=by rw[←ho];exact Bj br2 hub _
   have hyb:y<br:=by rw[←hy];exact Bj br2 hlb _
   have hou:u[i+k]? =some o:=by rw[Dz hik,ho]
   obtain⟨n,hn⟩: ∃n,n=o+x*y+c:=⟨_,rfl⟩
   have hnb2:=Ku hxb hyb hob' hcb hn
   have hn63:n<1000000000000:=hnb2.2
   have hxy:=TV hxb hyb
   have hyy:=hy
   rw[Cv br2 k hlb,hbv] at hyy
   have hstep:=IM (n:=n) hou huv (by rw[hn,hyy])
   have hrx':=hrx
   refine zI (zE (zA (zH (zA (zU (qP I (qP I (qP I (qP I (qV 36 ((i+k:Nat):Int) I (AV (by omega)) ?_))))))))))
   refine qJ ?_
   refine qL 0 I I (fun W' hp=>Ak.of_intsX hp 0 I hik ho) I (qP I (qP I ?_))
   refine qJ ?_
   refine qL 0 I I (fun W' hp=>hrx W' _ hp) I (qP I (qP I (qC I I (fun W' hp=>CZ W' q cap2 nb lb k y (hB.hp hp) hnb' (by omega) hy) (qP I (qP I (qP I (qP I (qV 49 (n:Nat) I (by show w64 (w64 ((o:Int)+w64 ((x:Int)*y))+c)=_;rw[Cm (by omega),AV (by omega),AV (by omega),hn]) (qP I (AU (Aa (zE (zA ?_)))))))))))))
   refine zB (wP I (wP I (wP I (wP I (wV 53 ((i+k:Nat):Int) I (AV (by omega)) (wP I ?_))))))
   refine Fx I I I I I (by decide) ?_
   refine wJ ?_
   refine Aw 0 (nI (u.set (i+k) (n%br))++[]) tH I I I I I I I I I I (by show 0+(i+k)*1+1≤(nI u++[]).length;rw[List.append_nil,BA];omega) (C1 hik (n%br)) ?_
   refine Aa (zE (zB (wP I ?_)))
   refine D7 I I I I I (by decide) ?_
   exact wV 58 ((n/br:Nat):Int) I (BE (show n/1000000<9223372036854775808 by omega)) (wP I (Aa (zN (zE (zB (wP I (wP I (wV 32 ((k+1:Nat):Int) I (Az (by omega)) (wP I (Aa (A6 (k+1,u.set (i+k) (n%br),n/br) ⟨hk',by rw[List.length_set];exact hul,CB hub (Nat.mod_lt _ (by decide)),hnb2.1,hstep⟩ (by show nb+1-(k+1)<nb+1-k;omega) ⟨I,I,I,I,I,I,tO⟩ [] I)))))))))))
  ·have hc: ¬(k<nb∨0<c):=of_decide_eq_false hc
   have hc0:c=0:=by omega
   have h1:lv br u=lv br out+br^i*(x*b):=by
    rw[hc0,Nat.mul_zero,Nat.add_zero] at huv
    have h3:br^nb≤br^k:=Nat.pow_le_pow_right (by decide) (by omega)
    rw[Nat.mod_eq_of_lt (show b<br^k by omega)] at huv
    exact huv
   have h2:=LH (a:=a) (b:=b) (i:=i) hov
   rw[←hxe, ←h1] at h2
   exact zJ (zK (zK (zL (zN (zE (zB (wP I (wP I (wV 22 ((i+1:Nat):Int) I (Az (by omega)) (wP I (Aa (A6 (i+1,u) ⟨hi',hul,hub,h2⟩ (by show na-(i+1)<na-i;omega) ⟨I,I,I,I,tO⟩ [] I))))))))))))
 ·have hi':i=na:=by omega
  subst hi'
  rw[Nat.mod_eq_of_lt hal] at hov
  refine wU 20 false I (dF (by omega)) (Aa (zE (zS I (zJ (zK (zK (zL (zE (zA (zB ?_))))))))))
  have hV0:(⟨some g,M,[]⟩:Vec).OK 1 out.length (nI out):=⟨EA _,(fun h=>by cases h),fun _=>⟨by show _≤M;omega,by show M≤maxLen;simp only[maxLen];omega,by show(nI out).length+0=M*1;rw[BA];omega⟩⟩
  obtain⟨j',hV2,he⟩:=DM hV0 hob
  refine wP I ?_
  refine Af 59 (slv (some ⟨g,0,none⟩) out.length M) I (by rw[hlen]) ?_
  refine wC I I (fun W hp=>C8 W _ M _ (Ax.of_bx hp 0 I) hob (by omega) (by omega)) (wP I (Aa (zE (zO ?_))))
  rw[hov] at hV2 he
  exact Au tH I (.tmp I) ((g,M,j'):NV) (by rw[hov]) hV2 fun W hp=>As.of_hp1 hp 0 (by show some (⟨g,3,nI out++[],true,none⟩:Bx)=some ⟨g,3,nI (lbs br (a*b))++j',true,none⟩;rw[he])
theorem IR (W:World) (p q:Option Addr) (cap cap2:Nat) (a b:Nat) (hA:Ax W p (lbs br a)) (hB:Ax W q (lbs br b)) (hna:(lbs br a).length≤1000000) (hnb:(lbs br b).length≤1000000):
  Aj Tryz.prog 197 #[slv p (lbs br a).length cap,slv q (lbs br b).length cap2] W (fun x:NV=>B0 x (lbs br (a*b)).length) (fun x=>Cl x (lbs br (a*b))) (fun x=>[BF x (lbs br (a*b))]):=by
 have h:=Iu W p q cap cap2 a (lbs br b) (Bq br2 b) hA hB hna hnb
 rwa [Ka br2] at h
-- BOXES 2
-- CODE2
def Gu (z:Int):List UInt8:=if z<0 then[45] else[]
theorem BL (z:Int):itoa z=Gu z++decDigits z.natAbs:=by
 unfold itoa Gu
 split
 ·rfl
 ·rw[show z.toNat=z.natAbs by omega];rfl
theorem KP (z:Int):(Gu z).length≤1:=by unfold Gu;split<;>decide
theorem EN (z:Int): ∃c,(itoa z)[0]? =some c∧decide (c=45)=decide (z<0):=by
 have h:=Kr z
 rw[Bw] at h
 cases e:itoa z with
 |nil=>
  rw[BL] at e
  exact absurd (List.append_eq_nil_iff.1 e).2 (FH _)
 |cons c t=>
  rw[e] at h
  exact⟨c,I,by rw[←h];exact decide_eq_decide.2 (by simp)⟩
theorem Q8 {n:Nat} (h:(decDigits n)[0]? =some 48):n=0:=by
 rcases Nat.eq_zero_or_pos n with h0|h0
 ·exact h0
 ·obtain⟨b,r,h1,h2⟩:=KD n (by omega)
  rw[h1] at h
  have h:b=48:=by simpa using h
  rw[h] at h2;exact absurd rfl h2
theorem Fh (z:Int) (hl:(decDigits z.natAbs).length≤300):By Tryz.prog 191 [str (itoa z)] (.int .i64 0):=by
 intro W
 obtain⟨s,hs⟩: ∃s,s=itoa z:=⟨_,rfl⟩
 obtain⟨dd,hdd⟩: ∃dd,dd=decDigits z.natAbs:=⟨_,rfl⟩
 obtain⟨f,hf⟩: ∃f,f=(Gu z).length:=⟨_,rfl⟩
 have hss:s=Gu z++dd:=by rw[hs,hdd];exact BL z
 have hf1:f≤1:=hf▸KP z
 have hsl:s.length=f+dd.length:=by rw[hss,List.length_append,hf]
 have hd0:0<dd.length:=by rw[hdd];exact List.length_pos_iff.2 (FH _)
 have hget: ∀i,f≤i→s[i]? =dd[i-f]? :=fun i hi=>by rw[hss,List.getElem?_append_right (by omega),hf]
 obtain⟨c0,hc0,hc45⟩:=EN z
 rw[←hs] at hc0⊢
 rw[←hdd] at hl
 have hdg: ∀b∈dd,DG b=true:=by rw[hdd];exact(ET _).all
 refine Ac Tryz.func191 I I I ?_
 refine zA (zB (wP I (Aa (zE (zA (zB (wP I (Aa (zE (zA (zA (zB (wP I (wP I ?_))))))))))))))
 refine Af 6 (.int .i64 (s.length:Nat)) I (congrArg (fun n:Nat=>Value.int .i64 (n:Int)) (A4 s)) ?_
 refine wP I (wU 7 true I (dT (by omega)) (wP I (wP I ?_)))
 refine AZ 0 tH I I I I I I I I hc0 ?_
 refine wP I (wU 11 (decide (z<0)) I ((Du c0 45).trans hc45) (wP I (Aa (AH ?_))))
 try refine A0 ?_
 refine AF (X:=Unit) (fun _=>[(0,str s),(3, .int .i64 (f:Nat))]) (fun _=>[]) (fun _=>True) ?_ ?_
 ·refine Av I (fun h=> ?_) (fun h=> ?_)
  ·have h:z<0:=of_decide_eq_true h
   exact zB (wP I (Aa (Al () tO ⟨I,by rw[hf];unfold Gu;rw[if_pos h];rfl,tO⟩ [] I)))
  ·have h: ¬z<0:=of_decide_eq_false h
   exact zI (Al () tO ⟨I,by rw[hf];unfold Gu;rw[if_neg h];rfl,tO⟩ [] I)
 intro _ _
 refine A0 (A0 ?_)
 refine AF (X:=Unit) (fun _=>[(0,str s),(3, .int .i64 (f:Nat)),(27, .bool false)]) (fun _=>[]) (fun _=>True) ?_ ?_
 ·refine zB (wP I (wP I (wP I ?_)))
  refine Af 15 (.int .i64 (s.length:Nat)) I (congrArg (fun n:Nat=>Value.int .i64 (n:Int)) (A4 s)) ?_
  refine wP I (wU 16 false I (by rw[beq_eq_false_iff_ne];omega) ?_)
  obtain⟨b,hb⟩: ∃b,dd[0]? =some b:=⟨dd[0],List.getElem?_eq_getElem hd0⟩
  have hsb:s[f]? =some b:=by rw[hget f (Nat.le_refl _),Nat.sub_self];exact hb
  refine wP I (wP I (wP I ?_))
  refine AZ f tH I I I I I I I I hsb ?_
  refine wP I ?_
  by_cases h48:b=48
  ·rw[h48,hdd] at hb
   have h0:=Q8 hb
   have hz:z=0:=by omega
   have hs1:s.length=1:=by rw[hs,hz,Ce];rfl
   refine wU 21 true I ((Du b 48).trans (dT h48)) (wP I (wP I (wP I ?_)))
   refine Af 24 (.int .i64 (s.length:Nat)) I (congrArg (fun n:Nat=>Value.int .i64 (n:Int)) (A4 s)) ?_
   exact wP I (wU 25 false I (dF (by omega)) (wP I (wP I (Aa (Al () tO ⟨I,I,I,tO⟩ [] I)))))
  ·refine wU 21 false I ((Du b 48).trans (dF h48)) (wP I ?_)
   iterate 3 refine An I I ?_
   exact wP I (wP I (Aa (Al () tO ⟨I,I,I,tO⟩ [] I)))
 intro _ _
 refine zS I (zI (zE (zA (zA (zB (wP I (wP I (Aa (zE (zH ?_))))))))))
 refine AA (X:=Nat) (fun i=>[(0,str s),(3, .int .i64 (f:Nat)),(4, .int .i64 (i:Nat))]) (fun _=>[]) (fun i=>i≤s.length∧f≤i) (fun i=>s.length-i) f ⟨by omega,Nat.le_refl _⟩ ⟨I,I,I,tO⟩ [] I ?_
 rintro i ⟨hi,hfi⟩
 have hi:i≤s.length:=hi
 have hfi:f≤i:=hfi
 refine zA (zA (zB (wP I (wP I (wP I ?_)))))
 refine Af 31 (.int .i64 (s.length:Nat)) I (congrArg (fun n:Nat=>Value.int .i64 (n:Int)) (A4 s)) ?_
 refine wP I ?_
 by_cases hlt:i<s.length
 ·refine wU 32 true I (dT (by omega)) (Aa (zE (zR I (zI (zE (zA (zH (zA (zB ?_)))))))))
  obtain⟨b,hb⟩: ∃b,dd[i-f]? =some b:=⟨dd[i-f]'(by omega),List.getElem?_eq_getElem (by omega)⟩
  have hsb:s[i]? =some b:=by rw[hget i hfi];exact hb
  have hbd:=C0.1 (hdg b (List.mem_of_getElem? hb))
  refine wP I (wP I ?_)
  refine AZ i tH I I I I I I I I hsb ?_
  refine wP I (wU 38 false I ((Sy b).trans (dF (by omega))) (wP I (wP I (wP I ?_))))
  refine AZ i tH I I I I I I I I hsb ?_
  refine wP I (wU 43 false I ((RR b).trans (dF (by omega))) (wP I (Aa (zE (zS I (zI (zN (zE (zB (wP I (wP I (wV 34 ((i+1:Nat):Int) I (Az (by omega)) (wP I ?_)))))))))))))
  exact Aa (A6 (i+1) ⟨hlt,by show f≤i+1;omega⟩ (by show s.length-(i+1)<s.length-i;omega) ⟨I,I,I,tO⟩ [] I)
 ·refine wU 32 false I (dF (by omega)) (Aa (zE (zS I (zJ (zK (zK (zL (zE (zA (zA (zB (wP I (wP I ?_)))))))))))))
  refine Af 46 (.int .i64 (s.length:Nat)) I (congrArg (fun n:Nat=>Value.int .i64 (n:Int)) (A4 s)) ?_
  refine wP I (wP I (wV 48 (dd.length:Nat) I (by show w64 ((s.length:Int)-f)=_;rw[Ap (by omega) (by omega)];omega) (wP I (wU 49 false I (dF (by omega)) (Aa (zE (zS I (zI (zE (zA (zB (wP I (Aa ?_)))))))))))))
  exact zE (zO (wR1 I I I))
theorem De (a b:Int) (ha:(decDigits a.natAbs).length≤300) (hb:(decDigits b.natAbs).length≤300):By Tryz.prog 141 [str (itoa a),str (itoa b)] (.int .i64 0):=by
 intro W
 refine Ac Tryz.func141 I I I ?_
 refine zA (zB (wP I (Aa (zE (zA (zA (zB (wP I (wC I I (fun W _=>Fh a ha W) (wP I (Aa (zE (zA ?_)))))))))))))
 refine zB (wP I (wP I (Aa (zE (zS I (zI (zE (zA (zB (wP I (wC I I (fun W _=>Fh b hb W) (wP I (Aa ?_)))))))))))))
 exact zE (zO (wR1 I I I))
def smI (z:Int):Bool:=decide ((itoa z).length≤17)
theorem H5 {z:Int} (h:smI z=true):z.natAbs<100000000000000000:=by
 have h:(itoa z).length≤17:=of_decide_eq_true h
 rw[BL,List.length_append] at h
 exact Nat.lt_of_lt_of_le (CP _) (show _≤10^17 from Nat.pow_le_pow_right (by decide) (by omega))
theorem IS (z:Int) (hl:(itoa z).length<4611686018427387904):By Tryz.prog 192 [str (itoa z)] (.tuple #[.int .i64 (if smI z=true then z else 0), .bool (smI z)]):=by
 intro W
 obtain⟨s,hs⟩: ∃s,s=itoa z:=⟨_,rfl⟩
 obtain⟨dd,hdd⟩: ∃dd,dd=decDigits z.natAbs:=⟨_,rfl⟩
 obtain⟨f,hf⟩: ∃f,f=(Gu z).length:=⟨_,rfl⟩
 have hss:s=Gu z++dd:=by rw[hs,hdd];exact BL z
 have hf1:f≤1:=hf▸KP z
 have hsl:s.length=f+dd.length:=by rw[hss,List.length_append,hf]
 have hd0:0<dd.length:=by rw[hdd];exact List.length_pos_iff.2 (FH _)
 have hget: ∀i,f≤i→s[i]? =dd[i-f]? :=fun i hi=>by rw[hss,List.getElem?_append_right (by omega),hf]
 have hneg: ∀i,i<f→s[i]? =some 45:=fun i hi=>by
  have h0:i=0:=by omega
  subst h0
  rw[hss]
  unfold Gu at hf⊢
  split
  ·rfl
  ·rename_i h;rw[if_neg h] at hf;simp at hf;omega
 obtain⟨c0,hc0,hc45⟩:=EN z
 have hsm:smI z=decide (s.length≤17):=by rw[hs];rfl
 rw[←hs] at hc0 hl⊢
 have hdg: ∀b∈dd,DG b=true:=by rw[hdd];exact(ET _).all
 refine Ac Tryz.func192 I I I ?_
 refine zA (zB (wP I (wP I (Aa (zE (zA (zA (zB (wP I (wP I ?_))))))))))
 refine Af 7 (.int .i64 (s.length:Nat)) I (congrArg (fun n:Nat=>Value.int .i64 (n:Int)) (A4 s)) ?_
 refine wP I ?_
 by_cases h17:s.length≤17
 rotate_left
 ·exact wU 8 true I (dT (by show((s.length:Nat):Int)>17;omega)) (Aa (zE (zR I (zA (zB (wP I (wP I (Aa (zE (zO (zP (wR2 I I (by rw[hsm,dF h17];rfl)))))))))))))
 have hlt: ∀i,AR (dd.take i)<100000000000000000:=fun i=>by
  have h1:=FK (dd.take i).length (s:=dd.take i) rfl fun b hb=>hdg b (List.mem_of_mem_take hb)
  have h2:(dd.take i).length≤17:=by rw[List.length_take];omega
  exact Nat.lt_of_lt_of_le h1 (show _≤10^17 from Nat.pow_le_pow_right (by decide) h2)
 refine wU 8 false I (dF (by show¬((s.length:Nat):Int)>17;omega)) (Aa (zE (zS I (zI (zE (zA (zB (wP I (Aa (zE (zA (zA (zB ?_)))))))))))))
 refine wP I (Aa (zE (zH ?_)))
 refine AA (X:=Nat) (fun i=>[(0,str s),(4, .int .i64 (AR (dd.take (i-f)):Nat)),(5, .int .i64 (i:Nat))]) (fun _=>[]) (fun i=>i≤s.length) (fun i=>s.length-i) 0 (Nat.zero_le _) ⟨I,by show some _=some (Value.int .i64 (AR (dd.take (0-f)):Nat));rw[Nat.zero_sub,List.take_zero];rfl,I,tO⟩ [] I ?_
 intro i hi
 have hi:i≤s.length:=hi
 refine zA (zA (zB (wP I (wP I (wP I ?_)))))
 refine Af 11 (.int .i64 (s.length:Nat)) I (congrArg (fun n:Nat=>Value.int .i64 (n:Int)) (A4 s)) ?_
 refine wP I ?_
 by_cases hlt':i<s.length
 ·refine wU 12 true I (dT (by omega)) (Aa (zE (zR I (zI (zE ?_)))))
  try refine A0 ?_
  refine AF (X:=Unit) (fun _=>[(0,str s),(4, .int .i64 (AR (dd.take (i+1-f)):Nat)),(5, .int .i64 (i:Nat))]) (fun _=>[]) (fun _=>True) ?_ ?_
  ·refine zH (zA (zB (wP I (wP I ?_))))
   by_cases hif:i<f
   ·refine AZ i tH I I I I I I I I (hneg i hif) ?_
    exact wP I (Aa (zE (zS I (zI (zN (Al () tO ⟨I,by rw[show i+1-f=0 by omega,show i-f=0 by omega];rfl,I,tO⟩ [] I))))))
   obtain⟨b,hb⟩: ∃b,dd[i-f]? =some b:=⟨dd[i-f]'(by omega),List.getElem?_eq_getElem (by omega)⟩
   have hsb:s[i]? =some b:=by rw[hget i (by omega)];exact hb
   have hbd:=C0.1 (hdg b (List.mem_of_getElem? hb))
   have e1:AR (dd.take (i+1-f))=10*AR (dd.take (i-f))+(b.toNat-48):=by
    rw[show i+1-f=i-f+1 by omega,List.take_add_one,hb];exact Do _ _
   have l1:=hlt (i-f)
   have l2:=hlt (i+1-f)
   refine AZ i tH I I I I I I I I hsb ?_
   refine wP I ?_
   refine Af 18 (.bool true) I (congrArg Value.bool (by
    show(!((((b.toNat:Nat):Int))==(45:Int)))=true
    rw[Bool.not_eq_true',beq_eq_false_iff_ne];omega)) ?_
   refine Aa (zE (zR I (zB (wP I (wP I (wV 20 ((10*AR (dd.take (i-f)):Nat):Int) I (show w64 (10*(AR (dd.take (i-f)):Nat))=_ by rw[Ap (by omega) (by omega)];omega) (wP I (wP I ?_))))))))
   refine AZ i tH I I I I I I I I hsb ?_
   refine wP I ?_
   refine Af 24 (.int .u8 ((b.toNat-48:Nat):Int)) I (congrArg (Value.int .u8) (by show IntKind.u8.wrap (((b.toNat:Nat):Int)-48)=_;rw[show((b.toNat:Nat):Int)-48=((b.toNat-48:Nat):Int) by omega,Pq (by omega) (by omega)])) ?_
   refine IA Tryz.underlying5 Tryz.underlying3 I I I I ?_
   exact wV 25 ((b.toNat-48:Nat):Int) I (BE (by omega)) (wP I (wV 26 ((AR (dd.take (i+1-f)):Nat):Int) I (show w64 (((10*AR (dd.take (i-f)):Nat):Int)+((b.toNat-48:Nat):Int))=_ by rw[Ap (by omega) (by omega),e1];omega) (wP I (Aa (zN (Al () tO ⟨I,I,I,tO⟩ [] I))))))
  intro _ _
  exact zB (wP I (wP I (wV 14 ((i+1:Nat):Int) I (Az (by omega)) (wP I (Aa (A6 (i+1) hlt' (by show s.length-(i+1)<s.length-i;omega) ⟨I,I,I,tO⟩ [] I))))))
 ·refine wU 12 false I (dF (by omega)) (Aa (zE (zS I (zJ (zK (zK (zL (zE (zA (zA (zB ?_)))))))))))
  have hv:AR (dd.take (i-f))=z.natAbs:=by rw[List.take_of_length_le (by omega),hdd,BO]
  have hzl:z.natAbs<100000000000000000:=by rw[←hv];exact hlt _
  refine wP I ?_
  refine AZ 0 tH I I I I I I I I hc0 ?_
  refine wP I (wU 29 (decide (z<0)) I ((Du c0 45).trans hc45) (Aa (AH ?_)))
  try refine A0 ?_
  refine AF (X:=Unit) (fun _=>[(4, .int .i64 z)]) (fun _=>[]) (fun _=>True) ?_ ?_
  ·refine Av I (fun h=> ?_) (fun h=> ?_)
   ·have h:z<0:=of_decide_eq_true h
    exact zB (wP I (wP I (wV 31 z I (by rw[hv];show w64 (0-((z.natAbs:Nat):Int))=_;rw[Ap (by omega) (by omega)];omega) (wP I (Aa (Al () tO ⟨I,tO⟩ [] I))))))
   ·have h: ¬z<0:=of_decide_eq_false h
    exact zI (Al () tO ⟨congrArg (fun z=>some (Value.int .i64 z)) (by rw[hv];omega),tO⟩ [] I)
  intro _ _
  exact zA (zB (wP I (wP I (wP I (Aa (zE (zO (wR2 I I (by rw[hsm,dT h17,if_pos I])))))))))
theorem Lg (a b:Int) (ha:(itoa a).length<4611686018427387904) (hb:(itoa b).length<4611686018427387904):By Tryz.prog 142 [str (itoa a),str (itoa b)] (.tuple #[.int .i64 (if smI a=true then a else 0), .int .i64 (if smI a=true then(if smI b=true then b else 0) else 0), .bool (smI a&&smI b)]):=by
 intro W
 refine Ac Tryz.func142 I I I ?_
 refine zA (zB (wP I (wP I (wP I (Aa (zE (zA (zB (wP I (wC I I (fun W _=>IS a ha W) ?_))))))))))
 iterate 5 refine wP I ?_
 refine Aa ?_
 cases hsa:smI a with
 |false=>
  refine zE (zA (zA (zB (wP I (wP I (Aa (zE (zR I (zA (zB (wP I (wP I (wP I ?_)))))))))))))
  exact Aa (zE (zO (zP (wR3 I I I))))
 |true=>
  refine zE (zA (zA (zB (wP I (wP I (Aa (zE (zS I (zI (zE (zA (zB (wP I ?_)))))))))))))
  refine wC I I (fun W _=>IS b hb W) ?_
  iterate 5 refine wP I ?_
  refine Aa (zE (zA (zB ?_)))
  iterate 6 refine wP I ?_
  exact Aa (zE (zO (wR3 I I I)))
-- BOXES 4
-- CODE2
theorem Nr (a:List UInt8): ∀(n:Nat) (b:List UInt8),b.length=n→AR (a++b)=AR a*10^n+AR b
 |0,b,h=>by
  rw[List.length_eq_zero_iff.1 h,List.append_nil,Nat.pow_zero,Nat.mul_one];rfl
 |n+1,b,h=>by
  obtain⟨c,d,rfl⟩: ∃c d,b=c++[d]:=⟨b.dropLast,b.getLast (fun e=>by rw[e] at h;cases h),(List.dropLast_concat_getLast _).symm⟩
  have hc:c.length=n:=by rw[List.length_append] at h;exact Nat.succ.inj h
  rw[←List.append_assoc,Do,Nr a n c hc,Do,Nat.pow_succ]
  grind
theorem PA (a b:List UInt8):AR (a++b)=AR a*10^b.length+AR b:=Nr a b.length b rfl
theorem Ug {m lo e:Nat} (_h1:lo≤e) (h2:e≤(decDigits m).length):AR (((decDigits m).take e).drop lo)=m/10^((decDigits m).length-e)%10^(e-lo):=by
 obtain⟨dd,hdd⟩: ∃dd,dd=decDigits m:=⟨_,rfl⟩
 have hdg: ∀b∈dd,DG b=true:=by rw[hdd];exact(ET m).all
 have hv:AR dd=m:=by rw[hdd];exact BO m
 rw[←hdd] at h2⊢
 have a1:=PA (dd.take e) (dd.drop e)
 rw[List.take_append_drop,hv,List.length_drop] at a1
 have b1:=FK (dd.drop e).length (s:=dd.drop e) rfl fun b hb=>hdg b (List.mem_of_mem_drop hb)
 rw[List.length_drop] at b1
 have c1:m/10^(dd.length-e)=AR (dd.take e):=by
  rw[a1,Nat.mul_comm,Nat.mul_add_div (Nat.pow_pos (by decide)),Nat.div_eq_of_lt b1,Nat.add_zero]
 rw[c1]
 have a2:=PA ((dd.take e).take lo) ((dd.take e).drop lo)
 have b2:=FK ((dd.take e).drop lo).length (s:=(dd.take e).drop lo) rfl fun b hb=>hdg b (List.mem_of_mem_take (List.mem_of_mem_drop hb))
 rw[List.take_append_drop] at a2
 have hl:((dd.take e).drop lo).length=e-lo:=by rw[List.length_drop,List.length_take,Nat.min_eq_left h2]
 rw[hl] at a2 b2
 rw[a2,Nat.mul_comm,Nat.mul_add_mod,Nat.mod_eq_of_lt b2]
def rdL (m:Nat) (j:Nat):List Nat:=(List.range j).map fun i=>m/br^i%br
theorem Pm (m j:Nat):rdL m (j+1)=rdL m j++[m/br^j%br]:=by unfold rdL;rw[List.range_succ,List.map_append];rfl
theorem KK (m j:Nat):(rdL m j).length=j:=by unfold rdL;rw[List.length_map,List.length_range]
theorem TJ (m j:Nat): ∀x∈rdL m j,x<br:=fun x hx=>by
 obtain⟨i,_,rfl⟩:=List.mem_map.1 hx
 exact Nat.mod_lt _ (by decide)
theorem Sa (m:Nat): ∀j,lv br (rdL m j)=m%br^j
 |0=>by show 0=_;rw[Nat.pow_zero,Nat.mod_one]
 |j+1=>by rw[Pm,Ob (KK m j),Sa m j, ←Ea]
theorem JH (j:Nat):br^j=10^(6*j):=by rw[Nat.pow_mul]
theorem U5 {m k:Nat} (h:m<10^(6*k)):(lbs br m).length≤k:=(BQ br2).2 (by rw[JH];exact h)
theorem WU {m e k:Nat} (h:(decDigits m).length≤e) (he:e=6*k):(lbs br m).length≤k:=by
 subst he
 exact U5 (Nat.lt_of_lt_of_le (CP m) (Nat.pow_le_pow_right (by decide) h))
theorem Ci {m:Nat} (h:(decDigits m).length≤606):(lbs br m).length≤101:=WU h rfl
abbrev Vt (z:Int) (x:NV):Value:= .agg #[.bool (decide (z<0)),B0 x (lbs br z.natAbs).length]
theorem Vr (y:Int):(if y>0 then y else 0)=max 0 y:=by omega
theorem Bf (z:Int) (hl:(decDigits z.natAbs).length≤1000) (W:World):
  Aj Tryz.prog 143 #[str (itoa z)] W (fun x:NV=>Vt z x) (fun x=>Cl x (lbs br z.natAbs)) (fun x=>[BF x (lbs br z.natAbs)]):=by
 obtain⟨m,hm⟩: ∃m,m=z.natAbs:=⟨_,rfl⟩
 obtain⟨c0,hc0,hc45⟩:=EN z
 have hzl:=BL z
 refine Ac (args:=[str (itoa z)]) Tryz.func143 I I I ?_
 refine zA (zB ?_)
 (refine Ag Tryz.hZ rfl rfl rfl rfl ?_;intro)
 refine Aa ?_
 rename_i b2
 refine zE (zA (zB ?_))
 refine Ay Tryz.hZ tH I I I I I I I I ?_
 (refine Ag Tryz.hZ rfl rfl rfl rfl ?_;intro)
 refine wS 1 I I I (Aa ?_)
 rename_i b3
 refine zE (zA (zA (zB (wP I ?_))))
 refine AZ 0 tH I I I I I I I I hc0 ?_
 refine wP I (wU 10 (decide (z<0)) I ((Du c0 45).trans hc45) (Aa (AH ?_)))
 try refine A0 ?_
 refine AF (X:=Unit) (fun _=>[(0,str (decDigits m)),(2,Ai b2),(3,Ai b3)]) (fun _=>[⟨b2,153,[.bool false, .slice none 0 0],true,none⟩,⟨b3,153,[.bool (decide (z<0)), .slice none 0 0],true,none⟩]) (fun _=>True) ?_ ?_
 ·refine Av I (fun h=> ?_) (fun h=> ?_)
  ·have h:z<0:=of_decide_eq_true h
   have e:itoa z=45::decDigits m:=by rw[hzl,hm];unfold Gu;rw[if_pos h];rfl
   refine zA (zB (wP I (wS 1 I I I (Aa (zE (zB (wP I ?_)))))))
   refine EY 1 tH I I I I I I I I (by rw[e,List.length_cons];omega) ?_
   exact wP I (Aa (Al () tO ⟨by rw[e];rfl,I,I,tO⟩ [] (by rw[dT h];rfl)))
  ·have h: ¬z<0:=of_decide_eq_false h
   have e:itoa z=decDigits m:=by rw[hzl,hm];unfold Gu;rw[if_neg h];rfl
   exact zI (Al () tO ⟨by rw[e];rfl,I,I,tO⟩ [] (by rw[dF h];rfl))
 intro _ _
 rw[←hm] at hl⊢
 obtain⟨dd,hdd⟩: ∃dd,dd=decDigits m:=⟨_,rfl⟩
 have hdg: ∀b∈dd,DG b=true:=by rw[hdd];exact(ET m).all
 have hd0:0<dd.length:=by rw[hdd];exact List.length_pos_iff.2 (FH _)
 have hmid: ∀lo e,lo≤e→e≤dd.length→AR ((dd.take e).drop lo)=m/10^(dd.length-e)%10^(e-lo):=fun lo e h1 h2=>by
  rw[hdd] at h2⊢;exact Ug h1 h2
 have hmlt:m<10^dd.length:=by rw[hdd];exact CP m
 rw[←hdd] at hl⊢
 refine zA (zA (zB (wP I (wP I ?_))))
 refine Af 15 (.int .i64 (dd.length:Nat)) I (congrArg (fun n:Nat=>Value.int .i64 (n:Int)) (A4 dd)) ?_
 refine wP I (Aa (zE (zH ?_)))
 refine Ey ?_
 refine AA (X:=Nat×Vec) (fun x=>[(0,str dd),(2,Ai b2),(3,Ai b3),(4, .int .i64 ((dd.length:Int)-6*(x.1:Nat)))])
  (fun x=>[⟨b2,153,[.bool false, .slice none 0 0],true,none⟩,⟨b3,153,[.bool (decide (z<0)),x.2.val x.1],true,none⟩,x.2.bx 3 (nI (rdL m x.1))])
  (fun x=>x.2.OK 1 x.1 (nI (rdL m x.1))∧6*x.1<dd.length+6) (fun x=>dd.length+6-6*x.1) (0,Vec.empty) ⟨Vec.OK.empty 1,by show 6*0<_;omega⟩ ⟨rfl,rfl,rfl,congrArg (fun z=>some (Value.int .i64 z)) (by show((dd.length:Nat):Int)=(dd.length:Int)-6*((0:Nat):Int);omega),trivial⟩ [] rfl ?_
 rintro⟨j,V⟩ ⟨hV,hj⟩
 have hV:V.OK 1 j (nI (rdL m j)):=hV
 have hj:6*j<dd.length+6:=hj
 refine zA (zA (zB (wP I (wP I ?_))))
 by_cases hlt:6*j<dd.length
 ·refine wU 17 true I (dT (by show(dd.length:Int)-6*(j:Nat)>0;omega)) (Aa (zE (zR I (zI (zE (zA (zH (zA (zB ?_)))))))))
  obtain⟨e,he⟩: ∃e,e=dd.length-6*j:=⟨_,rfl⟩
  have hev:(dd.length:Int)-6*(j:Nat)=(e:Nat):=by omega
  obtain⟨lo,hlo⟩: ∃lo,lo=e-6:=⟨_,rfl⟩
  have hlim:AR ((dd.take e).drop lo)=m/br^j%br:=by
   rw[hmid lo e (by omega) (by omega),JH,show dd.length-e=6*j by omega]
   by_cases h6:6≤e
   ·rw[show e-lo=6 by omega]
   ·have hl0:lo=0:=by omega
    have h1:m/10^(6*j)<10^e:=by
     apply Nat.div_lt_of_lt_mul
     rw[←Nat.pow_add,show 6*j+e=dd.length by omega];exact hmlt
    have h2:(10:Nat)^e≤10^6:=Nat.pow_le_pow_right (by decide) (by omega)
    rw[hl0,Nat.sub_zero,Nat.mod_eq_of_lt h1,Nat.mod_eq_of_lt (show m/10^(6*j)<br by show _<10^6;omega)]
  refine wP I (Aa (zE (zA (zA (zB (wP I (wP I (wV 21 ((e:Int)-6) I (by show w64 ((dd.length:Int)-6*(j:Nat)-6)=_;rw[hev,Ap (by omega) (by omega)]) (wP I (wV 22 (lo:Nat) I (by show(if (e:Int)-6>0 then(e:Int)-6 else 0)=_;rw[Vr];omega) (wP I (Aa (zE ?_)))))))))))))
  refine zH ?_
  refine AA (X:=Nat) (fun i=>[(0,str dd),(2,Ai b2),(3,Ai b3),(4, .int .i64 (e:Nat)),(5, .int .i64 (AR ((dd.take i).drop lo):Nat)),(6, .int .i64 (i:Nat))])
   (fun _=>[⟨b2,153,[.bool false, .slice none 0 0],true,none⟩,⟨b3,153,[.bool (decide (z<0)),V.val j],true,none⟩,V.bx 3 (nI (rdL m j))])
   (fun i=>lo≤i∧i≤e) (fun i=>e-i) lo ⟨Nat.le_refl _,by omega⟩ ⟨rfl,rfl,rfl,(by rw[hev];rfl),by show some _=some (Value.int .i64 (AR ((dd.take lo).drop lo):Nat));rw[List.drop_of_length_le (by rw[List.length_take];omega)];rfl,rfl,trivial⟩ [] rfl ?_
  rintro i ⟨hi1,hi2⟩
  have hi1:lo≤i:=hi1
  have hi2:i≤e:=hi2
  refine zA (zA (zB (wP I (wP I (wP I ?_)))))
  by_cases hie:i<e
  ·refine wU 25 true I (dT (by omega)) (Aa (zE (zR I (zI (zE (zA (zH (zB ?_))))))))
   obtain⟨b,hb⟩: ∃b,dd[i]? =some b:=⟨dd[i]'(by omega),List.getElem?_eq_getElem (by omega)⟩
   have hbd:=C0.1 (hdg b (List.mem_of_getElem? hb))
   have e1:AR ((dd.take (i+1)).drop lo)=10*AR ((dd.take i).drop lo)+(b.toNat-48):=by
    rw[List.take_add_one,hb,List.drop_append_of_le_length (by rw[List.length_take];omega)]
    exact Do _ _
   have hbnd: ∀k,k≤e→AR ((dd.take k).drop lo)<1000000:=fun k hk=>by
    have h1:=FK ((dd.take k).drop lo).length (s:=(dd.take k).drop lo) rfl fun b hb=>hdg b (List.mem_of_mem_take (List.mem_of_mem_drop hb))
    have h2:((dd.take k).drop lo).length≤6:=by rw[List.length_drop,List.length_take];omega
    exact Nat.lt_of_lt_of_le h1 (show _≤10^6 from Nat.pow_le_pow_right (by decide) h2)
   have l1:=hbnd i hi2
   have l2:=hbnd (i+1) hie
   refine wP I (wP I (wV 29 ((10*AR ((dd.take i).drop lo):Nat):Int) I (show w64 (10*(AR ((dd.take i).drop lo):Nat))=_ by rw[Ap (by omega) (by omega)];omega) (wP I (wP I ?_))))
   refine AZ i tH I I I I I I I I hb ?_
   refine wP I ?_
   refine Af 33 (.int .u8 ((b.toNat-48:Nat):Int)) I (congrArg (Value.int .u8) (by show IntKind.u8.wrap (((b.toNat:Nat):Int)-48)=_;rw[show((b.toNat:Nat):Int)-48=((b.toNat-48:Nat):Int) by omega,Pq (by omega) (by omega)])) ?_
   refine IA Tryz.underlying5 Tryz.underlying3 I I I I ?_
   exact wV 34 ((b.toNat-48:Nat):Int) I (BE (by omega)) (wP I (wV 35 ((AR ((dd.take (i+1)).drop lo):Nat):Int) I (show w64 (((10*AR ((dd.take i).drop lo):Nat):Int)+((b.toNat-48:Nat):Int))=_ by rw[Ap (by omega) (by omega),e1];omega) (wP I (Aa (zN (zE (zB (wP I (wP I (wV 27 ((i+1:Nat):Int) I (Az (by omega)) (wP I (Aa (A6 (i+1) ⟨by show lo≤i+1;omega,hie⟩ (by show e-(i+1)<e-i;omega) ⟨I,I,I,I,I,I,tO⟩ [] I)))))))))))))
  ·have hie:i=e:=by omega
   subst hie
   refine wU 25 false I (dF (by omega)) (Aa (zE (zS I (zJ (zK (zK (zL (zE (zB ?_)))))))))
   rw[hlim]
   refine wP I (wB 1 I I I (wP I ?_))
   refine AD Tryz.hZ tH I I I I I I I I I I I fun bN=> ?_
   refine Bo (V:=V) (len:=j) (xs:=nI (rdL m j)) 2 3 Tryz.vec130 (j+1) (nI (rdL m (j+1))) I I I I I I I I I I I hV I I I (by rw[Pm,IG];rfl) (by simp only[maxLen];omega) (by omega) I ?_
   intro g1 c1 j1 hV1
   exact wP I (wS 1 I I I (Aa (zN (zE (zB (wP I (wP I (wV 19 ((dd.length:Int)-6*((j+1:Nat):Int)) I (by show w64 (((i:Nat):Int)-6)=_;rw[Ap (by omega) (by omega)];omega) (wP I (Aa (A6 (j+1,⟨some g1,c1,j1⟩) ⟨hV1,by show 6*(j+1)<_;omega⟩ (by show dd.length+6-6*(j+1)<dd.length+6-6*j;omega) ⟨I,I,I,I,tO⟩ _ I)))))))))))
 ·refine wU 17 false I (dF (by show¬(dd.length:Int)-6*(j:Nat)>0;omega)) (Aa (zE (zS I (zJ (zK (zK (zL (zE (zA (zB ?_))))))))))
  obtain⟨pV,cV,jV⟩:=V
  cases pV with
  |none=>have:=hV.nil rfl;omega
  |some g=>
  have hval:lv br (rdL m j)=m:=by
   rw[Sa,JH]
   exact Nat.mod_eq_of_lt (Nat.lt_of_lt_of_le hmlt (Nat.pow_le_pow_right (by decide) (by omega)))
  have hV2:(⟨some g,cV,jV⟩:Vec).OK 1 (rdL m j).length (nI (rdL m j)):=by rw[KK];exact hV
  obtain⟨j2,hj1,hj2⟩:=DM hV2 (TJ m j)
  rw[hval] at hj1 hj2
  refine wP I (wB 1 I I I ?_)
  refine Af 43 (slv (some ⟨g,0,none⟩) (rdL m j).length cV) I (by rw[KK];rfl) ?_
  refine wC I I (fun W' hp=>(C8 W' (some ⟨g,0,none⟩) cV (rdL m j) (Ax.of_bx hp 2 I) (TJ m j) (by have:=(hV2.cap (by simp)).1;exact this) (by rw[KK];omega)).cast (v':=slv (some ⟨g,0,none⟩) (lbs br m).length cV) (by rw[hval])) (wP I (wS 1 I I I (Aa (zE (zA (zB (wB 1 I I I (wS 0 I I I (Aa (zE (zO ?_)))))))))))
  subst hm
  exact Au tH I (.cell 0 I I I I I) ((g,cV,j2):NV) I hj1 fun W hp=>As.of_hp1 hp 2 (by
   show some (⟨g,3,nI (rdL z.natAbs j)++jV,true,none⟩:Bx)=some (⟨g,3,nI (lbs br z.natAbs)++j2,true,none⟩:Bx)
   rw[hj2])
def Ga (m:Nat):Nat→List UInt8
 |0=>[]
 |d+1=>UInt8.ofNat (48+m/10^d%10)::Ga m d
theorem JB (m:Nat): ∀d,(Ga m d).length=d
 |0=>rfl
 |d+1=>by show(Ga m d).length+1=_;rw[JB m d]
theorem OY (m:Nat): ∀(d i:Nat),i<d→(Ga m d)[d-1-i]? =some (UInt8.ofNat (48+m/10^i%10))
 |0,_,h=>absurd h (Nat.not_lt_zero _)
 |d+1,i,h=>by
  by_cases e:i=d
  ·subst e
   rw[show i+1-1-i=0 by omega];rfl
  ·rw[show d+1-1-i=(d-1-i)+1 by omega]
   show(_::Ga m d)[_+1]? =_
   rw[List.getElem?_cons_succ]
   exact OY m d i (by omega)
theorem VH {m d:Nat} (h:(decDigits m).length≤d):Ga m d=List.replicate (d-(decDigits m).length) 48++decDigits m:=by
 apply List.ext_getElem?
 intro t
 by_cases ht:t<d
 ·have h1:=OY m d (d-1-t) (by omega)
  rw[show d-1-(d-1-t)=t by omega] at h1
  rw[h1]
  by_cases h2:t<d-(decDigits m).length
  ·rw[List.getElem?_append_left (by rw[List.length_replicate];exact h2),List.getElem?_replicate_of_lt h2]
   have h3:m/10^(d-1-t)=0:=Nat.div_eq_of_lt (Nat.lt_of_lt_of_le (CP m) (Nat.pow_le_pow_right (by decide) (by omega)))
   rw[h3];rfl
  ·rw[List.getElem?_append_right (by rw[List.length_replicate];omega),List.length_replicate]
   have h3:=Vq (n:=m) (i:=d-1-t) (by omega)
   rw[←h3]
   congr 1;omega
 ·rw[List.getElem?_eq_none (by rw[JB];omega),List.getElem?_eq_none (by rw[List.length_append,List.length_replicate];omega)]
theorem Ur {m i k:Nat} (hk:k<6):m/br^i%br/10^k%10=m/10^(6*i+k)%10:=by
 rw[Nat.pow_add, ←JH, ←Nat.div_div_eq_div_mul]
 generalize m/br^i=x
 have h:k=0∨k=1∨k=2∨k=3∨k=4∨k=5:=by omega
 show x%1000000/10^k%10=x/10^k%10
 rcases h with rfl|rfl|rfl|rfl|rfl|rfl<;>simp only[Nat.reducePow,Nat.div_one]<;>omega
theorem Fa (z:Int) (hl:(decDigits z.natAbs).length≤606) (W:World) (p:Option Addr) (cap:Nat) (hA:Ax W p (lbs br z.natAbs)):
  Aj Tryz.prog 145 #[.agg #[.bool (decide (z<0)),slv p (lbs br z.natAbs).length cap]] W (fun _:Unit=>str (itoa z)) (fun _=>True) (fun _=>[]):=by
 obtain⟨m,hm⟩: ∃m,z.natAbs=m:=⟨_,rfl⟩
 rw[hm] at hl hA⊢
 obtain⟨L,hL⟩: ∃L,(lbs br m).length=L:=⟨_,rfl⟩
 have hL101:L≤101:=by rw[←hL];exact Ci hl
 have hml:m<br^L:=by rw[←hL];exact AK br2 m
 refine Ac (args:=[.agg #[.bool (decide (z<0)),slv p (lbs br m).length cap]]) Tryz.func145 I I I ?_
 rw[hL]
 refine zA (zB ?_)
 (refine A5 rfl rfl rfl rfl ?_;intro)
 refine wP I (Aa ?_)
 rename_i b1
 refine zE (zA (zA (zB (wP I (wB 0 I I I (wP I (wP I ?_)))))))
 by_cases hm0:m=0
 ·have hL0:L=0:=by rw[←hL,hm0,Bc];rfl
  have hz:z=0:=by omega
  exact wU 10 true I (by rw[beq_iff_eq,hL0];rfl) (Aa (zE (zR I (zA (zB (wP I (Aa (zE (zO (zP (wR1 I I (by rw[hz,Ce]))))))))))))
 have hL0:L≠0:=fun e=>hm0 ((Dt br2).1 (List.length_eq_zero_iff.1 (hL.trans e)))
 refine wU 10 false I (by rw[beq_eq_false_iff_ne];omega) (Aa (zE (zS I (zI (zE (zA (zB ?_)))))))
 obtain⟨K,hK⟩: ∃K,K=6*L:=⟨_,rfl⟩
 refine wP I (wB 0 I I I (wP I (wP I (wV 14 (K:Nat) I (by show w64 (6*(L:Int))=_;rw[Ap (by omega) (by omega)];omega) ?_))))
 refine Cb Tryz.vec202 K I I I I I I I (by simp only[maxLen];omega) (by omega) ?_
 intro g
 refine wP I (Aa (zE (zA (zA (zB (wP I (Aa (AH ?_))))))))
 try refine A0 ?_
 refine AF (X:=Unit) (fun _=>[(1,Ai b1),(3, .slice (some ⟨g,0,none⟩) K K)]) (fun _=>[⟨b1,153,[.bool (decide (z<0)),slv p L cap],true,none⟩,⟨g,5,zrV 0++byV (Ga m K),true,none⟩]) (fun _=>True) ?_ ?_
 ·refine zH ?_
  refine AA (X:=Nat) (fun i=>[(1,Ai b1),(3, .slice (some ⟨g,0,none⟩) K K),(4, .int .i64 (i:Nat))]) (fun i=>[⟨b1,153,[.bool (decide (z<0)),slv p L cap],true,none⟩,⟨g,5,zrV (K-6*i)++byV (Ga m (6*i)),true,none⟩]) (fun i=>i≤L) (fun i=>L-i) 0 (Nat.zero_le _) ⟨I,I,I,tO⟩ [] (by show _=[_,(⟨g,5,zrV (K-0)++[],true,none⟩:Bx)]++[];simp only[List.append_nil,Nat.sub_zero];rfl) ?_
  intro i hi
  have hi:i≤L:=hi
  refine zA (zA (zB (wP I (wP I (wB 0 I I I (wP I (wP I ?_)))))))
  by_cases hiL:i<L
  ·refine wU 20 true I (dT (by omega)) (Aa (zE (zR I (zI (zE (zA (zH (zA (zB ?_)))))))))
   obtain⟨bA,oA,rfl,rA⟩:=hA.row (show i<(lbs br m).length by omega)
   have rA:=rA i (by omega)
   rw[Bl br2] at rA
   obtain⟨v,hv⟩: ∃v,v=m/br^i%br:=⟨_,rfl⟩
   rw[←hv] at rA
   have hvb:v<1000000:=by rw[hv];exact Nat.mod_lt _ (by decide)
   refine wP I (wB 0 I I I (wP I ?_))
   refine wJ ?_
   refine wL 0 I I (fun W hp=>rA.hp hp) I (wP I (Aa (zE (zA (zB (wP I (Aa (zE (zH ?_)))))))))
   refine AA (X:=Nat) (fun k=>[(1,Ai b1),(3, .slice (some ⟨g,0,none⟩) K K),(4, .int .i64 (i:Nat)),(5, .int .i64 ((v/10^k:Nat):Int)),(6, .int .i64 ((k+1:Nat):Int))]) (fun k=>[⟨b1,153,[.bool (decide (z<0)),slv (some ⟨bA,oA,none⟩) L cap],true,none⟩,⟨g,5,zrV (K-(6*i+k))++byV (Ga m (6*i+k)),true,none⟩]) (fun k=>k≤6) (fun k=>6-k) 0 (by decide) ⟨I,I,I,by show some _=some (Value.int .i64 ((v/1:Nat):Int));rw[Nat.div_one],I,tO⟩ [] I ?_
   intro k hk
   have hk:k≤6:=hk
   refine zA (zA (zB (wP I (wP I ?_))))
   by_cases hk6:k<6
   ·refine wU 29 true I (dT (by show((k+1:Nat):Int)≤6;omega)) (Aa (zE (zR I (zI (zE (zA (zH (zA (zB ?_)))))))))
    obtain⟨u,hu⟩: ∃u,u=v/10^k:=⟨_,rfl⟩
    have hub:u<1000000:=by rw[hu];exact Nat.lt_of_le_of_lt (Nat.div_le_self ..) hvb
    have hdig:u%10=m/10^(6*i+k)%10:=by rw[hu,hv];exact Ur hk6
    have hu2:v/10^(k+1)=u/10:=by rw[hu,Nat.pow_succ,Nat.div_div_eq_div_mul]
    obtain⟨d,hd⟩: ∃d,d=6*i+k:=⟨_,rfl⟩
    have hdK:d<K:=by omega
    rw[←hu, ←hd]
    rw[←hd] at hdig
    iterate 5 refine wP I ?_
    refine wV 36 ((6*i:Nat):Int) I (by show w64 (6*(i:Int))=_;rw[Ap (by omega) (by omega)];omega) (wP I (wV 37 ((K-6*i:Nat):Int) I (by show w64 ((K:Int)-((6*i:Nat):Int))=_;rw[Ap (by omega) (by omega)];omega) (wP I (wP I (wV 39 ((K-d-1:Nat):Int) I (by show w64 (((K-6*i:Nat):Int)-((k+1:Nat):Int))=_;rw[Ap (by omega) (by omega)];omega) (wP I ?_))))))
    refine Fx I I I I I (by decide) ?_
    refine wV 41 ((u%10:Nat):Int) I (show Int.tmod (u:Nat) ((10:Nat):Int)=_ from(Int.ofNat_tmod _ _).symm) (wP I (wV 42 ((48+u%10:Nat):Int) I (show w64 (48+((u%10:Nat):Int))=_ by rw[Ap (by omega) (by omega)];omega) ?_))
    refine TL Tryz.underlying3 Tryz.underlying5 I I I I ?_
    refine Af 43 (.int .u8 ((UInt8.ofNat (48+m/10^d%10)).toNat:Int)) I (congrArg (Value.int .u8) (by rw[TS u,hdig])) ?_
    refine wJ ?_
    refine Aw 1 (zrV (K-d-1)++byV (Ga m (d+1))) tH I I I I I I I I I I (by show 0+(K-d-1)*1+1≤(zrV (K-d)++byV (Ga m d)).length;rw[List.length_append,Jw];omega) (by
     show B7 (zrV (K-d)++byV (Ga m d)) _ _=_
     rw[show K-d=K-d-1+1 by omega]
     exact Ss) ?_
    refine Aa (zE (zB (wP I ?_)))
    refine D7 I I I I I (by decide) ?_
    exact wV 46 ((u/10:Nat):Int) I (show w64 (Int.tdiv (u:Nat) ((10:Nat):Int))=_ by rw[←Int.ofNat_tdiv,Ap (by omega) (by omega)]) (wP I (Aa (zN (zE (zB (wP I (wP I (wV 31 ((k+1+1:Nat):Int) I (Az (by omega)) (wP I (Aa (A6 (k+1) hk6 (by show 6-(k+1)<6-k;omega) ⟨I,I,I,by show some _=some (Value.int .i64 ((v/10^(k+1):Nat):Int));rw[hu2],I,tO⟩ [] (by show _=[_,(⟨g,5,zrV (K-(6*i+(k+1)))++byV (Ga m (6*i+(k+1))),true,none⟩:Bx)]++[];rw[show 6*i+(k+1)=d+1 by omega,show K-(d+1)=K-d-1 by omega];rfl))))))))))))
   ·have hk6:k=6:=by omega
    subst hk6
    refine wU 29 false I (dF (by decide)) (Aa (zE (zS I (zJ (zK (zK (zL (zN (zE (zB (wP I (wP I (wV 22 ((i+1:Nat):Int) I (Az (by omega)) ?_)))))))))))))
    exact wP I (Aa (A6 (i+1) hiL (by show L-(i+1)<L-i;omega) ⟨I,I,I,tO⟩ [] (by show _=[_,(⟨g,5,zrV (K-6*(i+1))++byV (Ga m (6*(i+1))),true,none⟩:Bx)]++[];rw[show 6*(i+1)=6*i+6 by omega];rfl)))
  ·have hiL:i=L:=by omega
   subst hiL
   exact wU 20 false I (dF (by omega)) (Aa (zE (zS I (zJ (zK (zK (zL (Al () tO ⟨I,I,tO⟩ [] (by rw[←hK,Nat.sub_self];rfl)))))))))
 intro _ _
 obtain⟨nd,hnd⟩: ∃nd,(decDigits m).length=nd:=⟨_,rfl⟩
 have hndK:nd≤K:=by
  rw[←hnd]
  refine Dd K m (by omega) ?_
  rw[hK, ←JH];exact hml
 have hnd0:0<nd:=by rw[←hnd];exact List.length_pos_iff.2 (FH _)
 have hlow:=VH (m:=m) (d:=K) (by rw[hnd];exact hndK)
 rw[hnd] at hlow
 have hgetB: ∀j,j<K→ ∃b,(Ga m K)[j]? =some b∧(zrV 0++byV (Ga m K))[0+j]? =some (.int .u8 (b.toNat:Int)):=fun j hj=>by
  refine⟨(Ga m K)[j]'(by rw[JB];exact hj),List.getElem?_eq_getElem _, ?_⟩
  exact S8 (k:=0) (by rw[JB];exact hj)
 try refine AH ?_
 try refine A0 ?_
 refine AF (X:=Unit) (fun _=>[(1,Ai b1),(3, .slice (some ⟨g,K-nd,none⟩) nd nd)]) (fun _=>[⟨b1,153,[.bool (decide (z<0)),slv p L cap],true,none⟩,⟨g,5,zrV 0++byV (Ga m K),true,none⟩]) (fun _=>True) ?_ ?_
 ·refine zH ?_
  refine AA (X:=Nat) (fun j=>[(1,Ai b1),(3, .slice (some ⟨g,j,none⟩) (K-j) (K-j))]) (fun _=>[⟨b1,153,[.bool (decide (z<0)),slv p L cap],true,none⟩,⟨g,5,zrV 0++byV (Ga m K),true,none⟩]) (fun j=>j≤K-nd) (fun j=>K-nd-j) 0 (Nat.zero_le _) ⟨I,I,tO⟩ [] I ?_
  intro j hj
  have hj:j≤K-nd:=hj
  obtain⟨b,hb,hbc⟩:=hgetB j (by omega)
  rw[Nat.zero_add] at hbc
  have hrow: ∀W1 bxs,Hp W bxs W1→nth bxs 1=some (⟨g,5,zrV 0++byV (Ga m K),true,none⟩:Bx)→Ak W1 g j [.int .u8 (b.toNat:Int)]:=fun W1 bxs hp h1=>by
   have h:=Ak.of_bx hp 1 h1 rfl
   exact⟨h.lt,fun t u hu=>by
    have ht:t=0:=by have:=(List.getElem?_eq_some_iff.1 hu).1;simpa using this
    subst ht
    have hu:u= .int .u8 (b.toNat:Int):=by simpa using hu.symm
    rw[hu]
    have:=h.get j _ hbc
    rwa [Nat.zero_add] at this⟩
  refine zA (zA (zB (wP I (wI I I (by decide) (by show(0:Int)<((K-j:Nat):Int);omega) ?_))))
  refine Af 48 (.pointer (some ⟨g,j,none⟩)) I I ?_
  refine wL 0 I I (fun W1 hp=>hrow W1 _ hp I) I (wP I (wU 50 (decide (b=48)) I (Du b 48) (Aa (zE ?_))))
  refine Av I (fun h48=> ?_) (fun h48=> ?_)
  ·have h48:b=48:=of_decide_eq_true h48
   have hjl:j<K-nd:=by
    rcases Nat.lt_or_ge j (K-nd) with h|h
    ·exact h
    ·have e:j=K-nd:=by omega
     rw[hlow,List.getElem?_append_right (by rw[List.length_replicate];omega),List.length_replicate,e,Nat.sub_self,h48] at hb
     exact absurd (Q8 hb) hm0
   refine zI (zE (zH (zB (wP I ?_))))
   refine DD 1 tH I I I I I I I I (by show 1≤K-j;omega) (Nat.le_refl _) ?_
   refine Af 52 (.slice (some ⟨g,j+1,none⟩) (K-(j+1)) (K-(j+1))) I (by rw[if_neg (show¬K-j=1 by omega)];show Value.slice (some ⟨g,j+1*1,none⟩) (K-j-1) (K-j-1)=_;rw[show K-(j+1)=K-j-1 by omega]) ?_
   exact wP I (Aa (zN (A6 (j+1) hjl (by show K-nd-(j+1)<K-nd-j;omega) ⟨I,I,tO⟩ [] I)))
  ·have h48: ¬b=48:=of_decide_eq_false h48
   have e:j=K-nd:=by
    rcases Nat.lt_or_ge j (K-nd) with h|h
    ·rw[hlow,List.getElem?_append_left (by rw[List.length_replicate];exact h),List.getElem?_replicate_of_lt h] at hb
     exact absurd (Option.some.inj hb).symm h48
    ·omega
   exact zJ (zK (zK (zL (Al () tO ⟨I,by rw[e,show K-(K-nd)=nd by omega];rfl,tO⟩ [] I))))
 intro _ _
 have hbytes: ∀j (hj:j<(decDigits m).length),(zrV 0++byV (Ga m K))[K-nd+j]? =some (.int .u8 ((decDigits m)[j].toNat:Int)):=fun j hj=>by
  obtain⟨b,hb,hbc⟩:=hgetB (K-nd+j) (by omega)
  rw[Nat.zero_add] at hbc
  rw[hbc]
  rw[hlow,List.getElem?_append_right (by rw[List.length_replicate];omega),List.length_replicate,Nat.add_sub_cancel_left,List.getElem?_eq_getElem hj] at hb
  rw[Option.some.inj hb]
 refine zA (zA (zB (wP I (wB 0 I I I (Aa (zE ?_))))))
 refine Av I (fun hn=> ?_) (fun hn=> ?_)
 ·have hn:z<0:=of_decide_eq_true hn
  refine zA (zB (wP I ?_))
  refine HA 1 (decDigits m) (e:=5) (by kernel_rfl) Tryz.underlying5 (by kernel_rfl) I I I I I I hnd.symm hbytes ?_
  refine BV I I I I I (a:=[45]) (b:=decDigits m) (by decide) (by omega) ?_
  exact wP I (Aa (zE (zO (zP (wR1 I I (by rw[BL,hm];unfold Gu;rw[if_pos hn]))))))
 ·have hn: ¬z<0:=of_decide_eq_false hn
  refine zI (zE (zA (zB (wP I ?_))))
  refine HA 1 (decDigits m) (e:=5) (by kernel_rfl) Tryz.underlying5 (by kernel_rfl) I I I I I I hnd.symm hbytes ?_
  exact wP I (Aa (zE (zO (wR1 I I (by rw[BL,hm];unfold Gu;rw[if_neg hn];rfl)))))
theorem E8 (z:Int) (hl:(decDigits z.natAbs).length≤300) (W:World) (p:Option Addr) (cap:Nat) (hA:Ax W p (lbs br z.natAbs)):
  Aj Tryz.prog 200 #[.agg #[.bool (decide (z<0)),slv p (lbs br z.natAbs).length cap]] W (fun _:Unit=> .tuple #[str (itoa z), .int .i64 0]) (fun _=>True) (fun _=>[]):=by
 refine Ac (args:=[.agg #[.bool (decide (z<0)),slv p (lbs br z.natAbs).length cap]]) Tryz.func200 I I I ?_
 refine zA (zB ?_)
 (refine A5 rfl rfl rfl rfl ?_;intro)
 refine wP I (wP I (Aa (zE (zA (zB (wB 0 I I I (wC I I (fun W hp=>Fa z (by omega) W p cap (hA.hp hp)) (wP I (Aa (zE (zA (zA (zB ?_)))))))))))))
 refine wP I (wC I I (fun W _=>Fh z hl W) (wP I (Aa (zE (zS I (zI (zE (zA (zB (wP I (wP I (wP I (Aa ?_)))))))))))))
 exact zE (zO (wR2 I I I))
-- BOXES 6
-- CODE2
abbrev IZ (z:Int) (p:Option Addr) (cap:Nat):Value:= .agg #[.bool (decide (z<0)),slv p (lbs br z.natAbs).length cap]
abbrev ME (b:Nat) (z:Int) (p:Option Addr) (cap:Nat):Bx:=⟨b,153,[.bool (decide (z<0)),slv p (lbs br z.natAbs).length cap],true,none⟩
theorem Rv (z:Int) (W:World) (p:Option Addr) (cap:Nat):Aj Tryz.prog 177 #[IZ z p cap] W (fun _:Unit=>IZ (-z) p cap) (fun _=>True) (fun _=>[]):=by
 obtain⟨n,hn⟩: ∃n,z.natAbs=n:=⟨_,rfl⟩
 refine Ac (args:=[IZ z p cap]) Tryz.func177 I I I ?_
 unfold IZ
 rw[Int.natAbs_neg,hn]
 refine zA (zB ?_)
 (refine A5 rfl rfl rfl rfl ?_;intro)
 (refine Ag Tryz.hZ rfl rfl rfl rfl ?_;intro)
 refine Aa (zE (zA (zA (zB (wP I (wB 0 I I I (wP I (wP I ?_))))))))
 by_cases h0:n=0
 ·have hz:z=0:=by omega
  exact wU 6 true I (by rw[h0,Bc];rfl) (Aa (zE (zR I (zA (zB (wB 0 I I I (wS 1 I I I (Aa (zE (zO (zP (Au tH I (.cell 1 I I I I I) () (by rw[hz];rfl) tO fun W _=>As.nil _ _))))))))))))
 ·have hL:(lbs br n).length≠0:=fun e=>h0 ((Dt br2).1 (List.length_eq_zero_iff.1 e))
  refine wU 6 false I (by rw[beq_eq_false_iff_ne];omega) (Aa (zE (zS I (zI (zE (zA (zB (wP I (wB 0 I I I (wP I (wP I (wB 0 I I I ?_))))))))))))
  refine Ay Tryz.hZ tH I I I I I I I I ?_
  refine wS 1 I I I (Aa (zE (zO ?_)))
  exact Au tH I (.cell 1 I I I I I) () (by
   show Value.agg #[.bool (!decide (z<0)),_]=_
   have e:(!decide (z<0))=decide (-z<0):=by
    by_cases h:z<0
    ·rw[dT h,dF (by omega)];rfl
    ·rw[dF h,dT (by omega)];rfl
   rw[e]) trivial fun W _=>As.nil _ _
theorem I8 (a b:Int) (W:World) (p q:Option Addr) (cap cap2:Nat) (hA:Ax W p (lbs br a.natAbs)) (hB:Ax W q (lbs br b.natAbs)) (hna:(lbs br a.natAbs).length≤1000) (hnb:(lbs br b.natAbs).length≤1000):
  Aj Tryz.prog 176 #[IZ a p cap,IZ b q cap2] W (fun x:NV=>Vt (a+b) x) (fun x=>Cl x (lbs br (a+b).natAbs)) (fun x=>[BF x (lbs br (a+b).natAbs)]):=by
 refine Ac (args:=[IZ a p cap,IZ b q cap2]) Tryz.func176 I I I ?_
 refine zA (zB ?_)
 (refine A5 rfl rfl rfl rfl ?_;intro)
 (refine A5 rfl rfl rfl rfl ?_;intro)
 (refine Ag Tryz.hZ rfl rfl rfl rfl ?_;intro)
 refine Aa ?_
 rename_i b2 b3 b4
 refine zE (zA (zA (zB (wP I (wB 0 I I I (wP I (wB 1 I I I ?_)))))))
 by_cases hs:decide (a<0)=decide (b<0)
 ·refine Hq (c:=true) Tryz.underlying4 I I I I I (congrArg some (by rw[hs];exact beq_self_eq_true _)) ?_
  refine Aa ?_
  have en:(a+b).natAbs=a.natAbs+b.natAbs:=by
   by_cases h1:a<0<;>by_cases h2:b<0<;>simp[h1,h2] at hs<;>omega
  have es:decide (a<0)=decide (a+b<0):=by
   by_cases h1:a<0<;>by_cases h2:b<0<;>simp[h1,h2] at hs⊢ <;>omega
  refine zE (zR I (A0 ?_))
  refine Bb (X:= { x:NV//Cl x (lbs br (a+b).natAbs) }) [true,true,true,true,true,true,false,false,false] (fun _=>[(4,Ai b4)]) (fun x=>[ME b2 a p cap,ME b3 b q cap2,⟨b4,153,[.bool (decide (a+b<0)),B0 x.1 (lbs br (a+b).natAbs).length],true,none⟩,BF x.1 (lbs br (a+b).natAbs)])
   3 [ME b2 a p cap,ME b3 b q cap2,⟨b4,153,[.bool false, .slice none 0 0],true,none⟩] Tryz.mixed (by kernel_rfl) ?_ ?_
  ·refine qP I (qB 0 I I I (qP I (qB 0 I I I (qP I (qB 1 I I I (Ck (wX (wZ ?_))))))))
   refine wD (X:=NV) rfl rfl (fun W' hp=>P8 W' p q cap cap2 a.natAbs b.natAbs (hA.hp hp) (hB.hp hp) (by omega) (by omega)) ?_;intro x hx
   refine Aa (Ab (wX (wZ ?_)))
   refine Ay Tryz.hZ tH I I I I I I I I ?_
   refine Aa (Ab (wX (wZ (wS 2 I I I (Aa (Ab ?_))))))
   rw[←en] at hx⊢;first|refine A8 rfl (by((repeat (first|refine AC.same ?_|refine AC.off rfl ?_));exact trivial)) ?_|refine AN rfl (by kernel_rfl) ?_
   exact Ar ⟨x,hx⟩ ⟨I,tO⟩ [0,1,2,3] (by decide) (by rw[es];rfl)
  rintro⟨x,hx⟩
  exact zE (zO (zP (Au tH I (.cell 2 I I I I I) x I hx fun W hp=>As.of_hp1 hp 3 I)))
 refine Hq (c:=false) Tryz.underlying4 I I I I I (congrArg some (beq_eq_false_iff_ne.2 hs)) ?_
 refine Aa (zE (zS I (zI (zE (zA (zA (zB (wP I (wB 0 I I I (wP I (wB 1 I I I (wC I I (fun W' hp=>Ko W' p q cap cap2 a.natAbs b.natAbs (hA.hp hp) (hB.hp hp) (by omega) (by omega)) (wP I ?_)))))))))))))
 refine wU 24 (decide (a.natAbs<b.natAbs)) I (decide_eq_decide.2 (by unfold Lu;split<;>(try split)<;>omega)) (Aa (AH ?_))
 try refine A0 ?_
 refine AF (X:=(Int×Option Addr×Nat)×(Int×Option Addr×Nat)) (fun _=>[(2,Ai b2),(3,Ai b3),(4,Ai b4)]) (fun x=>[ME b2 x.1.1 x.1.2.1 x.1.2.2,ME b3 x.2.1 x.2.2.1 x.2.2.2,⟨b4,153,[.bool false, .slice none 0 0],true,none⟩])
  (fun x=>Ax W x.1.2.1 (lbs br x.1.1.natAbs)∧Ax W x.2.2.1 (lbs br x.2.1.natAbs)∧x.2.1.natAbs≤x.1.1.natAbs∧x.1.1+x.2.1=a+b∧(decide (x.1.1<0)≠decide (x.2.1<0))∧(lbs br x.1.1.natAbs).length≤1000) ?_ ?_
 ·refine Av I (fun h=> ?_) (fun h=> ?_)
  ·have h:a.natAbs<b.natAbs:=of_decide_eq_true h
   exact zB (wB 1 I I I (wB 0 I I I (wS 0 I I I (wS 1 I I I (Aa (Al ((b,q,cap2),(a,p,cap)) ⟨hB,hA,Nat.le_of_lt h,Int.add_comm ..,Ne.symm hs,hnb⟩ ⟨I,I,I,tO⟩ [] I))))))
  ·have h: ¬a.natAbs<b.natAbs:=of_decide_eq_false h
   exact zI (Al ((a,p,cap),(b,q,cap2)) ⟨hA,hB,by show b.natAbs≤a.natAbs;omega,I,hs,hna⟩ ⟨I,I,I,tO⟩ [] I)
 rintro⟨⟨u,pu,cu⟩,⟨v,pv,cv⟩⟩ ⟨hU,hV,hle,hsum,hsg,hul⟩
 have hU:Ax W pu (lbs br u.natAbs):=hU
 have hV:Ax W pv (lbs br v.natAbs):=hV
 have hle:v.natAbs≤u.natAbs:=hle
 have hsum:u+v=a+b:=hsum
 have hsg:decide (u<0)≠decide (v<0):=hsg
 have hul:(lbs br u.natAbs).length≤1000:=hul
 have en:(a+b).natAbs=u.natAbs-v.natAbs:=by
  rw[←hsum]
  by_cases h1:u<0<;>by_cases h2:v<0<;>simp[h1,h2] at hsg<;>omega
 have es:(a+b).natAbs≠0→decide (u<0)=decide (a+b<0):=fun h0=>by
  rw[←hsum] at h0⊢
  by_cases h1:u<0<;>by_cases h2:v<0<;>simp[h1,h2] at hsg⊢ <;>omega
 refine A0 ?_
 refine Bb (X:= { y:Nat×NV//Cl y.2 (lbs br (a+b).natAbs) }) [true,true,true,true,true,true,false,false,false,false] (fun y=>[(4,Ai b4),(5,Ai y.1.1)]) (fun y=>[⟨b4,153,[.bool false, .slice none 0 0],true,none⟩,⟨y.1.1,153,[.bool (decide (u<0)),B0 y.1.2 (lbs br (a+b).natAbs).length],true,none⟩,BF y.1.2 (lbs br (a+b).natAbs)])
  4 [ME b2 u pu cu,ME b3 v pv cv,⟨b4,153,[.bool false, .slice none 0 0],true,none⟩] Tryz.mixed (by kernel_rfl) ?_ ?_
 ·refine qP I (qB 0 I I I (qP I (qB 0 I I I (qP I (qB 1 I I I (Ck (wX ?_)))))))
  refine RS.cons ?_ (RS.cons ?_ (RS.nil))
  ·refine wD (X:=NV) rfl rfl (fun W' hp=>Fk W' pu pv cu cv u.natAbs v.natAbs hle (hU.hp hp) (hV.hp hp) (by omega)) ?_;intro x hx
   refine Aa (Ab (wX ?_))
   refine RS.cons ?_ (RS.cons ?_ (RS.nil))
   ·refine Ay Tryz.hZ tH I I I I I I I I ?_
    refine Aa (Ab (wX (wZ ?_)))
    refine Ag Tryz.hZ rfl rfl rfl rfl ?_;intro b5
    refine Aa (Ab (wX (wZ (wS 4 I I I (Aa (Ab ?_))))))
    rw[←en] at hx⊢;first|refine A8 rfl (by((repeat (first|refine AC.same ?_|refine AC.off rfl ?_));exact trivial)) ?_|refine AN rfl (by kernel_rfl) ?_
    exact Ar ⟨(b5,x),hx⟩ ⟨I,I,tO⟩ [2,4,3] (by decide) I
   ·refine Ag Tryz.hZ rfl rfl rfl rfl ?_;intro b5
    refine Aa (Ab (wX (wZ ?_)))
    refine Ay Tryz.hZ tH I I I I I I I I ?_
    refine Aa (Ab (wX (wZ (wS 4 I I I (Aa (Ab ?_))))))
    rw[←en] at hx⊢;first|refine A8 rfl (by((repeat (first|refine AC.same ?_|refine AC.off rfl ?_));exact trivial)) ?_|refine AN rfl (by kernel_rfl) ?_
    exact Ar ⟨(b5,x),hx⟩ ⟨I,I,tO⟩ [2,4,3] (by decide) I
  ·refine Ag Tryz.hZ rfl rfl rfl rfl ?_;intro b5
   refine Aa (Ab (wX (wZ ?_)))
   refine wD (X:=NV) rfl rfl (fun W' hp=>Fk W' pu pv cu cv u.natAbs v.natAbs hle (hU.hp hp) (hV.hp hp) (by omega)) ?_;intro x hx
   refine Aa (Ab (wX (wZ ?_)))
   refine Ay Tryz.hZ tH I I I I I I I I ?_
   refine Aa (Ab (wX (wZ (wS 3 I I I (Aa (Ab ?_))))))
   rw[←en] at hx⊢;first|refine A8 rfl (by((repeat (first|refine AC.same ?_|refine AC.off rfl ?_));exact trivial)) ?_|refine AN rfl (by kernel_rfl) ?_
   exact Ar ⟨(b5,x),hx⟩ ⟨I,I,tO⟩ [2,3,4] (by decide) I
 rintro⟨⟨b5,x⟩,hx⟩
 have hx:Cl x (lbs br (a+b).natAbs):=hx
 refine zE (zA (zA (zB (wP I (wB 1 I I I (wP I (wP I ?_)))))))
 refine Af 38 (.bool (decide ((a+b).natAbs=0))) I (congrArg Value.bool (by
  by_cases h0:(a+b).natAbs=0
  ·rw[dT h0,h0,Bc];rfl
  ·have hL:(lbs br (a+b).natAbs).length≠0:=fun e=>h0 ((Dt br2).1 (List.length_eq_zero_iff.1 e))
   rw[dF h0,beq_eq_false_iff_ne];omega)) ?_
 refine Aa (AH ?_)
 try refine A0 ?_
 refine AF (X:=Unit) (fun _=>[(4,Ai b4),(5,Ai b5)]) (fun _=>[⟨b4,153,[.bool false, .slice none 0 0],true,none⟩,⟨b5,153,[.bool (decide (a+b<0)),B0 x (lbs br (a+b).natAbs).length],true,none⟩,BF x (lbs br (a+b).natAbs)]) (fun _=>True) ?_ ?_
 ·refine Av I (fun h=> ?_) (fun h=> ?_)
  ·have h:(a+b).natAbs=0:=of_decide_eq_true h
   exact zB (wP I (wS 1 I I I (Aa (Al () tO ⟨I,I,tO⟩ [] (by rw[dF (show¬a+b<0 by omega)];rfl)))))
  ·have h: ¬(a+b).natAbs=0:=of_decide_eq_false h
   exact zI (Al () tO ⟨I,I,tO⟩ [] (by rw[←es h];rfl))
 intro _ _
 exact zA (zB (wB 1 I I I (wS 0 I I I (Aa (zE (zO (Au tH I (.cell 0 I I I I I) x I hx fun W hp=>As.of_hp1 hp 2 I)))))))
theorem GT (a b:Int) (W:World) (p q:Option Addr) (cap cap2:Nat) (hA:Ax W p (lbs br a.natAbs)) (hB:Ax W q (lbs br b.natAbs)) (hna:(lbs br a.natAbs).length≤1000) (hnb:(lbs br b.natAbs).length≤1000):
  Aj Tryz.prog 220 #[IZ a p cap,IZ b q cap2] W (fun x:NV=>Vt (a*b) x) (fun x=>Cl x (lbs br (a*b).natAbs)) (fun x=>[BF x (lbs br (a*b).natAbs)]):=by
 have en:(a*b).natAbs=a.natAbs*b.natAbs:=Int.natAbs_mul a b
 have es:(a*b).natAbs≠0→(decide (a<0) !=decide (b<0))=decide (a*b<0):=fun h0=>by
  rw[en] at h0
  have ha:a≠0:=fun e=>h0 (by rw[e];simp)
  have hb:b≠0:=fun e=>h0 (by rw[e];simp)
  by_cases h1:a<0<;>by_cases h2:b<0
  ·rw[dT h1,dT h2,dF (by have:=Int.mul_pos_of_neg_of_neg h1 h2;omega)];rfl
  ·rw[dT h1,dF h2,dT (Int.mul_neg_of_neg_of_pos h1 (by omega))];rfl
  ·rw[dF h1,dT h2,dT (Int.mul_neg_of_pos_of_neg (by omega) h2)];rfl
  ·rw[dF h1,dF h2,dF (by have:=Int.mul_pos (show 0<a by omega) (show 0<b by omega);omega)];rfl
 refine Ac (args:=[IZ a p cap,IZ b q cap2]) Tryz.func220 I I I ?_
 refine zA (zB ?_)
 (refine A5 rfl rfl rfl rfl ?_;intro)
 (refine A5 rfl rfl rfl rfl ?_;intro)
 (refine Ag Tryz.hZ rfl rfl rfl rfl ?_;intro)
 refine Aa ?_
 rename_i b2 b3 b4
 refine zE (A0 ?_)
 refine Bb (X:= { y:Nat×NV//Cl y.2 (lbs br (a*b).natAbs) }) [true,true,true,true,true,true,true,true,true,false,false,false,false] (fun y=>[(4,Ai b4),(5,Ai y.1.1)]) (fun y=>[⟨b4,153,[.bool false, .slice none 0 0],true,none⟩,⟨y.1.1,153,[.bool (decide (a<0) !=decide (b<0)),B0 y.1.2 (lbs br (a*b).natAbs).length],true,none⟩,BF y.1.2 (lbs br (a*b).natAbs)])
  4 [ME b2 a p cap,ME b3 b q cap2,⟨b4,153,[.bool false, .slice none 0 0],true,none⟩] Tryz.mixed (by kernel_rfl) ?_ ?_
 ·refine qP I (qB 0 I I I (qP I (qB 1 I I I ?_)))
  refine U7 Tryz.underlying4 I I I I I I ?_
  refine qP I (qB 0 I I I (qP I (qB 1 I I I (Ck (wX ?_)))))
  refine RS.cons ?_ (RS.cons ?_ (RS.nil))
  ·refine wD (X:=NV) rfl rfl (fun W' hp=>IR W' p q cap cap2 a.natAbs b.natAbs (hA.hp hp) (hB.hp hp) (by omega) (by omega)) ?_;intro x hx
   refine Aa (Ab (wX ?_))
   refine RS.cons ?_ (RS.cons ?_ (RS.nil))
   ·refine Ay Tryz.hZ tH I I I I I I I I ?_
    refine Aa (Ab (wX (wZ ?_)))
    refine Ag Tryz.hZ rfl rfl rfl rfl ?_;intro b5
    refine Aa (Ab (wX (wZ (wS 4 I I I (Aa (Ab ?_))))))
    rw[←en] at hx⊢;first|refine A8 rfl (by((repeat (first|refine AC.same ?_|refine AC.off rfl ?_));exact trivial)) ?_|refine AN rfl (by kernel_rfl) ?_
    exact Ar ⟨(b5,x),hx⟩ ⟨I,I,tO⟩ [2,4,3] (by decide) I
   ·refine Ag Tryz.hZ rfl rfl rfl rfl ?_;intro b5
    refine Aa (Ab (wX (wZ ?_)))
    refine Ay Tryz.hZ tH I I I I I I I I ?_
    refine Aa (Ab (wX (wZ (wS 4 I I I (Aa (Ab ?_))))))
    rw[←en] at hx⊢;first|refine A8 rfl (by((repeat (first|refine AC.same ?_|refine AC.off rfl ?_));exact trivial)) ?_|refine AN rfl (by kernel_rfl) ?_
    exact Ar ⟨(b5,x),hx⟩ ⟨I,I,tO⟩ [2,4,3] (by decide) I
  ·refine Ag Tryz.hZ rfl rfl rfl rfl ?_;intro b5
   refine Aa (Ab (wX (wZ ?_)))
   refine wD (X:=NV) rfl rfl (fun W' hp=>IR W' p q cap cap2 a.natAbs b.natAbs (hA.hp hp) (hB.hp hp) (by omega) (by omega)) ?_;intro x hx
   refine Aa (Ab (wX (wZ ?_)))
   refine Ay Tryz.hZ tH I I I I I I I I ?_
   refine Aa (Ab (wX (wZ (wS 3 I I I (Aa (Ab ?_))))))
   rw[←en] at hx⊢;first|refine A8 rfl (by((repeat (first|refine AC.same ?_|refine AC.off rfl ?_));exact trivial)) ?_|refine AN rfl (by kernel_rfl) ?_
   exact Ar ⟨(b5,x),hx⟩ ⟨I,I,tO⟩ [2,3,4] (by decide) I
 rintro⟨⟨b5,x⟩,hx⟩
 have hx:Cl x (lbs br (a*b).natAbs):=hx
 refine zE (zA (zA (zB (wP I (wB 1 I I I (wP I (wP I ?_)))))))
 refine Af 20 (.bool (decide ((a*b).natAbs=0))) I (congrArg Value.bool (by
  by_cases h0:(a*b).natAbs=0
  ·rw[dT h0,h0,Bc];rfl
  ·have hL:(lbs br (a*b).natAbs).length≠0:=fun e=>h0 ((Dt br2).1 (List.length_eq_zero_iff.1 e))
   rw[dF h0,beq_eq_false_iff_ne];omega)) ?_
 refine Aa (AH ?_)
 try refine A0 ?_
 refine AF (X:=Unit) (fun _=>[(4,Ai b4),(5,Ai b5)]) (fun _=>[⟨b4,153,[.bool false, .slice none 0 0],true,none⟩,⟨b5,153,[.bool (decide (a*b<0)),B0 x (lbs br (a*b).natAbs).length],true,none⟩,BF x (lbs br (a*b).natAbs)]) (fun _=>True) ?_ ?_
 ·refine Av I (fun h=> ?_) (fun h=> ?_)
  ·have h:(a*b).natAbs=0:=of_decide_eq_true h
   exact zB (wP I (wS 1 I I I (Aa (Al () tO ⟨I,I,tO⟩ [] (by rw[dF (show¬a*b<0 by omega)];rfl)))))
  ·have h: ¬(a*b).natAbs=0:=of_decide_eq_false h
   exact zI (Al () tO ⟨I,I,tO⟩ [] (by rw[←es h];rfl))
 intro _ _
 exact zA (zB (wB 1 I I I (wS 0 I I I (Aa (zE (zO (Au tH I (.cell 0 I I I I I) x I hx fun W hp=>As.of_hp1 hp 2 I)))))))
-- BOXES 6
-- CODE2
theorem Fz {z:Int} (h:(decDigits z.natAbs).length≤300):(itoa z).length≤301:=by
 rw[BL,List.length_append]
 have:=KP z
 omega
theorem GB {a b:Int} (h:(smI a&&smI b)=true):By Tryz.prog 142 [str (itoa a),str (itoa b)] (.tuple #[.int .i64 a, .int .i64 b, .bool true]):=fun W=>by
 obtain⟨h1,h2⟩:=Bool.and_eq_true_iff.1 h
 have l1:(itoa a).length≤17:=of_decide_eq_true h1
 have l2:(itoa b).length≤17:=of_decide_eq_true h2
 have:=Lg a b (by omega) (by omega) W
 rw[h1,h2] at this
 exact this
theorem GD {a b:Int} (h:(smI a&&smI b)=false) (ha:(decDigits a.natAbs).length≤300) (hb:(decDigits b.natAbs).length≤300): ∃x y:Int,By Tryz.prog 142 [str (itoa a),str (itoa b)] (.tuple #[.int .i64 x, .int .i64 y, .bool false]):=
 ⟨_,_,fun W=>by
  have l1:=Fz ha
  have l2:=Fz hb
  have:=Lg a b (by omega) (by omega) W
  rw[h] at this
  exact this⟩
theorem IH (a b:Int) (ha:(decDigits a.natAbs).length≤300) (hb:(decDigits b.natAbs).length≤300) (hab:(decDigits (a*b).natAbs).length≤300) (W:World) (ht:AO W):
  Aj Tryz.prog 175 #[str (itoa a),str (itoa b)] W (fun _:Unit=> .tuple #[str (itoa (a*b)), .int .i64 0]) (fun _=>True) (fun _=>[]):=by
 have la:=Ci (m:=a.natAbs) (by omega)
 have lb:=Ci (m:=b.natAbs) (by omega)
 have l1:=Fz ha
 have l2:=Fz hb
 refine Ac (args:=[str (itoa a),str (itoa b)]) Tryz.func175 I I I ?_
 refine zA (zB (wP I (wP I (Aa (zE (zA (zA (zB (wP I (wP I (wC I I (fun W _=>De a b ha hb W) (wP I (Aa ?_)))))))))))))
 refine zE (zA (zB (wP I (wP I (Aa (zE (zS I (zI (zE (zA (zA (zB ?_))))))))))))
 cases hs:smI a&&smI b with
 |true=>
  refine wP I (wP I (wC I I (fun W _=>GB hs W) ?_))
  iterate 7 refine wP I ?_
  refine Aa (zE (zA (zB (wP I (wP I (wP I (wP I ?_)))))))
  refine Af 26 (.int .i64 ((itoa a).length:Nat)) I (congrArg (fun n:Nat=>Value.int .i64 (n:Int)) (A4 _)) ?_
  refine wP I (wP I ?_)
  refine Af 28 (.int .i64 ((itoa b).length:Nat)) I (congrArg (fun n:Nat=>Value.int .i64 (n:Int)) (A4 _)) ?_
  refine wP I (wV 29 (((itoa a).length+(itoa b).length:Nat):Int) I (AV (by omega)) (wP I (wU 30 (decide ((itoa a).length+(itoa b).length≤18)) I (decide_eq_decide.2 (by omega)) (wP I (Aa (zE ?_))))))
  refine Av I (fun h18=> ?_) (fun h18=> ?_)
  ·have h18:(itoa a).length+(itoa b).length≤18:=of_decide_eq_true h18
   have hm:(a*b).natAbs<1000000000000000000:=by
    have p1:=CP a.natAbs
    have p2:=CP b.natAbs
    have q1:(decDigits a.natAbs).length≤(itoa a).length:=by rw[BL,List.length_append];omega
    have q2:(decDigits b.natAbs).length≤(itoa b).length:=by rw[BL,List.length_append];omega
    rw[Int.natAbs_mul]
    have r1:=Nat.mul_lt_mul'' p1 p2
    rw[←Nat.pow_add] at r1
    exact Nat.lt_of_lt_of_le r1 (show _≤10^18 from Nat.pow_le_pow_right (by decide) (by omega))
   exact zA (zB (wP I (wP I (wP I (wV 34 (a*b) I (Ap (by omega) (by omega)) (wC I I (fun W hp=>Bv (a*b) (by omega) (by omega) W (ht.hp hp)) (wP I (wP I (Aa (zE (zO (zP (wR2 I I I)))))))))))))
  ·refine zI (zE (zA (zB (wP I ?_))))
   refine wD (X:=NV) I I (fun W' _=>Bf a (by omega) W') ?_
   intro x hx
   refine wP I ?_
   refine wD (X:=NV) I I (fun W' _=>Bf b (by omega) W') ?_
   intro y hy
   refine wD (X:=NV) I I (fun W' hp=>GT a b W' (some ⟨x.1,0,none⟩) (some ⟨y.1,0,none⟩) x.2.1 y.2.1 (Ax.of_bx hp 0 I) (Ax.of_bx hp 1 I) (by omega) (by omega)) ?_
   intro w hw
   exact wC I I (fun W' hp=>E8 (a*b) hab W' (some ⟨w.1,0,none⟩) w.2.1 (Ax.of_bx hp 2 I)) (wP I (wP I (wP I (wP I (Aa (zE (zO (wR2 I I I))))))))
 |false=>
  obtain⟨x0,y0,h2⟩:=GD hs ha hb
  refine wP I (wP I (wC I I (fun W _=>h2 W) ?_))
  iterate 7 refine wP I ?_
  refine Aa (zE (zA (zB (wP I (wP I ?_)))))
  iterate 6 refine An I I ?_
  refine wP I (Aa (zE (zS I (zI (zE (zA (zB (wP I ?_))))))))
  refine wD (X:=NV) I I (fun W' _=>Bf a (by omega) W') ?_
  intro x hx
  refine wP I ?_
  refine wD (X:=NV) I I (fun W' _=>Bf b (by omega) W') ?_
  intro y hy
  refine wD (X:=NV) I I (fun W' hp=>GT a b W' (some ⟨x.1,0,none⟩) (some ⟨y.1,0,none⟩) x.2.1 y.2.1 (Ax.of_bx hp 0 I) (Ax.of_bx hp 1 I) (by omega) (by omega)) ?_
  intro w hw
  exact wC I I (fun W' hp=>E8 (a*b) hab W' (some ⟨w.1,0,none⟩) w.2.1 (Ax.of_bx hp 2 I)) (wP I (wP I (wP I (wP I (Aa (zE (zO (wR2 I I I))))))))
theorem LG (a b:Int) (ha:(decDigits a.natAbs).length≤300) (hb:(decDigits b.natAbs).length≤300) (W:World):
  Aj Tryz.prog 123 #[str (itoa a),str (itoa b)] W (fun _:Unit=> .tuple #[.int .i64 (Fg a b), .int .i64 0]) (fun _=>True) (fun _=>[]):=by
 have la:=Ci (m:=a.natAbs) (by omega)
 have lb:=Ci (m:=b.natAbs) (by omega)
 refine Ac (args:=[str (itoa a),str (itoa b)]) Tryz.func123 I I I ?_
 refine zA (zB (wP I (wP I (Aa (zE (zA (zA (zB (wP I (wP I (wC I I (fun W _=>De a b ha hb W) (wP I (Aa ?_)))))))))))))
 refine zE (zA (zB (wP I (wP I (Aa (zE (zS I (zI (zE (zA (zA (zB ?_))))))))))))
 cases hs:smI a&&smI b with
 |true=>
  refine wP I (wP I (wC I I (fun W _=>GB hs W) ?_))
  iterate 7 refine wP I ?_
  refine Aa (zE (zA (zB (wP I (Aa (zE (zR I (zA (zA (zB (wP I (wP I (wP I ?_)))))))))))))
  by_cases h1:a<b
  ·exact wU 27 true I (dT h1) (Aa (zE (zR I (zA (zB (wP I (wP I (Aa (zE (zO (zP (zP (wR2 I I (by rw[Fg,if_pos h1]))))))))))))))
  refine wU 27 false I (dF h1) (Aa (zE (zS I (zI (zE (zA (zA (zB (wP I (wP I (wP I ?_)))))))))))
  by_cases h2:b<a
  ·exact wU 30 true I (dT h2) (Aa (zE (zR I (zA (zB (wP I (wP I (Aa (zE (zO (zP (zP (wR2 I I (by rw[Fg,if_neg h1,if_neg (by omega)]))))))))))))))
  exact wU 30 false I (dF h2) (Aa (zE (zS I (zI (zE (zA (zB (wP I (wP I (Aa (zE (zO (zP (wR2 I I (by rw[Fg,if_neg h1,if_pos (by omega)])))))))))))))))
 |false=>
  obtain⟨x0,y0,h2⟩:=GD hs ha hb
  refine wP I (wP I (wC I I (fun W _=>h2 W) ?_))
  iterate 7 refine wP I ?_
  refine Aa (zE (zA (zB (wP I (Aa (zE (zS I (zI (zE (zA (zB (wP I ?_))))))))))))
  refine wD (X:=NV) I I (fun W' _=>Bf a (by omega) W') ?_
  intro x hx
  refine wP I ?_
  refine wD (X:=NV) I I (fun W' _=>Bf b (by omega) W') ?_
  intro y hy
  refine wC I I (fun W' hp=>Rv b W' (some ⟨y.1,0,none⟩) y.2.1) ?_
  refine wD (X:=NV) I I (fun W' hp=>I8 a (-b) W' (some ⟨x.1,0,none⟩) (some ⟨y.1,0,none⟩) x.2.1 y.2.1 (Ax.of_bx hp 0 I) (by rw[Int.natAbs_neg];exact Ax.of_bx hp 1 I) (by omega) (by rw[Int.natAbs_neg];omega)) ?_
  intro w hw
  (refine Ag Tryz.hZ rfl rfl rfl rfl ?_;intro)
  refine wS 3 I I I (Aa ?_)
  rename_i b10
  refine zE (zA (zA (zB (wP I (wB 3 I I I (wP I (wP I ?_)))))))
  refine Af 40 (.bool (decide (a=b))) I (congrArg Value.bool (by
   by_cases h0:a=b
   ·rw[dT h0,show(a+ -b).natAbs=0 by omega,Bc];rfl
   ·have hL:(lbs br (a+ -b).natAbs).length≠0:=fun e=>by have:=(Dt br2).1 (List.length_eq_zero_iff.1 e);omega
    rw[dF h0,beq_eq_false_iff_ne];omega)) ?_
  refine Aa (zE ?_)
  refine Av I (fun h0=> ?_) (fun h0=> ?_)
  ·have h0:a=b:=of_decide_eq_true h0
   exact zA (zB (wP I (wP I (Aa (zE (zO (zP (wR2 I I (by rw[Fg,if_neg (by omega),if_pos h0])))))))))
  have h0: ¬a=b:=of_decide_eq_false h0
  refine zI (zE (zA (zA (zB (wP I (wB 3 I I I (Aa (zE ?_))))))))
  refine Av I (fun h1=> ?_) (fun h1=> ?_)
  ·have h1:a+ -b<0:=of_decide_eq_true h1
   exact zA (zB (wP I (wP I (Aa (zE (zO (zP (wR2 I I (by rw[Fg,if_pos (by omega)])))))))))
  ·have h1: ¬a+ -b<0:=of_decide_eq_false h1
   exact zI (zE (zA (zB (wP I (wP I (Aa (zE (zO (wR2 I I (by rw[Fg,if_neg (by omega),if_neg h0]))))))))))
-- BOXES 6
-- CODE2
theorem Ra (a b:Int) (ha:(decDigits a.natAbs).length≤300) (hb:(decDigits b.natAbs).length≤300) (hab:(decDigits (a+b).natAbs).length≤300) (W:World) (ht:AO W):
  Aj Tryz.prog 149 #[str (itoa a),str (itoa b)] W (fun _:Unit=> .tuple #[str (itoa (a+b)), .int .i64 0]) (fun _=>True) (fun _=>[]):=by
 have la:=Ci (m:=a.natAbs) (by omega)
 have lb:=Ci (m:=b.natAbs) (by omega)
 refine Ac (args:=[str (itoa a),str (itoa b)]) Tryz.func149 I I I ?_
 refine zA (zB (wP I (wP I (Aa (zE (zA (zA (zB (wP I (wP I (wC I I (fun W _=>De a b ha hb W) (wP I (Aa ?_)))))))))))))
 refine zE (zA (zB (wP I (wP I (Aa (zE (zS I (zI (zE (zA (zA (zB ?_))))))))))))
 cases hs:smI a&&smI b with
 |true=>
  obtain⟨h1,h2⟩:=Bool.and_eq_true_iff.1 hs
  have b1:=H5 h1
  have b2:=H5 h2
  refine wP I (wP I (wC I I (fun W _=>GB hs W) ?_))
  iterate 7 refine wP I ?_
  refine Aa (zE (zA (zB (wP I (Aa (zE (zR I (zA (zB (wP I (wP I (wP I (wV 26 (a+b) I (Ap (by omega) (by omega)) ?_)))))))))))))
  exact wC I I (fun W hp=>Bv (a+b) (by omega) (by omega) W (ht.hp hp)) (wP I (wP I (Aa (zE (zO (zP (wR2 I I I)))))))
 |false=>
  obtain⟨x0,y0,h2⟩:=GD hs ha hb
  refine wP I (wP I (wC I I (fun W _=>h2 W) ?_))
  iterate 7 refine wP I ?_
  refine Aa (zE (zA (zB (wP I (Aa (zE (zS I (zI (zE (zA (zB (wP I ?_))))))))))))
  refine wD (X:=NV) I I (fun W' _=>Bf a (by omega) W') ?_
  intro x hx
  refine wP I ?_
  refine wD (X:=NV) I I (fun W' _=>Bf b (by omega) W') ?_
  intro y hy
  refine wD (X:=NV) I I (fun W' hp=>I8 a b W' (some ⟨x.1,0,none⟩) (some ⟨y.1,0,none⟩) x.2.1 y.2.1 (Ax.of_bx hp 0 I) (Ax.of_bx hp 1 I) (by omega) (by omega)) ?_
  intro w hw
  exact wC I I (fun W' hp=>E8 (a+b) hab W' (some ⟨w.1,0,none⟩) w.2.1 (Ax.of_bx hp 2 I)) (wP I (wP I (wP I (wP I (Aa (zE (zO (wR2 I I I))))))))
-- BOXES 6
-- CODE2
theorem E4 {z:Int} (h: ¬okN z):Io z= .tuple #[str [], .int .i64 4]:=if_neg h
theorem WG {a b:Int} (ha:(decDigits a.natAbs).length≤300) (hb:(decDigits b.natAbs).length≤300):(decDigits (a*b).natAbs).length≤606:=by
 obtain⟨e,he⟩: ∃e:Nat,e=300:=⟨_,rfl⟩
 obtain⟨k,hk⟩: ∃k:Nat,k=606:=⟨_,rfl⟩
 rw[←he] at ha hb
 rw[←hk]
 have h1:=Nat.lt_of_lt_of_le (CP a.natAbs) (Nat.pow_le_pow_right (by decide) ha)
 have h2:=Nat.lt_of_lt_of_le (CP b.natAbs) (Nat.pow_le_pow_right (by decide) hb)
 have h3:=Nat.mul_lt_mul'' h1 h2
 rw[←Nat.pow_add] at h3
 rw[Int.natAbs_mul]
 exact Dd k _ (by omega) (Nat.lt_of_lt_of_le h3 (Nat.pow_le_pow_right (by decide) (by omega)))
theorem Xx {a b:Int} (ha:(decDigits a.natAbs).length≤300) (hb:(decDigits b.natAbs).length≤300):(decDigits (a+b).natAbs).length≤606:=by
 obtain⟨e,he⟩: ∃e:Nat,e=300:=⟨_,rfl⟩
 obtain⟨k,hk⟩: ∃k:Nat,k=606:=⟨_,rfl⟩
 rw[←he] at ha hb
 rw[←hk]
 have h1:=Nat.lt_of_lt_of_le (CP a.natAbs) (Nat.pow_le_pow_right (by decide) ha)
 have h2:=Nat.lt_of_lt_of_le (CP b.natAbs) (Nat.pow_le_pow_right (by decide) hb)
 have h3:10^(e+1)=10*10^e:=by rw[Nat.pow_succ,Nat.mul_comm]
 have h4:(a+b).natAbs<10^(e+1):=by omega
 exact Dd k _ (by omega) (Nat.lt_of_lt_of_le h4 (Nat.pow_le_pow_right (by decide) (by omega)))
theorem N2 (z:Int) (hg:300<(decDigits z.natAbs).length) (hl:(decDigits z.natAbs).length≤606):By Tryz.prog 191 [str (itoa z)] (.int .i64 4):=by
 intro W
 obtain⟨s,hs⟩: ∃s,s=itoa z:=⟨_,rfl⟩
 obtain⟨dd,hdd⟩: ∃dd,dd=decDigits z.natAbs:=⟨_,rfl⟩
 obtain⟨f,hf⟩: ∃f,f=(Gu z).length:=⟨_,rfl⟩
 have hss:s=Gu z++dd:=by rw[hs,hdd];exact BL z
 have hf1:f≤1:=hf▸KP z
 have hsl:s.length=f+dd.length:=by rw[hss,List.length_append,hf]
 have hd0:0<dd.length:=by rw[hdd];exact List.length_pos_iff.2 (FH _)
 have hget: ∀i,f≤i→s[i]? =dd[i-f]? :=fun i hi=>by rw[hss,List.getElem?_append_right (by omega),hf]
 obtain⟨c0,hc0,hc45⟩:=EN z
 rw[←hs] at hc0⊢
 rw[←hdd] at hl hg
 have hdg: ∀b∈dd,DG b=true:=by rw[hdd];exact(ET _).all
 refine Ac Tryz.func191 I I I ?_
 refine zA (zB (wP I (Aa (zE (zA (zB (wP I (Aa (zE (zA (zA (zB (wP I (wP I ?_))))))))))))))
 refine Af 6 (.int .i64 (s.length:Nat)) I (congrArg (fun n:Nat=>Value.int .i64 (n:Int)) (A4 s)) ?_
 refine wP I (wU 7 true I (dT (by omega)) (wP I (wP I ?_)))
 refine AZ 0 tH I I I I I I I I hc0 ?_
 refine wP I (wU 11 (decide (z<0)) I ((Du c0 45).trans hc45) (wP I (Aa (AH ?_))))
 try refine A0 ?_
 refine AF (X:=Unit) (fun _=>[(0,str s),(3, .int .i64 (f:Nat))]) (fun _=>[]) (fun _=>True) ?_ ?_
 ·refine Av I (fun h=> ?_) (fun h=> ?_)
  ·have h:z<0:=of_decide_eq_true h
   exact zB (wP I (Aa (Al () tO ⟨I,by rw[hf];unfold Gu;rw[if_pos h];rfl,tO⟩ [] I)))
  ·have h: ¬z<0:=of_decide_eq_false h
   exact zI (Al () tO ⟨I,by rw[hf];unfold Gu;rw[if_neg h];rfl,tO⟩ [] I)
 intro _ _
 refine A0 (A0 ?_)
 refine AF (X:=Unit) (fun _=>[(0,str s),(3, .int .i64 (f:Nat)),(27, .bool false)]) (fun _=>[]) (fun _=>True) ?_ ?_
 ·refine zB (wP I (wP I (wP I ?_)))
  refine Af 15 (.int .i64 (s.length:Nat)) I (congrArg (fun n:Nat=>Value.int .i64 (n:Int)) (A4 s)) ?_
  refine wP I (wU 16 false I (by rw[beq_eq_false_iff_ne];omega) ?_)
  obtain⟨b,hb⟩: ∃b,dd[0]? =some b:=⟨dd[0],List.getElem?_eq_getElem hd0⟩
  have hsb:s[f]? =some b:=by rw[hget f (Nat.le_refl _),Nat.sub_self];exact hb
  refine wP I (wP I (wP I ?_))
  refine AZ f tH I I I I I I I I hsb ?_
  refine wP I ?_
  by_cases h48:b=48
  ·rw[h48,hdd] at hb
   have h0:=Q8 hb
   have hz:z=0:=by omega
   have hs1:s.length=1:=by rw[hs,hz,Ce];rfl
   refine wU 21 true I ((Du b 48).trans (dT h48)) (wP I (wP I (wP I ?_)))
   refine Af 24 (.int .i64 (s.length:Nat)) I (congrArg (fun n:Nat=>Value.int .i64 (n:Int)) (A4 s)) ?_
   exact wP I (wU 25 false I (dF (by omega)) (wP I (wP I (Aa (Al () tO ⟨I,I,I,tO⟩ [] I)))))
  ·refine wU 21 false I ((Du b 48).trans (dF h48)) (wP I ?_)
   iterate 3 refine An I I ?_
   exact wP I (wP I (Aa (Al () tO ⟨I,I,I,tO⟩ [] I)))
 intro _ _
 refine zS I (zI (zE (zA (zA (zB (wP I (wP I (Aa (zE (zH ?_))))))))))
 refine AA (X:=Nat) (fun i=>[(0,str s),(3, .int .i64 (f:Nat)),(4, .int .i64 (i:Nat))]) (fun _=>[]) (fun i=>i≤s.length∧f≤i) (fun i=>s.length-i) f ⟨by omega,Nat.le_refl _⟩ ⟨I,I,I,tO⟩ [] I ?_
 rintro i ⟨hi,hfi⟩
 have hi:i≤s.length:=hi
 have hfi:f≤i:=hfi
 refine zA (zA (zB (wP I (wP I (wP I ?_)))))
 refine Af 31 (.int .i64 (s.length:Nat)) I (congrArg (fun n:Nat=>Value.int .i64 (n:Int)) (A4 s)) ?_
 refine wP I ?_
 by_cases hlt:i<s.length
 ·refine wU 32 true I (dT (by omega)) (Aa (zE (zR I (zI (zE (zA (zH (zA (zB ?_)))))))))
  obtain⟨b,hb⟩: ∃b,dd[i-f]? =some b:=⟨dd[i-f]'(by omega),List.getElem?_eq_getElem (by omega)⟩
  have hsb:s[i]? =some b:=by rw[hget i hfi];exact hb
  have hbd:=C0.1 (hdg b (List.mem_of_getElem? hb))
  refine wP I (wP I ?_)
  refine AZ i tH I I I I I I I I hsb ?_
  refine wP I (wU 38 false I ((Sy b).trans (dF (by omega))) (wP I (wP I (wP I ?_))))
  refine AZ i tH I I I I I I I I hsb ?_
  refine wP I (wU 43 false I ((RR b).trans (dF (by omega))) (wP I (Aa (zE (zS I (zI (zN (zE (zB (wP I (wP I (wV 34 ((i+1:Nat):Int) I (Az (by omega)) (wP I ?_)))))))))))))
  exact Aa (A6 (i+1) ⟨hlt,by show f≤i+1;omega⟩ (by show s.length-(i+1)<s.length-i;omega) ⟨I,I,I,tO⟩ [] I)
 ·refine wU 32 false I (dF (by omega)) (Aa (zE (zS I (zJ (zK (zK (zL (zE (zA (zA (zB (wP I (wP I ?_)))))))))))))
  refine Af 46 (.int .i64 (s.length:Nat)) I (congrArg (fun n:Nat=>Value.int .i64 (n:Int)) (A4 s)) ?_
  refine wP I (wP I (wV 48 (dd.length:Nat) I (by show w64 ((s.length:Int)-f)=_;rw[Ap (by omega) (by omega)];omega) (wP I (wU 49 true I (dT (by omega)) (Aa (zE (zR I (zA (zB (wP I (Aa (zE (zO ?_)))))))))))))
  exact zP (wR1 I I I)
theorem FT (z:Int) (hl:(decDigits z.natAbs).length≤606) (W:World) (p:Option Addr) (cap:Nat) (hA:Ax W p (lbs br z.natAbs)):
  Aj Tryz.prog 200 #[.agg #[.bool (decide (z<0)),slv p (lbs br z.natAbs).length cap]] W (fun _:Unit=>Io z) (fun _=>True) (fun _=>[]):=by
 refine Ac (args:=[.agg #[.bool (decide (z<0)),slv p (lbs br z.natAbs).length cap]]) Tryz.func200 I I I ?_
 refine zA (zB ?_)
 (refine A5 rfl rfl rfl rfl ?_;intro)
 refine wP I (wP I (Aa (zE (zA (zB (wB 0 I I I (wC I I (fun W hp=>Fa z (by omega) W p cap (hA.hp hp)) (wP I (Aa ?_)))))))))
 by_cases h:okN z
 ·refine zE (zA (zA (zB (wP I (wC I I (fun W _=>Fh z h.dd W) (wP I (Aa (zE (zS I (zI (zE (zA (zB ?_)))))))))))))
  exact wP I (wP I (wP I (Aa (zE (zO (AI tH I (.tmp I) (.tmp I) () (DV h).symm tO fun W _=>As.nil _ _))))))
 ·have hgt:300<(decDigits z.natAbs).length:=by
   rcases Nat.lt_or_ge 300 (decDigits z.natAbs).length with q|q
   ·exact q
   ·exact absurd (G3.1 q) h
  refine zE (zA (zA (zB (wP I (wC I I (fun W _=>N2 z hgt hl W) (wP I (Aa (zE (zR I (zA (zB (wP I (wP I ?_)))))))))))))
  exact Aa (zE (zO (zP (AI tH I (.tmp I) (.tmp I) () (E4 h).symm tO fun W _=>As.nil _ _))))
theorem Lx (a b:Int) (ha:(decDigits a.natAbs).length≤300) (hb:(decDigits b.natAbs).length≤300) (W:World) (ht:AO W):
  Aj Tryz.prog 175 #[str (itoa a),str (itoa b)] W (fun _:Unit=>Io (a*b)) (fun _=>True) (fun _=>[]):=by
 have hab:(decDigits (a*b).natAbs).length≤606:=WG ha hb
 obtain⟨rs,re,hres⟩:=Gt (a*b)
 have la:=Ci (m:=a.natAbs) (by omega)
 have lb:=Ci (m:=b.natAbs) (by omega)
 have l1:=Fz ha
 have l2:=Fz hb
 refine Ac (args:=[str (itoa a),str (itoa b)]) Tryz.func175 I I I ?_
 refine zA (zB (wP I (wP I (Aa (zE (zA (zA (zB (wP I (wP I (wC I I (fun W _=>De a b ha hb W) (wP I (Aa ?_)))))))))))))
 refine zE (zA (zB (wP I (wP I (Aa (zE (zS I (zI (zE (zA (zA (zB ?_))))))))))))
 cases hs:smI a&&smI b with
 |true=>
  refine wP I (wP I (wC I I (fun W _=>GB hs W) ?_))
  iterate 7 refine wP I ?_
  refine Aa (zE (zA (zB (wP I (wP I (wP I (wP I ?_)))))))
  refine Af 26 (.int .i64 ((itoa a).length:Nat)) I (congrArg (fun n:Nat=>Value.int .i64 (n:Int)) (A4 _)) ?_
  refine wP I (wP I ?_)
  refine Af 28 (.int .i64 ((itoa b).length:Nat)) I (congrArg (fun n:Nat=>Value.int .i64 (n:Int)) (A4 _)) ?_
  refine wP I (wV 29 (((itoa a).length+(itoa b).length:Nat):Int) I (AV (by omega)) (wP I (wU 30 (decide ((itoa a).length+(itoa b).length≤18)) I (decide_eq_decide.2 (by omega)) (wP I (Aa (zE ?_))))))
  refine Av I (fun h18=> ?_) (fun h18=> ?_)
  ·have h18:(itoa a).length+(itoa b).length≤18:=of_decide_eq_true h18
   have hm:(a*b).natAbs<1000000000000000000:=by
    have p1:=CP a.natAbs
    have p2:=CP b.natAbs
    have q1:(decDigits a.natAbs).length≤(itoa a).length:=by rw[BL,List.length_append];omega
    have q2:(decDigits b.natAbs).length≤(itoa b).length:=by rw[BL,List.length_append];omega
    rw[Int.natAbs_mul]
    have r1:=Nat.mul_lt_mul'' p1 p2
    rw[←Nat.pow_add] at r1
    exact Nat.lt_of_lt_of_le r1 (show _≤10^18 from Nat.pow_le_pow_right (by decide) (by omega))
   exact zA (zB (wP I (wP I (wP I (wV 34 (a*b) I (Ap (by omega) (by omega)) (wC I I (fun W hp=>Bv (a*b) (by omega) (by omega) W (ht.hp hp)) (wP I (wP I (Aa (zE (zO (zP (AI tH I (.tmp I) (.tmp I) () (DV (CW (by omega))).symm tO fun W _=>As.nil _ _)))))))))))))
  ·refine zI (zE (zA (zB (wP I ?_))))
   refine wD (X:=NV) I I (fun W' _=>Bf a (by omega) W') ?_
   intro x hx
   refine wP I ?_
   refine wD (X:=NV) I I (fun W' _=>Bf b (by omega) W') ?_
   intro y hy
   refine wD (X:=NV) I I (fun W' hp=>GT a b W' (some ⟨x.1,0,none⟩) (some ⟨y.1,0,none⟩) x.2.1 y.2.1 (Ax.of_bx hp 0 I) (Ax.of_bx hp 1 I) (by omega) (by omega)) ?_
   intro w hw
   exact wC I I (fun W' hp=>(FT (a*b) hab W' (some ⟨w.1,0,none⟩) w.2.1 (Ax.of_bx hp 2 I)).cast hres) (wP I (wP I (wP I (wP I (Aa (zE (zO (wR2 I I hres.symm))))))))
 |false=>
  obtain⟨x0,y0,h2⟩:=GD hs ha hb
  refine wP I (wP I (wC I I (fun W _=>h2 W) ?_))
  iterate 7 refine wP I ?_
  refine Aa (zE (zA (zB (wP I (wP I ?_)))))
  iterate 6 refine An I I ?_
  refine wP I (Aa (zE (zS I (zI (zE (zA (zB (wP I ?_))))))))
  refine wD (X:=NV) I I (fun W' _=>Bf a (by omega) W') ?_
  intro x hx
  refine wP I ?_
  refine wD (X:=NV) I I (fun W' _=>Bf b (by omega) W') ?_
  intro y hy
  refine wD (X:=NV) I I (fun W' hp=>GT a b W' (some ⟨x.1,0,none⟩) (some ⟨y.1,0,none⟩) x.2.1 y.2.1 (Ax.of_bx hp 0 I) (Ax.of_bx hp 1 I) (by omega) (by omega)) ?_
  intro w hw
  exact wC I I (fun W' hp=>(FT (a*b) hab W' (some ⟨w.1,0,none⟩) w.2.1 (Ax.of_bx hp 2 I)).cast hres) (wP I (wP I (wP I (wP I (Aa (zE (zO (wR2 I I hres.symm))))))))
theorem QB (a b:Int) (ha:(decDigits a.natAbs).length≤300) (hb:(decDigits b.natAbs).length≤300) (W:World) (ht:AO W):
  Aj Tryz.prog 149 #[str (itoa a),str (itoa b)] W (fun _:Unit=>Io (a+b)) (fun _=>True) (fun _=>[]):=by
 have hab:(decDigits (a+b).natAbs).length≤606:=Xx ha hb
 obtain⟨rs,re,hres⟩:=Gt (a+b)
 have la:=Ci (m:=a.natAbs) (by omega)
 have lb:=Ci (m:=b.natAbs) (by omega)
 refine Ac (args:=[str (itoa a),str (itoa b)]) Tryz.func149 I I I ?_
 refine zA (zB (wP I (wP I (Aa (zE (zA (zA (zB (wP I (wP I (wC I I (fun W _=>De a b ha hb W) (wP I (Aa ?_)))))))))))))
 refine zE (zA (zB (wP I (wP I (Aa (zE (zS I (zI (zE (zA (zA (zB ?_))))))))))))
 cases hs:smI a&&smI b with
 |true=>
  obtain⟨h1,h2⟩:=Bool.and_eq_true_iff.1 hs
  have b1:=H5 h1
  have b2:=H5 h2
  refine wP I (wP I (wC I I (fun W _=>GB hs W) ?_))
  iterate 7 refine wP I ?_
  refine Aa (zE (zA (zB (wP I (Aa (zE (zR I (zA (zB (wP I (wP I (wP I (wV 26 (a+b) I (Ap (by omega) (by omega)) ?_)))))))))))))
  exact wC I I (fun W hp=>Bv (a+b) (by omega) (by omega) W (ht.hp hp)) (wP I (wP I (Aa (zE (zO (zP (AI tH I (.tmp I) (.tmp I) () (DV (CW (by omega))).symm tO fun W _=>As.nil _ _)))))))
 |false=>
  obtain⟨x0,y0,h2⟩:=GD hs ha hb
  refine wP I (wP I (wC I I (fun W _=>h2 W) ?_))
  iterate 7 refine wP I ?_
  refine Aa (zE (zA (zB (wP I (Aa (zE (zS I (zI (zE (zA (zB (wP I ?_))))))))))))
  refine wD (X:=NV) I I (fun W' _=>Bf a (by omega) W') ?_
  intro x hx
  refine wP I ?_
  refine wD (X:=NV) I I (fun W' _=>Bf b (by omega) W') ?_
  intro y hy
  refine wD (X:=NV) I I (fun W' hp=>I8 a b W' (some ⟨x.1,0,none⟩) (some ⟨y.1,0,none⟩) x.2.1 y.2.1 (Ax.of_bx hp 0 I) (Ax.of_bx hp 1 I) (by omega) (by omega)) ?_
  intro w hw
  exact wC I I (fun W' hp=>(FT (a+b) hab W' (some ⟨w.1,0,none⟩) w.2.1 (Ax.of_bx hp 2 I)).cast hres) (wP I (wP I (wP I (wP I (Aa (zE (zO (wR2 I I hres.symm))))))))
-- BOXES 4
-- CODE2
theorem Oq (r:Nat):lv br [r]=r:=by show r+br*0=r;rw[Nat.mul_zero,Nat.add_zero]
theorem O7 (W:World) (p:Option Addr) (cap a dv:Nat) (hA:Ax W p (lbs br a)) (hna:(lbs br a).length≤1000000) (hd0:0<dv) (hd1:dv<br):
  Aj Tryz.prog 194 #[slv p (lbs br a).length cap, .int .i64 (dv:Nat)] W (fun x:NV×NV=> .tuple #[B0 x.1 (lbs br (a/dv)).length,B0 x.2 (lbs br (a%dv)).length]) (fun x=>Cl x.1 (lbs br (a/dv))∧Cl x.2 (lbs br (a%dv))) (fun x=>[BF x.1 (lbs br (a/dv)),BF x.2 (lbs br (a%dv))]):=by
 obtain⟨K,hK⟩: ∃K,(lbs br a).length=K:=⟨_,rfl⟩
 have hd1':dv<1000000:=hd1
 have hal:=AK br2 a
 rw[hK] at hna hal
 refine Ac (args:=[slv p (lbs br a).length cap, .int .i64 (dv:Nat)]) Tryz.func194 I I I ?_
 rw[hK]
 refine zA (zB (wP I (wP I (Aa (zE (zA (zB (wP I (wP I ?_)))))))))
 refine Cb Tryz.vec130 K I I I I I I I (by simp only[maxLen];omega) (by omega) ?_
 intro g
 have ez:BW (Value.cells (.int .i64 0)).toList K=nI (List.replicate K 0)++[]:=by rw[List.append_nil];exact FF K
 rw[ez]
 refine wP I (Aa (zE (zA (zB (wP I (Aa (zE (zA (zA (zB (wP I (wP I (wP I ?_)))))))))))))
 refine wV 14 ((K:Int)-1) I (Ap (by omega) (by omega)) (wP I (Aa (zE (zH ?_))))
 refine AA (X:=Nat×List Nat×Nat×Nat) (fun x=>[(0,slv p K cap),(1, .int .i64 (dv:Nat)),(6,slv (some ⟨g,0,none⟩) K K),(7, .int .i64 (x.2.2.2:Nat)),(8, .int .i64 ((x.1:Nat)-1:Int))]) (fun x=>[⟨g,3,nI x.2.1++[],true,none⟩])
  (fun x=>x.1≤K∧x.2.1.length=K∧(∀y∈x.2.1,y<br)∧lv br x.2.1=br^x.1*x.2.2.1∧a/br^x.1=x.2.2.1*dv+x.2.2.2∧x.2.2.2<dv) (fun x=>x.1) (K,List.replicate K 0,0,0) ⟨Nat.le_refl _,List.length_replicate,Hy (by decide) K,by rw[EL];show 0=br^K*0;rw[Nat.mul_zero],by show a/br^K=0*dv+0;rw[Nat.div_eq_of_lt hal];omega,hd0⟩ ⟨rfl,rfl,rfl,rfl,rfl,trivial⟩ [] rfl ?_
 rintro⟨k,l,qh,rs⟩ ⟨hk,hl,hlb,hlv,hq,hr⟩
 have hk:k≤K:=hk
 have hl:l.length=K:=hl
 have hlv:lv br l=br^k*qh:=hlv
 have hq:a/br^k=qh*dv+rs:=hq
 have hr:rs<dv:=hr
 refine zA (zA (zB (wP I (wP I ?_))))
 cases k with
 |zero=>
  have hq:a=qh*dv+rs:=by simpa using hq
  have hlv:lv br l=qh:=by rw[hlv];simp
  have eq1:a/dv=qh:=by rw[hq,Nat.mul_comm,Nat.mul_add_div hd0,Nat.div_eq_of_lt hr,Nat.add_zero]
  have eq2:a%dv=rs:=by rw[hq,Nat.mul_comm,Nat.mul_add_mod,Nat.mod_eq_of_lt hr]
  refine wU 16 false I (dF (by show¬(((0:Nat):Int)-1≥0);omega)) (Aa (zE (zS I (zJ (zK (zK (zL (zE (zA (zB ?_))))))))))
  have hV0:(⟨some g,K,[]⟩:Vec).OK 1 l.length (nI l):=⟨EA _,(fun h=>by cases h),fun _=>⟨by show _≤K;omega,by show K≤maxLen;simp only[maxLen];omega,by show(nI l).length+0=K*1;rw[BA];omega⟩⟩
  obtain⟨j1,hV1,he1⟩:=DM hV0 hlb
  have hrb: ∀x∈[rs],x<br:=fun x hx=>by obtain rfl:=List.mem_singleton.1 hx;show x<1000000;omega
  refine wP I ?_
  refine Af 35 (slv (some ⟨g,0,none⟩) l.length K) I (by rw[hl]) ?_
  refine wC I I (fun W hp=>C8 W _ K _ (Ax.of_bx hp 0 I) hlb (by omega) (by omega)) (wP I ?_)
  refine AD Tryz.hZ tH I I I I I I I I I I I fun bN=> ?_
  have hV2:(⟨some bN,1,[]⟩:Vec).OK 1 [rs].length (nI [rs]):=⟨rfl,(fun h=>by cases h),fun _=>⟨Nat.le_refl _,(by show 1≤maxLen;decide),rfl⟩⟩
  obtain⟨j2,hV3,he2⟩:=DM hV2 hrb
  refine wC I I (fun W hp=>C8 W (some ⟨bN,0,none⟩) 1 [rs] (Ax.of_bx (junk:=[]) hp 1 I) hrb (by show 1≤1;omega) (by show 1<_;decide)) (wP I (wP I (Aa (zE (zO ?_)))))
  rw[hlv, ←eq1] at hV1 he1
  rw[Oq, ←eq2] at hV3 he2
  exact AI tH I (.tmp I) (.tmp I) (((g,K,j1):NV),((bN,1,j2):NV)) (by rw[hlv, ←eq1,Oq, ←eq2]) ⟨hV1,hV3⟩ fun W hp=>As.of_hp (hp.pick (l:=[BF (g,K,j1) (lbs br (a/dv)),BF (bN,1,j2) (lbs br (a%dv))]) [0,1] (by decide) (by
   show some [(⟨g,3,nI l++[],true,none⟩:Bx),⟨bN,3,nI [rs]++[],true,none⟩]=some [⟨g,3,nI (lbs br (a/dv))++j1,true,none⟩,⟨bN,3,nI (lbs br (a%dv))++j2,true,none⟩]
   rw[he1, ←eq2,he2]))
 |succ k=>
  have hq:a/br^(k+1)=qh*dv+rs:=hq
  have hi:k<l.length:=by rw[hl];omega
  obtain⟨b1,o1,rfl,r1⟩:=hA.row (show k<(lbs br a).length by omega)
  have r1:=r1 k (by omega)
  obtain⟨v,hv⟩: ∃v,lim (lbs br a) k=v:=⟨_,rfl⟩
  rw[hv] at r1
  have hvb:v<br:=by rw[←hv];exact Bj br2 (Bq br2 a) _
  have hvb':v<1000000:=hvb
  have hve:v=a/br^k%br:=by rw[←hv];exact Bl br2 a _
  obtain⟨n,hn⟩: ∃n,n=v+rs*br:=⟨_,rfl⟩
  have hn':n=v+rs*1000000:=hn
  have hn63:n<1000000000000:=by omega
  have hnq:=OO (B:=br) (d:=dv) hvb hr hn
  have hnq':n/dv<1000000:=hnq
  have hs:=IL (B:=br) (d:=dv) (q:=qh) (r:=rs) (i:=k) hq (n:=n) (by rw[hn,hve])
  have hzero:l[k]? =some 0:=by
   rw[Dz hi,Cv br2 _ hlb,hlv,Nat.pow_succ,Nat.mul_assoc,Nat.mul_div_cancel_left _ (Nat.pow_pos (by decide)),Nat.mul_mod_right]
  have hset:=HL (B:=br) (n/dv) hzero
  rw[Nat.mul_zero,Nat.add_zero,hlv,Nat.pow_succ,Nat.mul_assoc, ←Nat.mul_add] at hset
  have hrm:n%dv<dv:=Nat.mod_lt _ hd0
  refine wU 16 true I (dT (by show(((k+1:Nat):Int)-1≥0);omega)) (Aa (zE (zR I (zI (zE (zA (zH (zA (zB (wP I (wP I (wP I (wP I ?_)))))))))))))
  refine wV 22 (k:Nat) I (by show((k+1:Nat):Int)-1=_;omega) ?_
  refine wJ ?_
  refine wL 0 I I (fun W hp=>r1.hp hp) I (wP I (wV 25 (n:Nat) I (by show w64 (w64 ((rs:Int)*((1000000:Nat):Int))+v)=_;rw[Cm (by omega),AV (by omega),hn',Nat.add_comm]) (wP I (Aa (zE (zA (zB (wP I (wP I (wV 27 (k:Nat) I (by show((k+1:Nat):Int)-1=_;omega) (wP I (wP I ?_))))))))))))
  refine D7 I I I I I (by omega) ?_
  refine wV 30 ((n/dv:Nat):Int) I (BE (by omega)) ?_
  refine wJ ?_
  refine Aw 0 (nI (l.set k (n/dv))++[]) tH I I I I I I I I I I (by show 0+k*1+1≤(nI l++[]).length;rw[List.append_nil,BA];omega) (C1 hi (n/dv)) ?_
  refine Aa (zE (zB (wP I (wP I ?_))))
  refine Fx I I I I I (by omega) ?_
  refine Af 34 (.int .i64 ((n%dv:Nat):Int)) I I ?_
  exact wP I (Aa (zN (zE (zB (wP I (wV 17 (k:Nat) I (by show((k+1:Nat):Int)-1=_;omega) (wP I (wV 18 ((k:Nat)-1:Int) I (Ap (by omega) (by omega)) (wP I (Aa (A6 (k,l.set k (n/dv),qh*br+n/dv,n%dv) ⟨by show k≤K;omega,by rw[List.length_set];exact hl,CB hlb hnq,by show lv br (l.set k (n/dv))=br^k*(qh*br+n/dv);rw[hset,Nat.mul_comm qh],by show a/br^k=_;exact hs,hrm⟩ (by show k<k+1;omega) ⟨I,I,I,I,I,tO⟩ [] I)))))))))))
end
end Go.Proofs.YthndmdimmgkpgaaGreatDoor
