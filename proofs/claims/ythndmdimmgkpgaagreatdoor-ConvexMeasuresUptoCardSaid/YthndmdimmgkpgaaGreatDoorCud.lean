/-
  Lemmas that the theorem convexMeasures_upto_card needs (part 4 of 8).
-/
import Derived.Test.YthndmdimmgkpgaaGreatDoorCuc
set_option maxHeartbeats 64000000
namespace Go.Proofs.YthndmdimmgkpgaaGreatDoor
section
def Du (k:Nat) (l:List Ag):List Ag:=l.drop k++l.take k
theorem Eb {k:Nat} {l:List Ag} (hk:k≤l.length):(Du k l).length=l.length:=by
 unfold Du;rw[List.length_append,List.length_drop,List.length_take];omega
theorem Hy {k:Nat} {l:List Ag} {x:Ag}:x∈Du k l↔x∈l:=by
 unfold Du
 conv=>rhs;rw[←List.take_append_drop k l]
 rw[List.mem_append,List.mem_append]
 exact Or.comm
theorem ET {k:Nat} {l:List Ag} (hk:k≤l.length) (i:Nat):Ab (Du k l) i=Ab l (i+k):=by
 by_cases h0:l.length=0
 ·have e:l=[]:=List.length_eq_zero_iff.1 h0
  subst e
  simp[Du,Ab]
 rw[←Bn (Du k l) i,Eb hk, ←Bn l (i+k)]
 have hi:=Nat.mod_lt i (show 0<l.length by omega)
 have e:(i+k)%l.length=(i%l.length+k)%l.length:=by rw[Nat.mod_add_mod]
 rw[e]
 generalize i%l.length=j at*
 rw[AE (by rw[Eb hk];exact hi)]
 by_cases c:j+k<l.length
 ·rw[Nat.mod_eq_of_lt c,AE c]
  unfold Du
  rw[List.getElem_append_left (by rw[List.length_drop];omega),List.getElem_drop]
  congr 1;omega
 ·have e2:(j+k)%l.length=j+k-l.length:=by rw[Nat.mod_eq_sub_mod (by omega),Nat.mod_eq_of_lt (by omega)]
  rw[e2,AE (by omega)]
  unfold Du
  rw[List.getElem_append_right (by rw[List.length_drop];omega),List.getElem_take]
  congr 1;rw[List.length_drop];omega
theorem Bm.per {l:List Ag} (i:Nat):Ab l (i+l.length)=Ab l i:=by
 rw[←Bn l (i+l.length),Nat.add_mod_right,Bn]
theorem Bm.rot {l:List Ag} (h:Bm l) {k:Nat} (hk:k≤l.length):Bm (Du k l):=by
 refine⟨by rw[Eb hk];exact h.n3,Ep, ?_⟩
 intro a b c hab hbc hc
 rw[Eb hk] at hc
 rw[ET hk,ET hk,ET hk]
 have low: ∀i,l.length≤i→Ab l i=Ab l (i-l.length):=fun i hi=>by
  have:=Bm.per (l:=l) (i-l.length)
  rw[show i-l.length+l.length=i by omega] at this
  exact this
 by_cases c1:c+k<l.length
 ·exact h.tri _ _ _ (by omega) (by omega) c1
 rw[low (c+k) (by omega)]
 by_cases b1:b+k<l.length
 ·rw[←BX];exact h.tri _ _ _ (by omega) (by omega) b1
 rw[low (b+k) (by omega)]
 by_cases a1:a+k<l.length
 ·rw[BX];exact h.tri _ _ _ (by omega) (by omega) a1
 rw[low (a+k) (by omega)]
 exact h.tri _ _ _ (by omega) (by omega) (by omega)
theorem DQ.rot {l:List Ag} {x:Ag} (h:DQ l x) {k:Nat} (hk:k≤l.length):DQ (Du k l) x:=by
 intro i hi
 rw[Eb hk] at hi
 rw[ET hk,ET hk]
 have e:=h ((i+k)%l.length) (Nat.mod_lt _ (by omega))
 rw[Bn] at e
 have e2:Ab l ((i+k)%l.length+1)=Ab l (i+1+k):=by
  rw[←Bn,Nat.mod_add_mod,Bn];congr 1;omega
 rw[e2] at e
 exact e
def AG (p q:Ag):Prop:=p.1<q.1∨p.1=q.1∧p.2<q.2
theorem Dq (p q:Ag):AG p q∨p=q∨AG q p:=by
 unfold AG
 rcases CA p.1 q.1 with a|a
 ·exact Or.inl (Or.inl a)
 rcases CA q.1 p.1 with b|b
 ·exact Or.inr (Or.inr (Or.inl b))
 have e:p.1=q.1:=by grind
 rcases CA p.2 q.2 with c|c
 ·exact Or.inl (Or.inr ⟨e,c⟩)
 rcases CA q.2 p.2 with d|d
 ·exact Or.inr (Or.inr (Or.inr ⟨e.symm,d⟩))
 ·refine Or.inr (Or.inl ?_)
  ext
  ·exact e
  ·grind
theorem CS {p q:Ag} (h:AG p q): ¬AG q p:=by
 unfold AG at*
 rintro(c|⟨c,d⟩)<;>rcases h with a|⟨a,b⟩<;>grind
theorem Eu (p:Ag): ¬AG p p:=fun h=>CS h h
def E7 (l:List Ag):Prop:= ∀p∈l, ¬AG p (Ab l 0)
theorem No {α:Type} {R:α→α→Prop} (has: ∀a b,R a b→ ¬R b a): ∀(l m:List α),l.Pairwise R→m.Pairwise R→(∀x,x∈l↔x∈m)→l=m:=by
 intro l
 induction l with
 |nil=>
  intro m _ _ h
  cases m with
  |nil=>rfl
  |cons b m=>exact absurd ((h b).2 List.mem_cons_self) (by simp)
 |cons a l ih=>
  intro m hl hm h
  cases m with
  |nil=>exact absurd ((h a).1 List.mem_cons_self) (by simp)
  |cons b m=>
   obtain⟨l1,l2⟩:=List.pairwise_cons.1 hl
   obtain⟨m1,m2⟩:=List.pairwise_cons.1 hm
   have e:a=b:=by
    rcases List.mem_cons.1 ((h a).1 List.mem_cons_self) with c|c
    ·exact c
    ·rcases List.mem_cons.1 ((h b).2 List.mem_cons_self) with d|d
     ·exact d.symm
     ·exact absurd (l1 b d) (has _ _ (m1 a c))
   subst e
   have irr: ∀x, ¬R x x:=fun x hx=>has x x hx hx
   refine congrArg (a:: ·) (ih m l2 m2 fun x=>⟨fun hx=> ?_,fun hx=> ?_⟩)
   ·rcases List.mem_cons.1 ((h x).1 (List.mem_cons_of_mem _ hx)) with c|c
    ·subst c;exact absurd (l1 x hx) (irr x)
    ·exact c
   ·rcases List.mem_cons.1 ((h x).2 (List.mem_cons_of_mem _ hx)) with c|c
    ·subst c;exact absurd (m1 x hx) (irr x)
    ·exact c
theorem AD {l:List Ag} (h:0<l.length) (i:Nat):Ab l i∈l:=by
 rw[←Bn,AE (Nat.mod_lt i h)]
 exact List.getElem_mem _
theorem BO {l:List Ag} {x:Ag} (h:x∈l): ∃i,i<l.length∧Ab l i=x:=by
 obtain⟨i,hi,rfl⟩:=List.getElem_of_mem h
 exact⟨i,hi,AE hi⟩
theorem SM {A B:List Ag} (hA:Bm A) (hB:Bm B) (h1: ∀x∈B,DQ A x) (h2: ∀x∈A,DQ B x) (la:E7 A) (lb:E7 B):A=B:=by
 have a3:=hA.n3;have b3:=hB.n3
 have mem: ∀x,x∈A↔x∈B:=fun x=>by
  constructor
  ·intro hx
   obtain⟨j,hj,rfl⟩:=BO hx
   obtain⟨i,hi,e⟩:=hA.uniq hB (fun i hi=>h1 _ (AD (by omega) i)) (fun i hi=>h2 _ (AD (by omega) i)) hj
   rw[←e];exact AD (by omega) i
  ·intro hx
   obtain⟨j,hj,rfl⟩:=BO hx
   obtain⟨i,hi,e⟩:=hB.uniq hA (fun i hi=>h2 _ (AD (by omega) i)) (fun i hi=>h1 _ (AD (by omega) i)) hj
   rw[←e];exact AD (by omega) i
 have e0:Ab A 0=Ab B 0:=by
  rcases Dq (Ab A 0) (Ab B 0) with c|c|c
  ·exact absurd c (lb _ ((mem _).1 (AD (by omega) 0)))
  ·exact c
  ·exact absurd c (la _ ((mem _).2 (AD (by omega) 0)))
 have prs: ∀ {C:List Ag},Bm C→ ∃t,C=Ab C 0::t∧t.Pairwise (fun u v=>0<A3 (Ab C 0) u v):=by
  intro C hC
  have c3:=hC.n3
  match C,hC,c3 with
  |c::t,hC,c3=>
   refine⟨t,by rw[AE (by simp)];rfl, ?_⟩
   rw[List.pairwise_iff_getElem]
   intro i j hi hj hij
   have:=hC.tri 0 (i+1) (j+1) (by omega) (by omega) (by simp;omega)
   rw[AE (i:=i+1) (by simp;omega),AE (i:=j+1) (by simp;omega)] at this
   exact this
 obtain⟨s,ea,pa⟩:=prs hA
 obtain⟨t,eb,pb⟩:=prs hB
 rw[←e0] at eb pb
 have has: ∀u v:Ag,0<A3 (Ab A 0) u v→ ¬0<A3 (Ab A 0) v u:=fun u v h c=>by
  have e:A3 (Ab A 0) v u= -A3 (Ab A 0) u v:=by unfold A3;grind
  grind
 have notin: ∀ {l:List Ag},l.Pairwise (fun u v=>0<A3 (Ab A 0) u v)→2≤l.length→Ab A 0∉l:=by
  intro l hp hl hx
  match l,hp,hl,hx with
  |x::y::l,hp,_,hx=>
   obtain⟨p1,p2⟩:=List.pairwise_cons.1 hp
   rcases List.mem_cons.1 hx with c|c
   ·have:=p1 y List.mem_cons_self
    rw[c,Kw] at this;grind
   ·have:=p1 _ c
    rw[F9] at this;grind
 have ls:2≤s.length:=by have:=congrArg List.length ea;simp at this;omega
 have lt:2≤t.length:=by have:=congrArg List.length eb;simp at this;omega
 have mm: ∀x,x∈s↔x∈t:=fun x=>by
  constructor
  ·intro hx
   have:x∈B:=(mem x).1 (by rw[ea];exact List.mem_cons_of_mem _ hx)
   rw[eb] at this
   rcases List.mem_cons.1 this with c|c
   ·subst c;exact absurd hx (notin pa ls)
   ·exact c
  ·intro hx
   have:x∈A:=(mem x).2 (by rw[eb];exact List.mem_cons_of_mem _ hx)
   rw[ea] at this
   rcases List.mem_cons.1 this with c|c
   ·subst c;exact absurd hx (notin pb lt)
   ·exact c
 rw[ea,eb,No has s t pa pb mm]
end
section
def Bc (p q:Ag):Bool:=decide (p.1<q.1)||(decide (p.1=q.1)&&decide (p.2<q.2))
theorem Cv {p q:Ag}:Bc p q=true↔AG p q:=by unfold Bc AG;simp
def B9 (l:List Ag):Nat→Nat
 |0=>0
 |k+1=>if Bc (Ab l k) (Ab l (B9 l k)) then k else B9 l k
theorem Ip (l:List Ag): ∀k,(B9 l k=0∨B9 l k<k)∧ ∀i,i<k→ ¬AG (Ab l i) (Ab l (B9 l k)):=by
 intro k
 induction k with
 |zero=>exact⟨Or.inl rfl,fun i h=>by omega⟩
 |succ k ih=>
  unfold B9
  split
  ·rename_i c
   refine⟨Or.inr (by omega),fun i hi=> ?_⟩
   rcases Nat.eq_or_lt_of_le (show i≤k by omega) with rfl|q
   ·exact Eu _
   ·intro hp
    have hc:=Cv.1 c
    have a:=ih.2 i q
    -- i < k < the least one
    apply a
    unfold AG at*
    rcases hp with hp|⟨hp,hp2⟩<;>rcases hc with hc|⟨hc,hc2⟩<;>grind
  ·rename_i c
   refine⟨by rcases ih.1 with a|a<;>omega,fun i hi=> ?_⟩
   rcases Nat.eq_or_lt_of_le (show i≤k by omega) with rfl|q
   ·intro hp;exact c (Cv.2 hp)
   ·exact ih.2 i q
def Bt (l:List Ag):List Ag:=Du (B9 l l.length) l
theorem II (l:List Ag):B9 l l.length≤l.length:=by
 rcases(Ip l l.length).1 with a|a<;>omega
theorem Nv {l:List Ag}:E7 (Bt l):=by
 intro p hp
 unfold Bt at*
 rw[ET (II l),Nat.zero_add]
 obtain⟨i,hi,rfl⟩:=BO (Hy.1 hp)
 exact(Ip l l.length).2 i hi
theorem OV {l:List Ag} {x:Ag}:x∈Bt l↔x∈l:=Hy
theorem NF {l:List Ag} (h:Bm l):Bm (Bt l):=h.rot (II l)
theorem Pd {l:List Ag} {x:Ag} (h:DQ l x):DQ (Bt l) x:=h.rot (II l)
def KE (f:Bg) (l:List Ag):Bool:=l.any fun p=>decide (f.at p<0)
theorem Ta {f:Bg} {l:List Ag}:KE f l=true↔ ∃p∈l,f.at p<0:=by unfold KE;simp
def DN (f:Bg) (l:List Ag):List Ag:=if KE f l then Bt (CT f l) else[]
theorem UC (l:List Ag):(List.range l.length).map (Ab l)=l:=by
 apply List.ext_getElem
 ·simp
 ·intro i h1 h2
  rw[List.getElem_map,List.getElem_range,AE h2]
end
section
def DR (F:Nat→Rat):Nat→Rat
 |0=>0
 |n+1=>DR F n+F n
def Cx (p q:Ag):Rat:=p.1*q.2-q.1*p.2
def AY (l:List Ag):Rat:=DR (fun i=>Cx (Ab l i) (Ab l (i+1))) l.length
def OP (o:Ag) (l:List Ag):Rat:=DR (fun i=>A3 o (Ab l i) (Ab l (i+1))) l.length
theorem PC (o:Ag) (l:List Ag):OP o l=AY l:=by
 have tel: ∀n,DR (fun i=>A3 o (Ab l i) (Ab l (i+1))) n=DR (fun i=>Cx (Ab l i) (Ab l (i+1))) n-o.1*((Ab l n).2-(Ab l 0).2)+o.2*((Ab l n).1-(Ab l 0).1):=by
  intro n
  induction n with
  |zero=>show(0:Rat)=0-_+_;grind
  |succ n ih=>unfold DR;rw[ih];unfold A3 Cx;grind
 unfold OP AY
 rw[tel,Ep]
 grind
theorem U5 {f:Bg} (hf:f.a≠0∨f.b≠0) {o p q:Ag} (ho:f.at o=0) (hp:f.at p=0) (hq:f.at q=0):A3 o p q=0:=by
 unfold Bg.at at*
 have e1:f.a*A3 o p q=0:=by unfold A3;grind
 have e2:f.b*A3 o p q=0:=by unfold A3;grind
 rcases hf with h|h
 ·rcases Rat.mul_eq_zero.1 e1 with a|a
  ·exact absurd a h
  ·exact a
 ·rcases Rat.mul_eq_zero.1 e2 with a|a
  ·exact absurd a h
  ·exact a
theorem IX {u v:Rat}:u*v<0↔(u<0∧0<v)∨(0<u∧v<0):=by
 constructor
 ·intro h
  rcases CA u 0 with a|a
  ·rcases CA 0 v with b|b
   ·exact Or.inl ⟨a,b⟩
   ·have:=Rat.mul_nonneg (show 0≤ -u by grind) (show 0≤ -v by grind);grind
  ·rcases CA v 0 with b|b
   ·refine Or.inr ⟨?_,b⟩
    rcases CA 0 u with c|c
    ·exact c
    ·have e:u=0:=by grind
     rw[e] at h;grind
   ·have:=Rat.mul_nonneg a b;grind
 ·rintro(⟨a,b⟩|⟨a,b⟩)
  ·have:=Rat.mul_pos (show 0< -u by grind) b;grind
  ·have:=Rat.mul_pos a (show 0< -v by grind);grind
def Pb (f:Bg) (p q:Ag):List Ag:=(if f.at p≤0 then[p] else[])++(if f.at p*f.at q<0 then[G5 (f.at p/(f.at p-f.at q)) p q] else[])
theorem OT (P:Nat→Ag) (n:Nat) (f:Bg):(DG P (n+1) f).map (H0 P)=(DG P n f).map (H0 P)++Pb f (P n) (P (n+1)):=by
 unfold DG Pb
 rw[List.range_succ,List.flatMap_append,List.map_append]
 congr 1
 rw[List.flatMap_cons,List.flatMap_nil,List.append_nil,List.map_append]
 congr 1
 ·split
  ·show[H0 P (n,0)]=_
   unfold H0;rw[MB]
  ·rfl
 ·split<;>rfl
end
section
def JB (u1 u2:Rat):Prop:=0<u1∨u1=0∧0<u2
theorem BP {p q:Ag} (h:AG p q):JB (q.1-p.1) (q.2-p.2):=by
 unfold AG at h;unfold JB
 rcases h with h|⟨h,h2⟩
 ·left;grind
 ·right;constructor<;>grind
theorem TD {u1 u2 v1 v2 w1 w2:Rat} (hu:JB u1 u2) (hv:JB v1 v2) (hw:JB w1 w2) (h1:0≤u1*v2-u2*v1) (h2:0≤v1*w2-v2*w1):0≤u1*w2-u2*w1:=by
 unfold JB at*
 have u0:0≤u1:=by rcases hu with h|⟨h,_⟩<;>grind
 have w0:0≤w1:=by rcases hw with h|⟨h,_⟩<;>grind
 rcases hv with h|⟨h,h3⟩
 ·apply JQ h
  have a:=Rat.mul_nonneg u0 h2
  have b:=Rat.mul_nonneg w0 h1
  grind
 ·subst h
  have e:w1=0:=by
   rcases CA 0 w1 with c|c
   ·have:=Rat.mul_pos h3 c;grind
   ·grind
  subst e
  rcases hw with c|⟨_,c⟩
  ·grind
  ·have:=Rat.mul_nonneg u0 (Rat.le_of_lt c);grind
theorem LO {u1 u2 v1 v2 w1 w2:Rat} (hu:JB u1 u2) (hv:JB v1 v2) (hw:JB w1 w2) (h1:0<u1*v2-u2*v1) (h2:0≤v1*w2-v2*w1):0<u1*w2-u2*w1:=by
 unfold JB at*
 have u0:0≤u1:=by rcases hu with h|⟨h,_⟩<;>grind
 have v0:0≤v1:=by rcases hv with h|⟨h,_⟩<;>grind
 have u1p:0<u1:=by
  rcases hu with h|⟨h,h3⟩
  ·exact h
  ·subst h
   have:=Rat.mul_nonneg (Rat.le_of_lt h3) v0
   grind
 rcases hw with c|⟨c,c2⟩
 ·rcases hv with h|⟨h,h3⟩
  ·apply Gc h
   have a:=Rat.mul_nonneg u0 h2
   have b:=Rat.mul_pos c h1
   grind
  ·subst h
   have:=Rat.mul_pos h3 c;grind
 ·subst c
  have:=Rat.mul_pos u1p c2;grind
theorem TU {u1 u2 v1 v2 w1 w2:Rat} (hu:JB u1 u2) (hv:JB v1 v2) (hw:JB w1 w2) (h1:0≤u1*v2-u2*v1) (h2:0<v1*w2-v2*w1):0<u1*w2-u2*w1:=by
 unfold JB at*
 have w0:0≤w1:=by rcases hw with h|⟨h,_⟩<;>grind
 rcases hv with h|⟨h,h3⟩
 ·rcases hu with a|⟨a,a2⟩
  ·apply Gc h
   have x:=Rat.mul_pos a h2
   have y:=Rat.mul_nonneg w0 h1
   grind
  ·subst a
   have:=Rat.mul_pos a2 h;grind
 ·subst h
  have:=Rat.mul_nonneg (Rat.le_of_lt h3) w0
  grind
theorem Gd (a b c:Ag):A3 a b c=(b.1-a.1)*(c.2-b.2)-(b.2-a.2)*(c.1-b.1):=by unfold A3;grind
theorem Lz {p q r:Ag} (h1:AG p q) (h2:AG q r):AG p r:=by
 unfold AG at*
 rcases h1 with h1|⟨h1,h3⟩<;>rcases h2 with h2|⟨h2,h4⟩<;>grind
theorem Vz {a b c p:Ag} (h1:AG a b) (h2:AG b c) (h3:AG c p) (t1:0<A3 a b c) (t2:0<A3 b c p):0<A3 a b p:=by
 rw[Gd] at*
 have x:=LO (BP h1) (BP h2) (BP h3) t1 (Rat.le_of_lt t2)
 grind
theorem VS {a b c p:Ag} (h1:AG a b) (h2:AG b c) (h3:AG c p) (t1:0<A3 a b c) (t2:0<A3 b c p):0<A3 a c p:=by
 rw[Gd] at*
 have x:=LO (BP h1) (BP h2) (BP h3) t1 (Rat.le_of_lt t2)
 grind
theorem WX {a b p x:Ag} (h1:AG a b) (h2:AG b p) (h3:AG x b) (t1:0<A3 a b p) (t2:0≤A3 a b x):0<A3 b p x∨0≤A3 b p x:=by
 right
 have y:=TD (u1:=b.1-x.1) (u2:=b.2-x.2) (v1:=b.1-a.1) (v2:=b.2-a.2) (w1:=p.1-b.1) (w2:=p.2-b.2) (BP h3) (BP h1) (BP h2) (by unfold A3 at t2;grind) (by rw[Gd] at t1;grind)
 unfold A3;grind
theorem X5 {a b p x:Ag} (h1:AG a b) (h2:AG a p) (h3:AG a x) (t1:A3 a b p≤0) (t2:0≤A3 a b x):0≤A3 a p x:=by
 have y:=TD (u1:=p.1-a.1) (u2:=p.2-a.2) (v1:=b.1-a.1) (v2:=b.2-a.2) (w1:=x.1-a.1) (w2:=x.2-a.2) (BP h2) (BP h1) (BP h3) (by unfold A3 at t1;grind) (by unfold A3 at t2;grind)
 unfold A3;grind
def BF (p:Ag):List Ag→List Ag
 |b::a::t=>if A3 a b p≤0 then BF p (a::t) else b::a::t
 |l=>l
def Ap (l:List Ag):List Ag:=l.foldl (fun r p=>p::BF p r) []
def M0:List Ag→Prop
 |[]=>True
 |a::l=>l.Pairwise (fun b c=>0<A3 c b a)∧M0 l
def IQ (X:List Ag):List Ag→Prop
 |b::a::z=>(∀x∈X,0≤A3 a b x)∧IQ X (a::z)
 |_=>True
structure IW (X r:List Ag):Prop where
 desc:r.Pairwise (fun p q=>AG q p)
 mem: ∀p∈r,p∈X
 tri:M0 r
 edge:IQ X r
theorem Tj {X:List Ag} {p:Ag} (hp: ∀x∈X,AG x p): ∀(r:List Ag),IW X r→ ∀(b:Ag) (z:List Ag),r=b::z→
  (∀x∈X,x=b∨AG x b∨0≤A3 b p x)→(∀m,r.getLast? =some m→ ∀x∈X,x=m∨AG m x)→
  ∃c y,BF p r=c::y∧IW X (c::y)∧(∀x∈X,0≤A3 c p x)∧(c::y).Pairwise (fun u v=>0<A3 v u p)∧(c::y).getLast? =r.getLast? :=by
 intro r
 induction r with
 |nil=>intro _ b z e;exact absurd e (by simp)
 |cons b0 t ih=>
  intro hc b z e hb hm
  obtain⟨rfl,rfl⟩:=List.cons.inj e
  cases t with
  |nil=>
   refine⟨b0,[],I,hc,fun x hx=> ?_,List.pairwise_singleton _ _,I⟩
   rcases hb x hx with rfl|q|q
   ·rw[F9];grind
   ·rcases hm b0 rfl x hx with rfl|q2
    ·rw[F9];grind
    ·exact absurd q2 (CS q)
   ·exact q
  |cons a t=>
   have ab:AG a b0:=(List.pairwise_cons.1 hc.desc).1 a List.mem_cons_self
   have bp:AG b0 p:=hp _ (hc.mem _ List.mem_cons_self)
   have ap:AG a p:=Lz ab bp
   have hca:IW X (a::t):=⟨(List.pairwise_cons.1 hc.desc).2,fun q hq=>hc.mem q (List.mem_cons_of_mem _ hq),hc.tri.2,hc.edge.2⟩
   have hE:=hc.edge.1
   unfold BF
   split
   ·rename_i c
    obtain⟨c',y,e1,e2,e3,e4,e5⟩:=ih hca a t rfl (fun x hx=>by
     rcases Dq x a with q|q|q
     ·exact Or.inr (Or.inl q)
     ·exact Or.inl q
     ·exact Or.inr (Or.inr (X5 ab ap q c (hE x hx)))) (fun m hm'=>hm m (by rw[List.getLast?_cons_cons];exact hm'))
    exact⟨c',y,e1,e2,e3,e4,by rw[e5,List.getLast?_cons_cons]⟩
   ·rename_i c
    have tp:0<A3 a b0 p:=by grind
    refine⟨b0,a::t,I,hc,fun x hx=> ?_, ?_,I⟩
    ·rcases Dq x b0 with q|q|q
     ·rcases WX ab bp q tp (hE x hx) with w|w<;>grind
     ·subst q;rw[F9];grind
     ·rcases hb x hx with rfl|w|w
      ·exact absurd q (Eu _)
      ·exact absurd w (CS q)
      ·exact w
    ·
     have h1: ∀v∈a::t,0<A3 v b0 p:=by
      intro v hv
      rcases List.mem_cons.1 hv with rfl|hv
      ·exact tp
      ·have va:AG v a:=(List.pairwise_cons.1 hca.desc).1 v hv
       have tv:0<A3 v a b0:=(List.pairwise_cons.1 hc.tri.1).1 v hv
       exact VS va ab bp tv tp
     rw[List.pairwise_cons]
     refine⟨h1, ?_⟩
     have hd:=(List.pairwise_cons.1 hc.desc)
     have:=List.Pairwise.and hc.tri.1 hd.2
     refine List.Pairwise.imp_of_mem ?_ this
     rintro u v hu hv ⟨t1,t2⟩
     exact Vz t2 (hd.1 u hu) bp t1 (h1 u hu)
theorem IQ.more {X:List Ag} {p:Ag}: ∀ {l:List Ag},IQ X l→l.Pairwise (fun u v=>0<A3 v u p)→IQ (X++[p]) l
 |[],_,_=>trivial
 |[_],_,_=>trivial
 |b::a::z,h,hp=>by
  obtain⟨p1,p2⟩:=List.pairwise_cons.1 hp
  refine⟨fun x hx=> ?_,IQ.more h.2 p2⟩
  rcases List.mem_append.1 hx with q|q
  ·exact h.1 x q
  ·rw[List.mem_singleton] at q;subst q
   exact Rat.le_of_lt (p1 a List.mem_cons_self)
theorem JS: ∀(l:List Ag),l.Pairwise AG→IW l (Ap l)∧(Ap l).getLast? =l.head? ∧(Ap l).head? =l.getLast? :=by
 intro l
 -- from the end
 suffices H: ∀n (l:List Ag),l.length=n→l.Pairwise AG→IW l (Ap l)∧(Ap l).getLast? =l.head? ∧(Ap l).head? =l.getLast? from H _ l rfl
 intro n
 induction n with
 |zero=>
  intro l hl _
  have e:l=[]:=List.length_eq_zero_iff.1 hl
  subst e
  exact⟨⟨List.Pairwise.nil,fun _ h=>h,tO,tO⟩,I,I⟩
 |succ n ih=>
  intro l hl hs
  obtain⟨X,p,rfl⟩: ∃X p,l=X++[p]:=⟨l.dropLast,l.getLast (by intro e;subst e;simp at hl),(List.dropLast_concat_getLast _).symm⟩
  obtain⟨s1,_,s3⟩:=List.pairwise_append.1 hs
  obtain⟨i1,i2,i3⟩:=ih X (by simp at hl;exact hl) s1
  have hp: ∀x∈X,AG x p:=fun x hx=>s3 x hx p List.mem_cons_self
  have eC:Ap (X++[p])=p::BF p (Ap X):=by unfold Ap;rw[List.foldl_append];rfl
  rw[eC]
  cases hX:Ap X with
  |nil=>
   rw[hX] at i2
   have e:X=[]:=by
    cases X with
    |nil=>rfl
    |cons x X=>exact absurd i2 (by simp)
   subst e
   refine⟨⟨List.pairwise_singleton _ _,fun q hq=>hq,⟨List.Pairwise.nil,tO⟩,tO⟩,I,I⟩
  |cons b z=>
   rw[hX] at i1 i2 i3
   have hb: ∀x∈X,x=b∨AG x b:=by
    intro x hx
    have e:X.getLast? =some b:=by rw[←i3];rfl
    obtain⟨Y,rfl⟩: ∃Y,X=Y++[b]:=by
     have:=List.getLast?_eq_some_iff.1 e
     exact this
    rcases List.mem_append.1 hx with q|q
    ·exact Or.inr ((List.pairwise_append.1 s1).2.2 x q b List.mem_cons_self)
    ·exact Or.inl (List.mem_singleton.1 q)
   have hm: ∀m,(b::z).getLast? =some m→ ∀x∈X,x=m∨AG m x:=by
    intro m e x hx
    rw[i2] at e
    cases X with
    |nil=>exact absurd hx (by simp)
    |cons y X=>
     have e:y=m:=Option.some.inj e
     subst e
     rcases List.mem_cons.1 hx with q|q
     ·exact Or.inl q
     ·exact Or.inr ((List.pairwise_cons.1 s1).1 x q)
   obtain⟨c,y,e1,e2,e3,e4,e5⟩:=Tj hp (b::z) i1 b z rfl (fun x hx=>(hb x hx).elim Or.inl fun q=>Or.inr (Or.inl q)) hm
   rw[e1]
   refine⟨⟨?_, ?_,⟨e4,e2.tri⟩, ?_,(IQ.more e2.edge e4)⟩, ?_,by simp⟩
   ·rw[List.pairwise_cons]
    exact⟨fun q hq=>hp q (e2.mem q hq),e2.desc⟩
   ·intro q hq
    rcases List.mem_cons.1 hq with w|w
    ·subst w;simp
    ·exact List.mem_append_left _ (e2.mem q w)
   ·intro x hx
    rcases List.mem_append.1 hx with w|w
    ·exact e3 x w
    ·rw[List.mem_singleton] at w;subst w;rw[I3];grind
   ·rw[List.getLast?_cons_cons,e5,i2]
    cases X with
    |nil=>rw[i2] at*;simp at i3
    |cons x X=>rfl
end
section
theorem M0.get: ∀ {l:List Ag},M0 l→ ∀(i j k:Nat) (hij:i<j) (hjk:j<k) (hk:k<l.length),0<A3 l[k] l[j] l[i]
 |a::l,h,i,j,k,hij,hjk,hk=>by
  cases i with
  |zero=>
   obtain⟨j,rfl⟩: ∃j',j=j'+1:=⟨j-1,by omega⟩
   obtain⟨k,rfl⟩: ∃k',k=k'+1:=⟨k-1,by omega⟩
   have:=List.pairwise_iff_getElem.1 h.1 j k (by simp at hk;omega) (by simp at hk;omega) (by omega)
   exact this
  |succ i=>
   obtain⟨j,rfl⟩: ∃j',j=j'+1:=⟨j-1,by omega⟩
   obtain⟨k,rfl⟩: ∃k',k=k'+1:=⟨k-1,by omega⟩
   exact M0.get h.2 i j k (by omega) (by omega) (by simp at hk;omega)
theorem IQ.get {X:List Ag}: ∀ {l:List Ag},IQ X l→ ∀(i:Nat) (hi:i+1<l.length), ∀x∈X,0≤A3 l[i+1] l[i] x
 |[a],_,i,hi=>by simp at hi
 |b::a::z,h,i,hi=>by
  cases i with
  |zero=>exact h.1
  |succ i=>exact IQ.get h.2 i (by simp at hi⊢;omega)
structure Lc (S:List Ag) (f:Nat→Ag) (r:Nat):Prop where
 lt: ∀i j,i<j→j≤r→AG (f i) (f j)
 mem: ∀i,i≤r→f i∈S
 tri: ∀i j k,i<j→j<k→k≤r→0<A3 (f i) (f j) (f k)
 edge: ∀i,i<r→ ∀x∈S,0≤A3 (f i) (f (i+1)) x
theorem IW.asc {S l:List Ag} (h:IW S l) (h0:0<l.length):Lc S (fun i=>Ab l (l.length-1-i)) (l.length-1):=by
 have g: ∀i,i≤l.length-1→ ∃(hi:l.length-1-i<l.length),Ab l (l.length-1-i)=l[l.length-1-i]:=fun i _=>⟨by omega,AE _⟩
 refine⟨?_, ?_, ?_, ?_⟩
 ·intro i j hij hj
  show AG (Ab l _) (Ab l _)
  rw[AE (by omega),AE (by omega)]
  exact List.pairwise_iff_getElem.1 h.desc _ _ (by omega) (by omega) (by omega)
 ·intro i hi
  exact h.mem _ (AD h0 _)
 ·intro i j k hij hjk hk
  show 0<A3 (Ab l _) (Ab l _) (Ab l _)
  rw[AE (i:=l.length-1-i) (by omega),AE (i:=l.length-1-j) (by omega),AE (i:=l.length-1-k) (by omega)]
  exact h.tri.get _ _ _ (by omega) (by omega) (by omega)
 ·intro i hi x hx
  show 0≤A3 (Ab l _) (Ab l _) x
  rw[AE (i:=l.length-1-i) (by omega),AE (i:=l.length-1-(i+1)) (by omega)]
  have e:l.length-1-i=l.length-1-(i+1)+1:=by omega
  have:=h.edge.get (l.length-1-(i+1)) (by omega) x hx
  simp only[←e] at this
  exact this
def B0 (p:Ag):Ag:=(-p.1, -p.2)
theorem Hl (a b c:Ag):A3 (B0 a) (B0 b) (B0 c)=A3 a b c:=by unfold A3 B0;grind
theorem MS {a b:Ag}:AG (B0 a) (B0 b)↔AG b a:=by
 unfold AG B0
 constructor<;>rintro(h|⟨h,h2⟩)
 ·left;grind
 ·right;constructor<;>grind
 ·left;grind
 ·right;constructor<;>grind
theorem Ow (p:Ag): ∀l:List Ag,BF (B0 p) (l.map B0)=(BF p l).map B0
 |[]=>rfl
 |[_]=>rfl
 |b::a::t=>by
  show(if A3 (B0 a) (B0 b) (B0 p)≤0 then BF (B0 p) ((a::t).map B0) else B0 b::B0 a::t.map B0)=List.map B0 (if A3 a b p≤0 then BF p (a::t) else b::a::t)
  rw[Hl]
  split
  ·exact Ow p (a::t)
  ·rfl
theorem Qb (l:List Ag):Ap (l.map B0)=(Ap l).map B0:=by
 have H: ∀(l r:List Ag),(l.map B0).foldl (fun r p=>p::BF p r) (r.map B0)=(l.foldl (fun r p=>p::BF p r) r).map B0:=by
  intro l
  induction l with
  |nil=>intro r;rfl
  |cons a l ih=>
   intro r
   show(l.map B0).foldl _ (B0 a::BF (B0 a) (r.map B0))=_
   rw[Ow]
   exact ih (a::BF a r)
 exact H l []
theorem Uw {S:List Ag} {a b x u w:Ag} (ab:AG a b) (xu:AG x u) (wx:AG w x) (t:0<A3 u x w) (eu: ∀s∈S,0≤A3 u x s) (ew: ∀s∈S,0≤A3 x w s) (ha:a∈S) (hb:b∈S)
  (nb:AG b x∨b=x→ ∃c,c∈S∧AG b c∧0<A3 a b c∧0≤A3 b c x) (na:AG x a∨x=a→ ∃z,z∈S∧AG z a∧0<A3 z a b∧0≤A3 z a x):A3 a b x≠0:=by
 intro h0
 -- three ways about x: D, A, B, C
 have core: ∀c d:Ag,AG c x→AG x d→c∈S→d∈S→0≤A3 c x d→False:=by
  intro c d hc hd mc md ht
  have DA:0≤(d.1-x.1)*(u.2-x.2)-(d.2-x.2)*(u.1-x.1):=by have:=eu d md;unfold A3 at this;grind
  have AB:0<(u.1-x.1)*(x.2-w.2)-(u.2-x.2)*(x.1-w.1):=by unfold A3 at t;grind
  have BC:0≤(x.1-w.1)*(x.2-c.2)-(x.2-w.2)*(x.1-c.1):=by have:=ew c mc;unfold A3 at this;grind
  have DB:=TU (BP hd) (BP xu) (BP wx) DA AB
  have DC:=LO (BP hd) (BP wx) (BP hc) DB BC
  rw[Gd] at ht
  grind
 rcases Dq x a with q|q|q
 ·obtain⟨z,mz,za,t1,t2⟩:=na (Or.inl q)
  have h1:0≤(a.1-x.1)*(a.2-z.2)-(a.2-x.2)*(a.1-z.1):=by unfold A3 at t2;grind
  have h2:0<(a.1-z.1)*(b.2-a.2)-(a.2-z.2)*(b.1-a.1):=by rw[Gd] at t1;exact t1
  have:=TU (BP q) (BP za) (BP ab) h1 h2
  unfold A3 at h0
  grind
 ·subst q
  obtain⟨z,mz,za,t1,t2⟩:=na (Or.inr rfl)
  exact core z b za ab mz hb (Rat.le_of_lt t1)
 rcases Dq x b with q2|q2|q2
 ·refine core a b q q2 ha hb ?_
  have:A3 a x b= -A3 a b x:=by unfold A3;grind
  rw[this,h0];grind
 ·subst q2
  obtain⟨c,mc,bc,t1,t2⟩:=nb (Or.inr rfl)
  exact core a c ab bc ha mc (Rat.le_of_lt t1)
 ·obtain⟨c,mc,bc,t1,t2⟩:=nb (Or.inl q2)
  have h1:0<(b.1-a.1)*(c.2-b.2)-(b.2-a.2)*(c.1-b.1):=by rw[Gd] at t1;exact t1
  have h2:0≤(c.1-b.1)*(x.2-b.2)-(c.2-b.2)*(x.1-b.1):=by unfold A3 at t2;grind
  have:=LO (BP ab) (BP bc) (BP q2) h1 h2
  rw[Gd] at h0
  grind
theorem Lc.strict {S T:List Ag} {f g:Nat→Ag} {r q:Nat} (hf:Lc S f r) (hg:Lc T (fun i=>B0 (g i)) q) (hT: ∀x,x∈S→B0 x∈T) (hT': ∀x,B0 x∈T→x∈S) (e0:f 0=g q) (e1:f r=g 0) {i l:Nat} (hi:i<r) (h0:0<l) (hl:l<q):0<A3 (f i) (f (i+1)) (g l):=by
 have gm: ∀j,j≤q→g j∈S:=fun j hj=>hT' _ (hg.mem j hj)
 have gl: ∀j k,j<k→k≤q→AG (g k) (g j):=fun j k h1 h2=>MS.1 (hg.lt j k h1 h2)
 have ge: ∀j,j<q→ ∀s∈S,0≤A3 (g j) (g (j+1)) s:=fun j hj s hs=>by
  have:=hg.edge j hj _ (hT s hs);rw[Hl] at this;exact this
 have gt: ∀j k m,j<k→k<m→m≤q→0<A3 (g j) (g k) (g m):=fun j k m h1 h2 h3=>by
  have:=hg.tri j k m h1 h2 h3;rw[Hl] at this;exact this
 have nn:=hf.edge i hi (g l) (gm l (by omega))
 have xlt:AG (g l) (f r):=by rw[e1];exact gl 0 l h0 (by omega)
 have xgt:AG (f 0) (g l):=by rw[e0];exact gl l q hl (by omega)
 obtain⟨l',rfl⟩: ∃l',l=l'+1:=⟨l-1,by omega⟩
 have ne:=Uw (S:=S) (a:=f i) (b:=f (i+1)) (x:=g (l'+1)) (u:=g l') (w:=g (l'+1+1)) (hf.lt _ _ (by omega) (by omega)) (gl _ _ (by omega) (by omega)) (gl _ _ (by omega) (by omega)) (gt _ _ _ (by omega) (by omega) (by omega)) (ge l' (by omega)) (ge (l'+1) (by omega)) (hf.mem _ (by omega)) (hf.mem _ (by omega)) (fun h=>by
   have hr:i+1≠r:=by
    intro e
    rw[e] at h
    rcases h with h|h
    ·exact CS h xlt
    ·rw[h] at xlt;exact Eu _ xlt
   exact⟨f (i+2),hf.mem _ (by omega),hf.lt _ _ (by omega) (by omega),hf.tri _ _ _ (by omega) (by omega) (by omega),hf.edge (i+1) (by omega) _ (gm _ (by omega))⟩) (fun h=>by
   have hr:i≠0:=by
    intro e
    rw[e] at h
    rcases h with h|h
    ·exact CS h xgt
    ·rw[←h] at xgt;exact Eu _ xgt
   obtain⟨i',rfl⟩: ∃i',i=i'+1:=⟨i-1,by omega⟩
   exact⟨f i',hf.mem _ (by omega),hf.lt _ _ (by omega) (by omega),hf.tri _ _ _ (by omega) (by omega) (by omega),hf.edge i' (by omega) _ (gm _ (by omega))⟩)
 grind
theorem PS {S T:List Ag} {f g:Nat→Ag} {r q:Nat} (hf:Lc S f r) (hg:Lc T (fun i=>B0 (g i)) q) (hT: ∀x,x∈S→B0 x∈T) (hT': ∀x,B0 x∈T→x∈S) (e0:f 0=g q) (e1:f r=g 0) {P:Nat→Ag} (hP: ∀i,i≤r→P i=f i) (hQ: ∀i,i≤q→P (r+i)=g i) (n3:3≤r+q):C2 P (r+q)∧ ∀x∈S,O3 P (r+q) x:=by
 have ge: ∀j,j<q→ ∀s∈S,0≤A3 (g j) (g (j+1)) s:=fun j hj s hs=>by
  have:=hg.edge j hj _ (hT s hs);rw[Hl] at this;exact this
 have gt: ∀j k m,j<k→k<m→m≤q→0<A3 (g j) (g k) (g m):=fun j k m h1 h2 h3=>by
  have:=hg.tri j k m h1 h2 h3;rw[Hl] at this;exact this
 have cl:P (r+q)=P 0:=by rw[hQ q (Nat.le_refl _),hP 0 (Nat.zero_le _),e0]
 refine⟨C2.of_chk n3 cl ?_, ?_⟩
 ·intro i k hi hk h1 h2 h3
  rcases Nat.lt_or_ge i r with c|c
  ·rw[hP i (by omega),hP (i+1) (by omega)]
   rcases Nat.lt_or_ge r k with d|d
   ·obtain⟨l,rfl⟩: ∃l,k=r+l:=⟨k-r,by omega⟩
    rw[hQ l (by omega)]
    exact hf.strict hg hT hT' e0 e1 c (by omega) (by omega)
   ·rw[hP k d]
    rcases Nat.lt_or_ge k i with w|w
    ·rw[←BX];exact hf.tri _ _ _ w (by omega) (by omega)
    ·exact hf.tri _ _ _ (by omega) (by omega) (by omega)
  ·obtain⟨j,rfl⟩: ∃j,i=r+j:=⟨i-r,by omega⟩
   rw[hQ j (by omega),show r+j+1=r+(j+1) by omega,hQ (j+1) (by omega)]
   by_cases k0:k=0
   ·subst k0
    rw[←cl,hQ q (Nat.le_refl _)]
    exact gt _ _ _ (by omega) (by omega) (by omega)
   rcases Nat.lt_or_ge k r with d|d
   ·
    rw[hP k (by omega), ←Hl]
    have hf':Lc S (fun i=>B0 (B0 (f i))) r:=by
     have e:(fun i=>B0 (B0 (f i)))=f:=by
      funext i;unfold B0;ext<;>grind
     rw[e];exact hf
    have nn: ∀x:Ag,B0 (B0 x)=x:=fun x=>by unfold B0;ext<;>grind
    exact Lc.strict (S:=T) (T:=S) (f:=fun i=>B0 (g i)) (g:=fun i=>B0 (f i)) hg hf' (fun x hx=>hT' _ (by rw[nn];exact hx)) (fun x hx=>by have:=hT _ hx;rw[nn] at this;exact this) (by show B0 (g 0)=B0 (f r);rw[e1]) (by show B0 (g q)=B0 (f 0);rw[e0]) (i:=j) (l:=k) (by omega) (by omega) d
   ·obtain⟨l,rfl⟩: ∃l,k=r+l:=⟨k-r,by omega⟩
    rw[hQ l (by omega)]
    rcases Nat.lt_or_ge l j with w|w
    ·rw[←BX];exact gt _ _ _ w (by omega) (by omega)
    ·exact gt _ _ _ (by omega) (by omega) (by omega)
 ·intro x hx i hi
  rcases Nat.lt_or_ge i r with c|c
  ·rw[hP i (by omega),hP (i+1) (by omega)]
   exact hf.edge i c x hx
  ·obtain⟨j,rfl⟩: ∃j,i=r+j:=⟨i-r,by omega⟩
   rw[hQ j (by omega),show r+j+1=r+(j+1) by omega,hQ (j+1) (by omega)]
   exact ge j (by omega) x hx
end
section
def Cb (S:List Ag):List Ag:=(Ap S).tail.reverse++(Ap S.reverse).tail.reverse
theorem IW.ne {S l:List Ag} (h0:S≠[]) (h2:l.getLast? =S.head?):0<l.length:=by
 cases S with
 |nil=>exact absurd rfl h0
 |cons a S=>
  cases l with
  |nil=>exact absurd h2 (by simp)
  |cons b l=>simp
theorem Th {a b:List Ag} {P:Nat→Ag} (ha:0<a.length) (hb:0<b.length) (e0:a.getLast? =b.head?) (e1:a.head? =b.getLast?) (hP:P=Ab (a.tail.reverse++b.tail.reverse)) (hn:0<(a.length-1)+(b.length-1)):
  (a.tail.reverse++b.tail.reverse).length=(a.length-1)+(b.length-1)∧(∀i,i≤a.length-1→P i=Ab a (a.length-1-i))∧(∀i,i≤b.length-1→P (a.length-1+i)=Ab b (b.length-1-i)):=by
 have hlen:(a.tail.reverse++b.tail.reverse).length=(a.length-1)+(b.length-1):=by simp
 have lo: ∀i,i<a.length-1→P i=Ab a (a.length-1-i):=fun i hi=>by
  rw[hP,AE (by rw[hlen];omega),AE (by omega),List.getElem_append_left (by simp;omega),List.getElem_reverse,List.getElem_tail]
  congr 1;simp;omega
 have up: ∀i,i<b.length-1→P (a.length-1+i)=Ab b (b.length-1-i):=fun i hi=>by
  rw[hP,AE (by rw[hlen];omega),AE (by omega),List.getElem_append_right (by simp),List.getElem_reverse,List.getElem_tail]
  congr 1;simp;omega
 have top:Ab a 0=Ab b (b.length-1):=by
  rw[AE ha,AE (by omega)]
  rw[List.head?_eq_getElem?,List.getLast?_eq_getElem?,List.getElem?_eq_getElem ha,List.getElem?_eq_getElem (by omega)] at e1
  exact Option.some.inj e1
 have bot:Ab a (a.length-1)=Ab b 0:=by
  rw[AE hb,AE (by omega)]
  rw[List.head?_eq_getElem?,List.getLast?_eq_getElem?,List.getElem?_eq_getElem hb,List.getElem?_eq_getElem (by omega)] at e0
  exact Option.some.inj e0
 have cl:P ((a.length-1)+(b.length-1))=P 0:=by rw[hP, ←hlen];exact Ep
 have p0:P 0=Ab a (a.length-1):=by
  rcases Nat.eq_zero_or_pos (a.length-1) with c|c
  ·have:=up 0 (by omega)
   rw[c] at this⊢
   rw[show 0+0=0 by rfl] at this
   rw[this,top];rfl
  ·exact lo 0 c
 refine⟨hlen,fun i hi=> ?_,fun i hi=> ?_⟩
 ·rcases Nat.lt_or_ge i (a.length-1) with c|c
  ·exact lo i c
  ·obtain rfl:i=a.length-1:=by omega
   rw[Nat.sub_self,top]
   rcases Nat.eq_zero_or_pos (b.length-1) with d|d
   ·have:=cl
    rw[d,Nat.add_zero,p0,bot] at this
    rw[this,d]
   ·exact up 0 d
 ·rcases Nat.lt_or_ge i (b.length-1) with c|c
  ·exact up i c
  ·obtain rfl:i=b.length-1:=by omega
   rw[cl,p0,bot,Nat.sub_self]
theorem NC {l:List Ag} (h:l.Pairwise AG):(l.reverse.map B0).Pairwise AG:=by
 rw[List.pairwise_map,List.pairwise_reverse]
 exact h.imp fun {a b} h=>MS.2 h
theorem VH {l:List Ag} (h:0<l.length) (i:Nat):Ab (l.map B0) i=B0 (Ab l i):=by
 rw[←Bn, ←Bn l]
 have e:(l.map B0).length=l.length:=by simp
 rw[e,AE (by rw[e];exact Nat.mod_lt i h),AE (Nat.mod_lt i h)]
 exact List.getElem_map B0
theorem PX {p q a b c:Ag} (hpq:AG p q) (ha:A3 p q a=0) (hb:A3 p q b=0) (hc:A3 p q c=0):A3 a b c=0:=by
 refine U5 (f:=NU p q) ?_ (by rw[Cg];exact ha) (by rw[Cg];exact hb) (by rw[Cg];exact hc)
 unfold NU AG at*
 rcases hpq with h|⟨_,h⟩
 ·right;grind
 ·left;grind
theorem Ke {S:List Ag} (hs:S.Pairwise AG) (h0:S≠[]):
  (∀p∈Cb S,p∈S)∧
  (3≤(Cb S).length→Bm (Cb S)∧(∀x∈S,DQ (Cb S) x)∧E7 (Cb S))∧
  ((Cb S).length<3→ ∀a∈S, ∀b∈S, ∀c∈S,A3 a b c=0):=by
 obtain⟨c1,c2,c3⟩:=JS S hs
 obtain⟨d1,d2,d3⟩:=JS (S.reverse.map B0) (NC hs)
 have eN:Ap (S.reverse.map B0)=(Ap S.reverse).map B0:=Qb _
 rw[eN] at d1 d2 d3
 have a0:0<(Ap S).length:=IW.ne h0 c2
 have b0:0<(Ap S.reverse).length:=by
  have:=IW.ne (S:=S.reverse.map B0) (by simp[h0]) d2
  simpa using this
 have nn: ∀x:Ag,B0 (B0 x)=x:=fun x=>by unfold B0;ext<;>grind
 have inj: ∀x y:Ag,B0 x=B0 y→x=y:=fun x y h=>by rw[←nn x,h,nn]
 have hT: ∀x,x∈S→B0 x∈S.reverse.map B0:=fun x hx=>List.mem_map.2 ⟨x,List.mem_reverse.2 hx,rfl⟩
 have hT': ∀x,B0 x∈S.reverse.map B0→x∈S:=fun x hx=>by
  obtain⟨y,hy,e⟩:=List.mem_map.1 hx
  rw[←inj _ _ e];exact List.mem_reverse.1 hy
 have e0:(Ap S).getLast? =(Ap S.reverse).head? :=by
  rw[c2]
  have:(Ap S.reverse).head?.map B0=S.head?.map B0:=by
   rw[←List.head?_map,d3,List.getLast?_map,List.getLast?_reverse]
  cases hA:S.head? with
  |none=>rw[hA] at this;cases hB:(Ap S.reverse).head? with
   |none=>rfl
   |some y=>rw[hB] at this;exact absurd this (by simp)
  |some x=>rw[hA] at this;cases hB:(Ap S.reverse).head? with
   |none=>rw[hB] at this;exact absurd this (by simp)
   |some y=>rw[hB] at this;rw[inj _ _ (Option.some.inj this)]
 have e1:(Ap S).head? =(Ap S.reverse).getLast? :=by
  rw[c3]
  have:(Ap S.reverse).getLast?.map B0=S.getLast?.map B0:=by
   rw[←List.getLast?_map,d2,List.head?_map,List.head?_reverse]
  cases hA:S.getLast? with
  |none=>rw[hA] at this;cases hB:(Ap S.reverse).getLast? with
   |none=>rfl
   |some y=>rw[hB] at this;exact absurd this (by simp)
  |some x=>rw[hA] at this;cases hB:(Ap S.reverse).getLast? with
   |none=>rw[hB] at this;exact absurd this (by simp)
   |some y=>rw[hB] at this;rw[inj _ _ (Option.some.inj this)]
 have hf:=c1.asc a0
 have hg:=d1.asc (by simpa using b0)
 rw[List.length_map] at hg
 have gfun:(fun i=>Ab ((Ap S.reverse).map B0) ((Ap S.reverse).length-1-i))=fun i=>B0 (Ab (Ap S.reverse) ((Ap S.reverse).length-1-i)):=by
  funext i;exact VH b0 _
 rw[gfun] at hg
 have memL: ∀p∈Ap S,p∈S:=c1.mem
 have memU: ∀p∈Ap S.reverse,p∈S:=fun p hp=>hT' p (d1.mem _ (List.mem_map.2 ⟨p,hp,rfl⟩))
 have mem: ∀p∈Cb S,p∈S:=by
  intro p hp
  unfold Cb at hp
  rcases List.mem_append.1 hp with q|q
  ·exact memL _ (List.mem_of_mem_tail (List.mem_reverse.1 q))
  ·exact memU _ (List.mem_of_mem_tail (List.mem_reverse.1 q))
 have b1:Ab (Ap S) ((Ap S).length-1)=Ab (Ap S.reverse) 0:=by
  rw[AE b0,AE (by omega)]
  rw[List.head?_eq_getElem?,List.getLast?_eq_getElem?,List.getElem?_eq_getElem b0,List.getElem?_eq_getElem (by omega)] at e0
  exact Option.some.inj e0
 have t1:Ab (Ap S) 0=Ab (Ap S.reverse) ((Ap S.reverse).length-1):=by
  rw[AE a0,AE (by omega)]
  rw[List.head?_eq_getElem?,List.getLast?_eq_getElem?,List.getElem?_eq_getElem a0,List.getElem?_eq_getElem (by omega)] at e1
  exact Option.some.inj e1
 have E0:Ab (Ap S) ((Ap S).length-1-0)=Ab (Ap S.reverse) ((Ap S.reverse).length-1-((Ap S.reverse).length-1)):=by rw[Nat.sub_self,Nat.sub_zero,b1]
 have E1:Ab (Ap S) ((Ap S).length-1-((Ap S).length-1))=Ab (Ap S.reverse) ((Ap S.reverse).length-1-0):=by rw[Nat.sub_self,Nat.sub_zero,t1]
 have hlen:(Cb S).length=((Ap S).length-1)+((Ap S.reverse).length-1):=by unfold Cb;simp
 have least: ∀x∈S, ¬AG x (Ab (Ap S) ((Ap S).length-1)):=by
  intro x hx hp
  have e:Ab (Ap S) ((Ap S).length-1)=S.head h0:=by
   rw[AE (by omega)]
   rw[List.getLast?_eq_getElem?,List.getElem?_eq_getElem (by omega),List.head?_eq_some_head h0] at c2
   exact Option.some.inj c2
  rw[e] at hp
  cases S with
  |nil=>exact h0 rfl
  |cons y S=>
   rcases List.mem_cons.1 hx with q|q
   ·subst q;exact Eu _ hp
   ·exact CS hp ((List.pairwise_cons.1 hs).1 x q)
 refine⟨mem,fun n3=> ?_,fun n3=> ?_⟩
 ·obtain⟨l1,l2,l3⟩:=Th (P:=Ab (Cb S)) a0 b0 e0 e1 rfl (by omega)
  have H:=PS hf hg hT hT' E0 E1 (P:=Ab (Cb S)) l2 l3 (by omega)
  refine⟨?_,fun x hx=> ?_,fun p hp=> ?_⟩
  ·show C2 (Ab (Cb S)) (Cb S).length
   rw[hlen];exact H.1
  ·show O3 (Ab (Cb S)) (Cb S).length x
   rw[hlen];exact H.2 x hx
  ·have e:=l2 0 (Nat.zero_le _)
   rw[Nat.sub_zero] at e
   rw[e]
   exact least p (mem p hp)
 ·intro a ha b hb c hc
  rw[hlen] at n3
  have LE: ∀i j:Nat,i<j→j≤(Ap S).length-1→AG (Ab (Ap S) ((Ap S).length-1-i)) (Ab (Ap S) ((Ap S).length-1-j)):=hf.lt
  have GE: ∀i j:Nat,i<j→j≤(Ap S.reverse).length-1→AG (Ab (Ap S.reverse) ((Ap S.reverse).length-1-j)) (Ab (Ap S.reverse) ((Ap S.reverse).length-1-i)):=fun i j h1 h2=>MS.1 (hg.lt i j h1 h2)
  by_cases r0:(Ap S).length-1=0
  ·
   have all: ∀x∈S,x=Ab (Ap S) 0:=by
    intro x hx
    have g1:S.head h0=Ab (Ap S) 0:=by
     rw[AE a0]
     rw[List.getLast?_eq_getElem?,List.head?_eq_some_head h0,List.getElem?_eq_getElem (by omega)] at c2
     have:=Option.some.inj c2
     simp only[r0] at this
     exact this.symm
    have g2:S.getLast h0=Ab (Ap S) 0:=by
     rw[AE a0]
     rw[List.head?_eq_getElem?,List.getLast?_eq_some_getLast h0,List.getElem?_eq_getElem a0] at c3
     exact(Option.some.inj c3).symm
    cases S with
    |nil=>exact absurd rfl h0
    |cons y S=>
     have g1:y=_:=g1
     cases S with
     |nil=>
      rcases List.mem_cons.1 hx with q|q
      ·rw[q];exact g1
      ·exact absurd q (by simp)
     |cons z S=>
      exfalso
      have lm:(y::z::S).getLast h0∈z::S:=by
       rw[List.getLast_cons (by simp)];exact List.getLast_mem _
      have:=(List.pairwise_cons.1 hs).1 _ lm
      rw[g2, ←g1] at this
      exact Eu _ this
   rw[all a ha,all b hb,Kw]
  ·have q0:(Ap S.reverse).length-1≠0:=by
    intro q0
    have x:=LE 0 ((Ap S).length-1) (by omega) (Nat.le_refl _)
    rw[Nat.sub_zero,Nat.sub_self,b1,t1,q0] at x
    exact Eu _ x
   have r1:(Ap S).length-1=1:=by omega
   have q1:(Ap S.reverse).length-1=1:=by omega
   have lt:=LE 0 1 (by omega) (by omega)
   rw[r1] at lt
   have z: ∀x∈S,A3 (Ab (Ap S) 1) (Ab (Ap S) 0) x=0:=by
    intro x hx
    have u1:=hf.edge 0 (by omega) x hx
    have u2:=hg.edge 0 (by omega) (B0 x) (hT x hx)
    rw[Hl] at u2
    simp only[r1,q1] at u1 u2
    have E0':Ab (Ap S) 1=Ab (Ap S.reverse) 0:=by rw[←b1,r1]
    have E1':Ab (Ap S) 0=Ab (Ap S.reverse) 1:=by rw[t1,q1]
    have u2:0≤A3 (Ab (Ap S.reverse) 1) (Ab (Ap S.reverse) 0) x:=u2
    rw[←E0', ←E1'] at u2
    have u1:0≤A3 (Ab (Ap S) 1) (Ab (Ap S) 0) x:=u1
    have:=Gq (Ab (Ap S) 0) (Ab (Ap S) 1) x
    grind
   exact PX lt (z a ha) (z b hb) (z c hc)
theorem Tk {S R:List Ag} (hs:S.Pairwise AG) (h0:S≠[]) (hR:Bm R) (hl:E7 R) (h1: ∀p∈R,p∈S) (h2: ∀x∈S,DQ R x):Cb S=R:=by
 obtain⟨a1,a2,a3⟩:=Ke hs h0
 have r3:=hR.n3
 have n3:3≤(Cb S).length:=by
  rcases Nat.lt_or_ge (Cb S).length 3 with c|c
  ·exfalso
   have t:=hR.tri 0 1 2 (by omega) (by omega) (by omega)
   have:=a3 c _ (h1 _ (AD (by omega) 0)) _ (h1 _ (AD (by omega) 1)) _ (h1 _ (AD (by omega) 2))
   grind
  ·exact c
 obtain⟨b1,b2,b3⟩:=a2 n3
 exact SM b1 hR (fun x hx=>b2 x (h1 x hx)) (fun x hx=>h2 x (a1 x hx)) b3 hl
end
section
def Fx (l:List Ag):Rat:=DR (fun i=>((Ab l i).1+(Ab l (i+1)).1)*Cx (Ab l i) (Ab l (i+1))) l.length
def Fo (l:List Ag):Rat:=DR (fun i=>((Ab l i).2+(Ab l (i+1)).2)*Cx (Ab l i) (Ab l (i+1))) l.length
def HC (l:List Ag):Ag:=(Fx l/(3*AY l),Fo l/(3*AY l))
theorem UE {F:Nat→Rat} {n:Nat} (h: ∀i,i<n→0≤F i):0≤DR F n:=by
 induction n with
 |zero=>show(0:Rat)≤0;grind
 |succ n ih=>
  have a:=ih fun i hi=>h i (by omega)
  have b:=h n (by omega)
  show 0≤DR F n+F n
  grind
theorem Sj {F:Nat→Rat} {n k:Nat} (hk:k<n) (h0:0<F k) (h: ∀i,i<n→0≤F i):0<DR F n:=by
 induction n with
 |zero=>omega
 |succ n ih=>
  show 0<DR F n+F n
  rcases Nat.lt_or_ge k n with c|c
  ·have a:=ih c fun i hi=>h i (by omega)
   have b:=h n (by omega)
   grind
  ·obtain rfl:k=n:=by omega
   have a:=UE (n:=k) fun i hi=>h i (by omega)
   grind
theorem MI {l:List Ag} (h:Bm l):0<AY l:=by
 have n3:=h.n3
 rw[←PC (Ab l 0)]
 unfold OP
 exact Sj (k:=1) (by omega) (h.tri 0 1 2 (by omega) (by omega) (by omega)) fun i hi=>h.nn (Nat.zero_le _) (by omega) (by omega)
end
section
def LK (P:Nat→Ag) (n:Nat) (f:Bg):List Ra:=(List.range n).flatMap fun i=>
 (if f.at (P i)=0 then[(i,0)] else[])++(if f.at (P i)*f.at (P (i+1))<0 then[(i,f.at (P i)/(f.at (P i)-f.at (P (i+1))))] else[])
def VB (P:Nat→Ag) (f:Bg) (i:Nat):List Ra:=(if f.at (P i)=0 then[(i,0)] else[])++(if f.at (P i)*f.at (P (i+1))<0 then[(i,f.at (P i)/(f.at (P i)-f.at (P (i+1))))] else[])
theorem Sw (P:Nat→Ag) (f:Bg) (i:Nat):(VB P f i).length≤1:=by
 unfold VB
 split
 ·rename_i c
  rw[c,if_neg (by grind)]
  simp
 ·split<;>simp
theorem NG {α β:Type} {g:α→List β} (h: ∀a,(g a).length≤1) (l:List α):(l.flatMap g).length≤l.length:=by
 induction l with
 |nil=>simp
 |cons a l ih=>rw[List.flatMap_cons,List.length_append,List.length_cons];have:=h a;omega
theorem QB (P:Nat→Ag) (n:Nat) (f:Bg):(LK P n f).length≤n:=by
 have:=NG (Sw P f) (List.range n)
 rw[List.length_range] at this
 exact this
def FA (f:Bg) (l:List Ag):List Ag:=(LK (Ab l) l.length f).map (H0 (Ab l))
theorem XJ {P:Nat→Ag} {n:Nat} (h:C2 P n) {i j:Nat} {t s:Rat} (hij:i<j) (hj:j<n) (t1:t<1) (s0:0≤s) (s1:s<1):H0 P (i,t)≠H0 P (j,s):=by
 have n3:=h.n3
 intro e
 have a:A3 (P i) (P (i+1)) (H0 P (i,t))=0:=by unfold H0;rw[TS,F9,I3];grind
 rw[e] at a
 have b:A3 (P i) (P (i+1)) (H0 P (j,s))=(1-s)*A3 (P i) (P (i+1)) (P j)+s*A3 (P i) (P (i+1)) (P (j+1)):=by unfold H0;rw[TS]
 have x0:=h.side (i:=i) (k:=j) (by omega) (by omega)
 have y0:=h.side (i:=i) (k:=j+1) (by omega) (by omega)
 by_cases c:j=i+1
 ·subst c
  rcases CA 0 s with d|d
  ·have:=Vy d s1 x0 (h.str (i:=i) (j:=i+1) (k:=i+1+1) (by omega) (by omega) (by omega) (by omega))
   grind
  ·have es:s=0:=by grind
   subst es
   have e3:H0 P (i+1,0)=P (i+1):=by unfold H0;rw[MB]
   have e4:G5 t (P i) (P (i+1))=P (i+1):=e.trans e3
   have e2:G5 t (P i) (P (i+1))=G5 1 (P i) (P (i+1)):=by rw[YS];exact e4
   -- a third corner
   obtain⟨k,hk,hp⟩: ∃k,k<n∧0<A3 (P i) (P (i+1)) (P k):=by
    by_cases q:i+2<n
    ·exact⟨i+2,q,h.tri _ _ _ (by omega) (by omega) q⟩
    ·exact⟨0,by omega,by rw[←BX];exact h.tri 0 i (i+1) (by omega) (by omega) (by omega)⟩
   have m:=U2 t 1 (P i) (P (i+1)) (P k)
   rw[e2,Kw] at m
   have:=Rat.mul_pos (show 0<1-t by grind) hp
   grind
 ·have:=WU s0 s1 (h.str (i:=i) (j:=i+1) (k:=j) (by omega) (by omega) (by omega) (by omega)) y0
  grind
end
section
open Go Go.RowKit Go.Am Go.Lib
set_option maxRecDepth 10000
-- BOXES 3
-- CODE2
theorem TY (b:UInt8):decide (((b.toNat:Nat):Int)<48)=decide (b.toNat<48):=decide_eq_decide.2 (by omega)
theorem TT (b:UInt8):decide (((b.toNat:Nat):Int)>57)=decide (57<b.toNat):=decide_eq_decide.2 (by omega)
def dgB (s:List UInt8):Bool:=decide (s=decDigits (AV s))
theorem H8 {s:List UInt8}:dgB s=true↔NI s:=by unfold dgB;rw[decide_eq_true_iff];exact R8.symm
theorem SQ {s:List UInt8} (h: ¬NI s):dgB s=false:=by
 cases e:dgB s
 ·rfl
 ·exact absurd (H8.1 e) h
theorem HN (s:List UInt8) (hs:s.length<4611686018427387904):BE Tryz.prog 83 [str s] (.bool (dgB s)):=by
 intro W
 refine Ae Tryz.func83 I I I ?_
 refine zA (zB (wP I (Aa (AP (Ao (Ao ?_))))))
 refine AJ (X:=Unit) (fun _=>[(0,str s),(16, .bool (decide (s=[]∨(1<s.length∧s[0]? =some 48))))]) (fun _=>[]) (fun _=>True) ?_ ?_
 ·refine zB (wP I (wP I ?_))
  refine Aj 5 (.int .i64 (s.length:Nat)) I (congrArg (fun n:Nat=>Value.int .i64 (n:Int)) (AA s)) ?_
  refine wP I ?_
  by_cases h0:s=[]
  ·refine wU 6 true I (by rw[h0];rfl) (wP I ?_)
   iterate 8 refine At I I ?_
   exact wP I (Aa (An () tO ⟨I,by rw[dT (Or.inl h0)];rfl,tO⟩ [] I))
  ·have hpos:0<s.length:=List.length_pos_iff.2 h0
   refine wU 6 false I (by rw[beq_eq_false_iff_ne];omega) (wP I (wP I (wP I ?_)))
   refine Aj 9 (.int .i64 (s.length:Nat)) I (congrArg (fun n:Nat=>Value.int .i64 (n:Int)) (AA s)) ?_
   refine wP I ?_
   by_cases h1:1<s.length
   ·refine wU 10 true I (dT (by omega)) ?_
    obtain⟨b,hb⟩: ∃b,s[0]? =some b:=⟨s[0],List.getElem?_eq_getElem hpos⟩
    refine wP I (wP I ?_)
    refine Be 0 tH I I I I I I I I hb ?_
    refine wP I (wU 14 (decide (b=48)) I (DK b 48) (wP I (wP I (Aa ?_))))
    refine An () tO ⟨I, ?_,tO⟩ [] I
    have e:decide (s=[]∨(1<s.length∧s[0]? =some 48))=decide (b=48):=by
     rw[decide_eq_decide,hb]
     constructor
     ·rintro(h|⟨_,h⟩)
      ·exact absurd h h0
      ·exact Option.some.inj h
     ·intro h;exact .inr ⟨h1,by rw[h]⟩
    rw[e];rfl
   ·refine wU 10 false I (dF (by omega)) (wP I ?_)
    iterate 3 refine At I I ?_
    exact wP I (wP I (Aa (An () tO ⟨I,by rw[show decide (s=[]∨1<s.length∧s[0]? =some 48)=false from dF (fun h=>h.elim h0 (fun h=>h1 h.1))];rfl,tO⟩ [] I)))
 intro _ _
 refine A0 I (fun hc=> ?_) (fun hc=> ?_)
 ·have hc:=of_decide_eq_true hc
  refine zA (zB (wP I (Aa (zE (zO (zP ?_))))))
  refine wR1 I I ?_
  rw[SQ fun h=> ?_]
  rcases hc with hc|⟨h1,h2⟩
  ·exact h.ne hc
  ·exact h.lead h1 h2
 have hc:=of_decide_eq_false hc
 have hne:s≠[]:=fun h=>hc (.inl h)
 have hlead:1<s.length→s[0]? ≠some 48:=fun h1 h2=>hc (.inr ⟨h1,h2⟩)
 refine zI (zE (zA (zA (zB (wP I (Aa (zE (zH ?_))))))))
 refine A8 (X:=Nat) (fun i=>[(0,str s),(3, .int .i64 (i:Nat))]) (fun _=>[]) (fun i=>i≤s.length∧ ∀b∈s.take i,Eg b=true) (fun i=>s.length-i) 0 ⟨Nat.zero_le _,fun b hb=>by simp at hb⟩ ⟨I,I,tO⟩ [] I ?_
 rintro i ⟨hi,hdg⟩
 have hi:i≤s.length:=hi
 have hdg: ∀b∈s.take i,Eg b=true:=hdg
 refine zA (zA (zB (wP I (wP I (wP I ?_)))))
 refine Aj 19 (.int .i64 (s.length:Nat)) I (congrArg (fun n:Nat=>Value.int .i64 (n:Int)) (AA s)) ?_
 refine wP I ?_
 by_cases hlt:i<s.length
 ·refine wU 20 true I (dT (by omega)) (Aa (zE (zR I (zI (zE (zA (zH (zA (zB ?_)))))))))
  obtain⟨b,hb⟩: ∃b,s[i]? =some b:=⟨s[i],List.getElem?_eq_getElem hlt⟩
  have hbm:b∈s:=List.mem_of_getElem? hb
  refine wP I (wP I ?_)
  refine Be i tH I I I I I I I I hb ?_
  refine wP I ?_
  by_cases h48:b.toNat<48
  ·refine wU 26 true I ((TY b).trans (dT h48)) (wP I ?_)
   iterate 4 refine At I I ?_
   refine wP I (Aa (zE (zR I (zA (zB (wP I (Aa (zE (zO (zQ (zP (zP (zQ ?_)))))))))))))
   refine zP ?_
   refine wR1 I I ?_
   rw[SQ fun h=>by have:=CN.1 (h.all b hbm);omega]
  ·refine wU 26 false I ((TY b).trans (dF h48)) (wP I (wP I (wP I ?_)))
   refine Be i tH I I I I I I I I hb ?_
   refine wP I ?_
   by_cases h57:57<b.toNat
   ·refine wU 31 true I ((TT b).trans (dT h57)) (wP I (Aa (zE (zR I (zA (zB (wP I (Aa (zE (zO (zQ (zP (zP ?_)))))))))))))
    refine zQ (zP ?_)
    refine wR1 I I ?_
    rw[SQ fun h=>by have:=CN.1 (h.all b hbm);omega]
   ·refine wU 31 false I ((TT b).trans (dF h57)) (wP I (Aa (zE (zS I (zI (zN (zE (zB (wP I (wP I (wV 22 ((i+1:Nat):Int) I (As (by omega)) (wP I (Aa ?_)))))))))))))
    refine Ay (i+1) ⟨hlt,fun c hc=> ?_⟩ (by show s.length-(i+1)<s.length-i;omega) ⟨I,I,tO⟩ [] I
    rw[List.take_add_one,hb,List.mem_append] at hc
    rcases hc with hc|hc
    ·exact hdg c hc
    ·obtain rfl:c=b:=by simpa using hc
     exact CN.2 ⟨by omega,by omega⟩
 ·refine wU 20 false I (dF (by omega)) (Aa (zE (zS I (zJ (zK (zK (zL (zE (zA (zB (wP I (Aa (zE ?_)))))))))))))
  refine zO ?_
  refine wR1 I I ?_
  rw[List.take_of_length_le (by omega)] at hdg
  rw[H8.2 ⟨hne,hdg,hlead⟩]
theorem Lb (a b:Nat) (ha:a<9223372036854775808) (hb:b<9223372036854775808):BE Tryz.prog 84 [.int .i64 (a:Nat), .int .i64 (b:Nat)] (.int .i64 (Nat.gcd a b:Nat)):=by
 intro W
 refine Ae Tryz.func84 I I I ?_
 refine zA (zB (wP I (Aa (zE (zA (zH ?_))))))
 refine A8 (X:=Nat×Nat) (fun x=>[(0, .int .i64 (x.1:Nat)),(1, .int .i64 (x.2:Nat))]) (fun _=>[]) (fun x=>x.1<9223372036854775808∧x.2<9223372036854775808∧Nat.gcd x.1 x.2=Nat.gcd a b) (fun x=>x.2) (a,b) ⟨ha,hb,I⟩ ⟨I,I,tO⟩ [] I ?_
 rintro⟨x,y⟩ ⟨hx,hy,hg⟩
 have hx:x<9223372036854775808:=hx
 have hy:y<9223372036854775808:=hy
 have hg:Nat.gcd x y=Nat.gcd a b:=hg
 refine zA (zA (zB (wP I (wP I (Aa (zE ?_))))))
 by_cases h0:y=0
 ·refine Bo 6 (.bool false) I (congrArg Value.bool (by rw[bne_eq_false_iff_eq];omega)) ?_
  exact zS I (zJ (zK (zK (zL (zE (zA (zB (wP I (wP I (Aa (zE (zO (wR1 I I (by rw[←hg,h0,Nat.gcd_zero_right]))))))))))))))
 ·refine Bo 6 (.bool true) I (congrArg Value.bool (by rw[bne_iff_ne];omega)) ?_
  refine zR I (zI (zE (zH (zU (qP I (qP I (qP I ?_)))))))
  refine Ed I I I I I (by omega) ?_
  refine qP I (qP I (AQ (Aa (zN ?_))))
  have hr:x%y<y:=Nat.mod_lt _ (by omega)
  exact Ay (y,x%y) ⟨hy,Nat.lt_trans hr hy,by show Nat.gcd y (x%y)=_;rw[Nat.gcd_comm, ←Nat.gcd_rec,Nat.gcd_comm];exact hg⟩ hr ⟨I,I,tO⟩ [] I
theorem C5 (s:List UInt8) (hs:s.length≤18) (hd: ∀b∈s,Eg b=true):BE Tryz.prog 85 [str s] (.int .i64 (AV s:Nat)):=by
 intro W
 have hlt: ∀i,AV (s.take i)<1000000000000000000:=fun i=>by
  have h1:=Gn (s.take i).length (s:=s.take i) rfl fun b hb=>hd b (List.mem_of_mem_take hb)
  have h2:(s.take i).length≤18:=by rw[List.length_take];omega
  exact Nat.lt_of_lt_of_le h1 (Nat.pow_le_pow_right (by decide) h2)
 refine Ae Tryz.func85 I I I ?_
 refine zA (zB (wP I (Aa (zE (zA (zB (wP I (Aa (zE (zA (zA (zB (wP I ?_)))))))))))))
 refine Aa (zE (zH ?_))
 refine A8 (X:=Nat) (fun i=>[(0,str s),(3, .int .i64 (AV (s.take i):Nat)),(4, .int .i64 (i:Nat))]) (fun _=>[]) (fun i=>i≤s.length) (fun i=>s.length-i) 0 (Nat.zero_le _) ⟨I,I,I,tO⟩ [] I ?_
 intro i hi
 have hi:i≤s.length:=hi
 refine zA (zA (zB (wP I (wP I (wP I ?_)))))
 refine Aj 7 (.int .i64 (s.length:Nat)) I (congrArg (fun n:Nat=>Value.int .i64 (n:Int)) (AA s)) ?_
 refine wP I ?_
 by_cases h:i<s.length
 ·refine wU 8 true I (dT (by omega)) (Aa (zE (zR I (zI (zE (zA (zH (zB ?_))))))))
  obtain⟨b,hb⟩: ∃b,s[i]? =some b:=⟨s[i],List.getElem?_eq_getElem h⟩
  have hdb:=CN.1 (hd b (List.mem_of_getElem? hb))
  have e1:AV (s.take (i+1))=10*AV (s.take i)+(b.toNat-48):=by
   rw[List.take_add_one,hb];exact D9 _ _
  have l1:=hlt i
  have l2:=hlt (i+1)
  refine wP I (wP I (wV 12 ((10*AV (s.take i):Nat):Int) I (show w64 (10*(AV (s.take i):Nat))=_ by rw[Au (by omega) (by omega)];omega) (wP I (wP I ?_))))
  refine Be i tH I I I I I I I I hb ?_
  refine wP I ?_
  refine Aj 16 (.int .u8 ((b.toNat-48:Nat):Int)) I (congrArg (Value.int .u8) (show IntKind.u8.wrap ((b.toNat:Nat)-48)=_ by
   simp only[IntKind.wrap,IntKind.signed,IntKind.bits];simp;omega)) ?_
  refine Jk Tryz.underlying5 Tryz.underlying3 I I I I ?_
  exact wV 17 ((b.toNat-48:Nat):Int) I (BW (by omega)) (wP I (wV 18 ((AV (s.take (i+1)):Nat):Int) I (show w64 (((10*AV (s.take i):Nat):Int)+((b.toNat-48:Nat):Int))=_ by rw[Au (by omega) (by omega),e1];omega) (wP I (Aa (zN (zE (zB (wP I (wP I (wV 10 ((i+1:Nat):Int) I (As (by omega)) (wP I (Aa (Ay (i+1) h (by show s.length-(i+1)<s.length-i;omega) ⟨I,I,I,tO⟩ [] I)))))))))))))
 ·refine wU 8 false I (dF (by omega)) (Aa (zE (zS I (zJ (zK (zK (zL (zE (zA (zB (wP I (wP I (Aa ?_)))))))))))))
  exact zE (zO (wR1 I I (by rw[List.take_of_length_le (by omega)])))
-- BOXES 3
-- CODE2
section
variable {r:Option Nat} {n:Nat} {P:Program} {N:Nat} {D:List Deferred} {ops:List Oper} {Q:Exit→Act→World→Prop} {o:Oper} {rest:List Oper} {env:Env} {A:World→Prop} {A2:World→Prop} {R:Act→World→Prop}
theorem WG {T:Tbl} {i:TI} {ρ:Operand→Value} {a:List UInt8} {t:TypeId} {x y:Operand} {k:IntKind} (l:Nat) (hT:Go.Am.okB P T=true) (ho:o.op= .slice t x none (some y) none) (ht:C6 T t=some i) (hk:i.kind=1)
  (hx:ρ x=str a) (hy:ρ y= .int k l) (h1:l≤a.length) (W:World):(execOp ρ o).run P W= .ok (.value (str (a.take l))) W:=by
 have hu:=GX (BH hT ht) hk
 have hsz:(⟨a.toArray⟩:ByteArray).size=a.length:=by show a.toArray.size=_;simp
 have e:(⟨a.toArray⟩:ByteArray).extract 0 l=⟨(a.take l).toArray⟩:=by
  apply ByteArray.ext
  rw[ByteArray.data_extract]
  apply Array.toList_inj.1
  simp[List.extract_eq_take_drop]
 simp[execOp,ho,Instr.sliceAt,Instr.slice,Instr.sliceBounds,Instr.sliceBound,hx,hy,asIntOf,run_underlying hu,hsz,h1,e]
theorem Xo (l:Nat) {T:Tbl} {i:TI} {a:List UInt8} {d:Nat} {t:TypeId} {x y:Operand} {k:IntKind} {z:Int} (hT:Go.Am.okB P T=true) (hg:AC ops N env o=some true) (hd:o.dst=some d) (ho:o.op= .slice t x none (some y) none) (ht:C6 T t=some i) (hk:i.kind=1)
  (hx:evO N env x=some (str a)) (hy:evO N env y=some (.int k z)) (hz:z=l) (h1:l≤a.length)
  (hn:WQ P N D ops A2 R rest ((d,str (a.take l))::env) A):WQ P N D ops A2 R (o::rest) env A:=
 Ec hg hd (fun c e=>by rw[ho] at e;cases e) (fun ρ W hρ _=>WG l hT ho ht hk (hρ _ _ hx) (by rw[←hz];exact hρ _ _ hy) h1 W) hn
end
section
variable {n:Nat} {P:Program} {W0:World} {N:Nat} {env:Env} {bxs:List Bx}
theorem LG {fn:Func} {T:Tbl} {r1 r2 r3 r4:ResultVar} {v1 v2 v3 v4:Value} {X:Type} {val:X→Value} {Φ:X→Prop} {nb:X→List Bx} (hT:Go.Am.okB P T=true) (hr:fn.results= #[r1,r2,r3,r4])
  (h1:Res P T env bxs N r1 v1) (h2:Res P T env bxs N r2 v2) (h3:Res P T env bxs N r3 v3) (h4:Res P T env bxs N r4 v4)
  (x:X) (hv: .tuple #[v1,v2,v3,v4]=val x) (hx:Φ x) (hnb: ∀W,Hp W0 bxs W→Ar W0 W (nb x)):NE N [] (Ib P fn W0 val Φ nb) .ret env (Hp W0 bxs):=
 Nu (rvs:=[r1,r2,r3,r4]) (vs:=[v1,v2,v3,v4]) hT hr rfl (fun i h _=>by
  match i,h with
  |0,_=>exact h1
  |1,_=>exact h2
  |2,_=>exact h3
  |3,_=>exact h4
  |i+4,h=>exact absurd h (by show¬i+4<4;omega)) x (by simpa using hv) hx hnb
end
def RR (a:List UInt8):Value:= .tuple #[.bool (hasPrefix a [45]),str (cut (trimPrefix a [45]) [47]).1,str (cut (trimPrefix a [45]) [47]).2.1, .bool (cut (trimPrefix a [45]) [47]).2.2]
theorem Gw (a:List UInt8) (ha:a.length<4611686018427387904):BE Tryz.prog 82 [str a] (RR a):=by
 intro W
 refine Ae Tryz.func82 I I I ?_
 refine zA (zB (wP I (wP I (wP I (wP I (Aa (zE (zA (zB (wP I (wP I (Aa (AP ?_)))))))))))))
 refine Ao ?_
 refine AJ (X:=Unit) (fun _=>[(6,str a),(7, .bool (hasPrefix a [45]))]) (fun _=>[]) (fun _=>True) ?_ ?_
 ·refine zB (wP I (wP I ?_))
  refine Aj 11 (.int .i64 (a.length:Nat)) I (congrArg (fun n:Nat=>Value.int .i64 (n:Int)) (AA a)) ?_
  refine wP I ?_
  cases ea:a with
  |nil=>
   refine Aj 12 (.bool false) I I ?_
   refine wP I ?_
   iterate 3 refine At I I ?_
   exact wP I (wP I (Aa (An () tO ⟨I,I,tO⟩ [] I)))
  |cons b t=>
   refine wU 12 true I (dT (by show(((b::t).length:Nat):Int)>0;rw[List.length_cons];omega)) (wP I (wP I ?_))
   refine Be 0 tH I I I I I I I I (show(b::t)[0]? =some b from I) ?_
   exact wP I (wU 16 (hasPrefix (b::t) [45]) I ((DK b 45).trans (by rw[BA];exact decide_eq_decide.2 (by simp))) (wP I (wP I (Aa (An () tO ⟨I,I,tO⟩ [] I)))))
 intro _ _
 refine zA (zA (zB (wP I (Aa (AP ?_)))))
 try refine Ao ?_
 obtain⟨b,hb⟩: ∃b,b=trimPrefix a [45]:=⟨_,rfl⟩
 have hbl:b.length≤a.length:=by rw[hb,Bd];split<;>simp
 refine AJ (X:=Unit) (fun _=>[(6,str b),(7, .bool (hasPrefix a [45]))]) (fun _=>[]) (fun _=>True) ?_ ?_
 ·refine A0 I (fun hm=> ?_) (fun hm=> ?_)
  ·have hm:a[0]? =some 45:=by rw[BA] at hm;exact of_decide_eq_true hm
   have h1:1≤a.length:=(List.getElem?_eq_some_iff.1 hm).1
   refine zB (wP I ?_)
   refine FF 1 tH I I I I I I I I h1 ?_
   exact wP I (Aa (An () tO ⟨by rw[hb,Bd,if_pos hm];rfl,I,tO⟩ [] I))
  ·have hm: ¬a[0]? =some 45:=by rw[BA] at hm;exact of_decide_eq_false hm
   exact zI (An () tO ⟨by rw[hb,Bd,if_neg hm];rfl,I,tO⟩ [] I)
 intro _ _
 refine zA (zA (zB (wP I (Aa (zE (zH ?_))))))
 refine A8 (X:=Nat) (fun i=>[(6,str b),(7, .bool (hasPrefix a [45])),(8, .int .i64 (i:Nat))]) (fun _=>[]) (fun i=>i≤b.length∧47∉b.take i) (fun i=>b.length-i) 0 ⟨Nat.zero_le _,by simp⟩ ⟨I,I,I,tO⟩ [] I ?_
 rintro i ⟨hi,hno⟩
 have hi:i≤b.length:=hi
 have hno:47∉b.take i:=hno
 refine zA (zA (zB (wP I (wP I (wP I ?_)))))
 refine Aj 23 (.int .i64 (b.length:Nat)) I (congrArg (fun n:Nat=>Value.int .i64 (n:Int)) (AA b)) ?_
 refine wP I ?_
 by_cases hlt:i<b.length
 ·refine wU 24 true I (dT (by omega)) (Aa (zE (zR I (zI (zE (zA (zH (zA (zB ?_)))))))))
  obtain⟨c,hc⟩: ∃c,b[i]? =some c:=⟨b[i],List.getElem?_eq_getElem hlt⟩
  refine wP I (wP I ?_)
  refine Be i tH I I I I I I I I hc ?_
  refine wP I (wU 30 (decide (c=47)) I (DK c 47) (Aa (zE ?_)))
  refine A0 I (fun h47=> ?_) (fun h47=> ?_)
  ·have h47:c=47:=of_decide_eq_true h47
   have eb:b=b.take i++47::b.drop (i+1):=by
    conv=>lhs;rw[←List.take_append_drop i b]
    rw[List.drop_eq_getElem_cons hlt]
    have:b[i]=47:=by rw[List.getElem?_eq_getElem hlt] at hc;rw[Option.some.inj hc];exact h47
    rw[this]
   have ec:=G8 (b.drop (i+1)) hno
   rw[←eb,hb] at ec
   refine zA (zU (qP I (qP I (qP I ?_))))
   refine Xo i tH I I I I I I I I (by omega) ?_
   refine qP I (qP I (qP I (qV 37 ((i+1:Nat):Int) I (As (by omega)) ?_)))
   refine Ps (i+1) tH I I I I I I I I (by omega) ?_
   exact qP I (qP I (qP I (qP I (AQ (Aa (zE (zO (zQ (zP (zP (zQ (zP (LG tH I (.tmp I) (.tmp I) (.tmp I) (.tmp I) () (by rw[RR,ec,hb]) tO fun W _=>Ar.nil _ _)))))))))))))
  ·have h47: ¬c=47:=of_decide_eq_false h47
   refine zI (zN (zE (zB (wP I (wP I (wV 26 ((i+1:Nat):Int) I (As (by omega)) (wP I (Aa ?_))))))))
   refine Ay (i+1) ⟨hlt,fun h=> ?_⟩ (by show b.length-(i+1)<b.length-i;omega) ⟨I,I,I,tO⟩ [] I
   rw[List.take_add_one,hc,List.mem_append] at h
   rcases h with h|h
   ·exact hno h
   ·exact h47 (by simpa using h:(47:UInt8)=c).symm
 ·refine wU 24 false I (dF (by omega)) (Aa (zE (zS I (zJ (zK (zK (zL (zE (zA (zB ?_))))))))))
  rw[List.take_of_length_le (by omega)] at hno
  have ec:=Fa hno
  rw[hb] at ec
  iterate 6 refine wP I ?_
  exact Aa (zE (zO (LG tH I (.tmp I) (.tmp I) (.tmp I) (.tmp I) () (by rw[RR,ec,hb]) tO fun W _=>Ar.nil _ _)))
theorem Pg {z:Int} {d:Nat} (_hd:1≤d):hasPrefix (F3 z d) [45]=decide (z<0)∧cut (trimPrefix (F3 z d) [45]) [47]=(decDigits z.natAbs,if d=1 then[] else decDigits d,decide (d≠1)):=by
 have hn47:(47:UInt8)∉decDigits z.natAbs:=fun h=>by have:=FK _ _ h;exact absurd this.1 (by decide)
 have hp: ∀r,hasPrefix (itoa z++r) [45]=decide (z<0):=fun r=>by
  rw[BA]
  unfold itoa
  split
  ·rename_i h;rw[dT h];rfl
  ·rename_i h
   rw[dF h]
   obtain⟨b,t,hb,h3,_⟩:=CZ z.toNat
   rw[hb]
   refine dF fun e=> ?_
   have e:b=45:=by simpa using e
   rw[e] at h3;exact absurd h3 (by decide)
 have ht: ∀r,trimPrefix (itoa z++r) [45]=decDigits z.natAbs++r:=fun r=>by
  have h1:=hp r
  rw[Bd]
  rw[BA] at h1
  by_cases hz:z<0
  ·rw[dT hz] at h1
   rw[if_pos (of_decide_eq_true h1)]
   unfold itoa
   rw[if_pos hz];rfl
  ·rw[dF hz] at h1
   rw[if_neg (of_decide_eq_false h1)]
   unfold itoa
   rw[if_neg hz,show z.toNat=z.natAbs by omega]
 unfold F3
 by_cases h1:d=1
 ·rw[if_pos h1]
  have e1:=hp []
  have e2:=ht []
  rw[List.append_nil] at e1 e2
  rw[List.append_nil] at e2
  exact⟨e1,by rw[e2,Fa hn47,if_pos h1,h1];rfl⟩
 ·rw[if_neg h1]
  exact⟨hp _,by rw[ht,G8 _ hn47,if_neg h1,dT (show d≠1 from h1)]⟩
theorem PO (q:Rat):RR (Ad q)= .tuple #[.bool (decide (q.num<0)),str (decDigits q.num.natAbs),str (if q.den=1 then[] else decDigits q.den), .bool (decide (q.den≠1))]:=by
 obtain⟨h1,h2⟩:=Pg (z:=q.num) q.den_pos
 unfold RR Ad
 rw[h1,h2]
def Fq (q:Rat):Bool:=decide ((decDigits q.num.natAbs).length≤9)&&(decide (q.den=1)||decide ((decDigits q.den).length≤9))
theorem MZ {n:Nat} (h:(decDigits n).length≤9):n<1000000000:=Nat.lt_of_lt_of_le (DL n) (Nat.pow_le_pow_right (by decide) h)
theorem KD {q:Rat} (h:Fq q=true):q.num.natAbs<1000000000∧q.den<1000000000:=by
 unfold Fq at h
 simp only[Bool.and_eq_true,Bool.or_eq_true,decide_eq_true_eq] at h
 refine⟨MZ h.1, ?_⟩
 rcases h.2 with e|e
 ·rw[e];decide
 ·exact MZ e
theorem Sp (q:Rat) (hl:(Ad q).length<4611686018427387904):BE Tryz.prog 120 [str (Ad q)] (if Fq q=true then .tuple #[.int .i64 q.num, .int .i64 (q.den:Nat), .bool true] else .tuple #[.int .i64 0, .int .i64 0, .bool false]):=by
 intro W
 obtain⟨n,hn⟩: ∃n,n=decDigits q.num.natAbs:=⟨_,rfl⟩
 obtain⟨e,he⟩: ∃e,e=(if q.den=1 then[] else decDigits q.den):=⟨_,rfl⟩
 have hsp:Ai Tryz.prog 82 #[str (Ad q)] W (fun _:Unit=> .tuple #[.bool (decide (q.num<0)),str n,str e, .bool (decide (q.den≠1))]) (fun _=>True) (fun _=>[]):=(Gw (Ad q) hl W).cast (by rw[PO,hn,he])
 have hsh:Fq q=(decide (n.length≤9)&&decide (e.length≤9)):=by
  unfold Fq
  rw[hn,he]
  by_cases h1:q.den=1
  ·rw[if_pos h1,dT h1];rfl
  ·rw[if_neg h1,dF h1,Bool.false_or]
 have hnd: ∀b∈n,Eg b=true:=by rw[hn];exact(Fy _).all
 refine Ae Tryz.func120 I I I ?_
 refine zA (zB (wP I (wP I (wP I (Aa (zE (zA (zB (wP I (wC I I (fun W1 hp=>(Gw (Ad q) hl W1).cast (v':= .tuple #[.bool (decide (q.num<0)),str n,str e, .bool (decide (q.den≠1))]) (by rw[PO,hn,he])) ?_))))))))))
 iterate 9 refine wP I ?_
 refine Aa ?_
 by_cases hs:Fq q=true
 ·rw[if_pos hs]
  have hs2:=hs
  rw[hsh,Bool.and_eq_true,decide_eq_true_eq,decide_eq_true_eq] at hs2
  obtain⟨hs2,hs3⟩:=hs2
  obtain⟨l1,l2⟩:=KD hs
  refine zE (zA (zA (zB (wP I (wP I ?_)))))
  refine Aj 19 (.int .i64 (n.length:Nat)) I (congrArg (fun n:Nat=>Value.int .i64 (n:Int)) (AA n)) ?_
  refine wP I (wU 20 false I (dF (by omega)) (wP I (wP I (wP I ?_))))
  refine Aj 23 (.int .i64 (e.length:Nat)) I (congrArg (fun n:Nat=>Value.int .i64 (n:Int)) (AA e)) ?_
  refine wP I (wU 24 false I (dF (by omega)) (wP I (Aa (zE (zS I (zI (zE (zA (zB (wP I (wC I I (fun W1 hp=>(C5 n (by omega) hnd W1).cast (v':= .int .i64 (q.num.natAbs:Nat)) (by rw[hn,Cj])) (wP I (wP I ?_)))))))))))))
  refine Aa (zE (zA (zA (zB (wP I (Aa (AP ?_)))))))
  try refine Ao ?_
  refine AJ (X:=Unit) (fun _=>[(5, .bool (decide (q.num<0))),(9, .int .i64 (q.num.natAbs:Nat)),(10, .int .i64 (q.den:Nat))]) (fun _=>[]) (fun _=>True) ?_ ?_
  ·refine A0 I (fun h1=> ?_) (fun h1=> ?_)
   ·have h1:q.den≠1:=of_decide_eq_true h1
    have e1:e=decDigits q.den:=by rw[he,if_neg h1]
    exact zB (wP I (wC I I (fun W1 hp=>(C5 e (by omega) (by rw[e1];exact(Fy _).all) W1).cast (v':= .int .i64 (q.den:Nat)) (by rw[e1,Cj])) (wP I (Aa (An () tO ⟨I,I,I,tO⟩ [] I)))))
   ·have h1:q.den=1:=Decidable.byContradiction fun h=>absurd h1 (by rw[dT h];decide)
    exact zI (An () tO ⟨I,I,by rw[h1];rfl,tO⟩ [] I)
  intro _ _
  refine zA (zA (zB (wP I (Aa (AP ?_)))))
  try refine Ao ?_
  refine AJ (X:=Unit) (fun _=>[(9, .int .i64 q.num),(10, .int .i64 (q.den:Nat))]) (fun _=>[]) (fun _=>True) ?_ ?_
  ·refine A0 I (fun h1=> ?_) (fun h1=> ?_)
   ·have h1:q.num<0:=of_decide_eq_true h1
    exact zB (wP I (wP I (wV 33 q.num I (by show w64 (0-((q.num.natAbs:Nat):Int))=_;rw[Au (by omega) (by omega)];omega) (wP I (Aa (An () tO ⟨I,I,tO⟩ [] I))))))
   ·have h1: ¬q.num<0:=of_decide_eq_false h1
    exact zI (An () tO ⟨congrArg (fun z=>some (Value.int .i64 z)) (by omega),I,tO⟩ [] I)
  intro _ _
  refine zA (zB ?_)
  iterate 5 refine wP I ?_
  exact Aa (zE (zO (wR3 I I I)))
 ·rw[if_neg hs]
  have hs2: ¬(n.length≤9∧e.length≤9):=fun h=>hs (by rw[hsh,dT h.1,dT h.2];rfl)
  refine AP (Ao (Ao ?_))
  refine AJ (X:=Unit) (fun _=>[(25, .bool true)]) (fun _=>[]) (fun _=>True) ?_ ?_
  ·refine zB (wP I (wP I ?_))
   refine Aj 19 (.int .i64 (n.length:Nat)) I (congrArg (fun n:Nat=>Value.int .i64 (n:Int)) (AA n)) ?_
   refine wP I ?_
   by_cases h1:n.length≤9
   ·refine wU 20 false I (dF (by omega)) (wP I (wP I (wP I ?_)))
    refine Aj 23 (.int .i64 (e.length:Nat)) I (congrArg (fun n:Nat=>Value.int .i64 (n:Int)) (AA e)) ?_
    exact wP I (wU 24 true I (dT (by omega)) (wP I (Aa (An () tO ⟨I,tO⟩ [] I))))
   ·refine wU 20 true I (dT (by omega)) (wP I ?_)
    iterate 3 refine At I I ?_
    exact wP I (Aa (An () tO ⟨I,tO⟩ [] I))
  intro _ _
  exact zR I (zA (zB (wP I (wP I (wP I (Aa (zE (zO (zP (wR3 I I I))))))))))
theorem R0 (q:Rat) (hl:(Ad q).length≤1000):BE Tryz.prog 121 [str (Ad q)] (.tuple #[str (itoa q.num),str (decDigits q.den)]):=by
 intro W
 have hlen:(decDigits q.num.natAbs).length≤1000:=by
  have:=Um (a:=Ad q) (GM q.num q.den_pos)
  omega
 refine Ae Tryz.func121 I I I ?_
 refine zA (zB (wP I (wP I (Aa (zE (zA (zB (wP I (wC I I (fun W1 hp=>(Gw (Ad q) (by omega) W1).cast (PO q)) ?_)))))))))
 iterate 9 refine wP I ?_
 refine Aa (zE (zA (zA (zB (wP I (Aa (AP ?_)))))))
 try refine Ao ?_
 refine AJ (X:=Unit) (fun _=>[(5,str (itoa q.num)),(6,str (if q.den=1 then[] else decDigits q.den)),(7, .bool (decide (q.den≠1)))]) (fun _=>[]) (fun _=>True) ?_ ?_
 ·refine A0 I (fun h1=> ?_) (fun h1=> ?_)
  ·have h1:q.num<0:=of_decide_eq_true h1
   refine zB (wP I ?_)
   refine Cq I I I I I (a:=[45]) (b:=decDigits q.num.natAbs) (by decide) (by omega) ?_
   exact wP I (Aa (An () tO ⟨by unfold itoa;rw[if_pos h1];rfl,I,I,tO⟩ [] I))
  ·have h1: ¬q.num<0:=of_decide_eq_false h1
   exact zI (An () tO ⟨by unfold itoa;rw[if_neg h1,show q.num.toNat=q.num.natAbs by omega];rfl,I,I,tO⟩ [] I)
 intro _ _
 refine zA (zA (zB (wP I (wP I (Aa (AP ?_))))))
 try refine Ao ?_
 refine AJ (X:=Unit) (fun _=>[(5,str (itoa q.num)),(6,str (decDigits q.den))]) (fun _=>[]) (fun _=>True) ?_ ?_
 ·refine A0 I (fun h1=> ?_) (fun h1=> ?_)
  ·have h1:q.den=1:=Decidable.byContradiction fun h=>absurd h1 (by rw[dT h];decide)
   exact zB (wP I (Aa (An () tO ⟨I,by rw[h1,FR];rfl,tO⟩ [] I)))
  ·have h1:q.den≠1:=Decidable.byContradiction fun h=>absurd h1 (by rw[dF h];decide)
   exact zI (An () tO ⟨I,by rw[if_neg h1];rfl,tO⟩ [] I)
 intro _ _
 exact zA (zB (wP I (wP I (wP I (wP I (Aa (zE (zO (wR2 I I I)))))))))
-- BOXES 1
-- CODE2
def byV (l:List UInt8):List Value:=l.map fun b=> .int .u8 (b.toNat:Int)
def zrV (k:Nat):List Value:=Cw [.int .u8 0] k
theorem Ku (k:Nat):(zrV k).length=k:=by unfold zrV;rw[Fg];simp
theorem Wj (k:Nat):zrV (k+1)=zrV k++[.int .u8 0]:=by
 induction k with
 |zero=>rfl
 |succ k ih=>
  have e: ∀j,zrV (j+1)=[.int .u8 0]++zrV j:=fun j=>rfl
  rw[e,ih, ←List.append_assoc, ←e,ih]
theorem Uh {k:Nat} {c:UInt8} {suf:List UInt8}:BK (zrV (k+1)++byV suf) (0+k*1) [.int .u8 (c.toNat:Int)]=zrV k++byV (c::suf):=by
 rw[Wj,show 0+k*1=(zrV k).length+0 by rw[Ku];omega,List.append_assoc,Ey]
 rfl
theorem Ts {k:Nat} {l:List UInt8} {j:Nat} (hj:j<l.length):(zrV k++byV l)[k+j]? =some (.int .u8 (l[j].toNat:Int)):=by
 rw[List.getElem?_append_right (by rw[Ku];omega),Ku,Nat.add_sub_cancel_left]
 unfold byV
 rw[List.getElem?_map,List.getElem?_eq_getElem hj];rfl
theorem Vc (u:Nat):IntKind.u8.wrap ((48+u%10:Nat):Int)=((UInt8.ofNat (48+u%10)).toNat:Int):=by
 rw[Rc (by omega) (by omega),D6 (Nat.mod_lt _ (by omega))]
-- BOXES 1
-- CODE2
theorem HV (m:Nat) (hm:m<9223372036854775808):BE Tryz.prog 199 [.int .i64 (m:Nat)] (str (decDigits m)):=by
 intro W
 have hlen:(decDigits m).length≤19:=DO 19 m (by omega) (by omega)
 refine Ae Tryz.func199 I I I ?_
 refine zA (zB (wP I (Aa (zE (zA (zB ?_))))))
 refine C0 Tryz.vec202 20 I I I I I I I (by decide) (by decide) ?_
 intro b
 refine wP I (Aa (zE (zA (zB (wP I (wP I (wP I (Aa (zE (zH ?_))))))))))
 refine A8 (X:=Nat×List UInt8) (fun x=>[(0, .int .i64 (x.1:Nat)),(3, .slice (some ⟨b,0,none⟩) 20 20),(4, .int .i64 ((20-x.2.length:Nat):Int))]) (fun x=>[⟨b,5,zrV (20-x.2.length)++byV x.2,true,none⟩])
  (fun x=>x.1<9223372036854775808∧decDigits m=decDigits x.1++x.2) (fun x=>x.1) (m,[]) ⟨hm,by simp⟩ ⟨rfl,rfl,rfl,trivial⟩ [] rfl ?_
 rintro⟨u,suf⟩ ⟨hu0,hd0⟩
 have hu:u<9223372036854775808:=hu0
 have hd:decDigits m=decDigits u++suf:=hd0
 have hs:suf.length≤18:=by
  have h1:=congrArg List.length hd
  rw[List.length_append] at h1
  have h2:(decDigits u).length≠0:=fun e=>FM u (List.length_eq_zero_iff.1 e)
  omega
 refine zH (zA (zB (wP I (wP I (wV 9 ((19-suf.length:Nat):Int) I (show w64 (((20-suf.length:Nat):Int)-1)=_ by rw[Au (by omega) (by omega)];omega) (wP I (Aa (zE (zA (zB (wP I (wP I (wP I ?_)))))))))))))
 refine Ft I I I I I (by decide) ?_
 refine wV 13 ((u%10:Nat):Int) I (show Int.tmod (u:Nat) ((10:Nat):Int)=_ from(Int.ofNat_tmod _ _).symm) (wP I (wV 14 ((48+u%10:Nat):Int) I (show w64 (48+((u%10:Nat):Int))=_ by rw[Au (by omega) (by omega)];omega) ?_))
 refine VY Tryz.underlying3 Tryz.underlying5 I I I I ?_
 refine Aj 15 (.int .u8 ((UInt8.ofNat (48+u%10)).toNat:Int)) I (congrArg (Value.int .u8) (Vc u)) ?_
 refine wJ ?_
 refine A4 0 (zrV (20-(UInt8.ofNat (48+u%10)::suf).length)++byV (UInt8.ofNat (48+u%10)::suf)) tH I I I I I I I I I I (by show 0+(19-suf.length)*1+1≤(zrV (20-suf.length)++byV suf).length;rw[List.length_append,Ku];omega) (by
  rw[List.length_cons,show 20-(suf.length+1)=19-suf.length by omega]
  show BK (zrV (20-suf.length)++byV suf) _ _=_
  rw[show 20-suf.length=19-suf.length+1 by omega]
  exact Uh) ?_
 refine Aa (zE (zA (zB (wP I ?_))))
 refine Ei I I I I I (by decide) ?_
 refine wV 18 ((u/10:Nat):Int) I (show w64 (Int.tdiv (u:Nat) ((10:Nat):Int))=_ by rw[←Int.ofNat_tdiv,Au (by omega) (by omega)]) (wP I (Aa (zE (zA (zB (wP I (wP I (Aa (zE ?_)))))))))
 generalize hc:UInt8.ofNat (48+u%10)=c at*
 refine A0 I (fun h=> ?_) (fun h=> ?_)
 ·have h0:u<10:=by have h':(((u/10:Nat):Int)==0)=true:=h;rw[beq_iff_eq] at h';omega
  have he:decDigits m=c::suf:=by rw[hd,decDigits_one h0, ←hc,Nat.mod_eq_of_lt h0];rfl
  refine zA (zB (wP I (wP I ?_)))
  refine Ct (19-suf.length) tH I I I I I I I I (by omega) (by omega) ?_
  refine Aj 23 (.slice (some ⟨b,19-suf.length,none⟩) (c::suf).length (20-(19-suf.length))) I (by
   rw[if_neg (by omega),List.length_cons,show 20-(19-suf.length)=suf.length+1 by omega,show 0+(19-suf.length)*1=19-suf.length by omega]) ?_
  refine Iq 0 (c::suf) (e:=5) (by kernel_rfl) Tryz.underlying5 (by kernel_rfl) I I I I I I I (fun j hj=>by
   show(zrV (20-(c::suf).length)++byV (c::suf))[19-suf.length+j]? =_
   rw[show 20-(c::suf).length=19-suf.length by rw[List.length_cons];omega]
   exact Ts hj) ?_
  exact wP I (Aa (zE (zO (zQ (zP (zQ (wR1 I I (by rw[he]))))))))
 ·have h0: ¬u<10:=by have h':(((u/10:Nat):Int)==0)=false:=h;rw[beq_eq_false_iff_ne] at h';omega
  refine zI (zN ?_)
  refine Ay (u/10,c::suf) ⟨by show u/10<9223372036854775808;omega, ?_⟩ (by show u/10<u;omega) ⟨I,I,congrArg (fun z=>some (Value.int .i64 z)) (by rw[List.length_cons,show 20-(suf.length+1)=19-suf.length by omega]),tO⟩ [] I
  show decDigits m=decDigits (u/10)++c::suf
  rw[hd,decDigits,dif_neg h0,hc,List.append_assoc];rfl
theorem Wu {z:Int} {g:Nat} (hg:0<g) (h:g∣z.natAbs):itoa (z/(g:Int))=(if z<0 then[45] else[])++decDigits (z.natAbs/g):=by
 obtain⟨k,hk⟩:=h
 by_cases hz:z<0
 ·have e:z= -((g*k:Nat):Int):=by omega
  have hk0:k≠0:=fun e=>by rw[e] at hk;omega
  have e2:z/(g:Int)= -(k:Int):=by
   rw[e,Int.natCast_mul, ←Int.mul_neg]
   exact Int.mul_ediv_cancel_left _ (by omega)
  rw[if_pos hz,e2,MM hk0,hk,Nat.mul_div_cancel_left _ hg];rfl
 ·have e:z=((g*k:Nat):Int):=by omega
  have e2:z/(g:Int)=(k:Int):=by
   rw[e,Int.natCast_mul]
   exact Int.mul_ediv_cancel_left _ (by omega)
  rw[if_neg hz,e2,hk,Nat.mul_div_cancel_left _ hg]
  unfold itoa
  rw[if_neg (by omega)];rfl
theorem E8 (z:Int) (d:Nat) (hz:z.natAbs<9223372036854775808) (hd0:0<d) (hd:d<9223372036854775808):BE Tryz.prog 148 [.int .i64 z, .int .i64 (d:Nat)] (str (Ad (mkRat z d))):=by
 intro W
 obtain⟨n,hn⟩: ∃n,z.natAbs=n:=⟨_,rfl⟩
 obtain⟨g,hg⟩: ∃g,Nat.gcd n d=g:=⟨_,rfl⟩
 have hg0:0<g:=by rw[←hg];exact Nat.gcd_pos_of_pos_right _ hd0
 have hgn:g∣n:=by rw[←hg];exact Nat.gcd_dvd_left ..
 have hgd:g∣d:=by rw[←hg];exact Nat.gcd_dvd_right ..
 have hgle:g≤d:=Nat.le_of_dvd hd0 hgd
 rw[hn] at hz
 have hnq:n/g≤n:=Nat.div_le_self ..
 have hdq:d/g≤d:=Nat.div_le_self ..
 have hnl:(decDigits (n/g)).length≤19:=DO 19 _ (by decide) (by omega)
 have hdl:(decDigits (d/g)).length≤19:=DO 19 _ (by decide) (by omega)
 obtain⟨s,hs⟩: ∃s:List UInt8,s=if z<0 then[45] else[]:=⟨_,rfl⟩
 have hsl:s.length≤1:=by rw[hs];split<;>decide
 have hq:itoa (z/(g:Int))=s++decDigits (n/g):=by rw[hs, ←hn];exact Wu hg0 (by rw[hn];exact hgn)
 refine Ae Tryz.func148 I I I ?_
 refine zA (zB (wP I (Aa (zE (zA (zB (wP I (Aa (zE (zA (zA (zB (wP I (wP I ?_))))))))))))))
 refine Aa (AP ?_)
 try refine Ao ?_
 refine AJ (X:=Unit) (fun _=>[(0, .int .i64 (n:Nat)),(1, .int .i64 (d:Nat)),(5,str s)]) (fun _=>[]) (fun _=>True) ?_ ?_
 ·refine A0 I (fun h=> ?_) (fun h=> ?_)
  ·have h:z<0:=by simpa using h
   exact zB (wP I (wP I (wV 10 (n:Nat) I (show w64 (0-z)=_ by rw[Au (by omega) (by omega)];omega) (wP I (wP I (Aa (An () tO ⟨I,I,by rw[hs,if_pos h];rfl,tO⟩ [] I)))))))
  ·have h: ¬z<0:=by simpa using h
   exact zI (An () tO ⟨congrArg (fun z=>some (Value.int .i64 z)) (by omega),I,by rw[hs,if_neg h];rfl,tO⟩ [] I)
 intro _ _
 refine zA (zB (wP I (wP I (wC I I (fun W hp=>(Lb n d hz hd W).cast (v':= .int .i64 (g:Nat)) (by rw[hg])) (wP I (Aa (zE (zA (zB (wP I (wP I (wP I ?_))))))))))))
 refine Ei I I I I I (by omega) ?_
 refine wV 17 ((n/g:Nat):Int) I (by rw[DU];exact BW (by omega)) (wC I I (fun W hp=>HV (n/g) (by omega) W) ?_)
 refine Cq I I I I I (a:=s) (b:=decDigits (n/g)) (by omega) (by omega) ?_
 refine Aj 19 (str (itoa (z/(g:Int)))) I (by rw[hq]) ?_
 refine wP I (Aa (zE (zA (zA (zB (wP I (wP I ?_)))))))
 refine Ei I I I I I (by omega) ?_
 refine wV 22 ((d/g:Nat):Int) I (by rw[DU];exact BW (by omega)) (wP I ?_)
 have hql:(itoa (z/(g:Int))).length≤20:=by rw[hq,List.length_append];omega
 by_cases h1:d/g=1
 ·exact wU 23 true I (by rw[beq_iff_eq];omega) (Aa (zE (zR I (zA (zB (wP I (wP I (Aa (zE (zO (zP (wR1 I I (by rw[J2 (by omega) (by rw[hn,hg];exact h1),hn,hg])))))))))))))
 ·refine wU 23 false I (by rw[beq_eq_false_iff_ne];omega) (Aa (zE (zS I (zI (zE (zA (zB (wP I ?_))))))))
  refine Cq I I I I I (a:=itoa (z/(g:Int))) (b:=[47]) (by omega) (by decide) ?_
  refine wP I (wP I ?_)
  refine Ei I I I I I (by omega) ?_
  refine wV 29 ((d/g:Nat):Int) I (by rw[DU];exact BW (by omega)) (wC I I (fun W hp=>HV (d/g) (by omega) W) ?_)
  refine Cq I I I I I (by rw[List.length_append];show _+1≤_;omega) (by omega) ?_
  exact wP I (Aa (zE (zO (wR1 I I (by rw[JL (by omega) (by rw[hn,hg];exact h1),hn,hg,Cn])))))
theorem RI {z:Int} {d:Nat} (hz:z<0):F3 z d=45::F3 (-z) d:=by
 have e:itoa z=45::itoa (-z):=by
  unfold itoa
  rw[if_pos hz,if_neg (by omega),show(-z).toNat=z.natAbs by omega]
 unfold F3
 rw[e]
 split<;>rfl
theorem Tl (q:Rat) (hl:(Ad q).length≤1000):BE Tryz.prog 102 [str (Ad q)] (str (Ad (-q))):=by
 intro W
 have en:(-q).num= -q.num:=rfl
 have ed:(-q).den=q.den:=rfl
 refine Ae Tryz.func102 I I I ?_
 refine zA (zB (wP I (Aa (zE (zA (zH (zA (zB (wP I (wP I (wU 5 (decide (Ad q=[48])) I (Bj _ _) (wP I (Aa ?_)))))))))))))
 refine zE ?_
 refine A0 I (fun h=> ?_) (fun h=> ?_)
 ·have h:q.num=0:=Fp.1 (of_decide_eq_true h)
  have e0:Ad (-q)=Ad q:=by rw[Fp.2 h,Fp.2 (by rw[en,h];rfl)]
  exact zA (zB (wP I (wP I (Aa (zE (zO (zQ (zP (wR1 I I (by rw[e0]))))))))))
 have h: ¬q.num=0:=fun e=>of_decide_eq_false h (Fp.2 e)
 have hpre:=(Pg (z:=q.num) q.den_pos).1
 rw[BA] at hpre
 obtain⟨c,hc⟩: ∃c,(Ad q)[0]? =some c:=by
  cases e:Ad q with
  |nil=>
   have:=congrArg List.length e
   unfold Ad F3 at this
   have h2:itoa q.num≠[]:=by unfold itoa;split;simp;exact FM _
   split at this
   ·exact absurd (List.length_eq_zero_iff.1 this) h2
   ·rw[List.length_append] at this;simp at this
  |cons c t=>exact⟨c,rfl⟩
 have hc45:decide (c=45)=decide (q.num<0):=by
  rw[←hpre]
  show _=decide ((Ad q)[0]? =some 45)
  exact decide_eq_decide.2 (by rw[hc];simp)
 refine zA (zB (wP I ?_))
 refine Be 0 tH I I I I I I I I hc ?_
 refine wP I (wU 10 (decide (q.num<0)) I ((DK c 45).trans hc45) (wP I (Aa (zE ?_))))
 refine A0 I (fun hn=> ?_) (fun hn=> ?_)
 ·have hn:q.num<0:=of_decide_eq_true hn
  have e1:Ad q=45::Ad (-q):=by unfold Ad;rw[en,ed];exact RI hn
  have hlen:=congrArg List.length e1
  rw[List.length_cons] at hlen
  refine zA (zB (wP I ?_))
  refine FF 1 tH I I I I I I I I (by omega) ?_
  exact wP I (Aa (zE (zO (zQ (zP (wR1 I I (by rw[e1];rfl)))))))
 ·have hn: ¬q.num<0:=of_decide_eq_false hn
  have e1:Ad (-q)=45::Ad q:=by
   unfold Ad
   rw[en,ed,RI (show -q.num<0 by omega),Int.neg_neg]
  refine zI (zN (zE (zA (zB (wP I ?_)))))
  refine Cq I I I I I (a:=[45]) (b:=Ad q) (by decide) (by omega) ?_
  exact wP I (Aa (zE (zO (wR1 I I (by rw[e1];rfl)))))
-- BOXES 5
-- CODE2
abbrev cvV (p:Ag):Value:= .agg #[str (Ad p.1),str (Ad p.2)]
def CY (W:World) (c:Nat):Prop:=W.heap[c]? =some (.cells #[.int .i64 0] 61 (0,0))
theorem CY.hp {W0 W:World} {bxs:List Bx} {c:Nat} (h:CY W0 c) (hp:Hp W0 bxs W):CY W c:=
 (hp.below.block c (Array.getElem?_eq_some_iff.1 h).1).trans h
theorem CY.row {W:World} {c:Nat} (h:CY W c):Ak W c 0 [.int .i64 0]:=Ak.of_block h
theorem I9 (c g:Nat) (a b v:List UInt8) (W:World) (hc:CY W c) (hE:Bl Tryz.prog g=true) (hg: ∀W1,Below W.heap.size W W1→Ai Tryz.prog g #[str a,str b] W1 (fun _:Unit=> .tuple #[str v, .int .i64 0]) (fun _=>True) (fun _=>[])):
  Ai Tryz.prog 104 #[Ah c, .func (.func g) #[] #[],str a,str b] W (fun _:Unit=>str v) (fun _=>True) (fun _=>[]):=by
 refine Ae (args:=[Ah c, .func (.func g) #[] #[],str a,str b]) Tryz.func104 I I I ?_
 refine zA (zB (wP I (Aa (zE (zA (zA (zB (wP I ?_))))))))
 refine AH I I I I ?_
 refine wP I (wL 0 I I (fun W1 hp=>(hc.hp hp).row) I (wP I (Aa (zE (zS I (zI (zE (zA (zB (wP I (wP I (wP I ?_))))))))))))
 refine BB (capt:=[]) I I I I I I hE (fun W1 h=>hg W1 h.below) ?_
 iterate 5 refine wP I ?_
 refine Aa (zE (zA (zA (zB (wP I (wP I ?_))))))
 refine AH I I I I ?_
 refine wP I ?_
 refine J7 (c:=[.int .i64 0]) (ty:=61) tH I I I I I I I I I I (fun W1 hp=>hc.hp hp) ?_
 refine Aa (zE (zA (zB (wP I (wP I (Aa (zE (zS I (zI (zE (zA (zB (wP I (wP I ?_))))))))))))))
 exact Aa (zE (zO (wR1 I I I)))
theorem Di (c:Nat) (p q:Rat) (hz:Sz2 p q) (W:World) (hc:CY W c) (hv:BT W) (ht:AM W):
  Ai Tryz.prog 45 #[Ah c,str (Ad p),str (Ad q)] W (fun _:Unit=>str (Ad (p+q))) (fun _=>True) (fun _=>[]):=by
 refine Ae (args:=[Ah c,str (Ad p),str (Ad q)]) Tryz.func45 I I I ?_
 refine zA (zB (wP I (Aa (zE (zA (zB (wP I (wP I (wP I (wC I I (fun W hp=>I9 c 16 (Ad p) (Ad q) (Ad (p+q)) W (hc.hp hp) (by kernel_rfl) (fun W1 hb=>Sq p q hz W1 ((hv.hp hp).below hb) ((ht.hp hp).below hb))) (wP I (Aa (zE ?_)))))))))))))
 exact zO (wR1 I I I)
theorem De (c:Nat) (p q:Rat) (hz:Sz2 p q) (W:World) (hc:CY W c) (hv:BT W) (ht:AM W):
  Ai Tryz.prog 59 #[Ah c,str (Ad p),str (Ad q)] W (fun _:Unit=>str (Ad (p-q))) (fun _=>True) (fun _=>[]):=by
 refine Ae (args:=[Ah c,str (Ad p),str (Ad q)]) Tryz.func59 I I I ?_
 refine zA (zB (wP I (Aa (zE (zA (zB (wP I (wP I (wP I (wC I I (fun W hp=>I9 c 126 (Ad p) (Ad q) (Ad (p-q)) W (hc.hp hp) (by kernel_rfl) (fun W1 hb=>So p q hz W1 ((hv.hp hp).below hb) ((ht.hp hp).below hb))) (wP I (Aa (zE ?_)))))))))))))
 exact zO (wR1 I I I)
theorem CC (c:Nat) (p q:Rat) (hz:Sz2 p q) (W:World) (hc:CY W c) (hv:BT W) (ht:AM W):
  Ai Tryz.prog 60 #[Ah c,str (Ad p),str (Ad q)] W (fun _:Unit=>str (Ad (p*q))) (fun _=>True) (fun _=>[]):=by
 refine Ae (args:=[Ah c,str (Ad p),str (Ad q)]) Tryz.func60 I I I ?_
 refine zA (zB (wP I (Aa (zE (zA (zB (wP I (wP I (wP I (wC I I (fun W hp=>I9 c 72 (Ad p) (Ad q) (Ad (p*q)) W (hc.hp hp) (by kernel_rfl) (fun W1 hb=>Tn p q hz W1 ((hv.hp hp).below hb) ((ht.hp hp).below hb))) (wP I (Aa (zE ?_)))))))))))))
 exact zO (wR1 I I I)
theorem Hk (c:Nat) (p q:Rat) (hz:Sz2 p q) (h0:q.num≠0) (W:World) (hc:CY W c) (hv:BT W) (ht:AM W):
  Ai Tryz.prog 47 #[Ah c,str (Ad p),str (Ad q)] W (fun _:Unit=>str (Ad (p/q))) (fun _=>True) (fun _=>[]):=by
 refine Ae (args:=[Ah c,str (Ad p),str (Ad q)]) Tryz.func47 I I I ?_
 refine zA (zB (wP I (Aa (zE (zA (zB (wP I (wP I (wP I (wC I I (fun W hp=>I9 c 105 (Ad p) (Ad q) (Ad (p/q)) W (hc.hp hp) (by kernel_rfl) (fun W1 hb=>(SK p q hz W1 ((hv.hp hp).below hb) ((ht.hp hp).below hb)).cast (by rw[Nr,if_neg h0]))) (wP I (Aa (zE ?_)))))))))))))
 exact zO (wR1 I I I)
theorem EF (c:Nat) (p q:Rat) (hz:Sz2 p q) (W:World) (hc:CY W c) (hv:BT W) (ht:AM W):
  Ai Tryz.prog 53 #[Ah c,str (Ad p),str (Ad q)] W (fun _:Unit=> .int .i64 (CG p q)) (fun _=>True) (fun _=>[]):=by
 refine Ae (args:=[Ah c,str (Ad p),str (Ad q)]) Tryz.func53 I I I ?_
 refine zA (zB (wP I (Aa (zE (zA (zA (zB (wP I ?_))))))))
 refine AH I I I I ?_
 refine wP I (wL 0 I I (fun W1 hp=>(hc.hp hp).row) I (wP I (Aa (zE (zS I (zI (zE (zA (zB (wP I (wP I (wC I I (fun W hp=>(Nq p q hz W (hv.hp hp) (ht.hp hp)).cast (v':= .tuple #[.int .i64 (CG p q), .int .i64 0]) (by rw[SL])) ?_))))))))))))
 iterate 5 refine wP I ?_
 refine Aa (zE (zA (zB (wP I (wP I ?_)))))
 refine AH I I I I ?_
 refine wP I ?_
 refine J7 (c:=[.int .i64 0]) (ty:=61) tH I I I I I I I I I I (fun W1 hp=>hc.hp hp) ?_
 exact Aa (zE (zA (zB (wP I (wP I (Aa (zE (zO (wR1 I I I)))))))))
structure Za (p q r:Ag):Prop where
 s1:Sz2 q.1 p.1
 s2:Sz2 r.2 p.2
 s3:Sz2 q.2 p.2
 s4:Sz2 r.1 p.1
 m1:Sz2 (q.1-p.1) (r.2-p.2)
 m2:Sz2 (q.2-p.2) (r.1-p.1)
 o:Sz2 ((q.1-p.1)*(r.2-p.2)) ((q.2-p.2)*(r.1-p.1))
def Ha (p q r:Ag):Int:=CG ((q.1-p.1)*(r.2-p.2)) ((q.2-p.2)*(r.1-p.1))
theorem Qa (c:Nat) (p q r:Ag) (hz:Za p q r) (W:World) (hc:CY W c) (hv:BT W) (ht:AM W):
  Ai Tryz.prog 55 #[Ah c,cvV p,cvV q,cvV r] W (fun _:Unit=> .int .i64 (Ha p q r)) (fun _=>True) (fun _=>[]):=by
 refine Ae (args:=[Ah c,cvV p,cvV q,cvV r]) Tryz.func55 I I I ?_
 refine zA (zB ?_)
 (refine Ax rfl rfl rfl rfl ?_;intro)
 (refine Ax rfl rfl rfl rfl ?_;intro)
 (refine Ax rfl rfl rfl rfl ?_;intro)
 refine wP I (Aa (zE (zA (zU (qP I (qP I (qB 1 I I I (qP I (qB 0 I I I (qC I I (fun W hp=>De c q.1 p.1 hz.s1 W (hc.hp hp) (hv.hp hp) (ht.hp hp)) (qP I (qP I (qB 2 I I I ?_)))))))))))))
 refine qP I (qB 0 I I I (qC I I (fun W hp=>De c r.2 p.2 hz.s2 W (hc.hp hp) (hv.hp hp) (ht.hp hp)) (qP I (qP I (AQ (Aa (zE (zA (zU (qP I (qP I (qB 1 I I I (qP I ?_)))))))))))))
 refine qB 0 I I I (qC I I (fun W hp=>De c q.2 p.2 hz.s3 W (hc.hp hp) (hv.hp hp) (ht.hp hp)) (qP I (qP I (qB 2 I I I (qP I (qB 0 I I I (qC I I (fun W hp=>De c r.1 p.1 hz.s4 W (hc.hp hp) (hv.hp hp) (ht.hp hp)) (qP I (qP I (AQ (Aa (zE (zA ?_)))))))))))))
 refine zB (wP I (wP I (wP I (wP I (wC I I (fun W hp=>CC c (q.1-p.1) (r.2-p.2) hz.m1 W (hc.hp hp) (hv.hp hp) (ht.hp hp)) (wP I (wP I (wP I (wC I I (fun W hp=>CC c (q.2-p.2) (r.1-p.1) hz.m2 W (hc.hp hp) (hv.hp hp) (ht.hp hp)) (wC I I (fun W hp=>EF c _ _ hz.o W (hc.hp hp) (hv.hp hp) (ht.hp hp)) (wP I (Aa (zE ?_)))))))))))))
 exact zO (wR1 I I I)
def GZ (p q:Ag):Int:=if CG p.1 q.1=0 then CG p.2 q.2 else CG p.1 q.1
theorem Hi (p q:Rat):CG p q= -1∨CG p q=0∨CG p q=1:=by
 unfold CG
 split
 ·exact Or.inl I
 ·split
  ·exact Or.inr (Or.inl I)
  ·exact Or.inr (Or.inr I)
theorem KX (c:Nat) (p q:Ag) (h1:Sz2 p.1 q.1) (h2:Sz2 p.2 q.2) (W:World) (hc:CY W c) (hv:BT W) (ht:AM W):
  Ai Tryz.prog 71 #[Ah c,cvV p,cvV q] W (fun _:Unit=> .int .i64 (GZ p q)) (fun _=>True) (fun _=>[]):=by
 refine Ae (args:=[Ah c,cvV p,cvV q]) Tryz.func71 I I I ?_
 refine zA (zB ?_)
 (refine Ax rfl rfl rfl rfl ?_;intro)
 (refine Ax rfl rfl rfl rfl ?_;intro)
 refine wP I (Aa (zE (zA (zA (zB (wP I (wP I (wB 0 I I I (wP I (wB 1 I I I ?_))))))))))
 rcases Hi p.1 q.1 with e|e|e
 ·refine wC I I (fun W hp=>(EF c p.1 q.1 h1 W (hc.hp hp) (hv.hp hp) (ht.hp hp)).cast (congrArg (Value.int .i64) e)) (wP I (Aa (zE (zA (zB (wP I (wP I (Aa (zE (zR I (zA (zB (wP I (wP I ?_))))))))))))))
  exact Aa (zE (zO (zP (wR1 I I (by rw[GZ,e,if_neg (by decide)])))))
 ·refine wC I I (fun W hp=>(EF c p.1 q.1 h1 W (hc.hp hp) (hv.hp hp) (ht.hp hp)).cast (congrArg (Value.int .i64) e)) (wP I (Aa (zE (zA (zB (wP I (wP I (Aa (zE (zS I (zI (zE (zA ?_)))))))))))))
  exact zB (wP I (wP I (wB 0 I I I (wP I (wB 1 I I I (wC I I (fun W hp=>EF c p.2 q.2 h2 W (hc.hp hp) (hv.hp hp) (ht.hp hp)) (wP I (Aa (zE (zO (wR1 I I (by rw[GZ,if_pos e]))))))))))))
 ·refine wC I I (fun W hp=>(EF c p.1 q.1 h1 W (hc.hp hp) (hv.hp hp) (ht.hp hp)).cast (congrArg (Value.int .i64) e)) (wP I (Aa (zE (zA (zB (wP I (wP I (Aa (zE (zR I (zA (zB (wP I (wP I ?_))))))))))))))
  exact Aa (zE (zO (zP (wR1 I I (by rw[GZ,e,if_neg (by decide)])))))
def F8 (q:Rat):Int:=if q.num=0 then 0 else if q.num<0 then -1 else 1
theorem Fj (q:Rat):BE Tryz.prog 68 [str (Ad q)] (.int .i64 (F8 q)):=by
 intro W
 refine Ae Tryz.func68 I I I ?_
 refine zA (zB (wP I (Aa (zE (zA (zH (zA (zB (wP I (wP I (wU 5 (decide (Ad q=[48])) I (Bj _ _) (wP I (Aa ?_)))))))))))))
 refine zE ?_
 refine A0 I (fun h=> ?_) (fun h=> ?_)
 ·have h:q.num=0:=Fp.1 (of_decide_eq_true h)
  exact zA (zB (wP I (Aa (zE (zO (zQ (zP (wR1 I I (by rw[F8,if_pos h])))))))))
 have h: ¬q.num=0:=fun e=>of_decide_eq_false h (Fp.2 e)
 have hpre:=(Pg (z:=q.num) q.den_pos).1
 rw[BA] at hpre
 obtain⟨c,hc⟩: ∃c,(Ad q)[0]? =some c:=by
  cases e:Ad q with
  |nil=>
   have:=congrArg List.length e
   unfold Ad F3 at this
   have h2:itoa q.num≠[]:=by unfold itoa;split;simp;exact FM _
   split at this
   ·exact absurd (List.length_eq_zero_iff.1 this) h2
   ·rw[List.length_append] at this;simp at this
  |cons c t=>exact⟨c,rfl⟩
 have hc45:decide (c=45)=decide (q.num<0):=by
  rw[←hpre]
  show _=decide ((Ad q)[0]? =some 45)
  exact decide_eq_decide.2 (by rw[hc];simp)
 refine zA (zB (wP I ?_))
 refine Be 0 tH I I I I I I I I hc ?_
 refine wP I (wU 9 (decide (q.num<0)) I ((DK c 45).trans hc45) (wP I (Aa (zE ?_))))
 refine A0 I (fun hn=> ?_) (fun hn=> ?_)
 ·have hn:q.num<0:=of_decide_eq_true hn
  exact zA (zB (wP I (Aa (zE (zO (zQ (zP (wR1 I I (by rw[F8,if_neg h,if_pos hn])))))))))
 ·have hn: ¬q.num<0:=of_decide_eq_false hn
  exact zI (zN (zE (zA (zB (wP I (Aa (zE (zO (wR1 I I (by rw[F8,if_neg h,if_neg hn]))))))))))
-- BOXES 4
-- CODE2
abbrev br:Nat:=1000000
theorem br2:2≤br:=by decide
theorem El {g cap:Nat} {junk:List Value} {l:List Nat} (h:(⟨some g,cap,junk⟩:Vec).OK 1 l.length (nI l)) (hl: ∀x∈l,x<br):
  ∃junk',(⟨some g,cap,junk'⟩:Vec).OK 1 (lbs br (lv br l)).length (nI (lbs br (lv br l)))∧nI l++junk=nI (lbs br (lv br l))++junk':=by
 obtain⟨h1,h2,h3⟩:=h.cap (by simp)
 have e:=MU br2 hl
 have hlen:=(Ch br2).2 (FN br2 hl)
 have e2:nI l=nI (lbs br (lv br l))++nI (l.drop (lbs br (lv br l)).length):=by
  conv=>lhs;rw[←List.take_append_drop (lbs br (lv br l)).length l]
  rw[Jf, ←e]
 have h3':(nI l).length+junk.length=cap*1:=h3
 have h2':cap≤maxLen:=h2
 refine⟨nI (l.drop (lbs br (lv br l)).length)++junk,⟨EV _,(fun h=>by cases h),fun _=>⟨by show _≤cap;rw[BR] at h3';omega,h2', ?_⟩⟩, ?_⟩
 ·show(nI (lbs br (lv br l))).length+(nI (l.drop (lbs br (lv br l)).length)++junk).length=cap*1
  rw[List.length_append,BR,BR,List.length_drop]
  rw[BR] at h3';omega
 ·rw[←List.append_assoc, ←e2]
theorem D3 (W:World) (p:Option Addr) (cap n:Nat) (l:List Nat) (i x:Nat) (h:A6 W p l) (hn:l.length=n) (hi:i<4611686018427387904) (hx:lim l i=x):Ai Tryz.prog 195 #[slv p n cap, .int .i64 (i:Nat)] W (fun _:Unit=> .int .i64 (x:Nat)) (fun _=>True) (fun _=>[]):=by
 subst hn hx
 refine Ae (args:=[slv p l.length cap, .int .i64 (i:Nat)]) Tryz.func195 I I I ?_
 refine zA (zB (wP I (Aa (zE (zA (zA (zB (wP I (wP I (wP I (wP I (Aa (zE ?_)))))))))))))
 refine A0 I (fun hc=> ?_) (fun hc=> ?_)
 ·have hl:i<l.length:=by simp at hc;omega
  obtain⟨b,off,rfl,hrow⟩:=h.row hl
  refine zA (zB (wP I (wP I ?_)))
  refine wJ ?_
  exact wL 0 I I (fun W hp=>(hrow i hl).hp hp) I (wP I (Aa (zE (zO (zP (wR1 I I I))))))
 ·have hl:l.length≤i:=by simp at hc;omega
  exact zI (zE (zA (zB (wP I (Aa (zE (zO (wR1 I I (by rw[Qx hl];rfl)))))))))
theorem Dd (W:World) (p:Option Addr) (cap:Nat) (l:List Nat) (h:A6 W p l) (hl: ∀x∈l,x<br) (hc:l.length≤cap) (hn:l.length<4611686018427387904):
  Ai Tryz.prog 193 #[slv p l.length cap] W (fun _:Unit=>slv p (lbs br (lv br l)).length cap) (fun _=>True) (fun _=>[]):=by
 refine Ae (args:=[slv p l.length cap]) Tryz.func193 I I I ?_
 refine zA (zB (wP I (Aa (zE (zA (zB (wP I (wP I (wP I (Aa (zE (zA (zH ?_)))))))))))))
 refine A8 (X:=Nat) (fun k=>[(0,slv p l.length cap),(3, .int .i64 (k:Nat))]) (fun _=>[]) (fun k=>k≤l.length∧ ∀i,k≤i→i<l.length→l[i]? =some 0) (fun k=>k) l.length ⟨Nat.le_refl _,fun i h1 h2=>by omega⟩ ⟨I,I,tO⟩ [] I ?_
 rintro k ⟨hk,hz⟩
 have hk:k≤l.length:=hk
 have hend:(k=0∨l[k-1]? ≠some 0)→(lbs br (lv br l)).length=k:=fun h0=>by
  rw[←R6 br2 hk hl hz h0,List.length_take];omega
 by_cases h0:k=0
 ·subst h0
  refine zA (zA (zB (wP I (wP I ?_))))
  refine Aj 7 (.bool false) I I ?_
  refine wP I ?_
  iterate 6 refine At I I ?_
  refine wP I (Aa (zE (zS I (zJ (zK (zK (zL (zE (zA (zB (wP I (wP I ?_))))))))))))
  refine B4 0 tH I I I I I I I I (by omega) ?_
  exact wP I (Aa (zE (zO (wR1 I I (by rw[hend (.inl I)])))))
 ·refine zA (zA (zB (wP I (wP I (wU 7 true I (by simp;omega) ?_)))))
  obtain⟨b,off,rfl,hrow⟩:=h.row (show k-1<l.length by omega)
  refine wP I (wP I (wP I (wP I (wV 11 ((k-1:Nat):Int) I (by show w64 ((k:Int)-1)=_;rw[Au (by omega) (by omega)];omega) ?_))))
  refine wJ ?_
  refine wL 0 I I (fun W hp=>(hrow (k-1) (by omega)).hp hp) I (wP I (wP I (Aa (zE ?_))))
  have e1:((lim l (k-1):Int)==0)=decide (l[k-1]? =some 0):=by
   rw[DP (show k-1<l.length by omega),Rw]
   simp
  refine A0 I (fun hc=> ?_) (fun hc=> ?_)
  ·have hz0:l[k-1]? =some 0:=by simpa[e1] using hc
   refine zI (zE (zH (zB (wP I (wP I (wV 17 ((k-1:Nat):Int) I (by show w64 ((k:Int)-1)=_;rw[Au (by omega) (by omega)];omega) (wP I (Aa (zN ?_)))))))))
   refine Ay (k-1) ⟨by show k-1≤_;omega,fun i h1 h2=> ?_⟩ (by show k-1<k;omega) ⟨I,I,tO⟩ [] I
   by_cases hi:i=k-1
   ·rw[hi];exact hz0
   ·exact hz i (by have h1:k-1≤i:=h1;omega) h2
  ·have hz0:l[k-1]? ≠some 0:=by simpa[e1] using hc
   refine zJ (zK (zK (zL (zE (zA (zB (wP I (wP I ?_))))))))
   refine B4 k tH I I I I I I I I (by omega) ?_
   exact wP I (Aa (zE (zO (wR1 I I (by rw[hend (.inr hz0)])))))
theorem Ml {a b:Nat} (h:(lbs br a).length<(lbs br b).length):a<b:=by
 rcases Nat.lt_or_ge a b with h1|h1
 ·exact h1
 ·have:=(Ch br2 (n:=b)).2 (Nat.lt_of_le_of_lt h1 (AS br2 a))
  omega
theorem Ze {B:Nat} (_hB:2≤B) {a b:Nat} {k:Nat} (h:a/B^(k+1)=b/B^(k+1)):(a/B^k<b/B^k↔a/B^k%B<b/B^k%B)∧(a/B^k=b/B^k↔a/B^k%B=b/B^k%B):=by
 have h1:=Nat.mod_add_div (a/B^k) B
 have h2:=Nat.mod_add_div (b/B^k) B
 rw[Nat.div_div_eq_div_mul,show B^k*B=B^(k+1) from(Nat.pow_succ ..).symm] at h1 h2
 rw[h] at h1
 constructor<;>constructor<;>intro<;>omega
theorem Oh {a b c:Nat} (h:a/c<b/c):a<b:=by
 rcases Nat.lt_or_ge a b with h1|h1
 ·exact h1
 ·exact absurd (Nat.div_le_div_right (c:=c) h1) (by omega)
def Mc (a b:Nat):Int:=if a<b then -1 else if b<a then 1 else 0
theorem Lh (W:World) (p q:Option Addr) (cap cap2:Nat) (a b:Nat) (hA:A6 W p (lbs br a)) (hB:A6 W q (lbs br b)) (hna:(lbs br a).length≤1000000) (_hnb:(lbs br b).length≤1000000):
  Ai Tryz.prog 198 #[slv p (lbs br a).length cap,slv q (lbs br b).length cap2] W (fun _:Unit=> .int .i64 (Mc a b)) (fun _=>True) (fun _=>[]):=by
 have hal:=AS br2 a
 have hbl:=AS br2 b
 refine Ae (args:=[slv p (lbs br a).length cap,slv q (lbs br b).length cap2]) Tryz.func198 I I I ?_
 refine zA (zB (wP I (Aa (zE (zA (zA (zB ?_)))))))
 iterate 5 refine wP I ?_
 by_cases hl:(lbs br a).length=(lbs br b).length
 rotate_left
 ·refine wU 10 true I (bne_iff_ne.2 (by omega)) (Aa (zE (zR I (zA (zA (zB ?_))))))
  iterate 5 refine wP I ?_
  by_cases h:(lbs br a).length<(lbs br b).length
  ·have hlt:=Ml h
   exact wU 15 true I (dT (by omega)) (Aa (zE (zR I (zA (zB (wP I (Aa (zE (zO (zP (zP (wR1 I I (by unfold Mc;rw[if_pos hlt])))))))))))))
  ·have hlt:=Ml (a:=b) (b:=a) (by omega)
   exact wU 15 false I (dF (by omega)) (Aa (zE (zS I (zI (zE (zA (zB (wP I (Aa (zE (zO (zP (wR1 I I (by unfold Mc;rw[if_neg (by omega),if_pos hlt]))))))))))))))
 obtain⟨K,hK⟩: ∃K,(lbs br b).length=K:=⟨_,rfl⟩
 rw[hl,hK] at hal
 rw[hK] at hbl hl
 rw[hl,hK]
 refine wU 10 false I (by simp) (Aa (zE (zS I (zI (zE (zA (zA (zB (wP I (wP I (wP I (wV 18 ((K:Int)-1) I (Au (by omega) (by omega)) (wP I ?_)))))))))))))
 refine Aa (zE (zH ?_))
 refine A8 (X:=Nat) (fun k=>[(0,slv p K cap),(1,slv q K cap2),(5, .int .i64 ((k:Nat)-1:Int))]) (fun _=>[]) (fun k=>k≤K∧a/br^k=b/br^k) (fun k=>k) K ⟨Nat.le_refl _,by rw[Nat.div_eq_of_lt hal,Nat.div_eq_of_lt hbl]⟩ ⟨I,I,I,tO⟩ [] I ?_
 rintro k ⟨hk,hq⟩
 have hk:k≤K:=hk
 refine zA (zA (zB (wP I (wP I ?_))))
 cases k with
 |zero=>
  have e:a=b:=by have hq:a/br^0=b/br^0:=hq;simpa using hq
  refine wU 20 false I (dF (by show¬(((0:Nat):Int)-1≥0);omega)) (Aa (zE (zS I (zJ (zK (zK (zL (zE (zA (zB (wP I (Aa (zE ?_)))))))))))))
  exact zO (wR1 I I (by unfold Mc;rw[e,if_neg (Nat.lt_irrefl _),if_neg (Nat.lt_irrefl _)]))
 |succ k=>
  have hq:a/br^(k+1)=b/br^(k+1):=hq
  obtain⟨h1,h2⟩:=Ze br2 hq
  obtain⟨b1,o1,rfl,r1⟩:=hA.row (show k<(lbs br a).length by omega)
  obtain⟨b2,o2,rfl,r2⟩:=hB.row (show k<(lbs br b).length by omega)
  have r1:=r1 k (by omega)
  have r2:=r2 k (by omega)
  obtain⟨x,hx⟩: ∃x,lim (lbs br a) k=x:=⟨_,rfl⟩
  obtain⟨y,hy⟩: ∃y,lim (lbs br b) k=y:=⟨_,rfl⟩
  rw[hx] at r1
  rw[hy] at r2
  rw[Bs br2] at hx hy
  rw[hx,hy] at h1 h2
  have hxb:x<br:=by rw[←hx];exact Nat.mod_lt _ (by decide)
  have hyb:y<br:=by rw[←hy];exact Nat.mod_lt _ (by decide)
  have hxb:x<1000000:=hxb
  have hyb:y<1000000:=hyb
  refine wU 20 true I (dT (by show(((k+1:Nat):Int)-1≥0);omega)) (Aa (zE (zR I (zI (zE (zA (zH (zA (zA (zU (qP I (qP I (qV 24 (k:Nat) I (by show((k+1:Nat):Int)-1=_;omega) ?_)))))))))))))
  refine qJ ?_
  refine qL 0 I I (fun W hp=>r1.hp hp) I (qP I (qP I (qV 28 (k:Nat) I (by show((k+1:Nat):Int)-1=_;omega) ?_)))
  refine qJ ?_
  refine qL 0 I I (fun W hp=>r2.hp hp) I (qP I ?_)
  by_cases hlt:x<y
  ·have:=Oh (h1.2 hlt)
   refine qU 31 true I (dT (by omega)) (AQ (Aa (zE (zR I (zA (zB (wP I (Aa (zE (zO (zP (zQ (zP (zP ?_))))))))))))))
   exact zQ (zP (wR1 I I (by unfold Mc;rw[if_pos this])))
  refine qU 31 false I (dF (by omega)) (AQ (Aa (zE (zS I (zI (zE (zA (zU (qP I (qP I (qV 33 (k:Nat) I (by show((k+1:Nat):Int)-1=_;omega) ?_)))))))))))
  refine qJ ?_
  refine qL 0 I I (fun W hp=>r1.hp hp) I (qP I (qP I (qV 37 (k:Nat) I (by show((k+1:Nat):Int)-1=_;omega) ?_)))
  refine qJ ?_
  refine qL 0 I I (fun W hp=>r2.hp hp) I (qP I ?_)
  by_cases hgt:y<x
  ·have h3: ¬a/br^k<b/br^k:=fun h=>hlt (h1.1 h)
   have h4: ¬a/br^k=b/br^k:=fun h=>by have:=h2.1 h;omega
   have:=Oh (a:=b) (b:=a) (c:=br^k) (by omega)
   refine qU 40 true I (dT (by show((x:Nat):Int)>(y:Nat);omega)) (AQ (Aa (zE (zR I (zA (zB (wP I (Aa (zE (zO (zQ (zP (zP ?_)))))))))))))
   exact zQ (zP (wR1 I I (by unfold Mc;rw[if_neg (by omega),if_pos this])))
  refine qU 40 false I (dF (by show¬((x:Nat):Int)>(y:Nat);omega)) (AQ (Aa (zE (zS I (zI (zN (zE (zB (wP I (wV 21 (k:Nat) I (by show((k+1:Nat):Int)-1=_;omega) (wP I (wV 22 ((k:Nat)-1:Int) I (Au (by omega) (by omega)) (wP I ?_)))))))))))))
  exact Aa (Ay k ⟨by show k≤K;omega,h2.2 (by omega)⟩ (by show k<k+1;omega) ⟨I,I,I,tO⟩ [] I)
def G1 (a b:List Nat):Nat→List Nat×Nat
 |0=>([],0)
 |i+1=>((G1 a b i).1++[(lim a i+lim b i+(G1 a b i).2)%br],(lim a i+lim b i+(G1 a b i).2)/br)
theorem Mp (a b:List Nat): ∀i,(G1 a b i).1.length=i
 |0=>rfl
 |i+1=>by show(_++[_]).length=_;rw[List.length_append,Mp a b i];rfl
theorem Up {a b:List Nat} (ha: ∀x∈a,x<br) (hb: ∀x∈b,x<br): ∀i,(∀x∈(G1 a b i).1,x<br)∧(G1 a b i).2≤1
 |0=>⟨fun x h=>(by cases h),Nat.zero_le _⟩
 |i+1=>by
  obtain⟨h1,h2⟩:=Up ha hb i
  have l1:lim a i<1000000:=Bp br2 ha i
  have l2:lim b i<1000000:=Bp br2 hb i
  refine⟨fun x hx=> ?_, ?_⟩
  ·rcases List.mem_append.1 hx with hx|hx
   ·exact h1 x hx
   ·obtain rfl:=List.mem_singleton.1 hx;exact Nat.mod_lt _ (by decide)
  ·show _/1000000≤1;omega
theorem Nl (a b:Nat): ∀i,lv br (G1 (lbs br a) (lbs br b) i).1+br^i*(G1 (lbs br a) (lbs br b) i).2=a%br^i+b%br^i
 |0=>by show 0+br^0*0=_;rw[Nat.pow_zero,Nat.mod_one,Nat.mod_one]
 |i+1=>Om (Mp _ _ i) (Nl a b i) (by rw[Bs br2,Bs br2])
theorem RN (W:World) (p q:Option Addr) (cap cap2:Nat) (a b:Nat) (hA:A6 W p (lbs br a)) (hB:A6 W q (lbs br b)) (hna:(lbs br a).length≤1000000) (hnb:(lbs br b).length≤1000000):
  Ai Tryz.prog 221 #[slv p (lbs br a).length cap,slv q (lbs br b).length cap2] W (fun x:NV=>BG x (lbs br (a+b)).length) (fun x=>CB x (lbs br (a+b))) (fun x=>[BZ x (lbs br (a+b))]):=by
 have hla:=By br2 a
 have hlb:=By br2 b
 have hal:=AS br2 a
 have hbl:=AS br2 b
 obtain⟨na,hna'⟩: ∃n,(lbs br a).length=n:=⟨_,rfl⟩
 obtain⟨nb,hnb'⟩: ∃n,(lbs br b).length=n:=⟨_,rfl⟩
 rw[hna'] at hna hal
 rw[hnb'] at hnb hbl
 obtain⟨M,hM⟩: ∃M,M=max na nb:=⟨_,rfl⟩
 have ham:a<br^M:=Nat.lt_of_lt_of_le hal (Nat.pow_le_pow_right (by decide) (by omega))
 have hbm:b<br^M:=Nat.lt_of_lt_of_le hbl (Nat.pow_le_pow_right (by decide) (by omega))
 refine Ae (args:=[slv p (lbs br a).length cap,slv q (lbs br b).length cap2]) Tryz.func221 I I I ?_
 rw[hna',hnb']
 refine zA (zB (wP I (Aa (zE (zA (zB ?_))))))
 refine BV tH I I I I I ?_
 intro g
 refine wP I (Aa (zE (zA (zB (wP I (Aa (zE (zA (zA (zB (wP I (Aa (zE ?_)))))))))))))
 refine zH ?_
 refine A8 (X:=Nat×NV) (fun x=>[(0,slv p na cap),(1,slv q nb cap2),(5,BG x.2 x.1),(6, .int .i64 ((G1 (lbs br a) (lbs br b) x.1).2:Nat)),(7, .int .i64 (x.1:Nat))]) (fun x=>[BZ x.2 (G1 (lbs br a) (lbs br b) x.1).1])
  (fun x=>x.1≤M+1∧CB x.2 (G1 (lbs br a) (lbs br b) x.1).1∧(x.1=M+1→(G1 (lbs br a) (lbs br b) (M+1)).2=0)) (fun x=>M+1-x.1) (0,g,0,[]) ⟨Nat.zero_le _,⟨rfl,(fun h=>by cases h),fun _=>⟨Nat.le_refl _,Nat.zero_le _,rfl⟩⟩,fun h=>by have h:0=M+1:=h;omega⟩ ⟨rfl,rfl,rfl,rfl,rfl,trivial⟩ [] rfl ?_
 rintro⟨i,x⟩ ⟨hi,hx,hend⟩
 have hi:i≤M+1:=hi
 have hx:CB x (G1 (lbs br a) (lbs br b) i).1:=hx
 have hlen:=Mp (lbs br a) (lbs br b) i
 obtain⟨hob,hc1⟩:=Up hla hlb i
 have hval:=Nl a b i
 obtain⟨out,hout⟩: ∃out,(G1 (lbs br a) (lbs br b) i).1=out:=⟨_,rfl⟩
 obtain⟨c,hc⟩: ∃c,(G1 (lbs br a) (lbs br b) i).2=c:=⟨_,rfl⟩
 rw[hout] at hx hlen hob hval
 rw[hc] at hc1 hval
 have eout:BZ x (G1 (lbs br a) (lbs br b) i).1=BZ x out:=by rw[hout]
 simp only[hc,hout]
 refine Ao (Ao ?_)
 refine AJ (X:=Unit) (fun _=>[(0,slv p na cap),(1,slv q nb cap2),(5,BG x i),(6, .int .i64 (c:Nat)),(7, .int .i64 (i:Nat)),(23, .bool (decide (i<na∨i<nb∨0<c)))]) (fun _=>[BZ x out]) (fun _=>True) ?_ ?_
 ·refine zB (wP I (wP I (wP I (wP I ?_))))
  by_cases h1:i<na
  ·refine wU 13 true I (dT (by omega)) (wP I ?_)
   iterate 4 refine At I I ?_
   refine wP I (wP I ?_)
   iterate 2 refine At I I ?_
   exact wP I (Aa (An () tO ⟨I,I,I,I,I,by rw[dT (Or.inl h1)];rfl,tO⟩ [] I))
  refine wU 13 false I (dF (by omega)) ?_
  iterate 5 refine wP I ?_
  by_cases h2:i<nb
  ·refine wU 18 true I (dT (by omega)) (wP I (wP I ?_))
   iterate 2 refine At I I ?_
   exact wP I (Aa (An () tO ⟨I,I,I,I,I,by rw[dT (Or.inr (Or.inl h2))];rfl,tO⟩ [] I))
  exact wU 18 false I (dF (by omega)) (wP I (wP I (wP I (wP I (wU 22 (decide (i<na∨i<nb∨0<c)) I (decide_eq_decide.2 (by omega)) (wP I (Aa (An () tO ⟨I,I,I,I,I,I,tO⟩ [] I))))))))
 intro _ _
 refine A0 I (fun hcd=> ?_) (fun hcd=> ?_)
 ·have hcd:i<na∨i<nb∨0<c:=of_decide_eq_true hcd
  have hiM:i≤M:=by
   rcases Nat.lt_or_ge M i with h|h
   ·have h1:i=M+1:=by omega
    have h2:=hend h1
    rw[←h1,hc] at h2
    omega
   ·exact h
  obtain⟨u,hu⟩: ∃u,lim (lbs br a) i=u:=⟨_,rfl⟩
  obtain⟨v,hv⟩: ∃v,lim (lbs br b) i=v:=⟨_,rfl⟩
  have hub:u<1000000:=by rw[←hu];exact Bp br2 hla i
  have hvb:v<1000000:=by rw[←hv];exact Bp br2 hlb i
  have e1:(G1 (lbs br a) (lbs br b) (i+1)).1=out++[(u+v+c)%br]:=by show _++[_]=_;rw[hout,hu,hv,hc]
  have e2:(G1 (lbs br a) (lbs br b) (i+1)).2=(u+v+c)/br:=by show _/_=_;rw[hu,hv,hc]
  refine zI (zE (zA (zH (zA (zB (wP I (wP I (wC I I (fun W' hp=>D3 W' p cap na (lbs br a) i u (hA.hp hp) hna' (by omega) hu) (wP I (wP I (wC I I (fun W' hp=>D3 W' q cap2 nb (lbs br b) i v (hB.hp hp) hnb' (by omega) hv) (wP I (wP I (wP I ?_))))))))))))))
  refine wV 34 ((u+v+c:Nat):Int) I (by show w64 (w64 ((u:Int)+v)+c)=_;rw[AW (by omega),AW (by omega)]) (wP I (Aa (zE (zA (zB (wP I (wP I ?_)))))))
  refine Ft I I I I I (by decide) ?_
  refine AN Tryz.hZ tH I I I I I I I I I I I fun bN=> ?_
  refine BM (V:=nvV x) (len:=i) (xs:=nI out) 0 1 Tryz.vec130 (i+1) (nI (out++[(u+v+c)%br])) I I I I I I I I I I I (by rw[←hlen];exact hx) I I I (by rw[Jf];rfl) (by simp only[maxLen];omega) (by omega) I ?_
  intro g1 c1 j1 hV1
  refine wP I (Aa (zE (zB (wP I ?_))))
  refine Ei I I I I I (by decide) ?_
  refine wV 41 (((u+v+c)/br:Nat):Int) I (BW (show(u+v+c)/1000000<9223372036854775808 by omega)) (wP I (Aa (zN (zE (zB (wP I (wP I (wV 25 ((i+1:Nat):Int) I (As (by omega)) (wP I (Aa ?_))))))))))
  refine Ay (i+1,g1,c1,j1) ⟨by show i+1≤M+1;omega, ?_,fun h=> ?_⟩ (by show M+1-(i+1)<M+1-i;omega) ⟨I,I,I,by rw[e2];rfl,I,tO⟩ _ (by show _=[BZ _ (G1 _ _ (i+1)).1]++_;rw[e1];rfl)
  ·show CB _ (G1 (lbs br a) (lbs br b) (i+1)).1
   rw[e1]
   show Vec.OK _ 1 (out++[_]).length _
   rw[List.length_append,hlen]
   exact hV1
  ·have h:i+1=M+1:=h
   have h9:=Nl a b (M+1)
   have hp1:br^(M+1)=br^M*br:=Nat.pow_succ ..
   have hp2:br^M*2≤br^M*br:=Nat.mul_le_mul_left _ br2
   rw[Nat.mod_eq_of_lt (by omega),Nat.mod_eq_of_lt (by omega)] at h9
   rcases Nat.eq_zero_or_pos (G1 (lbs br a) (lbs br b) (M+1)).2 with h0|h0
   ·exact h0
   ·have:=Nat.mul_le_mul_left (br^(M+1)) h0
    omega
 ·have hcd: ¬(i<na∨i<nb∨0<c):=of_decide_eq_false hcd
  have ev:lv br out=a+b:=by
   have hc0:c=0:=by omega
   rw[hc0,Nat.mul_zero,Nat.add_zero] at hval
   have h3:br^M≤br^i:=Nat.pow_le_pow_right (by decide) (by omega)
   rw[Nat.mod_eq_of_lt (by omega),Nat.mod_eq_of_lt (by omega)] at hval
   exact hval
  obtain⟨j2,hj1,hj2⟩:=El hx hob
  rw[ev] at hj1 hj2
  refine zJ (zK (zK (zL (zE (zA (zB (wP I ?_)))))))
  refine Aj 42 (slv (some ⟨x.1,0,none⟩) out.length x.2.1) I (by rw[hlen]) ?_
  exact wC I I (fun W' hp=>Dd W' (some ⟨x.1,0,none⟩) x.2.1 out (A6.of_bx hp 0 I) hob (by have:=(hx.cap (by simp)).1;exact this) (by omega)) (wP I (Aa (zE (zO (Az tH I (.tmp I) ((x.1,x.2.1,j2):NV) (by rw[ev]) hj1 fun W hp=>Ar.of_hp1 hp 0 (by show some (⟨x.1,3,nI out++x.2.2,true,none⟩:Bx)=some ⟨x.1,3,nI (lbs br (a+b))++j2,true,none⟩;rw[hj2]))))))
-- BOXES 4
-- CODE2
def HL (x y c:Nat):Nat×Nat:=if y+c≤x then(x-y-c,0) else(x+br-y-c,1)
theorem Uq {x y c:Nat} (hx:x<br) (hy:y<br) (hc:c≤1):(HL x y c).1<br∧(HL x y c).2≤1∧(HL x y c).1+y+c=x+br*(HL x y c).2:=by
 have hx:x<1000000:=hx
 have hy:y<1000000:=hy
 unfold HL
 split
 ·exact⟨by show x-y-c<1000000;omega,Nat.zero_le _,by show x-y-c+y+c=x+1000000*0;omega⟩
 ·exact⟨by show x+1000000-y-c<1000000;omega,Nat.le_refl _,by show x+1000000-y-c+y+c=x+1000000*1;omega⟩
def HJ (a b:List Nat):Nat→List Nat×Nat
 |0=>([],0)
 |i+1=>((HJ a b i).1++[(HL (lim a i) (lim b i) (HJ a b i).2).1],(HL (lim a i) (lim b i) (HJ a b i).2).2)
theorem M9 (a b:List Nat): ∀i,(HJ a b i).1.length=i
 |0=>rfl
 |i+1=>by show(_++[_]).length=_;rw[List.length_append,M9 a b i];rfl
theorem OL {a b:List Nat} (ha: ∀x∈a,x<br) (hb: ∀x∈b,x<br): ∀i,(∀x∈(HJ a b i).1,x<br)∧(HJ a b i).2≤1
 |0=>⟨fun x h=>(by cases h),Nat.zero_le _⟩
 |i+1=>by
  obtain⟨h1,h2⟩:=OL ha hb i
  obtain⟨h3,h4,_⟩:=Uq (Bp br2 ha i) (Bp br2 hb i) h2
  refine⟨fun x hx=> ?_,h4⟩
  rcases List.mem_append.1 hx with hx|hx
  ·exact h1 x hx
  ·obtain rfl:=List.mem_singleton.1 hx;exact h3
theorem Qi (a b:Nat): ∀i,lv br (HJ (lbs br a) (lbs br b) i).1+b%br^i=a%br^i+br^i*(HJ (lbs br a) (lbs br b) i).2
 |0=>by show 0+_=_+br^0*0;rw[Nat.pow_zero,Nat.mod_one,Nat.mod_one]
 |i+1=>by
  have hc:=(OL (By br2 a) (By br2 b) i).2
  exact N1 (M9 _ _ i) (Qi a b i) (by rw[←Bs br2 b i, ←Bs br2 a i];exact(Uq (Bp br2 (By br2 a) i) (Bp br2 (By br2 b) i) hc).2.2)
theorem FD (W:World) (p q:Option Addr) (cap cap2:Nat) (a b:Nat) (hba:b≤a) (hA:A6 W p (lbs br a)) (hB:A6 W q (lbs br b)) (hna:(lbs br a).length≤1000000):
  Ai Tryz.prog 196 #[slv p (lbs br a).length cap,slv q (lbs br b).length cap2] W (fun x:NV=>BG x (lbs br (a-b)).length) (fun x=>CB x (lbs br (a-b))) (fun x=>[BZ x (lbs br (a-b))]):=by
 have hla:=By br2 a
 have hlb:=By br2 b
 have hal:=AS br2 a
 obtain⟨na,hna'⟩: ∃n,(lbs br a).length=n:=⟨_,rfl⟩
 obtain⟨nb,hnb'⟩: ∃n,(lbs br b).length=n:=⟨_,rfl⟩
 rw[hna'] at hna hal
 refine Ae (args:=[slv p (lbs br a).length cap,slv q (lbs br b).length cap2]) Tryz.func196 I I I ?_
 rw[hna',hnb']
 refine zA (zB (wP I (Aa (zE (zA (zB ?_))))))
 refine BV tH I I I I I ?_
 intro g
 refine wP I (Aa (zE (zA (zB (wP I (Aa (zE (zA (zA (zB (wP I (Aa (zE ?_)))))))))))))
 refine zH ?_
 refine A8 (X:=Nat×NV) (fun x=>[(0,slv p na cap),(1,slv q nb cap2),(5,BG x.2 x.1),(6, .int .i64 ((HJ (lbs br a) (lbs br b) x.1).2:Nat)),(7, .int .i64 (x.1:Nat))]) (fun x=>[BZ x.2 (HJ (lbs br a) (lbs br b) x.1).1])
  (fun x=>x.1≤na∧CB x.2 (HJ (lbs br a) (lbs br b) x.1).1) (fun x=>na-x.1) (0,g,0,[]) ⟨Nat.zero_le _,⟨rfl,(fun h=>by cases h),fun _=>⟨Nat.le_refl _,Nat.zero_le _,rfl⟩⟩⟩ ⟨rfl,rfl,rfl,rfl,rfl,trivial⟩ [] rfl ?_
 rintro⟨i,x⟩ ⟨hi,hx⟩
 have hi:i≤na:=hi
 have hx:CB x (HJ (lbs br a) (lbs br b) i).1:=hx
 have hlen:=M9 (lbs br a) (lbs br b) i
 obtain⟨hob,hc1⟩:=OL hla hlb i
 have hval:=Qi a b i
 obtain⟨out,hout⟩: ∃out,(HJ (lbs br a) (lbs br b) i).1=out:=⟨_,rfl⟩
 obtain⟨c,hc⟩: ∃c,(HJ (lbs br a) (lbs br b) i).2=c:=⟨_,rfl⟩
 rw[hout] at hx hlen hob hval
 rw[hc] at hc1 hval
 simp only[hc,hout]
 refine zA (zA (zB (wP I (wP I (wP I (wP I ?_))))))
 by_cases h1:i<na
 ·refine wU 13 true I (dT (by omega)) (Aa (zE (zR I (zI (zE (zA (zH (zA (zU ?_)))))))))
  obtain⟨u,hu⟩: ∃u,lim (lbs br a) i=u:=⟨_,rfl⟩
  obtain⟨v,hv⟩: ∃v,lim (lbs br b) i=v:=⟨_,rfl⟩
  have hub:u<1000000:=by rw[←hu];exact Bp br2 hla i
  have hvb:v<1000000:=by rw[←hv];exact Bp br2 hlb i
  obtain⟨b1,o1,rfl,r1⟩:=hA.row (show i<(lbs br a).length by omega)
  have r1:=r1 i (by omega)
  rw[hu] at r1
  have e1:(HJ (lbs br a) (lbs br b) (i+1)).1=out++[(HL u v c).1]:=by show _++[_]=_;rw[hout,hu,hv,hc]
  have e2:(HJ (lbs br a) (lbs br b) (i+1)).2=(HL u v c).2:=by show(HL _ _ _).2=_;rw[hu,hv,hc]
  refine qP I (qP I ?_)
  refine qJ ?_
  refine qL 0 I I (fun W hp=>r1.hp hp) I (qP I (qP I (qC I I (fun W' hp=>D3 W' q cap2 nb (lbs br b) i v (hB.hp hp) hnb' (by omega) hv) (qP I (qP I (qP I (qV 25 ((u:Int)-v-c) I (by show w64 (w64 ((u:Int)-v)-c)=_;rw[Au (x:=(u:Int)-v) (by omega) (by omega),Au (by omega) (by omega)]) (qP I (AQ (Aa (zE (zA (zB ?_)))))))))))))
  refine wP I (Aa (AP (Ao (Ao (zB (wP I (wP I ?_)))))))
  refine Aj 27 (.bool (decide ((u:Int)-v-c<0))) I I ?_
  refine Aa (AP ?_)
  try refine Ao ?_
  refine AJ (X:=Unit) (fun _=>[(0,slv (some ⟨b1,o1,none⟩) na cap),(1,slv q nb cap2),(5,BG x i),(6, .int .i64 ((HL u v c).2:Nat)),(7, .int .i64 (i:Nat)),(8, .int .i64 ((HL u v c).1:Nat))]) (fun _=>[BZ x out]) (fun _=>True) ?_ ?_
  ·refine A0 I (fun hn=> ?_) (fun hn=> ?_)
   ·have hn:(u:Int)-v-c<0:=of_decide_eq_true hn
    have em:HL u v c=(u+br-v-c,1):=by unfold HL;rw[if_neg (by omega)]
    exact zA (zB (wP I (wP I (wV 29 ((u+br-v-c:Nat):Int) I (by show w64 (((u:Int)-v-c)+((1000000:Nat):Int))=_;rw[Au (by omega) (by omega)];show _=((u+1000000-v-c:Nat):Int);omega) (wP I (Aa (zE (zB (wP I (Aa (An () tO ⟨I,I,I,by rw[em];rfl,I,by rw[em];rfl,tO⟩ [] I)))))))))))
   ·have hn: ¬(u:Int)-v-c<0:=of_decide_eq_false hn
    have em:HL u v c=(u-v-c,0):=by unfold HL;rw[if_pos (by omega)]
    exact zI (An () tO ⟨I,I,I,by rw[em];rfl,I,by rw[em];exact congrArg (fun z=>some (Value.int .i64 z)) (by show(u:Int)-v-c=((u-v-c:Nat):Int);omega),tO⟩ [] I)
  intro _ _
  refine zB (wP I (wP I ?_))
  refine AN Tryz.hZ tH I I I I I I I I I I I fun bN=> ?_
  refine BM (V:=nvV x) (len:=i) (xs:=nI out) 0 1 Tryz.vec130 (i+1) (nI (out++[(HL u v c).1])) I I I I I I I I I I I (by rw[←hlen];exact hx) I I I (by rw[Jf];rfl) (by simp only[maxLen];omega) (by omega) I ?_
  intro g1 c1 j1 hV1
  refine wP I (Aa (zN (zE (zB (wP I (wP I (wV 15 ((i+1:Nat):Int) I (As (by omega)) (wP I (Aa ?_)))))))))
  refine Ay (i+1,g1,c1,j1) ⟨h1, ?_⟩ (by show na-(i+1)<na-i;omega) ⟨I,I,I,by rw[e2];rfl,I,tO⟩ _ (by show _=[BZ _ (HJ _ _ (i+1)).1]++_;rw[e1];rfl)
  show CB _ (HJ (lbs br a) (lbs br b) (i+1)).1
  rw[e1]
  show Vec.OK _ 1 (out++[_]).length _
  rw[List.length_append,hlen]
  exact hV1
 ·have e:i=na:=by omega
  subst e
  have ev:lv br out=a-b:=Oz br2 hlen hob hval hal hba
  obtain⟨j2,hj1,hj2⟩:=El hx hob
  rw[ev] at hj1 hj2
  refine wU 13 false I (dF (by omega)) (Aa (zE (zS I (zJ (zK (zK (zL (zE (zA (zB (wP I ?_)))))))))))
  refine Aj 34 (slv (some ⟨x.1,0,none⟩) out.length x.2.1) I (by rw[hlen]) ?_
  exact wC I I (fun W' hp=>Dd W' (some ⟨x.1,0,none⟩) x.2.1 out (A6.of_bx hp 0 I) hob (by have:=(hx.cap (by simp)).1;exact this) (by omega)) (wP I (Aa (zE (zO (Az tH I (.tmp I) ((x.1,x.2.1,j2):NV) (by rw[ev]) hj1 fun W hp=>Ar.of_hp1 hp 0 (by show some (⟨x.1,3,nI out++x.2.2,true,none⟩:Bx)=some ⟨x.1,3,nI (lbs br (a-b))++j2,true,none⟩;rw[hj2]))))))
-- BOXES 4
-- CODE2
theorem We {x y:Nat} (hx:x<br) (hy:y<br):x*y≤999998000001:=(Nat.mul_le_mul (Nat.le_of_lt_succ hx) (Nat.le_of_lt_succ hy):x*y≤999999*999999)
theorem IT (W:World) (p q:Option Addr) (cap cap2:Nat) (a:Nat) (lb:List Nat) (hlb: ∀x∈lb,x<br) (hA:A6 W p (lbs br a)) (hB:A6 W q lb) (hna:(lbs br a).length≤1000000) (hnb:lb.length≤1000000):
  Ai Tryz.prog 197 #[slv p (lbs br a).length cap,slv q lb.length cap2] W (fun x:NV=>BG x (lbs br (a*lv br lb)).length) (fun x=>CB x (lbs br (a*lv br lb))) (fun x=>[BZ x (lbs br (a*lv br lb))]):=by
 have hla:=By br2 a
 have hal:=AS br2 a
 have hbl:=FN br2 hlb
 obtain⟨b,hbv⟩: ∃b,lv br lb=b:=⟨_,rfl⟩
 rw[hbv] at hbl⊢
 obtain⟨na,hna'⟩: ∃n,(lbs br a).length=n:=⟨_,rfl⟩
 obtain⟨nb,hnb'⟩: ∃n,lb.length=n:=⟨_,rfl⟩
 obtain⟨M,hM⟩: ∃M,M=na+nb+1:=⟨_,rfl⟩
 rw[hna'] at hna hal
 rw[hnb'] at hnb hbl
 refine Ae (args:=[slv p (lbs br a).length cap,slv q lb.length cap2]) Tryz.func197 I I I ?_
 rw[hna',hnb']
 refine zA (zB (wP I (Aa (zE (zA (zB ?_))))))
 iterate 6 refine wP I ?_
 refine wV 15 (M:Nat) I (by show w64 (w64 ((na:Int)+nb)+1)=_;rw[AW (by omega),As (by omega),hM]) ?_
 refine C0 Tryz.vec130 M I I I I I I I (by simp only[maxLen];omega) (by omega) ?_
 intro g
 have ez:Cw (Value.cells (.int .i64 0)).toList M=nI (List.replicate M 0)++[]:=by rw[List.append_nil];exact FU M
 rw[ez]
 refine wP I (Aa (zE (zA (zA (zB (wP I (Aa (zE (zH ?_)))))))))
 refine A8 (X:=Nat×List Nat) (fun x=>[(0,slv p na cap),(1,slv q nb cap2),(5,slv (some ⟨g,0,none⟩) M M),(6, .int .i64 (x.1:Nat))]) (fun x=>[⟨g,3,nI x.2++[],true,none⟩])
  (fun x=>x.1≤na∧x.2.length=M∧(∀y∈x.2,y<br)∧lv br x.2=a%br^x.1*b) (fun x=>na-x.1) (0,List.replicate M 0) ⟨Nat.zero_le _,List.length_replicate,fun y hy=>by rw[List.eq_of_mem_replicate hy];decide,by rw[Ff];show 0=a%br^0*b;rw[Nat.pow_zero,Nat.mod_one,Nat.zero_mul]⟩ ⟨rfl,rfl,rfl,rfl,trivial⟩ [] rfl ?_
 rintro⟨i,out⟩ ⟨hi,hlen,hob,hov⟩
 have hi:i≤na:=hi
 have hlen:out.length=M:=hlen
 refine zA (zA (zB (wP I (wP I (wP I (wP I ?_))))))
 by_cases hi':i<na
 ·refine wU 20 true I (dT (by omega)) (Aa (zE (zR I (zI (zE (zA (zH (zA (zB ?_)))))))))
  obtain⟨pb,po,rfl,hrow⟩:=hA.row (show i<(lbs br a).length by omega)
  obtain⟨x,hx⟩: ∃x,lim (lbs br a) i=x:=⟨_,rfl⟩
  have hrx: ∀W' bx,Hp W bx W'→Ak W' pb (po+i*1) [.int .i64 (x:Nat)]:=fun W' bx hp=>by
   have:=(hrow i (by omega)).hp hp
   rwa [hx] at this
  have hxb:x<br:=by rw[←hx];exact Bp br2 hla i
  have hxe:x=a/br^i%br:=by rw[←hx];exact Bs br2 a i
  refine wP I (Aa (zE (zA (zB (wP I (Aa (zE (zH ?_))))))))
  refine A8 (X:=Nat×List Nat×Nat) (fun x'=>[(0,slv (some ⟨pb,po,none⟩) na cap),(1,slv q nb cap2),(5,slv (some ⟨g,0,none⟩) M M),(6, .int .i64 (i:Nat)),(7, .int .i64 (x'.2.2:Nat)),(8, .int .i64 (x'.1:Nat))]) (fun x'=>[⟨g,3,nI x'.2.1++[],true,none⟩])
   (fun x'=>x'.1≤nb+1∧x'.2.1.length=M∧(∀y∈x'.2.1,y<br)∧x'.2.2<br∧lv br x'.2.1+br^(i+x'.1)*x'.2.2=lv br out+br^i*(x*(b%br^x'.1))) (fun x'=>nb+1-x'.1) (0,out,0) ⟨Nat.zero_le _,hlen,hob,show 0<br by decide,by show lv br out+br^(i+0)*0=lv br out+br^i*(x*(b%br^0));rw[Nat.pow_zero,Nat.mod_one];simp⟩ ⟨rfl,rfl,rfl,rfl,rfl,rfl,trivial⟩ [] rfl ?_
  rintro⟨k,u,c⟩ ⟨hk,hul,hub,hcb,huv⟩
  have hk:k≤nb+1:=hk
  have hul:u.length=M:=hul
  have hcb:c<1000000:=hcb
  have huv:lv br u+br^(i+k)*c=lv br out+br^i*(x*(b%br^k)):=huv
  have hlast:k=nb+1→c=0:=fun e=>by
   subst e
   exact(Oc br2 huv hbl hxb (by rw[hov];exact Lw br2 hbl)).2
  refine Ao (Ao ?_)
  refine AJ (X:=Unit) (fun _=>[(0,slv (some ⟨pb,po,none⟩) na cap),(1,slv q nb cap2),(5,slv (some ⟨g,0,none⟩) M M),(6, .int .i64 (i:Nat)),(7, .int .i64 (c:Nat)),(8, .int .i64 (k:Nat)),(30, .bool (decide (k<nb∨0<c)))]) (fun _=>[⟨g,3,nI u++[],true,none⟩]) (fun _=>True) ?_ ?_
  ·refine zB (wP I (wP I (wP I (wP I ?_))))
   by_cases h1:k<nb
   ·refine wU 26 true I (dT (by omega)) (wP I ?_)
    iterate 2 refine At I I ?_
    exact wP I (Aa (An () tO ⟨I,I,I,I,I,I,by rw[dT (Or.inl h1)];rfl,tO⟩ [] I))
   ·exact wU 26 false I (dF (by omega)) (wP I (wP I (wP I (wU 29 (decide (k<nb∨0<c)) I (decide_eq_decide.2 (by show((c:Nat):Int)>0↔(k<nb∨0<c);omega)) (wP I (Aa (An () tO ⟨I,I,I,I,I,I,I,tO⟩ [] I)))))))
  intro _ _
  refine A0 I (fun hc=> ?_) (fun hc=> ?_)
  ·have hc:k<nb∨0<c:=of_decide_eq_true hc
   have hk':k<nb+1:=by
    rcases Nat.lt_or_ge k (nb+1) with h|h
    ·exact h
    ·have:=hlast (by omega);omega
   have hik:i+k<u.length:=by rw[hul];omega
   obtain⟨o,ho⟩: ∃o,lim u (i+k)=o:=⟨_,rfl⟩
   obtain⟨y,hy⟩: ∃y,lim lb k=y:=⟨_,rfl⟩
   have hob':o<br:=by rw[←ho];exact Bp br2 hub _
   have hyb:y<br:=by rw[←hy];exact Bp br2 hlb _
   have hou:u[i+k]? =some o:=by rw[DP hik,ho]
   obtain⟨n,hn⟩: ∃n,n=o+x*y+c:=⟨_,rfl⟩
   have hnb2:=Ln hxb hyb hob' hcb hn
   have hn63:n<1000000000000:=hnb2.2
   have hxy:=We hxb hyb
   have hyy:=hy
   rw[CL br2 k hlb,hbv] at hyy
   have hstep:=Jh (n:=n) hou huv (by rw[hn,hyy])
   have hrx':=hrx
   refine zI (zE (zA (zH (zA (zU (qP I (qP I (qP I (qP I (qV 36 ((i+k:Nat):Int) I (AW (by omega)) ?_))))))))))
   refine qJ ?_
   refine qL 0 I I (fun W' hp=>Ak.of_intsX hp 0 I hik ho) I (qP I (qP I ?_))
   refine qJ ?_
   refine qL 0 I I (fun W' hp=>hrx W' _ hp) I (qP I (qP I (qC I I (fun W' hp=>D3 W' q cap2 nb lb k y (hB.hp hp) hnb' (by omega) hy) (qP I (qP I (qP I (qP I (qV 49 (n:Nat) I (by show w64 (w64 ((o:Int)+w64 ((x:Int)*y))+c)=_;rw[CE (by omega),AW (by omega),AW (by omega),hn]) (qP I (AQ (Aa (zE (zA ?_)))))))))))))
   refine zB (wP I (wP I (wP I (wP I (wV 53 ((i+k:Nat):Int) I (AW (by omega)) (wP I ?_))))))
   refine Ft I I I I I (by decide) ?_
   refine wJ ?_
   refine A4 0 (nI (u.set (i+k) (n%br))++[]) tH I I I I I I I I I I (by show 0+(i+k)*1+1≤(nI u++[]).length;rw[List.append_nil,BR];omega) (CR hik (n%br)) ?_
   refine Aa (zE (zB (wP I ?_)))
   refine Ei I I I I I (by decide) ?_
   exact wV 58 ((n/br:Nat):Int) I (BW (show n/1000000<9223372036854775808 by omega)) (wP I (Aa (zN (zE (zB (wP I (wP I (wV 32 ((k+1:Nat):Int) I (As (by omega)) (wP I (Aa (Ay (k+1,u.set (i+k) (n%br),n/br) ⟨hk',by rw[List.length_set];exact hul,Dh hub (Nat.mod_lt _ (by decide)),hnb2.1,hstep⟩ (by show nb+1-(k+1)<nb+1-k;omega) ⟨I,I,I,I,I,I,tO⟩ [] I)))))))))))
  ·have hc: ¬(k<nb∨0<c):=of_decide_eq_false hc
   have hc0:c=0:=by omega
   have h1:lv br u=lv br out+br^i*(x*b):=by
    rw[hc0,Nat.mul_zero,Nat.add_zero] at huv
    have h3:br^nb≤br^k:=Nat.pow_le_pow_right (by decide) (by omega)
    rw[Nat.mod_eq_of_lt (show b<br^k by omega)] at huv
    exact huv
   have h2:=M2 (a:=a) (b:=b) (i:=i) hov
   rw[←hxe, ←h1] at h2
   exact zJ (zK (zK (zL (zN (zE (zB (wP I (wP I (wV 22 ((i+1:Nat):Int) I (As (by omega)) (wP I (Aa (Ay (i+1,u) ⟨hi',hul,hub,h2⟩ (by show na-(i+1)<na-i;omega) ⟨I,I,I,I,tO⟩ [] I))))))))))))
 ·have hi':i=na:=by omega
  subst hi'
  rw[Nat.mod_eq_of_lt hal] at hov
  refine wU 20 false I (dF (by omega)) (Aa (zE (zS I (zJ (zK (zK (zL (zE (zA (zB ?_))))))))))
  have hV0:(⟨some g,M,[]⟩:Vec).OK 1 out.length (nI out):=⟨EV _,(fun h=>by cases h),fun _=>⟨by show _≤M;omega,by show M≤maxLen;simp only[maxLen];omega,by show(nI out).length+0=M*1;rw[BR];omega⟩⟩
  obtain⟨j',hV2,he⟩:=El hV0 hob
  refine wP I ?_
  refine Aj 59 (slv (some ⟨g,0,none⟩) out.length M) I (by rw[hlen]) ?_
  refine wC I I (fun W hp=>Dd W _ M _ (A6.of_bx hp 0 I) hob (by omega) (by omega)) (wP I (Aa (zE (zO ?_))))
  rw[hov] at hV2 he
  exact Az tH I (.tmp I) ((g,M,j'):NV) (by rw[hov]) hV2 fun W hp=>Ar.of_hp1 hp 0 (by show some (⟨g,3,nI out++[],true,none⟩:Bx)=some ⟨g,3,nI (lbs br (a*b))++j',true,none⟩;rw[he])
theorem JU (W:World) (p q:Option Addr) (cap cap2:Nat) (a b:Nat) (hA:A6 W p (lbs br a)) (hB:A6 W q (lbs br b)) (hna:(lbs br a).length≤1000000) (hnb:(lbs br b).length≤1000000):
  Ai Tryz.prog 197 #[slv p (lbs br a).length cap,slv q (lbs br b).length cap2] W (fun x:NV=>BG x (lbs br (a*b)).length) (fun x=>CB x (lbs br (a*b))) (fun x=>[BZ x (lbs br (a*b))]):=by
 have h:=IT W p q cap cap2 a (lbs br b) (By br2 b) hA hB hna hnb
 rwa [KF br2] at h
-- BOXES 2
-- CODE2
def GV (z:Int):List UInt8:=if z<0 then[45] else[]
theorem Cz (z:Int):itoa z=GV z++decDigits z.natAbs:=by
 unfold itoa GV
 split
 ·rfl
 ·rw[show z.toNat=z.natAbs by omega];rfl
theorem LU (z:Int):(GV z).length≤1:=by unfold GV;split<;>decide
theorem Fe (z:Int): ∃c,(itoa z)[0]? =some c∧decide (c=45)=decide (z<0):=by
 have h:=Lv z
 rw[BA] at h
 cases e:itoa z with
 |nil=>
  rw[Cz] at e
  exact absurd (List.append_eq_nil_iff.1 e).2 (FM _)
 |cons c t=>
  rw[e] at h
  exact⟨c,I,by rw[←h];exact decide_eq_decide.2 (by simp)⟩
theorem SA {n:Nat} (h:(decDigits n)[0]? =some 48):n=0:=by
 rcases Nat.eq_zero_or_pos n with h0|h0
 ·exact h0
 ·obtain⟨b,r,h1,h2⟩:=LI n (by omega)
  rw[h1] at h
  have h:b=48:=by simpa using h
  rw[h] at h2;exact absurd rfl h2
theorem FH (z:Int) (hl:(decDigits z.natAbs).length≤300):BE Tryz.prog 191 [str (itoa z)] (.int .i64 0):=by
 intro W
 obtain⟨s,hs⟩: ∃s,s=itoa z:=⟨_,rfl⟩
 obtain⟨dd,hdd⟩: ∃dd,dd=decDigits z.natAbs:=⟨_,rfl⟩
 obtain⟨f,hf⟩: ∃f,f=(GV z).length:=⟨_,rfl⟩
 have hss:s=GV z++dd:=by rw[hs,hdd];exact Cz z
 have hf1:f≤1:=hf▸LU z
 have hsl:s.length=f+dd.length:=by rw[hss,List.length_append,hf]
 have hd0:0<dd.length:=by rw[hdd];exact List.length_pos_iff.2 (FM _)
 have hget: ∀i,f≤i→s[i]? =dd[i-f]? :=fun i hi=>by rw[hss,List.getElem?_append_right (by omega),hf]
 obtain⟨c0,hc0,hc45⟩:=Fe z
 rw[←hs] at hc0⊢
 rw[←hdd] at hl
 have hdg: ∀b∈dd,Eg b=true:=by rw[hdd];exact(Fy _).all
 refine Ae Tryz.func191 I I I ?_
 refine zA (zB (wP I (Aa (zE (zA (zB (wP I (Aa (zE (zA (zA (zB (wP I (wP I ?_))))))))))))))
 refine Aj 6 (.int .i64 (s.length:Nat)) I (congrArg (fun n:Nat=>Value.int .i64 (n:Int)) (AA s)) ?_
 refine wP I (wU 7 true I (dT (by omega)) (wP I (wP I ?_)))
 refine Be 0 tH I I I I I I I I hc0 ?_
 refine wP I (wU 11 (decide (z<0)) I ((DK c0 45).trans hc45) (wP I (Aa (AP ?_))))
 try refine Ao ?_
 refine AJ (X:=Unit) (fun _=>[(0,str s),(3, .int .i64 (f:Nat))]) (fun _=>[]) (fun _=>True) ?_ ?_
 ·refine A0 I (fun h=> ?_) (fun h=> ?_)
  ·have h:z<0:=of_decide_eq_true h
   exact zB (wP I (Aa (An () tO ⟨I,by rw[hf];unfold GV;rw[if_pos h];rfl,tO⟩ [] I)))
  ·have h: ¬z<0:=of_decide_eq_false h
   exact zI (An () tO ⟨I,by rw[hf];unfold GV;rw[if_neg h];rfl,tO⟩ [] I)
 intro _ _
 refine Ao (Ao ?_)
 refine AJ (X:=Unit) (fun _=>[(0,str s),(3, .int .i64 (f:Nat)),(27, .bool false)]) (fun _=>[]) (fun _=>True) ?_ ?_
 ·refine zB (wP I (wP I (wP I ?_)))
  refine Aj 15 (.int .i64 (s.length:Nat)) I (congrArg (fun n:Nat=>Value.int .i64 (n:Int)) (AA s)) ?_
  refine wP I (wU 16 false I (by rw[beq_eq_false_iff_ne];omega) ?_)
  obtain⟨b,hb⟩: ∃b,dd[0]? =some b:=⟨dd[0],List.getElem?_eq_getElem hd0⟩
  have hsb:s[f]? =some b:=by rw[hget f (Nat.le_refl _),Nat.sub_self];exact hb
  refine wP I (wP I (wP I ?_))
  refine Be f tH I I I I I I I I hsb ?_
  refine wP I ?_
  by_cases h48:b=48
  ·rw[h48,hdd] at hb
   have h0:=SA hb
   have hz:z=0:=by omega
   have hs1:s.length=1:=by rw[hs,hz,C7];rfl
   refine wU 21 true I ((DK b 48).trans (dT h48)) (wP I (wP I (wP I ?_)))
   refine Aj 24 (.int .i64 (s.length:Nat)) I (congrArg (fun n:Nat=>Value.int .i64 (n:Int)) (AA s)) ?_
   exact wP I (wU 25 false I (dF (by omega)) (wP I (wP I (Aa (An () tO ⟨I,I,I,tO⟩ [] I)))))
  ·refine wU 21 false I ((DK b 48).trans (dF h48)) (wP I ?_)
   iterate 3 refine At I I ?_
   exact wP I (wP I (Aa (An () tO ⟨I,I,I,tO⟩ [] I)))
 intro _ _
 refine zS I (zI (zE (zA (zA (zB (wP I (wP I (Aa (zE (zH ?_))))))))))
 refine A8 (X:=Nat) (fun i=>[(0,str s),(3, .int .i64 (f:Nat)),(4, .int .i64 (i:Nat))]) (fun _=>[]) (fun i=>i≤s.length∧f≤i) (fun i=>s.length-i) f ⟨by omega,Nat.le_refl _⟩ ⟨I,I,I,tO⟩ [] I ?_
 rintro i ⟨hi,hfi⟩
 have hi:i≤s.length:=hi
 have hfi:f≤i:=hfi
 refine zA (zA (zB (wP I (wP I (wP I ?_)))))
 refine Aj 31 (.int .i64 (s.length:Nat)) I (congrArg (fun n:Nat=>Value.int .i64 (n:Int)) (AA s)) ?_
 refine wP I ?_
 by_cases hlt:i<s.length
 ·refine wU 32 true I (dT (by omega)) (Aa (zE (zR I (zI (zE (zA (zH (zA (zB ?_)))))))))
  obtain⟨b,hb⟩: ∃b,dd[i-f]? =some b:=⟨dd[i-f]'(by omega),List.getElem?_eq_getElem (by omega)⟩
  have hsb:s[i]? =some b:=by rw[hget i hfi];exact hb
  have hbd:=CN.1 (hdg b (List.mem_of_getElem? hb))
  refine wP I (wP I ?_)
  refine Be i tH I I I I I I I I hsb ?_
  refine wP I (wU 38 false I ((TY b).trans (dF (by omega))) (wP I (wP I (wP I ?_))))
  refine Be i tH I I I I I I I I hsb ?_
  refine wP I (wU 43 false I ((TT b).trans (dF (by omega))) (wP I (Aa (zE (zS I (zI (zN (zE (zB (wP I (wP I (wV 34 ((i+1:Nat):Int) I (As (by omega)) (wP I ?_)))))))))))))
  exact Aa (Ay (i+1) ⟨hlt,by show f≤i+1;omega⟩ (by show s.length-(i+1)<s.length-i;omega) ⟨I,I,I,tO⟩ [] I)
 ·refine wU 32 false I (dF (by omega)) (Aa (zE (zS I (zJ (zK (zK (zL (zE (zA (zA (zB (wP I (wP I ?_)))))))))))))
  refine Aj 46 (.int .i64 (s.length:Nat)) I (congrArg (fun n:Nat=>Value.int .i64 (n:Int)) (AA s)) ?_
  refine wP I (wP I (wV 48 (dd.length:Nat) I (by show w64 ((s.length:Int)-f)=_;rw[Au (by omega) (by omega)];omega) (wP I (wU 49 false I (dF (by omega)) (Aa (zE (zS I (zI (zE (zA (zB (wP I (Aa ?_)))))))))))))
  exact zE (zO (wR1 I I I))
theorem Dy (a b:Int) (ha:(decDigits a.natAbs).length≤300) (hb:(decDigits b.natAbs).length≤300):BE Tryz.prog 141 [str (itoa a),str (itoa b)] (.int .i64 0):=by
 intro W
 refine Ae Tryz.func141 I I I ?_
 refine zA (zB (wP I (Aa (zE (zA (zA (zB (wP I (wC I I (fun W _=>FH a ha W) (wP I (Aa (zE (zA ?_)))))))))))))
 refine zB (wP I (wP I (Aa (zE (zS I (zI (zE (zA (zB (wP I (wC I I (fun W _=>FH b hb W) (wP I (Aa ?_)))))))))))))
 exact zE (zO (wR1 I I I))
def smI (z:Int):Bool:=decide ((itoa z).length≤17)
theorem HW {z:Int} (h:smI z=true):z.natAbs<100000000000000000:=by
 have h:(itoa z).length≤17:=of_decide_eq_true h
 rw[Cz,List.length_append] at h
 exact Nat.lt_of_lt_of_le (DL _) (show _≤10^17 from Nat.pow_le_pow_right (by decide) (by omega))
theorem JD (z:Int) (hl:(itoa z).length<4611686018427387904):BE Tryz.prog 192 [str (itoa z)] (.tuple #[.int .i64 (if smI z=true then z else 0), .bool (smI z)]):=by
 intro W
 obtain⟨s,hs⟩: ∃s,s=itoa z:=⟨_,rfl⟩
 obtain⟨dd,hdd⟩: ∃dd,dd=decDigits z.natAbs:=⟨_,rfl⟩
 obtain⟨f,hf⟩: ∃f,f=(GV z).length:=⟨_,rfl⟩
 have hss:s=GV z++dd:=by rw[hs,hdd];exact Cz z
 have hf1:f≤1:=hf▸LU z
 have hsl:s.length=f+dd.length:=by rw[hss,List.length_append,hf]
 have hd0:0<dd.length:=by rw[hdd];exact List.length_pos_iff.2 (FM _)
 have hget: ∀i,f≤i→s[i]? =dd[i-f]? :=fun i hi=>by rw[hss,List.getElem?_append_right (by omega),hf]
 have hneg: ∀i,i<f→s[i]? =some 45:=fun i hi=>by
  have h0:i=0:=by omega
  subst h0
  rw[hss]
  unfold GV at hf⊢
  split
  ·rfl
  ·rename_i h;rw[if_neg h] at hf;simp at hf;omega
 obtain⟨c0,hc0,hc45⟩:=Fe z
 have hsm:smI z=decide (s.length≤17):=by rw[hs];rfl
 rw[←hs] at hc0 hl⊢
 have hdg: ∀b∈dd,Eg b=true:=by rw[hdd];exact(Fy _).all
 refine Ae Tryz.func192 I I I ?_
 refine zA (zB (wP I (wP I (Aa (zE (zA (zA (zB (wP I (wP I ?_))))))))))
 refine Aj 7 (.int .i64 (s.length:Nat)) I (congrArg (fun n:Nat=>Value.int .i64 (n:Int)) (AA s)) ?_
 refine wP I ?_
 by_cases h17:s.length≤17
 rotate_left
 ·exact wU 8 true I (dT (by show((s.length:Nat):Int)>17;omega)) (Aa (zE (zR I (zA (zB (wP I (wP I (Aa (zE (zO (zP (wR2 I I (by rw[hsm,dF h17];rfl)))))))))))))
 have hlt: ∀i,AV (dd.take i)<100000000000000000:=fun i=>by
  have h1:=Gn (dd.take i).length (s:=dd.take i) rfl fun b hb=>hdg b (List.mem_of_mem_take hb)
  have h2:(dd.take i).length≤17:=by rw[List.length_take];omega
  exact Nat.lt_of_lt_of_le h1 (show _≤10^17 from Nat.pow_le_pow_right (by decide) h2)
 refine wU 8 false I (dF (by show¬((s.length:Nat):Int)>17;omega)) (Aa (zE (zS I (zI (zE (zA (zB (wP I (Aa (zE (zA (zA (zB ?_)))))))))))))
 refine wP I (Aa (zE (zH ?_)))
 refine A8 (X:=Nat) (fun i=>[(0,str s),(4, .int .i64 (AV (dd.take (i-f)):Nat)),(5, .int .i64 (i:Nat))]) (fun _=>[]) (fun i=>i≤s.length) (fun i=>s.length-i) 0 (Nat.zero_le _) ⟨I,by show some _=some (Value.int .i64 (AV (dd.take (0-f)):Nat));rw[Nat.zero_sub,List.take_zero];rfl,I,tO⟩ [] I ?_
 intro i hi
 have hi:i≤s.length:=hi
 refine zA (zA (zB (wP I (wP I (wP I ?_)))))
 refine Aj 11 (.int .i64 (s.length:Nat)) I (congrArg (fun n:Nat=>Value.int .i64 (n:Int)) (AA s)) ?_
 refine wP I ?_
 by_cases hlt':i<s.length
 ·refine wU 12 true I (dT (by omega)) (Aa (zE (zR I (zI (zE ?_)))))
  try refine Ao ?_
  refine AJ (X:=Unit) (fun _=>[(0,str s),(4, .int .i64 (AV (dd.take (i+1-f)):Nat)),(5, .int .i64 (i:Nat))]) (fun _=>[]) (fun _=>True) ?_ ?_
  ·refine zH (zA (zB (wP I (wP I ?_))))
   by_cases hif:i<f
   ·refine Be i tH I I I I I I I I (hneg i hif) ?_
    exact wP I (Aa (zE (zS I (zI (zN (An () tO ⟨I,by rw[show i+1-f=0 by omega,show i-f=0 by omega];rfl,I,tO⟩ [] I))))))
   obtain⟨b,hb⟩: ∃b,dd[i-f]? =some b:=⟨dd[i-f]'(by omega),List.getElem?_eq_getElem (by omega)⟩
   have hsb:s[i]? =some b:=by rw[hget i (by omega)];exact hb
   have hbd:=CN.1 (hdg b (List.mem_of_getElem? hb))
   have e1:AV (dd.take (i+1-f))=10*AV (dd.take (i-f))+(b.toNat-48):=by
    rw[show i+1-f=i-f+1 by omega,List.take_add_one,hb];exact D9 _ _
   have l1:=hlt (i-f)
   have l2:=hlt (i+1-f)
   refine Be i tH I I I I I I I I hsb ?_
   refine wP I ?_
   refine Aj 18 (.bool true) I (congrArg Value.bool (by
    show(!((((b.toNat:Nat):Int))==(45:Int)))=true
    rw[Bool.not_eq_true',beq_eq_false_iff_ne];omega)) ?_
   refine Aa (zE (zR I (zB (wP I (wP I (wV 20 ((10*AV (dd.take (i-f)):Nat):Int) I (show w64 (10*(AV (dd.take (i-f)):Nat))=_ by rw[Au (by omega) (by omega)];omega) (wP I (wP I ?_))))))))
   refine Be i tH I I I I I I I I hsb ?_
   refine wP I ?_
   refine Aj 24 (.int .u8 ((b.toNat-48:Nat):Int)) I (congrArg (Value.int .u8) (by show IntKind.u8.wrap (((b.toNat:Nat):Int)-48)=_;rw[show((b.toNat:Nat):Int)-48=((b.toNat-48:Nat):Int) by omega,Rc (by omega) (by omega)])) ?_
   refine Jk Tryz.underlying5 Tryz.underlying3 I I I I ?_
   exact wV 25 ((b.toNat-48:Nat):Int) I (BW (by omega)) (wP I (wV 26 ((AV (dd.take (i+1-f)):Nat):Int) I (show w64 (((10*AV (dd.take (i-f)):Nat):Int)+((b.toNat-48:Nat):Int))=_ by rw[Au (by omega) (by omega),e1];omega) (wP I (Aa (zN (An () tO ⟨I,I,I,tO⟩ [] I))))))
  intro _ _
  exact zB (wP I (wP I (wV 14 ((i+1:Nat):Int) I (As (by omega)) (wP I (Aa (Ay (i+1) hlt' (by show s.length-(i+1)<s.length-i;omega) ⟨I,I,I,tO⟩ [] I))))))
 ·refine wU 12 false I (dF (by omega)) (Aa (zE (zS I (zJ (zK (zK (zL (zE (zA (zA (zB ?_)))))))))))
  have hv:AV (dd.take (i-f))=z.natAbs:=by rw[List.take_of_length_le (by omega),hdd,Cj]
  have hzl:z.natAbs<100000000000000000:=by rw[←hv];exact hlt _
  refine wP I ?_
  refine Be 0 tH I I I I I I I I hc0 ?_
  refine wP I (wU 29 (decide (z<0)) I ((DK c0 45).trans hc45) (Aa (AP ?_)))
  try refine Ao ?_
  refine AJ (X:=Unit) (fun _=>[(4, .int .i64 z)]) (fun _=>[]) (fun _=>True) ?_ ?_
  ·refine A0 I (fun h=> ?_) (fun h=> ?_)
   ·have h:z<0:=of_decide_eq_true h
    exact zB (wP I (wP I (wV 31 z I (by rw[hv];show w64 (0-((z.natAbs:Nat):Int))=_;rw[Au (by omega) (by omega)];omega) (wP I (Aa (An () tO ⟨I,tO⟩ [] I))))))
   ·have h: ¬z<0:=of_decide_eq_false h
    exact zI (An () tO ⟨congrArg (fun z=>some (Value.int .i64 z)) (by rw[hv];omega),tO⟩ [] I)
  intro _ _
  exact zA (zB (wP I (wP I (wP I (Aa (zE (zO (wR2 I I (by rw[hsm,dT h17,if_pos I])))))))))
theorem N6 (a b:Int) (ha:(itoa a).length<4611686018427387904) (hb:(itoa b).length<4611686018427387904):BE Tryz.prog 142 [str (itoa a),str (itoa b)] (.tuple #[.int .i64 (if smI a=true then a else 0), .int .i64 (if smI a=true then(if smI b=true then b else 0) else 0), .bool (smI a&&smI b)]):=by
 intro W
 refine Ae Tryz.func142 I I I ?_
 refine zA (zB (wP I (wP I (wP I (Aa (zE (zA (zB (wP I (wC I I (fun W _=>JD a ha W) ?_))))))))))
 iterate 5 refine wP I ?_
 refine Aa ?_
 cases hsa:smI a with
 |false=>
  refine zE (zA (zA (zB (wP I (wP I (Aa (zE (zR I (zA (zB (wP I (wP I (wP I ?_)))))))))))))
  exact Aa (zE (zO (zP (wR3 I I I))))
 |true=>
  refine zE (zA (zA (zB (wP I (wP I (Aa (zE (zS I (zI (zE (zA (zB (wP I ?_)))))))))))))
  refine wC I I (fun W _=>JD b hb W) ?_
  iterate 5 refine wP I ?_
  refine Aa (zE (zA (zB ?_)))
  iterate 6 refine wP I ?_
  exact Aa (zE (zO (wR3 I I I)))
-- BOXES 4
-- CODE2
theorem Of (a:List UInt8): ∀(n:Nat) (b:List UInt8),b.length=n→AV (a++b)=AV a*10^n+AV b
 |0,b,h=>by
  rw[List.length_eq_zero_iff.1 h,List.append_nil,Nat.pow_zero,Nat.mul_one];rfl
 |n+1,b,h=>by
  obtain⟨c,d,rfl⟩: ∃c d,b=c++[d]:=⟨b.dropLast,b.getLast (fun e=>by rw[e] at h;cases h),(List.dropLast_concat_getLast _).symm⟩
  have hc:c.length=n:=by rw[List.length_append] at h;exact Nat.succ.inj h
  rw[←List.append_assoc,D9,Of a n c hc,D9,Nat.pow_succ]
  grind
theorem Qu (a b:List UInt8):AV (a++b)=AV a*10^b.length+AV b:=Of a b.length b rfl
theorem VG {m lo e:Nat} (_h1:lo≤e) (h2:e≤(decDigits m).length):AV (((decDigits m).take e).drop lo)=m/10^((decDigits m).length-e)%10^(e-lo):=by
 obtain⟨dd,hdd⟩: ∃dd,dd=decDigits m:=⟨_,rfl⟩
 have hdg: ∀b∈dd,Eg b=true:=by rw[hdd];exact(Fy m).all
 have hv:AV dd=m:=by rw[hdd];exact Cj m
 rw[←hdd] at h2⊢
 have a1:=Qu (dd.take e) (dd.drop e)
 rw[List.take_append_drop,hv,List.length_drop] at a1
 have b1:=Gn (dd.drop e).length (s:=dd.drop e) rfl fun b hb=>hdg b (List.mem_of_mem_drop hb)
 rw[List.length_drop] at b1
 have c1:m/10^(dd.length-e)=AV (dd.take e):=by
  rw[a1,Nat.mul_comm,Nat.mul_add_div (Nat.pow_pos (by decide)),Nat.div_eq_of_lt b1,Nat.add_zero]
 rw[c1]
 have a2:=Qu ((dd.take e).take lo) ((dd.take e).drop lo)
 have b2:=Gn ((dd.take e).drop lo).length (s:=(dd.take e).drop lo) rfl fun b hb=>hdg b (List.mem_of_mem_take (List.mem_of_mem_drop hb))
 rw[List.take_append_drop] at a2
 have hl:((dd.take e).drop lo).length=e-lo:=by rw[List.length_drop,List.length_take,Nat.min_eq_left h2]
 rw[hl] at a2 b2
 rw[a2,Nat.mul_comm,Nat.mul_add_mod,Nat.mod_eq_of_lt b2]
def rdL (m:Nat) (j:Nat):List Nat:=(List.range j).map fun i=>m/br^i%br
theorem Rk (m j:Nat):rdL m (j+1)=rdL m j++[m/br^j%br]:=by unfold rdL;rw[List.range_succ,List.map_append];rfl
theorem LW (m j:Nat):(rdL m j).length=j:=by unfold rdL;rw[List.length_map,List.length_range]
theorem VL (m j:Nat): ∀x∈rdL m j,x<br:=fun x hx=>by
 obtain⟨i,_,rfl⟩:=List.mem_map.1 hx
 exact Nat.mod_lt _ (by decide)
theorem Tr (m:Nat): ∀j,lv br (rdL m j)=m%br^j
 |0=>by show 0=_;rw[Nat.pow_zero,Nat.mod_one]
 |j+1=>by rw[Rk,PK (LW m j),Tr m j, ←E4]
theorem K2 (j:Nat):br^j=10^(6*j):=by rw[Nat.pow_mul]
theorem Vx {m k:Nat} (h:m<10^(6*k)):(lbs br m).length≤k:=(Ch br2).2 (by rw[K2];exact h)
theorem YZ {m e k:Nat} (h:(decDigits m).length≤e) (he:e=6*k):(lbs br m).length≤k:=by
 subst he
 exact Vx (Nat.lt_of_lt_of_le (DL m) (Nat.pow_le_pow_right (by decide) h))
theorem CF {m:Nat} (h:(decDigits m).length≤606):(lbs br m).length≤101:=YZ h rfl
abbrev XX (z:Int) (x:NV):Value:= .agg #[.bool (decide (z<0)),BG x (lbs br z.natAbs).length]
theorem XI (y:Int):(if y>0 then y else 0)=max 0 y:=by omega
theorem Bk (z:Int) (hl:(decDigits z.natAbs).length≤1000) (W:World):
  Ai Tryz.prog 143 #[str (itoa z)] W (fun x:NV=>XX z x) (fun x=>CB x (lbs br z.natAbs)) (fun x=>[BZ x (lbs br z.natAbs)]):=by
 obtain⟨m,hm⟩: ∃m,m=z.natAbs:=⟨_,rfl⟩
 obtain⟨c0,hc0,hc45⟩:=Fe z
 have hzl:=Cz z
 refine Ae (args:=[str (itoa z)]) Tryz.func143 I I I ?_
 refine zA (zB ?_)
 (refine Af Tryz.hZ rfl rfl rfl rfl ?_;intro)
 refine Aa ?_
 rename_i b2
 refine zE (zA (zB ?_))
 refine Av Tryz.hZ tH I I I I I I I I ?_
 (refine Af Tryz.hZ rfl rfl rfl rfl ?_;intro)
 refine wS 1 I I I (Aa ?_)
 rename_i b3
 refine zE (zA (zA (zB (wP I ?_))))
 refine Be 0 tH I I I I I I I I hc0 ?_
 refine wP I (wU 10 (decide (z<0)) I ((DK c0 45).trans hc45) (Aa (AP ?_)))
 try refine Ao ?_
 refine AJ (X:=Unit) (fun _=>[(0,str (decDigits m)),(2,Ah b2),(3,Ah b3)]) (fun _=>[⟨b2,153,[.bool false, .slice none 0 0],true,none⟩,⟨b3,153,[.bool (decide (z<0)), .slice none 0 0],true,none⟩]) (fun _=>True) ?_ ?_
 ·refine A0 I (fun h=> ?_) (fun h=> ?_)
  ·have h:z<0:=of_decide_eq_true h
   have e:itoa z=45::decDigits m:=by rw[hzl,hm];unfold GV;rw[if_pos h];rfl
   refine zA (zB (wP I (wS 1 I I I (Aa (zE (zB (wP I ?_)))))))
   refine FF 1 tH I I I I I I I I (by rw[e,List.length_cons];omega) ?_
   exact wP I (Aa (An () tO ⟨by rw[e];rfl,I,I,tO⟩ [] (by rw[dT h];rfl)))
  ·have h: ¬z<0:=of_decide_eq_false h
   have e:itoa z=decDigits m:=by rw[hzl,hm];unfold GV;rw[if_neg h];rfl
   exact zI (An () tO ⟨by rw[e];rfl,I,I,tO⟩ [] (by rw[dF h];rfl))
 intro _ _
 rw[←hm] at hl⊢
 obtain⟨dd,hdd⟩: ∃dd,dd=decDigits m:=⟨_,rfl⟩
 have hdg: ∀b∈dd,Eg b=true:=by rw[hdd];exact(Fy m).all
 have hd0:0<dd.length:=by rw[hdd];exact List.length_pos_iff.2 (FM _)
 have hmid: ∀lo e,lo≤e→e≤dd.length→AV ((dd.take e).drop lo)=m/10^(dd.length-e)%10^(e-lo):=fun lo e h1 h2=>by
  rw[hdd] at h2⊢;exact VG h1 h2
 have hmlt:m<10^dd.length:=by rw[hdd];exact DL m
 rw[←hdd] at hl⊢
 refine zA (zA (zB (wP I (wP I ?_))))
 refine Aj 15 (.int .i64 (dd.length:Nat)) I (congrArg (fun n:Nat=>Value.int .i64 (n:Int)) (AA dd)) ?_
 refine wP I (Aa (zE (zH ?_)))
 refine Ga ?_
 refine A8 (X:=Nat×Vec) (fun x=>[(0,str dd),(2,Ah b2),(3,Ah b3),(4, .int .i64 ((dd.length:Int)-6*(x.1:Nat)))])
  (fun x=>[⟨b2,153,[.bool false, .slice none 0 0],true,none⟩,⟨b3,153,[.bool (decide (z<0)),x.2.val x.1],true,none⟩,x.2.bx 3 (nI (rdL m x.1))])
  (fun x=>x.2.OK 1 x.1 (nI (rdL m x.1))∧6*x.1<dd.length+6) (fun x=>dd.length+6-6*x.1) (0,Vec.empty) ⟨Vec.OK.empty 1,by show 6*0<_;omega⟩ ⟨rfl,rfl,rfl,congrArg (fun z=>some (Value.int .i64 z)) (by show((dd.length:Nat):Int)=(dd.length:Int)-6*((0:Nat):Int);omega),trivial⟩ [] rfl ?_
 rintro⟨j,V⟩ ⟨hV,hj⟩
 have hV:V.OK 1 j (nI (rdL m j)):=hV
 have hj:6*j<dd.length+6:=hj
 refine zA (zA (zB (wP I (wP I ?_))))
 by_cases hlt:6*j<dd.length
 ·refine wU 17 true I (dT (by show(dd.length:Int)-6*(j:Nat)>0;omega)) (Aa (zE (zR I (zI (zE (zA (zH (zA (zB ?_)))))))))
  obtain⟨e,he⟩: ∃e,e=dd.length-6*j:=⟨_,rfl⟩
  have hev:(dd.length:Int)-6*(j:Nat)=(e:Nat):=by omega
  obtain⟨lo,hlo⟩: ∃lo,lo=e-6:=⟨_,rfl⟩
  have hlim:AV ((dd.take e).drop lo)=m/br^j%br:=by
   rw[hmid lo e (by omega) (by omega),K2,show dd.length-e=6*j by omega]
   by_cases h6:6≤e
   ·rw[show e-lo=6 by omega]
   ·have hl0:lo=0:=by omega
    have h1:m/10^(6*j)<10^e:=by
     apply Nat.div_lt_of_lt_mul
     rw[←Nat.pow_add,show 6*j+e=dd.length by omega];exact hmlt
    have h2:(10:Nat)^e≤10^6:=Nat.pow_le_pow_right (by decide) (by omega)
    rw[hl0,Nat.sub_zero,Nat.mod_eq_of_lt h1,Nat.mod_eq_of_lt (show m/10^(6*j)<br by show _<10^6;omega)]
  refine wP I (Aa (zE (zA (zA (zB (wP I (wP I (wV 21 ((e:Int)-6) I (by show w64 ((dd.length:Int)-6*(j:Nat)-6)=_;rw[hev,Au (by omega) (by omega)]) (wP I (wV 22 (lo:Nat) I (by show(if (e:Int)-6>0 then(e:Int)-6 else 0)=_;rw[XI];omega) (wP I (Aa (zE ?_)))))))))))))
  refine zH ?_
  refine A8 (X:=Nat) (fun i=>[(0,str dd),(2,Ah b2),(3,Ah b3),(4, .int .i64 (e:Nat)),(5, .int .i64 (AV ((dd.take i).drop lo):Nat)),(6, .int .i64 (i:Nat))])
   (fun _=>[⟨b2,153,[.bool false, .slice none 0 0],true,none⟩,⟨b3,153,[.bool (decide (z<0)),V.val j],true,none⟩,V.bx 3 (nI (rdL m j))])
   (fun i=>lo≤i∧i≤e) (fun i=>e-i) lo ⟨Nat.le_refl _,by omega⟩ ⟨rfl,rfl,rfl,(by rw[hev];rfl),by show some _=some (Value.int .i64 (AV ((dd.take lo).drop lo):Nat));rw[List.drop_of_length_le (by rw[List.length_take];omega)];rfl,rfl,trivial⟩ [] rfl ?_
  rintro i ⟨hi1,hi2⟩
  have hi1:lo≤i:=hi1
  have hi2:i≤e:=hi2
  refine zA (zA (zB (wP I (wP I (wP I ?_)))))
  by_cases hie:i<e
  ·refine wU 25 true I (dT (by omega)) (Aa (zE (zR I (zI (zE (zA (zH (zB ?_))))))))
   obtain⟨b,hb⟩: ∃b,dd[i]? =some b:=⟨dd[i]'(by omega),List.getElem?_eq_getElem (by omega)⟩
   have hbd:=CN.1 (hdg b (List.mem_of_getElem? hb))
   have e1:AV ((dd.take (i+1)).drop lo)=10*AV ((dd.take i).drop lo)+(b.toNat-48):=by
    rw[List.take_add_one,hb,List.drop_append_of_le_length (by rw[List.length_take];omega)]
    exact D9 _ _
   have hbnd: ∀k,k≤e→AV ((dd.take k).drop lo)<1000000:=fun k hk=>by
    have h1:=Gn ((dd.take k).drop lo).length (s:=(dd.take k).drop lo) rfl fun b hb=>hdg b (List.mem_of_mem_take (List.mem_of_mem_drop hb))
    have h2:((dd.take k).drop lo).length≤6:=by rw[List.length_drop,List.length_take];omega
    exact Nat.lt_of_lt_of_le h1 (show _≤10^6 from Nat.pow_le_pow_right (by decide) h2)
   have l1:=hbnd i hi2
   have l2:=hbnd (i+1) hie
   refine wP I (wP I (wV 29 ((10*AV ((dd.take i).drop lo):Nat):Int) I (show w64 (10*(AV ((dd.take i).drop lo):Nat))=_ by rw[Au (by omega) (by omega)];omega) (wP I (wP I ?_))))
   refine Be i tH I I I I I I I I hb ?_
   refine wP I ?_
   refine Aj 33 (.int .u8 ((b.toNat-48:Nat):Int)) I (congrArg (Value.int .u8) (by show IntKind.u8.wrap (((b.toNat:Nat):Int)-48)=_;rw[show((b.toNat:Nat):Int)-48=((b.toNat-48:Nat):Int) by omega,Rc (by omega) (by omega)])) ?_
   refine Jk Tryz.underlying5 Tryz.underlying3 I I I I ?_
   exact wV 34 ((b.toNat-48:Nat):Int) I (BW (by omega)) (wP I (wV 35 ((AV ((dd.take (i+1)).drop lo):Nat):Int) I (show w64 (((10*AV ((dd.take i).drop lo):Nat):Int)+((b.toNat-48:Nat):Int))=_ by rw[Au (by omega) (by omega),e1];omega) (wP I (Aa (zN (zE (zB (wP I (wP I (wV 27 ((i+1:Nat):Int) I (As (by omega)) (wP I (Aa (Ay (i+1) ⟨by show lo≤i+1;omega,hie⟩ (by show e-(i+1)<e-i;omega) ⟨I,I,I,I,I,I,tO⟩ [] I)))))))))))))
  ·have hie:i=e:=by omega
   subst hie
   refine wU 25 false I (dF (by omega)) (Aa (zE (zS I (zJ (zK (zK (zL (zE (zB ?_)))))))))
   rw[hlim]
   refine wP I (wB 1 I I I (wP I ?_))
   refine AN Tryz.hZ tH I I I I I I I I I I I fun bN=> ?_
   refine BM (V:=V) (len:=j) (xs:=nI (rdL m j)) 2 3 Tryz.vec130 (j+1) (nI (rdL m (j+1))) I I I I I I I I I I I hV I I I (by rw[Rk,Jf];rfl) (by simp only[maxLen];omega) (by omega) I ?_
   intro g1 c1 j1 hV1
   exact wP I (wS 1 I I I (Aa (zN (zE (zB (wP I (wP I (wV 19 ((dd.length:Int)-6*((j+1:Nat):Int)) I (by show w64 (((i:Nat):Int)-6)=_;rw[Au (by omega) (by omega)];omega) (wP I (Aa (Ay (j+1,⟨some g1,c1,j1⟩) ⟨hV1,by show 6*(j+1)<_;omega⟩ (by show dd.length+6-6*(j+1)<dd.length+6-6*j;omega) ⟨I,I,I,I,tO⟩ _ I)))))))))))
 ·refine wU 17 false I (dF (by show¬(dd.length:Int)-6*(j:Nat)>0;omega)) (Aa (zE (zS I (zJ (zK (zK (zL (zE (zA (zB ?_))))))))))
  obtain⟨pV,cV,jV⟩:=V
  cases pV with
  |none=>have:=hV.nil rfl;omega
  |some g=>
  have hval:lv br (rdL m j)=m:=by
   rw[Tr,K2]
   exact Nat.mod_eq_of_lt (Nat.lt_of_lt_of_le hmlt (Nat.pow_le_pow_right (by decide) (by omega)))
  have hV2:(⟨some g,cV,jV⟩:Vec).OK 1 (rdL m j).length (nI (rdL m j)):=by rw[LW];exact hV
  obtain⟨j2,hj1,hj2⟩:=El hV2 (VL m j)
  rw[hval] at hj1 hj2
  refine wP I (wB 1 I I I ?_)
  refine Aj 43 (slv (some ⟨g,0,none⟩) (rdL m j).length cV) I (by rw[LW];rfl) ?_
  refine wC I I (fun W' hp=>(Dd W' (some ⟨g,0,none⟩) cV (rdL m j) (A6.of_bx hp 2 I) (VL m j) (by have:=(hV2.cap (by simp)).1;exact this) (by rw[LW];omega)).cast (v':=slv (some ⟨g,0,none⟩) (lbs br m).length cV) (by rw[hval])) (wP I (wS 1 I I I (Aa (zE (zA (zB (wB 1 I I I (wS 0 I I I (Aa (zE (zO ?_)))))))))))
  subst hm
  exact Az tH I (.cell 0 I I I I I) ((g,cV,j2):NV) I hj1 fun W hp=>Ar.of_hp1 hp 2 (by
   show some (⟨g,3,nI (rdL z.natAbs j)++jV,true,none⟩:Bx)=some (⟨g,3,nI (lbs br z.natAbs)++j2,true,none⟩:Bx)
   rw[hj2])
def G9 (m:Nat):Nat→List UInt8
 |0=>[]
 |d+1=>UInt8.ofNat (48+m/10^d%10)::G9 m d
theorem Kg (m:Nat): ∀d,(G9 m d).length=d
 |0=>rfl
 |d+1=>by show(G9 m d).length+1=_;rw[Kg m d]
theorem Q1 (m:Nat): ∀(d i:Nat),i<d→(G9 m d)[d-1-i]? =some (UInt8.ofNat (48+m/10^i%10))
 |0,_,h=>absurd h (Nat.not_lt_zero _)
 |d+1,i,h=>by
  by_cases e:i=d
  ·subst e
   rw[show i+1-1-i=0 by omega];rfl
  ·rw[show d+1-1-i=(d-1-i)+1 by omega]
   show(_::G9 m d)[_+1]? =_
   rw[List.getElem?_cons_succ]
   exact Q1 m d i (by omega)
theorem Xg {m d:Nat} (h:(decDigits m).length≤d):G9 m d=List.replicate (d-(decDigits m).length) 48++decDigits m:=by
 apply List.ext_getElem?
 intro t
 by_cases ht:t<d
 ·have h1:=Q1 m d (d-1-t) (by omega)
  rw[show d-1-(d-1-t)=t by omega] at h1
  rw[h1]
  by_cases h2:t<d-(decDigits m).length
  ·rw[List.getElem?_append_left (by rw[List.length_replicate];exact h2),List.getElem?_replicate_of_lt h2]
   have h3:m/10^(d-1-t)=0:=Nat.div_eq_of_lt (Nat.lt_of_lt_of_le (DL m) (Nat.pow_le_pow_right (by decide) (by omega)))
   rw[h3];rfl
  ·rw[List.getElem?_append_right (by rw[List.length_replicate];omega),List.length_replicate]
   have h3:=WY (n:=m) (i:=d-1-t) (by omega)
   rw[←h3]
   congr 1;omega
 ·rw[List.getElem?_eq_none (by rw[Kg];omega),List.getElem?_eq_none (by rw[List.length_append,List.length_replicate];omega)]
theorem VR {m i k:Nat} (hk:k<6):m/br^i%br/10^k%10=m/10^(6*i+k)%10:=by
 rw[Nat.pow_add, ←K2, ←Nat.div_div_eq_div_mul]
 generalize m/br^i=x
 have h:k=0∨k=1∨k=2∨k=3∨k=4∨k=5:=by omega
 show x%1000000/10^k%10=x/10^k%10
 rcases h with rfl|rfl|rfl|rfl|rfl|rfl<;>simp only[Nat.reducePow,Nat.div_one]<;>omega
theorem F6 (z:Int) (hl:(decDigits z.natAbs).length≤606) (W:World) (p:Option Addr) (cap:Nat) (hA:A6 W p (lbs br z.natAbs)):
  Ai Tryz.prog 145 #[.agg #[.bool (decide (z<0)),slv p (lbs br z.natAbs).length cap]] W (fun _:Unit=>str (itoa z)) (fun _=>True) (fun _=>[]):=by
 obtain⟨m,hm⟩: ∃m,z.natAbs=m:=⟨_,rfl⟩
 rw[hm] at hl hA⊢
 obtain⟨L,hL⟩: ∃L,(lbs br m).length=L:=⟨_,rfl⟩
 have hL101:L≤101:=by rw[←hL];exact CF hl
 have hml:m<br^L:=by rw[←hL];exact AS br2 m
 refine Ae (args:=[.agg #[.bool (decide (z<0)),slv p (lbs br m).length cap]]) Tryz.func145 I I I ?_
 rw[hL]
 refine zA (zB ?_)
 (refine Ax rfl rfl rfl rfl ?_;intro)
 refine wP I (Aa ?_)
 rename_i b1
 refine zE (zA (zA (zB (wP I (wB 0 I I I (wP I (wP I ?_)))))))
 by_cases hm0:m=0
 ·have hL0:L=0:=by rw[←hL,hm0,Bh];rfl
  have hz:z=0:=by omega
  exact wU 10 true I (by rw[beq_iff_eq,hL0];rfl) (Aa (zE (zR I (zA (zB (wP I (Aa (zE (zO (zP (wR1 I I (by rw[hz,C7]))))))))))))
 have hL0:L≠0:=fun e=>hm0 ((DI br2).1 (List.length_eq_zero_iff.1 (hL.trans e)))
 refine wU 10 false I (by rw[beq_eq_false_iff_ne];omega) (Aa (zE (zS I (zI (zE (zA (zB ?_)))))))
 obtain⟨K,hK⟩: ∃K,K=6*L:=⟨_,rfl⟩
 refine wP I (wB 0 I I I (wP I (wP I (wV 14 (K:Nat) I (by show w64 (6*(L:Int))=_;rw[Au (by omega) (by omega)];omega) ?_))))
 refine C0 Tryz.vec202 K I I I I I I I (by simp only[maxLen];omega) (by omega) ?_
 intro g
 refine wP I (Aa (zE (zA (zA (zB (wP I (Aa (AP ?_))))))))
 try refine Ao ?_
 refine AJ (X:=Unit) (fun _=>[(1,Ah b1),(3, .slice (some ⟨g,0,none⟩) K K)]) (fun _=>[⟨b1,153,[.bool (decide (z<0)),slv p L cap],true,none⟩,⟨g,5,zrV 0++byV (G9 m K),true,none⟩]) (fun _=>True) ?_ ?_
 ·refine zH ?_
  refine A8 (X:=Nat) (fun i=>[(1,Ah b1),(3, .slice (some ⟨g,0,none⟩) K K),(4, .int .i64 (i:Nat))]) (fun i=>[⟨b1,153,[.bool (decide (z<0)),slv p L cap],true,none⟩,⟨g,5,zrV (K-6*i)++byV (G9 m (6*i)),true,none⟩]) (fun i=>i≤L) (fun i=>L-i) 0 (Nat.zero_le _) ⟨I,I,I,tO⟩ [] (by show _=[_,(⟨g,5,zrV (K-0)++[],true,none⟩:Bx)]++[];simp only[List.append_nil,Nat.sub_zero];rfl) ?_
  intro i hi
  have hi:i≤L:=hi
  refine zA (zA (zB (wP I (wP I (wB 0 I I I (wP I (wP I ?_)))))))
  by_cases hiL:i<L
  ·refine wU 20 true I (dT (by omega)) (Aa (zE (zR I (zI (zE (zA (zH (zA (zB ?_)))))))))
   obtain⟨bA,oA,rfl,rA⟩:=hA.row (show i<(lbs br m).length by omega)
   have rA:=rA i (by omega)
   rw[Bs br2] at rA
   obtain⟨v,hv⟩: ∃v,v=m/br^i%br:=⟨_,rfl⟩
   rw[←hv] at rA
   have hvb:v<1000000:=by rw[hv];exact Nat.mod_lt _ (by decide)
   refine wP I (wB 0 I I I (wP I ?_))
   refine wJ ?_
   refine wL 0 I I (fun W hp=>rA.hp hp) I (wP I (Aa (zE (zA (zB (wP I (Aa (zE (zH ?_)))))))))
   refine A8 (X:=Nat) (fun k=>[(1,Ah b1),(3, .slice (some ⟨g,0,none⟩) K K),(4, .int .i64 (i:Nat)),(5, .int .i64 ((v/10^k:Nat):Int)),(6, .int .i64 ((k+1:Nat):Int))]) (fun k=>[⟨b1,153,[.bool (decide (z<0)),slv (some ⟨bA,oA,none⟩) L cap],true,none⟩,⟨g,5,zrV (K-(6*i+k))++byV (G9 m (6*i+k)),true,none⟩]) (fun k=>k≤6) (fun k=>6-k) 0 (by decide) ⟨I,I,I,by show some _=some (Value.int .i64 ((v/1:Nat):Int));rw[Nat.div_one],I,tO⟩ [] I ?_
   intro k hk
   have hk:k≤6:=hk
   refine zA (zA (zB (wP I (wP I ?_))))
   by_cases hk6:k<6
   ·refine wU 29 true I (dT (by show((k+1:Nat):Int)≤6;omega)) (Aa (zE (zR I (zI (zE (zA (zH (zA (zB ?_)))))))))
    obtain⟨u,hu⟩: ∃u,u=v/10^k:=⟨_,rfl⟩
    have hub:u<1000000:=by rw[hu];exact Nat.lt_of_le_of_lt (Nat.div_le_self ..) hvb
    have hdig:u%10=m/10^(6*i+k)%10:=by rw[hu,hv];exact VR hk6
    have hu2:v/10^(k+1)=u/10:=by rw[hu,Nat.pow_succ,Nat.div_div_eq_div_mul]
    obtain⟨d,hd⟩: ∃d,d=6*i+k:=⟨_,rfl⟩
    have hdK:d<K:=by omega
    rw[←hu, ←hd]
    rw[←hd] at hdig
    iterate 5 refine wP I ?_
    refine wV 36 ((6*i:Nat):Int) I (by show w64 (6*(i:Int))=_;rw[Au (by omega) (by omega)];omega) (wP I (wV 37 ((K-6*i:Nat):Int) I (by show w64 ((K:Int)-((6*i:Nat):Int))=_;rw[Au (by omega) (by omega)];omega) (wP I (wP I (wV 39 ((K-d-1:Nat):Int) I (by show w64 (((K-6*i:Nat):Int)-((k+1:Nat):Int))=_;rw[Au (by omega) (by omega)];omega) (wP I ?_))))))
    refine Ft I I I I I (by decide) ?_
    refine wV 41 ((u%10:Nat):Int) I (show Int.tmod (u:Nat) ((10:Nat):Int)=_ from(Int.ofNat_tmod _ _).symm) (wP I (wV 42 ((48+u%10:Nat):Int) I (show w64 (48+((u%10:Nat):Int))=_ by rw[Au (by omega) (by omega)];omega) ?_))
    refine VY Tryz.underlying3 Tryz.underlying5 I I I I ?_
    refine Aj 43 (.int .u8 ((UInt8.ofNat (48+m/10^d%10)).toNat:Int)) I (congrArg (Value.int .u8) (by rw[Vc u,hdig])) ?_
    refine wJ ?_
    refine A4 1 (zrV (K-d-1)++byV (G9 m (d+1))) tH I I I I I I I I I I (by show 0+(K-d-1)*1+1≤(zrV (K-d)++byV (G9 m d)).length;rw[List.length_append,Ku];omega) (by
     show BK (zrV (K-d)++byV (G9 m d)) _ _=_
     rw[show K-d=K-d-1+1 by omega]
     exact Uh) ?_
    refine Aa (zE (zB (wP I ?_)))
    refine Ei I I I I I (by decide) ?_
    exact wV 46 ((u/10:Nat):Int) I (show w64 (Int.tdiv (u:Nat) ((10:Nat):Int))=_ by rw[←Int.ofNat_tdiv,Au (by omega) (by omega)]) (wP I (Aa (zN (zE (zB (wP I (wP I (wV 31 ((k+1+1:Nat):Int) I (As (by omega)) (wP I (Aa (Ay (k+1) hk6 (by show 6-(k+1)<6-k;omega) ⟨I,I,I,by show some _=some (Value.int .i64 ((v/10^(k+1):Nat):Int));rw[hu2],I,tO⟩ [] (by show _=[_,(⟨g,5,zrV (K-(6*i+(k+1)))++byV (G9 m (6*i+(k+1))),true,none⟩:Bx)]++[];rw[show 6*i+(k+1)=d+1 by omega,show K-(d+1)=K-d-1 by omega];rfl))))))))))))
   ·have hk6:k=6:=by omega
    subst hk6
    refine wU 29 false I (dF (by decide)) (Aa (zE (zS I (zJ (zK (zK (zL (zN (zE (zB (wP I (wP I (wV 22 ((i+1:Nat):Int) I (As (by omega)) ?_)))))))))))))
    exact wP I (Aa (Ay (i+1) hiL (by show L-(i+1)<L-i;omega) ⟨I,I,I,tO⟩ [] (by show _=[_,(⟨g,5,zrV (K-6*(i+1))++byV (G9 m (6*(i+1))),true,none⟩:Bx)]++[];rw[show 6*(i+1)=6*i+6 by omega];rfl)))
  ·have hiL:i=L:=by omega
   subst hiL
   exact wU 20 false I (dF (by omega)) (Aa (zE (zS I (zJ (zK (zK (zL (An () tO ⟨I,I,tO⟩ [] (by rw[←hK,Nat.sub_self];rfl)))))))))
 intro _ _
 obtain⟨nd,hnd⟩: ∃nd,(decDigits m).length=nd:=⟨_,rfl⟩
 have hndK:nd≤K:=by
  rw[←hnd]
  refine DO K m (by omega) ?_
  rw[hK, ←K2];exact hml
 have hnd0:0<nd:=by rw[←hnd];exact List.length_pos_iff.2 (FM _)
 have hlow:=Xg (m:=m) (d:=K) (by rw[hnd];exact hndK)
 rw[hnd] at hlow
 have hgetB: ∀j,j<K→ ∃b,(G9 m K)[j]? =some b∧(zrV 0++byV (G9 m K))[0+j]? =some (.int .u8 (b.toNat:Int)):=fun j hj=>by
  refine⟨(G9 m K)[j]'(by rw[Kg];exact hj),List.getElem?_eq_getElem _, ?_⟩
  exact Ts (k:=0) (by rw[Kg];exact hj)
 try refine AP ?_
 try refine Ao ?_
 refine AJ (X:=Unit) (fun _=>[(1,Ah b1),(3, .slice (some ⟨g,K-nd,none⟩) nd nd)]) (fun _=>[⟨b1,153,[.bool (decide (z<0)),slv p L cap],true,none⟩,⟨g,5,zrV 0++byV (G9 m K),true,none⟩]) (fun _=>True) ?_ ?_
 ·refine zH ?_
  refine A8 (X:=Nat) (fun j=>[(1,Ah b1),(3, .slice (some ⟨g,j,none⟩) (K-j) (K-j))]) (fun _=>[⟨b1,153,[.bool (decide (z<0)),slv p L cap],true,none⟩,⟨g,5,zrV 0++byV (G9 m K),true,none⟩]) (fun j=>j≤K-nd) (fun j=>K-nd-j) 0 (Nat.zero_le _) ⟨I,I,tO⟩ [] I ?_
  intro j hj
  have hj:j≤K-nd:=hj
  obtain⟨b,hb,hbc⟩:=hgetB j (by omega)
  rw[Nat.zero_add] at hbc
  have hrow: ∀W1 bxs,Hp W bxs W1→nth bxs 1=some (⟨g,5,zrV 0++byV (G9 m K),true,none⟩:Bx)→Ak W1 g j [.int .u8 (b.toNat:Int)]:=fun W1 bxs hp h1=>by
   have h:=Ak.of_bx hp 1 h1 rfl
   exact⟨h.lt,fun t u hu=>by
    have ht:t=0:=by have:=(List.getElem?_eq_some_iff.1 hu).1;simpa using this
    subst ht
    have hu:u= .int .u8 (b.toNat:Int):=by simpa using hu.symm
    rw[hu]
    have:=h.get j _ hbc
    rwa [Nat.zero_add] at this⟩
  refine zA (zA (zB (wP I (wI I I (by decide) (by show(0:Int)<((K-j:Nat):Int);omega) ?_))))
  refine Aj 48 (.pointer (some ⟨g,j,none⟩)) I I ?_
  refine wL 0 I I (fun W1 hp=>hrow W1 _ hp I) I (wP I (wU 50 (decide (b=48)) I (DK b 48) (Aa (zE ?_))))
  refine A0 I (fun h48=> ?_) (fun h48=> ?_)
  ·have h48:b=48:=of_decide_eq_true h48
   have hjl:j<K-nd:=by
    rcases Nat.lt_or_ge j (K-nd) with h|h
    ·exact h
    ·have e:j=K-nd:=by omega
     rw[hlow,List.getElem?_append_right (by rw[List.length_replicate];omega),List.length_replicate,e,Nat.sub_self,h48] at hb
     exact absurd (SA hb) hm0
   refine zI (zE (zH (zB (wP I ?_))))
   refine Ct 1 tH I I I I I I I I (by show 1≤K-j;omega) (Nat.le_refl _) ?_
   refine Aj 52 (.slice (some ⟨g,j+1,none⟩) (K-(j+1)) (K-(j+1))) I (by rw[if_neg (show¬K-j=1 by omega)];show Value.slice (some ⟨g,j+1*1,none⟩) (K-j-1) (K-j-1)=_;rw[show K-(j+1)=K-j-1 by omega]) ?_
   exact wP I (Aa (zN (Ay (j+1) hjl (by show K-nd-(j+1)<K-nd-j;omega) ⟨I,I,tO⟩ [] I)))
  ·have h48: ¬b=48:=of_decide_eq_false h48
   have e:j=K-nd:=by
    rcases Nat.lt_or_ge j (K-nd) with h|h
    ·rw[hlow,List.getElem?_append_left (by rw[List.length_replicate];exact h),List.getElem?_replicate_of_lt h] at hb
     exact absurd (Option.some.inj hb).symm h48
    ·omega
   exact zJ (zK (zK (zL (An () tO ⟨I,by rw[e,show K-(K-nd)=nd by omega];rfl,tO⟩ [] I))))
 intro _ _
 have hbytes: ∀j (hj:j<(decDigits m).length),(zrV 0++byV (G9 m K))[K-nd+j]? =some (.int .u8 ((decDigits m)[j].toNat:Int)):=fun j hj=>by
  obtain⟨b,hb,hbc⟩:=hgetB (K-nd+j) (by omega)
  rw[Nat.zero_add] at hbc
  rw[hbc]
  rw[hlow,List.getElem?_append_right (by rw[List.length_replicate];omega),List.length_replicate,Nat.add_sub_cancel_left,List.getElem?_eq_getElem hj] at hb
  rw[Option.some.inj hb]
 refine zA (zA (zB (wP I (wB 0 I I I (Aa (zE ?_))))))
 refine A0 I (fun hn=> ?_) (fun hn=> ?_)
 ·have hn:z<0:=of_decide_eq_true hn
  refine zA (zB (wP I ?_))
  refine Iq 1 (decDigits m) (e:=5) (by kernel_rfl) Tryz.underlying5 (by kernel_rfl) I I I I I I hnd.symm hbytes ?_
  refine Cq I I I I I (a:=[45]) (b:=decDigits m) (by decide) (by omega) ?_
  exact wP I (Aa (zE (zO (zP (wR1 I I (by rw[Cz,hm];unfold GV;rw[if_pos hn]))))))
 ·have hn: ¬z<0:=of_decide_eq_false hn
  refine zI (zE (zA (zB (wP I ?_))))
  refine Iq 1 (decDigits m) (e:=5) (by kernel_rfl) Tryz.underlying5 (by kernel_rfl) I I I I I I hnd.symm hbytes ?_
  exact wP I (Aa (zE (zO (wR1 I I (by rw[Cz,hm];unfold GV;rw[if_neg hn];rfl)))))
theorem EW (z:Int) (hl:(decDigits z.natAbs).length≤300) (W:World) (p:Option Addr) (cap:Nat) (hA:A6 W p (lbs br z.natAbs)):
  Ai Tryz.prog 200 #[.agg #[.bool (decide (z<0)),slv p (lbs br z.natAbs).length cap]] W (fun _:Unit=> .tuple #[str (itoa z), .int .i64 0]) (fun _=>True) (fun _=>[]):=by
 refine Ae (args:=[.agg #[.bool (decide (z<0)),slv p (lbs br z.natAbs).length cap]]) Tryz.func200 I I I ?_
 refine zA (zB ?_)
 (refine Ax rfl rfl rfl rfl ?_;intro)
 refine wP I (wP I (Aa (zE (zA (zB (wB 0 I I I (wC I I (fun W hp=>F6 z (by omega) W p cap (hA.hp hp)) (wP I (Aa (zE (zA (zA (zB ?_)))))))))))))
 refine wP I (wC I I (fun W _=>FH z hl W) (wP I (Aa (zE (zS I (zI (zE (zA (zB (wP I (wP I (wP I (Aa ?_)))))))))))))
 exact zE (zO (wR2 I I I))
-- BOXES 6
-- CODE2
abbrev JI (z:Int) (p:Option Addr) (cap:Nat):Value:= .agg #[.bool (decide (z<0)),slv p (lbs br z.natAbs).length cap]
abbrev NX (b:Nat) (z:Int) (p:Option Addr) (cap:Nat):Bx:=⟨b,153,[.bool (decide (z<0)),slv p (lbs br z.natAbs).length cap],true,none⟩
theorem SE (z:Int) (W:World) (p:Option Addr) (cap:Nat):Ai Tryz.prog 177 #[JI z p cap] W (fun _:Unit=>JI (-z) p cap) (fun _=>True) (fun _=>[]):=by
 obtain⟨n,hn⟩: ∃n,z.natAbs=n:=⟨_,rfl⟩
 refine Ae (args:=[JI z p cap]) Tryz.func177 I I I ?_
 unfold JI
 rw[Int.natAbs_neg,hn]
 refine zA (zB ?_)
 (refine Ax rfl rfl rfl rfl ?_;intro)
 (refine Af Tryz.hZ rfl rfl rfl rfl ?_;intro)
 refine Aa (zE (zA (zA (zB (wP I (wB 0 I I I (wP I (wP I ?_))))))))
 by_cases h0:n=0
 ·have hz:z=0:=by omega
  exact wU 6 true I (by rw[h0,Bh];rfl) (Aa (zE (zR I (zA (zB (wB 0 I I I (wS 1 I I I (Aa (zE (zO (zP (Az tH I (.cell 1 I I I I I) () (by rw[hz];rfl) tO fun W _=>Ar.nil _ _))))))))))))
 ·have hL:(lbs br n).length≠0:=fun e=>h0 ((DI br2).1 (List.length_eq_zero_iff.1 e))
  refine wU 6 false I (by rw[beq_eq_false_iff_ne];omega) (Aa (zE (zS I (zI (zE (zA (zB (wP I (wB 0 I I I (wP I (wP I (wB 0 I I I ?_))))))))))))
  refine Av Tryz.hZ tH I I I I I I I I ?_
  refine wS 1 I I I (Aa (zE (zO ?_)))
  exact Az tH I (.cell 1 I I I I I) () (by
   show Value.agg #[.bool (!decide (z<0)),_]=_
   have e:(!decide (z<0))=decide (-z<0):=by
    by_cases h:z<0
    ·rw[dT h,dF (by omega)];rfl
    ·rw[dF h,dT (by omega)];rfl
   rw[e]) trivial fun W _=>Ar.nil _ _
theorem Js (a b:Int) (W:World) (p q:Option Addr) (cap cap2:Nat) (hA:A6 W p (lbs br a.natAbs)) (hB:A6 W q (lbs br b.natAbs)) (hna:(lbs br a.natAbs).length≤1000) (hnb:(lbs br b.natAbs).length≤1000):
  Ai Tryz.prog 176 #[JI a p cap,JI b q cap2] W (fun x:NV=>XX (a+b) x) (fun x=>CB x (lbs br (a+b).natAbs)) (fun x=>[BZ x (lbs br (a+b).natAbs)]):=by
 refine Ae (args:=[JI a p cap,JI b q cap2]) Tryz.func176 I I I ?_
 refine zA (zB ?_)
 (refine Ax rfl rfl rfl rfl ?_;intro)
 (refine Ax rfl rfl rfl rfl ?_;intro)
 (refine Af Tryz.hZ rfl rfl rfl rfl ?_;intro)
 refine Aa ?_
 rename_i b2 b3 b4
 refine zE (zA (zA (zB (wP I (wB 0 I I I (wP I (wB 1 I I I ?_)))))))
 by_cases hs:decide (a<0)=decide (b<0)
 ·refine HR (c:=true) Tryz.underlying4 I I I I I (congrArg some (by rw[hs];exact beq_self_eq_true _)) ?_
  refine Aa ?_
  have en:(a+b).natAbs=a.natAbs+b.natAbs:=by
   by_cases h1:a<0<;>by_cases h2:b<0<;>simp[h1,h2] at hs<;>omega
  have es:decide (a<0)=decide (a+b<0):=by
   by_cases h1:a<0<;>by_cases h2:b<0<;>simp[h1,h2] at hs⊢ <;>omega
  refine zE (zR I (Ao ?_))
  refine AL (X:= { x:NV//CB x (lbs br (a+b).natAbs) }) [true,true,true,true,true,true,false,false,false] (fun _=>[(4,Ah b4)]) (fun x=>[NX b2 a p cap,NX b3 b q cap2,⟨b4,153,[.bool (decide (a+b<0)),BG x.1 (lbs br (a+b).natAbs).length],true,none⟩,BZ x.1 (lbs br (a+b).natAbs)])
   3 [NX b2 a p cap,NX b3 b q cap2,⟨b4,153,[.bool false, .slice none 0 0],true,none⟩] Tryz.mixed (by kernel_rfl) ?_ ?_
  ·refine qP I (qB 0 I I I (qP I (qB 0 I I I (qP I (qB 1 I I I (Bu (wX (wZ ?_))))))))
   refine wD (X:=NV) rfl rfl (fun W' hp=>RN W' p q cap cap2 a.natAbs b.natAbs (hA.hp hp) (hB.hp hp) (by omega) (by omega)) ?_;intro x hx
   refine Aa (Ac (wX (wZ ?_)))
   refine Av Tryz.hZ tH I I I I I I I I ?_
   refine Aa (Ac (wX (wZ (wS 2 I I I (Aa (Ac ?_))))))
   rw[←en] at hx⊢;first|refine A5 rfl (by((repeat (first|refine A9.same ?_|refine A9.off rfl ?_));exact trivial)) ?_|refine AF rfl (by kernel_rfl) ?_
   exact Al ⟨x,hx⟩ ⟨I,tO⟩ [0,1,2,3] (by decide) (by rw[es];rfl)
  rintro⟨x,hx⟩
  exact zE (zO (zP (Az tH I (.cell 2 I I I I I) x I hx fun W hp=>Ar.of_hp1 hp 3 I)))
 refine HR (c:=false) Tryz.underlying4 I I I I I (congrArg some (beq_eq_false_iff_ne.2 hs)) ?_
 refine Aa (zE (zS I (zI (zE (zA (zA (zB (wP I (wB 0 I I I (wP I (wB 1 I I I (wC I I (fun W' hp=>Lh W' p q cap cap2 a.natAbs b.natAbs (hA.hp hp) (hB.hp hp) (by omega) (by omega)) (wP I ?_)))))))))))))
 refine wU 24 (decide (a.natAbs<b.natAbs)) I (decide_eq_decide.2 (by unfold Mc;split<;>(try split)<;>omega)) (Aa (AP ?_))
 try refine Ao ?_
 refine AJ (X:=(Int×Option Addr×Nat)×(Int×Option Addr×Nat)) (fun _=>[(2,Ah b2),(3,Ah b3),(4,Ah b4)]) (fun x=>[NX b2 x.1.1 x.1.2.1 x.1.2.2,NX b3 x.2.1 x.2.2.1 x.2.2.2,⟨b4,153,[.bool false, .slice none 0 0],true,none⟩])
  (fun x=>A6 W x.1.2.1 (lbs br x.1.1.natAbs)∧A6 W x.2.2.1 (lbs br x.2.1.natAbs)∧x.2.1.natAbs≤x.1.1.natAbs∧x.1.1+x.2.1=a+b∧(decide (x.1.1<0)≠decide (x.2.1<0))∧(lbs br x.1.1.natAbs).length≤1000) ?_ ?_
 ·refine A0 I (fun h=> ?_) (fun h=> ?_)
  ·have h:a.natAbs<b.natAbs:=of_decide_eq_true h
   exact zB (wB 1 I I I (wB 0 I I I (wS 0 I I I (wS 1 I I I (Aa (An ((b,q,cap2),(a,p,cap)) ⟨hB,hA,Nat.le_of_lt h,Int.add_comm ..,Ne.symm hs,hnb⟩ ⟨I,I,I,tO⟩ [] I))))))
  ·have h: ¬a.natAbs<b.natAbs:=of_decide_eq_false h
   exact zI (An ((a,p,cap),(b,q,cap2)) ⟨hA,hB,by show b.natAbs≤a.natAbs;omega,I,hs,hna⟩ ⟨I,I,I,tO⟩ [] I)
 rintro⟨⟨u,pu,cu⟩,⟨v,pv,cv⟩⟩ ⟨hU,hV,hle,hsum,hsg,hul⟩
 have hU:A6 W pu (lbs br u.natAbs):=hU
 have hV:A6 W pv (lbs br v.natAbs):=hV
 have hle:v.natAbs≤u.natAbs:=hle
 have hsum:u+v=a+b:=hsum
 have hsg:decide (u<0)≠decide (v<0):=hsg
 have hul:(lbs br u.natAbs).length≤1000:=hul
 have en:(a+b).natAbs=u.natAbs-v.natAbs:=by
  rw[←hsum]
  by_cases h1:u<0<;>by_cases h2:v<0<;>simp[h1,h2] at hsg<;>omega
 have es:(a+b).natAbs≠0→decide (u<0)=decide (a+b<0):=fun h0=>by
  rw[←hsum] at h0⊢
  by_cases h1:u<0<;>by_cases h2:v<0<;>simp[h1,h2] at hsg⊢ <;>omega
 refine Ao ?_
 refine AL (X:= { y:Nat×NV//CB y.2 (lbs br (a+b).natAbs) }) [true,true,true,true,true,true,false,false,false,false] (fun y=>[(4,Ah b4),(5,Ah y.1.1)]) (fun y=>[⟨b4,153,[.bool false, .slice none 0 0],true,none⟩,⟨y.1.1,153,[.bool (decide (u<0)),BG y.1.2 (lbs br (a+b).natAbs).length],true,none⟩,BZ y.1.2 (lbs br (a+b).natAbs)])
  4 [NX b2 u pu cu,NX b3 v pv cv,⟨b4,153,[.bool false, .slice none 0 0],true,none⟩] Tryz.mixed (by kernel_rfl) ?_ ?_
 ·refine qP I (qB 0 I I I (qP I (qB 0 I I I (qP I (qB 1 I I I (Bu (wX ?_)))))))
  refine RS.cons ?_ (RS.cons ?_ (RS.nil))
  ·refine wD (X:=NV) rfl rfl (fun W' hp=>FD W' pu pv cu cv u.natAbs v.natAbs hle (hU.hp hp) (hV.hp hp) (by omega)) ?_;intro x hx
   refine Aa (Ac (wX ?_))
   refine RS.cons ?_ (RS.cons ?_ (RS.nil))
   ·refine Av Tryz.hZ tH I I I I I I I I ?_
    refine Aa (Ac (wX (wZ ?_)))
    refine Af Tryz.hZ rfl rfl rfl rfl ?_;intro b5
    refine Aa (Ac (wX (wZ (wS 4 I I I (Aa (Ac ?_))))))
    rw[←en] at hx⊢;first|refine A5 rfl (by((repeat (first|refine A9.same ?_|refine A9.off rfl ?_));exact trivial)) ?_|refine AF rfl (by kernel_rfl) ?_
    exact Al ⟨(b5,x),hx⟩ ⟨I,I,tO⟩ [2,4,3] (by decide) I
   ·refine Af Tryz.hZ rfl rfl rfl rfl ?_;intro b5
    refine Aa (Ac (wX (wZ ?_)))
    refine Av Tryz.hZ tH I I I I I I I I ?_
    refine Aa (Ac (wX (wZ (wS 4 I I I (Aa (Ac ?_))))))
    rw[←en] at hx⊢;first|refine A5 rfl (by((repeat (first|refine A9.same ?_|refine A9.off rfl ?_));exact trivial)) ?_|refine AF rfl (by kernel_rfl) ?_
    exact Al ⟨(b5,x),hx⟩ ⟨I,I,tO⟩ [2,4,3] (by decide) I
  ·refine Af Tryz.hZ rfl rfl rfl rfl ?_;intro b5
   refine Aa (Ac (wX (wZ ?_)))
   refine wD (X:=NV) rfl rfl (fun W' hp=>FD W' pu pv cu cv u.natAbs v.natAbs hle (hU.hp hp) (hV.hp hp) (by omega)) ?_;intro x hx
   refine Aa (Ac (wX (wZ ?_)))
   refine Av Tryz.hZ tH I I I I I I I I ?_
   refine Aa (Ac (wX (wZ (wS 3 I I I (Aa (Ac ?_))))))
   rw[←en] at hx⊢;first|refine A5 rfl (by((repeat (first|refine A9.same ?_|refine A9.off rfl ?_));exact trivial)) ?_|refine AF rfl (by kernel_rfl) ?_
   exact Al ⟨(b5,x),hx⟩ ⟨I,I,tO⟩ [2,3,4] (by decide) I
 rintro⟨⟨b5,x⟩,hx⟩
 have hx:CB x (lbs br (a+b).natAbs):=hx
 refine zE (zA (zA (zB (wP I (wB 1 I I I (wP I (wP I ?_)))))))
 refine Aj 38 (.bool (decide ((a+b).natAbs=0))) I (congrArg Value.bool (by
  by_cases h0:(a+b).natAbs=0
  ·rw[dT h0,h0,Bh];rfl
  ·have hL:(lbs br (a+b).natAbs).length≠0:=fun e=>h0 ((DI br2).1 (List.length_eq_zero_iff.1 e))
   rw[dF h0,beq_eq_false_iff_ne];omega)) ?_
 refine Aa (AP ?_)
 try refine Ao ?_
 refine AJ (X:=Unit) (fun _=>[(4,Ah b4),(5,Ah b5)]) (fun _=>[⟨b4,153,[.bool false, .slice none 0 0],true,none⟩,⟨b5,153,[.bool (decide (a+b<0)),BG x (lbs br (a+b).natAbs).length],true,none⟩,BZ x (lbs br (a+b).natAbs)]) (fun _=>True) ?_ ?_
 ·refine A0 I (fun h=> ?_) (fun h=> ?_)
  ·have h:(a+b).natAbs=0:=of_decide_eq_true h
   exact zB (wP I (wS 1 I I I (Aa (An () tO ⟨I,I,tO⟩ [] (by rw[dF (show¬a+b<0 by omega)];rfl)))))
  ·have h: ¬(a+b).natAbs=0:=of_decide_eq_false h
   exact zI (An () tO ⟨I,I,tO⟩ [] (by rw[←es h];rfl))
 intro _ _
 exact zA (zB (wB 1 I I I (wS 0 I I I (Aa (zE (zO (Az tH I (.cell 0 I I I I I) x I hx fun W hp=>Ar.of_hp1 hp 2 I)))))))
theorem Hj (a b:Int) (W:World) (p q:Option Addr) (cap cap2:Nat) (hA:A6 W p (lbs br a.natAbs)) (hB:A6 W q (lbs br b.natAbs)) (hna:(lbs br a.natAbs).length≤1000) (hnb:(lbs br b.natAbs).length≤1000):
  Ai Tryz.prog 220 #[JI a p cap,JI b q cap2] W (fun x:NV=>XX (a*b) x) (fun x=>CB x (lbs br (a*b).natAbs)) (fun x=>[BZ x (lbs br (a*b).natAbs)]):=by
 have en:(a*b).natAbs=a.natAbs*b.natAbs:=Int.natAbs_mul a b
 have es:(a*b).natAbs≠0→(decide (a<0) !=decide (b<0))=decide (a*b<0):=fun h0=>by
  rw[en] at h0
  have ha:a≠0:=fun e=>h0 (by rw[e];simp)
  have hb:b≠0:=fun e=>h0 (by rw[e];simp)
  by_cases h1:a<0<;>by_cases h2:b<0
  ·rw[dT h1,dT h2,dF (by have:=Int.mul_pos_of_neg_of_neg h1 h2;omega)];rfl
  ·rw[dT h1,dF h2,dT (Int.mul_neg_of_neg_of_pos h1 (by omega))];rfl
  ·rw[dF h1,dT h2,dT (Int.mul_neg_of_pos_of_neg (by omega) h2)];rfl
  ·rw[dF h1,dF h2,dF (by have:=Int.mul_pos (show 0<a by omega) (show 0<b by omega);omega)];rfl
 refine Ae (args:=[JI a p cap,JI b q cap2]) Tryz.func220 I I I ?_
 refine zA (zB ?_)
 (refine Ax rfl rfl rfl rfl ?_;intro)
 (refine Ax rfl rfl rfl rfl ?_;intro)
 (refine Af Tryz.hZ rfl rfl rfl rfl ?_;intro)
 refine Aa ?_
 rename_i b2 b3 b4
 refine zE (Ao ?_)
 refine AL (X:= { y:Nat×NV//CB y.2 (lbs br (a*b).natAbs) }) [true,true,true,true,true,true,true,true,true,false,false,false,false] (fun y=>[(4,Ah b4),(5,Ah y.1.1)]) (fun y=>[⟨b4,153,[.bool false, .slice none 0 0],true,none⟩,⟨y.1.1,153,[.bool (decide (a<0) !=decide (b<0)),BG y.1.2 (lbs br (a*b).natAbs).length],true,none⟩,BZ y.1.2 (lbs br (a*b).natAbs)])
  4 [NX b2 a p cap,NX b3 b q cap2,⟨b4,153,[.bool false, .slice none 0 0],true,none⟩] Tryz.mixed (by kernel_rfl) ?_ ?_
 ·refine qP I (qB 0 I I I (qP I (qB 1 I I I ?_)))
  refine VW Tryz.underlying4 I I I I I I ?_
  refine qP I (qB 0 I I I (qP I (qB 1 I I I (Bu (wX ?_)))))
  refine RS.cons ?_ (RS.cons ?_ (RS.nil))
  ·refine wD (X:=NV) rfl rfl (fun W' hp=>JU W' p q cap cap2 a.natAbs b.natAbs (hA.hp hp) (hB.hp hp) (by omega) (by omega)) ?_;intro x hx
   refine Aa (Ac (wX ?_))
   refine RS.cons ?_ (RS.cons ?_ (RS.nil))
   ·refine Av Tryz.hZ tH I I I I I I I I ?_
    refine Aa (Ac (wX (wZ ?_)))
    refine Af Tryz.hZ rfl rfl rfl rfl ?_;intro b5
    refine Aa (Ac (wX (wZ (wS 4 I I I (Aa (Ac ?_))))))
    rw[←en] at hx⊢;first|refine A5 rfl (by((repeat (first|refine A9.same ?_|refine A9.off rfl ?_));exact trivial)) ?_|refine AF rfl (by kernel_rfl) ?_
    exact Al ⟨(b5,x),hx⟩ ⟨I,I,tO⟩ [2,4,3] (by decide) I
   ·refine Af Tryz.hZ rfl rfl rfl rfl ?_;intro b5
    refine Aa (Ac (wX (wZ ?_)))
    refine Av Tryz.hZ tH I I I I I I I I ?_
    refine Aa (Ac (wX (wZ (wS 4 I I I (Aa (Ac ?_))))))
    rw[←en] at hx⊢;first|refine A5 rfl (by((repeat (first|refine A9.same ?_|refine A9.off rfl ?_));exact trivial)) ?_|refine AF rfl (by kernel_rfl) ?_
    exact Al ⟨(b5,x),hx⟩ ⟨I,I,tO⟩ [2,4,3] (by decide) I
  ·refine Af Tryz.hZ rfl rfl rfl rfl ?_;intro b5
   refine Aa (Ac (wX (wZ ?_)))
   refine wD (X:=NV) rfl rfl (fun W' hp=>JU W' p q cap cap2 a.natAbs b.natAbs (hA.hp hp) (hB.hp hp) (by omega) (by omega)) ?_;intro x hx
   refine Aa (Ac (wX (wZ ?_)))
   refine Av Tryz.hZ tH I I I I I I I I ?_
   refine Aa (Ac (wX (wZ (wS 3 I I I (Aa (Ac ?_))))))
   rw[←en] at hx⊢;first|refine A5 rfl (by((repeat (first|refine A9.same ?_|refine A9.off rfl ?_));exact trivial)) ?_|refine AF rfl (by kernel_rfl) ?_
   exact Al ⟨(b5,x),hx⟩ ⟨I,I,tO⟩ [2,3,4] (by decide) I
 rintro⟨⟨b5,x⟩,hx⟩
 have hx:CB x (lbs br (a*b).natAbs):=hx
 refine zE (zA (zA (zB (wP I (wB 1 I I I (wP I (wP I ?_)))))))
 refine Aj 20 (.bool (decide ((a*b).natAbs=0))) I (congrArg Value.bool (by
  by_cases h0:(a*b).natAbs=0
  ·rw[dT h0,h0,Bh];rfl
  ·have hL:(lbs br (a*b).natAbs).length≠0:=fun e=>h0 ((DI br2).1 (List.length_eq_zero_iff.1 e))
   rw[dF h0,beq_eq_false_iff_ne];omega)) ?_
 refine Aa (AP ?_)
 try refine Ao ?_
 refine AJ (X:=Unit) (fun _=>[(4,Ah b4),(5,Ah b5)]) (fun _=>[⟨b4,153,[.bool false, .slice none 0 0],true,none⟩,⟨b5,153,[.bool (decide (a*b<0)),BG x (lbs br (a*b).natAbs).length],true,none⟩,BZ x (lbs br (a*b).natAbs)]) (fun _=>True) ?_ ?_
 ·refine A0 I (fun h=> ?_) (fun h=> ?_)
  ·have h:(a*b).natAbs=0:=of_decide_eq_true h
   exact zB (wP I (wS 1 I I I (Aa (An () tO ⟨I,I,tO⟩ [] (by rw[dF (show¬a*b<0 by omega)];rfl)))))
  ·have h: ¬(a*b).natAbs=0:=of_decide_eq_false h
   exact zI (An () tO ⟨I,I,tO⟩ [] (by rw[←es h];rfl))
 intro _ _
 exact zA (zB (wB 1 I I I (wS 0 I I I (Aa (zE (zO (Az tH I (.cell 0 I I I I I) x I hx fun W hp=>Ar.of_hp1 hp 2 I)))))))
-- BOXES 6
-- CODE2
theorem FX {z:Int} (h:(decDigits z.natAbs).length≤300):(itoa z).length≤301:=by
 rw[Cz,List.length_append]
 have:=LU z
 omega
theorem H7 {a b:Int} (h:(smI a&&smI b)=true):BE Tryz.prog 142 [str (itoa a),str (itoa b)] (.tuple #[.int .i64 a, .int .i64 b, .bool true]):=fun W=>by
 obtain⟨h1,h2⟩:=Bool.and_eq_true_iff.1 h
 have l1:(itoa a).length≤17:=of_decide_eq_true h1
 have l2:(itoa b).length≤17:=of_decide_eq_true h2
 have:=N6 a b (by omega) (by omega) W
 rw[h1,h2] at this
 exact this
theorem Ho {a b:Int} (h:(smI a&&smI b)=false) (ha:(decDigits a.natAbs).length≤300) (hb:(decDigits b.natAbs).length≤300): ∃x y:Int,BE Tryz.prog 142 [str (itoa a),str (itoa b)] (.tuple #[.int .i64 x, .int .i64 y, .bool false]):=
 ⟨_,_,fun W=>by
  have l1:=FX ha
  have l2:=FX hb
  have:=N6 a b (by omega) (by omega) W
  rw[h] at this
  exact this⟩
theorem Jp (a b:Int) (ha:(decDigits a.natAbs).length≤300) (hb:(decDigits b.natAbs).length≤300) (hab:(decDigits (a*b).natAbs).length≤300) (W:World) (ht:AM W):
  Ai Tryz.prog 175 #[str (itoa a),str (itoa b)] W (fun _:Unit=> .tuple #[str (itoa (a*b)), .int .i64 0]) (fun _=>True) (fun _=>[]):=by
 have la:=CF (m:=a.natAbs) (by omega)
 have lb:=CF (m:=b.natAbs) (by omega)
 have l1:=FX ha
 have l2:=FX hb
 refine Ae (args:=[str (itoa a),str (itoa b)]) Tryz.func175 I I I ?_
 refine zA (zB (wP I (wP I (Aa (zE (zA (zA (zB (wP I (wP I (wC I I (fun W _=>Dy a b ha hb W) (wP I (Aa ?_)))))))))))))
 refine zE (zA (zB (wP I (wP I (Aa (zE (zS I (zI (zE (zA (zA (zB ?_))))))))))))
 cases hs:smI a&&smI b with
 |true=>
  refine wP I (wP I (wC I I (fun W _=>H7 hs W) ?_))
  iterate 7 refine wP I ?_
  refine Aa (zE (zA (zB (wP I (wP I (wP I (wP I ?_)))))))
  refine Aj 26 (.int .i64 ((itoa a).length:Nat)) I (congrArg (fun n:Nat=>Value.int .i64 (n:Int)) (AA _)) ?_
  refine wP I (wP I ?_)
  refine Aj 28 (.int .i64 ((itoa b).length:Nat)) I (congrArg (fun n:Nat=>Value.int .i64 (n:Int)) (AA _)) ?_
  refine wP I (wV 29 (((itoa a).length+(itoa b).length:Nat):Int) I (AW (by omega)) (wP I (wU 30 (decide ((itoa a).length+(itoa b).length≤18)) I (decide_eq_decide.2 (by omega)) (wP I (Aa (zE ?_))))))
  refine A0 I (fun h18=> ?_) (fun h18=> ?_)
  ·have h18:(itoa a).length+(itoa b).length≤18:=of_decide_eq_true h18
   have hm:(a*b).natAbs<1000000000000000000:=by
    have p1:=DL a.natAbs
    have p2:=DL b.natAbs
    have q1:(decDigits a.natAbs).length≤(itoa a).length:=by rw[Cz,List.length_append];omega
    have q2:(decDigits b.natAbs).length≤(itoa b).length:=by rw[Cz,List.length_append];omega
    rw[Int.natAbs_mul]
    have r1:=Nat.mul_lt_mul'' p1 p2
    rw[←Nat.pow_add] at r1
    exact Nat.lt_of_lt_of_le r1 (show _≤10^18 from Nat.pow_le_pow_right (by decide) (by omega))
   exact zA (zB (wP I (wP I (wP I (wV 34 (a*b) I (Au (by omega) (by omega)) (wC I I (fun W hp=>B7 (a*b) (by omega) (by omega) W (ht.hp hp)) (wP I (wP I (Aa (zE (zO (zP (wR2 I I I)))))))))))))
  ·refine zI (zE (zA (zB (wP I ?_))))
   refine wD (X:=NV) I I (fun W' _=>Bk a (by omega) W') ?_
   intro x hx
   refine wP I ?_
   refine wD (X:=NV) I I (fun W' _=>Bk b (by omega) W') ?_
   intro y hy
   refine wD (X:=NV) I I (fun W' hp=>Hj a b W' (some ⟨x.1,0,none⟩) (some ⟨y.1,0,none⟩) x.2.1 y.2.1 (A6.of_bx hp 0 I) (A6.of_bx hp 1 I) (by omega) (by omega)) ?_
   intro w hw
   exact wC I I (fun W' hp=>EW (a*b) hab W' (some ⟨w.1,0,none⟩) w.2.1 (A6.of_bx hp 2 I)) (wP I (wP I (wP I (wP I (Aa (zE (zO (wR2 I I I))))))))
 |false=>
  obtain⟨x0,y0,h2⟩:=Ho hs ha hb
  refine wP I (wP I (wC I I (fun W _=>h2 W) ?_))
  iterate 7 refine wP I ?_
  refine Aa (zE (zA (zB (wP I (wP I ?_)))))
  iterate 6 refine At I I ?_
  refine wP I (Aa (zE (zS I (zI (zE (zA (zB (wP I ?_))))))))
  refine wD (X:=NV) I I (fun W' _=>Bk a (by omega) W') ?_
  intro x hx
  refine wP I ?_
  refine wD (X:=NV) I I (fun W' _=>Bk b (by omega) W') ?_
  intro y hy
  refine wD (X:=NV) I I (fun W' hp=>Hj a b W' (some ⟨x.1,0,none⟩) (some ⟨y.1,0,none⟩) x.2.1 y.2.1 (A6.of_bx hp 0 I) (A6.of_bx hp 1 I) (by omega) (by omega)) ?_
  intro w hw
  exact wC I I (fun W' hp=>EW (a*b) hab W' (some ⟨w.1,0,none⟩) w.2.1 (A6.of_bx hp 2 I)) (wP I (wP I (wP I (wP I (Aa (zE (zO (wR2 I I I))))))))
theorem S9 (a b:Int) (ha:(decDigits a.natAbs).length≤300) (hb:(decDigits b.natAbs).length≤300) (W:World):
  Ai Tryz.prog 123 #[str (itoa a),str (itoa b)] W (fun _:Unit=> .tuple #[.int .i64 (G3 a b), .int .i64 0]) (fun _=>True) (fun _=>[]):=by
 have la:=CF (m:=a.natAbs) (by omega)
 have lb:=CF (m:=b.natAbs) (by omega)
 refine Ae (args:=[str (itoa a),str (itoa b)]) Tryz.func123 I I I ?_
 refine zA (zB (wP I (wP I (Aa (zE (zA (zA (zB (wP I (wP I (wC I I (fun W _=>Dy a b ha hb W) (wP I (Aa ?_)))))))))))))
 refine zE (zA (zB (wP I (wP I (Aa (zE (zS I (zI (zE (zA (zA (zB ?_))))))))))))
 cases hs:smI a&&smI b with
 |true=>
  refine wP I (wP I (wC I I (fun W _=>H7 hs W) ?_))
  iterate 7 refine wP I ?_
  refine Aa (zE (zA (zB (wP I (Aa (zE (zR I (zA (zA (zB (wP I (wP I (wP I ?_)))))))))))))
  by_cases h1:a<b
  ·exact wU 27 true I (dT h1) (Aa (zE (zR I (zA (zB (wP I (wP I (Aa (zE (zO (zP (zP (wR2 I I (by rw[G3,if_pos h1]))))))))))))))
  refine wU 27 false I (dF h1) (Aa (zE (zS I (zI (zE (zA (zA (zB (wP I (wP I (wP I ?_)))))))))))
  by_cases h2:b<a
  ·exact wU 30 true I (dT h2) (Aa (zE (zR I (zA (zB (wP I (wP I (Aa (zE (zO (zP (zP (wR2 I I (by rw[G3,if_neg h1,if_neg (by omega)]))))))))))))))
  exact wU 30 false I (dF h2) (Aa (zE (zS I (zI (zE (zA (zB (wP I (wP I (Aa (zE (zO (zP (wR2 I I (by rw[G3,if_neg h1,if_pos (by omega)])))))))))))))))
 |false=>
  obtain⟨x0,y0,h2⟩:=Ho hs ha hb
  refine wP I (wP I (wC I I (fun W _=>h2 W) ?_))
  iterate 7 refine wP I ?_
  refine Aa (zE (zA (zB (wP I (Aa (zE (zS I (zI (zE (zA (zB (wP I ?_))))))))))))
  refine wD (X:=NV) I I (fun W' _=>Bk a (by omega) W') ?_
  intro x hx
  refine wP I ?_
  refine wD (X:=NV) I I (fun W' _=>Bk b (by omega) W') ?_
  intro y hy
  refine wC I I (fun W' hp=>SE b W' (some ⟨y.1,0,none⟩) y.2.1) ?_
  refine wD (X:=NV) I I (fun W' hp=>Js a (-b) W' (some ⟨x.1,0,none⟩) (some ⟨y.1,0,none⟩) x.2.1 y.2.1 (A6.of_bx hp 0 I) (by rw[Int.natAbs_neg];exact A6.of_bx hp 1 I) (by omega) (by rw[Int.natAbs_neg];omega)) ?_
  intro w hw
  (refine Af Tryz.hZ rfl rfl rfl rfl ?_;intro)
  refine wS 3 I I I (Aa ?_)
  rename_i b10
  refine zE (zA (zA (zB (wP I (wB 3 I I I (wP I (wP I ?_)))))))
  refine Aj 40 (.bool (decide (a=b))) I (congrArg Value.bool (by
   by_cases h0:a=b
   ·rw[dT h0,show(a+ -b).natAbs=0 by omega,Bh];rfl
   ·have hL:(lbs br (a+ -b).natAbs).length≠0:=fun e=>by have:=(DI br2).1 (List.length_eq_zero_iff.1 e);omega
    rw[dF h0,beq_eq_false_iff_ne];omega)) ?_
  refine Aa (zE ?_)
  refine A0 I (fun h0=> ?_) (fun h0=> ?_)
  ·have h0:a=b:=of_decide_eq_true h0
   exact zA (zB (wP I (wP I (Aa (zE (zO (zP (wR2 I I (by rw[G3,if_neg (by omega),if_pos h0])))))))))
  have h0: ¬a=b:=of_decide_eq_false h0
  refine zI (zE (zA (zA (zB (wP I (wB 3 I I I (Aa (zE ?_))))))))
  refine A0 I (fun h1=> ?_) (fun h1=> ?_)
  ·have h1:a+ -b<0:=of_decide_eq_true h1
   exact zA (zB (wP I (wP I (Aa (zE (zO (zP (wR2 I I (by rw[G3,if_pos (by omega)])))))))))
  ·have h1: ¬a+ -b<0:=of_decide_eq_false h1
   exact zI (zE (zA (zB (wP I (wP I (Aa (zE (zO (wR2 I I (by rw[G3,if_neg (by omega),if_neg h0]))))))))))
-- BOXES 6
-- CODE2
theorem Se (a b:Int) (ha:(decDigits a.natAbs).length≤300) (hb:(decDigits b.natAbs).length≤300) (hab:(decDigits (a+b).natAbs).length≤300) (W:World) (ht:AM W):
  Ai Tryz.prog 149 #[str (itoa a),str (itoa b)] W (fun _:Unit=> .tuple #[str (itoa (a+b)), .int .i64 0]) (fun _=>True) (fun _=>[]):=by
 have la:=CF (m:=a.natAbs) (by omega)
 have lb:=CF (m:=b.natAbs) (by omega)
 refine Ae (args:=[str (itoa a),str (itoa b)]) Tryz.func149 I I I ?_
 refine zA (zB (wP I (wP I (Aa (zE (zA (zA (zB (wP I (wP I (wC I I (fun W _=>Dy a b ha hb W) (wP I (Aa ?_)))))))))))))
 refine zE (zA (zB (wP I (wP I (Aa (zE (zS I (zI (zE (zA (zA (zB ?_))))))))))))
 cases hs:smI a&&smI b with
 |true=>
  obtain⟨h1,h2⟩:=Bool.and_eq_true_iff.1 hs
  have b1:=HW h1
  have b2:=HW h2
  refine wP I (wP I (wC I I (fun W _=>H7 hs W) ?_))
  iterate 7 refine wP I ?_
  refine Aa (zE (zA (zB (wP I (Aa (zE (zR I (zA (zB (wP I (wP I (wP I (wV 26 (a+b) I (Au (by omega) (by omega)) ?_)))))))))))))
  exact wC I I (fun W hp=>B7 (a+b) (by omega) (by omega) W (ht.hp hp)) (wP I (wP I (Aa (zE (zO (zP (wR2 I I I)))))))
 |false=>
  obtain⟨x0,y0,h2⟩:=Ho hs ha hb
  refine wP I (wP I (wC I I (fun W _=>h2 W) ?_))
  iterate 7 refine wP I ?_
  refine Aa (zE (zA (zB (wP I (Aa (zE (zS I (zI (zE (zA (zB (wP I ?_))))))))))))
  refine wD (X:=NV) I I (fun W' _=>Bk a (by omega) W') ?_
  intro x hx
  refine wP I ?_
  refine wD (X:=NV) I I (fun W' _=>Bk b (by omega) W') ?_
  intro y hy
  refine wD (X:=NV) I I (fun W' hp=>Js a b W' (some ⟨x.1,0,none⟩) (some ⟨y.1,0,none⟩) x.2.1 y.2.1 (A6.of_bx hp 0 I) (A6.of_bx hp 1 I) (by omega) (by omega)) ?_
  intro w hw
  exact wC I I (fun W' hp=>EW (a+b) hab W' (some ⟨w.1,0,none⟩) w.2.1 (A6.of_bx hp 2 I)) (wP I (wP I (wP I (wP I (Aa (zE (zO (wR2 I I I))))))))
-- BOXES 6
-- CODE2
theorem EZ {z:Int} (h: ¬okN z):IL z= .tuple #[str [], .int .i64 4]:=if_neg h
theorem Y3 {a b:Int} (ha:(decDigits a.natAbs).length≤300) (hb:(decDigits b.natAbs).length≤300):(decDigits (a*b).natAbs).length≤606:=by
 obtain⟨e,he⟩: ∃e:Nat,e=300:=⟨_,rfl⟩
 obtain⟨k,hk⟩: ∃k:Nat,k=606:=⟨_,rfl⟩
 rw[←he] at ha hb
 rw[←hk]
 have h1:=Nat.lt_of_lt_of_le (DL a.natAbs) (Nat.pow_le_pow_right (by decide) ha)
 have h2:=Nat.lt_of_lt_of_le (DL b.natAbs) (Nat.pow_le_pow_right (by decide) hb)
 have h3:=Nat.mul_lt_mul'' h1 h2
 rw[←Nat.pow_add] at h3
 rw[Int.natAbs_mul]
 exact DO k _ (by omega) (Nat.lt_of_lt_of_le h3 (Nat.pow_le_pow_right (by decide) (by omega)))
theorem YI {a b:Int} (ha:(decDigits a.natAbs).length≤300) (hb:(decDigits b.natAbs).length≤300):(decDigits (a+b).natAbs).length≤606:=by
 obtain⟨e,he⟩: ∃e:Nat,e=300:=⟨_,rfl⟩
 obtain⟨k,hk⟩: ∃k:Nat,k=606:=⟨_,rfl⟩
 rw[←he] at ha hb
 rw[←hk]
 have h1:=Nat.lt_of_lt_of_le (DL a.natAbs) (Nat.pow_le_pow_right (by decide) ha)
 have h2:=Nat.lt_of_lt_of_le (DL b.natAbs) (Nat.pow_le_pow_right (by decide) hb)
 have h3:10^(e+1)=10*10^e:=by rw[Nat.pow_succ,Nat.mul_comm]
 have h4:(a+b).natAbs<10^(e+1):=by omega
 exact DO k _ (by omega) (Nat.lt_of_lt_of_le h4 (Nat.pow_le_pow_right (by decide) (by omega)))
theorem PR (z:Int) (hg:300<(decDigits z.natAbs).length) (hl:(decDigits z.natAbs).length≤606):BE Tryz.prog 191 [str (itoa z)] (.int .i64 4):=by
 intro W
 obtain⟨s,hs⟩: ∃s,s=itoa z:=⟨_,rfl⟩
 obtain⟨dd,hdd⟩: ∃dd,dd=decDigits z.natAbs:=⟨_,rfl⟩
 obtain⟨f,hf⟩: ∃f,f=(GV z).length:=⟨_,rfl⟩
 have hss:s=GV z++dd:=by rw[hs,hdd];exact Cz z
 have hf1:f≤1:=hf▸LU z
 have hsl:s.length=f+dd.length:=by rw[hss,List.length_append,hf]
 have hd0:0<dd.length:=by rw[hdd];exact List.length_pos_iff.2 (FM _)
 have hget: ∀i,f≤i→s[i]? =dd[i-f]? :=fun i hi=>by rw[hss,List.getElem?_append_right (by omega),hf]
 obtain⟨c0,hc0,hc45⟩:=Fe z
 rw[←hs] at hc0⊢
 rw[←hdd] at hl hg
 have hdg: ∀b∈dd,Eg b=true:=by rw[hdd];exact(Fy _).all
 refine Ae Tryz.func191 I I I ?_
 refine zA (zB (wP I (Aa (zE (zA (zB (wP I (Aa (zE (zA (zA (zB (wP I (wP I ?_))))))))))))))
 refine Aj 6 (.int .i64 (s.length:Nat)) I (congrArg (fun n:Nat=>Value.int .i64 (n:Int)) (AA s)) ?_
 refine wP I (wU 7 true I (dT (by omega)) (wP I (wP I ?_)))
 refine Be 0 tH I I I I I I I I hc0 ?_
 refine wP I (wU 11 (decide (z<0)) I ((DK c0 45).trans hc45) (wP I (Aa (AP ?_))))
 try refine Ao ?_
 refine AJ (X:=Unit) (fun _=>[(0,str s),(3, .int .i64 (f:Nat))]) (fun _=>[]) (fun _=>True) ?_ ?_
 ·refine A0 I (fun h=> ?_) (fun h=> ?_)
  ·have h:z<0:=of_decide_eq_true h
   exact zB (wP I (Aa (An () tO ⟨I,by rw[hf];unfold GV;rw[if_pos h];rfl,tO⟩ [] I)))
  ·have h: ¬z<0:=of_decide_eq_false h
   exact zI (An () tO ⟨I,by rw[hf];unfold GV;rw[if_neg h];rfl,tO⟩ [] I)
 intro _ _
 refine Ao (Ao ?_)
 refine AJ (X:=Unit) (fun _=>[(0,str s),(3, .int .i64 (f:Nat)),(27, .bool false)]) (fun _=>[]) (fun _=>True) ?_ ?_
 ·refine zB (wP I (wP I (wP I ?_)))
  refine Aj 15 (.int .i64 (s.length:Nat)) I (congrArg (fun n:Nat=>Value.int .i64 (n:Int)) (AA s)) ?_
  refine wP I (wU 16 false I (by rw[beq_eq_false_iff_ne];omega) ?_)
  obtain⟨b,hb⟩: ∃b,dd[0]? =some b:=⟨dd[0],List.getElem?_eq_getElem hd0⟩
  have hsb:s[f]? =some b:=by rw[hget f (Nat.le_refl _),Nat.sub_self];exact hb
  refine wP I (wP I (wP I ?_))
  refine Be f tH I I I I I I I I hsb ?_
  refine wP I ?_
  by_cases h48:b=48
  ·rw[h48,hdd] at hb
   have h0:=SA hb
   have hz:z=0:=by omega
   have hs1:s.length=1:=by rw[hs,hz,C7];rfl
   refine wU 21 true I ((DK b 48).trans (dT h48)) (wP I (wP I (wP I ?_)))
   refine Aj 24 (.int .i64 (s.length:Nat)) I (congrArg (fun n:Nat=>Value.int .i64 (n:Int)) (AA s)) ?_
   exact wP I (wU 25 false I (dF (by omega)) (wP I (wP I (Aa (An () tO ⟨I,I,I,tO⟩ [] I)))))
  ·refine wU 21 false I ((DK b 48).trans (dF h48)) (wP I ?_)
   iterate 3 refine At I I ?_
   exact wP I (wP I (Aa (An () tO ⟨I,I,I,tO⟩ [] I)))
 intro _ _
 refine zS I (zI (zE (zA (zA (zB (wP I (wP I (Aa (zE (zH ?_))))))))))
 refine A8 (X:=Nat) (fun i=>[(0,str s),(3, .int .i64 (f:Nat)),(4, .int .i64 (i:Nat))]) (fun _=>[]) (fun i=>i≤s.length∧f≤i) (fun i=>s.length-i) f ⟨by omega,Nat.le_refl _⟩ ⟨I,I,I,tO⟩ [] I ?_
 rintro i ⟨hi,hfi⟩
 have hi:i≤s.length:=hi
 have hfi:f≤i:=hfi
 refine zA (zA (zB (wP I (wP I (wP I ?_)))))
 refine Aj 31 (.int .i64 (s.length:Nat)) I (congrArg (fun n:Nat=>Value.int .i64 (n:Int)) (AA s)) ?_
 refine wP I ?_
 by_cases hlt:i<s.length
 ·refine wU 32 true I (dT (by omega)) (Aa (zE (zR I (zI (zE (zA (zH (zA (zB ?_)))))))))
  obtain⟨b,hb⟩: ∃b,dd[i-f]? =some b:=⟨dd[i-f]'(by omega),List.getElem?_eq_getElem (by omega)⟩
  have hsb:s[i]? =some b:=by rw[hget i hfi];exact hb
  have hbd:=CN.1 (hdg b (List.mem_of_getElem? hb))
  refine wP I (wP I ?_)
  refine Be i tH I I I I I I I I hsb ?_
  refine wP I (wU 38 false I ((TY b).trans (dF (by omega))) (wP I (wP I (wP I ?_))))
  refine Be i tH I I I I I I I I hsb ?_
  refine wP I (wU 43 false I ((TT b).trans (dF (by omega))) (wP I (Aa (zE (zS I (zI (zN (zE (zB (wP I (wP I (wV 34 ((i+1:Nat):Int) I (As (by omega)) (wP I ?_)))))))))))))
  exact Aa (Ay (i+1) ⟨hlt,by show f≤i+1;omega⟩ (by show s.length-(i+1)<s.length-i;omega) ⟨I,I,I,tO⟩ [] I)
 ·refine wU 32 false I (dF (by omega)) (Aa (zE (zS I (zJ (zK (zK (zL (zE (zA (zA (zB (wP I (wP I ?_)))))))))))))
  refine Aj 46 (.int .i64 (s.length:Nat)) I (congrArg (fun n:Nat=>Value.int .i64 (n:Int)) (AA s)) ?_
  refine wP I (wP I (wV 48 (dd.length:Nat) I (by show w64 ((s.length:Int)-f)=_;rw[Au (by omega) (by omega)];omega) (wP I (wU 49 true I (dT (by omega)) (Aa (zE (zR I (zA (zB (wP I (Aa (zE (zO ?_)))))))))))))
  exact zP (wR1 I I I)
theorem G2 (z:Int) (hl:(decDigits z.natAbs).length≤606) (W:World) (p:Option Addr) (cap:Nat) (hA:A6 W p (lbs br z.natAbs)):
  Ai Tryz.prog 200 #[.agg #[.bool (decide (z<0)),slv p (lbs br z.natAbs).length cap]] W (fun _:Unit=>IL z) (fun _=>True) (fun _=>[]):=by
 refine Ae (args:=[.agg #[.bool (decide (z<0)),slv p (lbs br z.natAbs).length cap]]) Tryz.func200 I I I ?_
 refine zA (zB ?_)
 (refine Ax rfl rfl rfl rfl ?_;intro)
 refine wP I (wP I (Aa (zE (zA (zB (wB 0 I I I (wC I I (fun W hp=>F6 z (by omega) W p cap (hA.hp hp)) (wP I (Aa ?_)))))))))
 by_cases h:okN z
 ·refine zE (zA (zA (zB (wP I (wC I I (fun W _=>FH z h.dd W) (wP I (Aa (zE (zS I (zI (zE (zA (zB ?_)))))))))))))
  exact wP I (wP I (wP I (Aa (zE (zO (A7 tH I (.tmp I) (.tmp I) () (EI h).symm tO fun W _=>Ar.nil _ _))))))
 ·have hgt:300<(decDigits z.natAbs).length:=by
   rcases Nat.lt_or_ge 300 (decDigits z.natAbs).length with q|q
   ·exact q
   ·exact absurd (Hf.1 q) h
  refine zE (zA (zA (zB (wP I (wC I I (fun W _=>PR z hgt hl W) (wP I (Aa (zE (zR I (zA (zB (wP I (wP I ?_)))))))))))))
  exact Aa (zE (zO (zP (A7 tH I (.tmp I) (.tmp I) () (EZ h).symm tO fun W _=>Ar.nil _ _))))
theorem Nk (a b:Int) (ha:(decDigits a.natAbs).length≤300) (hb:(decDigits b.natAbs).length≤300) (W:World) (ht:AM W):
  Ai Tryz.prog 175 #[str (itoa a),str (itoa b)] W (fun _:Unit=>IL (a*b)) (fun _=>True) (fun _=>[]):=by
 have hab:(decDigits (a*b).natAbs).length≤606:=Y3 ha hb
 obtain⟨rs,re,hres⟩:=GS (a*b)
 have la:=CF (m:=a.natAbs) (by omega)
 have lb:=CF (m:=b.natAbs) (by omega)
 have l1:=FX ha
 have l2:=FX hb
 refine Ae (args:=[str (itoa a),str (itoa b)]) Tryz.func175 I I I ?_
 refine zA (zB (wP I (wP I (Aa (zE (zA (zA (zB (wP I (wP I (wC I I (fun W _=>Dy a b ha hb W) (wP I (Aa ?_)))))))))))))
 refine zE (zA (zB (wP I (wP I (Aa (zE (zS I (zI (zE (zA (zA (zB ?_))))))))))))
 cases hs:smI a&&smI b with
 |true=>
  refine wP I (wP I (wC I I (fun W _=>H7 hs W) ?_))
  iterate 7 refine wP I ?_
  refine Aa (zE (zA (zB (wP I (wP I (wP I (wP I ?_)))))))
  refine Aj 26 (.int .i64 ((itoa a).length:Nat)) I (congrArg (fun n:Nat=>Value.int .i64 (n:Int)) (AA _)) ?_
  refine wP I (wP I ?_)
  refine Aj 28 (.int .i64 ((itoa b).length:Nat)) I (congrArg (fun n:Nat=>Value.int .i64 (n:Int)) (AA _)) ?_
  refine wP I (wV 29 (((itoa a).length+(itoa b).length:Nat):Int) I (AW (by omega)) (wP I (wU 30 (decide ((itoa a).length+(itoa b).length≤18)) I (decide_eq_decide.2 (by omega)) (wP I (Aa (zE ?_))))))
  refine A0 I (fun h18=> ?_) (fun h18=> ?_)
  ·have h18:(itoa a).length+(itoa b).length≤18:=of_decide_eq_true h18
   have hm:(a*b).natAbs<1000000000000000000:=by
    have p1:=DL a.natAbs
    have p2:=DL b.natAbs
    have q1:(decDigits a.natAbs).length≤(itoa a).length:=by rw[Cz,List.length_append];omega
    have q2:(decDigits b.natAbs).length≤(itoa b).length:=by rw[Cz,List.length_append];omega
    rw[Int.natAbs_mul]
    have r1:=Nat.mul_lt_mul'' p1 p2
    rw[←Nat.pow_add] at r1
    exact Nat.lt_of_lt_of_le r1 (show _≤10^18 from Nat.pow_le_pow_right (by decide) (by omega))
   exact zA (zB (wP I (wP I (wP I (wV 34 (a*b) I (Au (by omega) (by omega)) (wC I I (fun W hp=>B7 (a*b) (by omega) (by omega) W (ht.hp hp)) (wP I (wP I (Aa (zE (zO (zP (A7 tH I (.tmp I) (.tmp I) () (EI (Dx (by omega))).symm tO fun W _=>Ar.nil _ _)))))))))))))
  ·refine zI (zE (zA (zB (wP I ?_))))
   refine wD (X:=NV) I I (fun W' _=>Bk a (by omega) W') ?_
   intro x hx
   refine wP I ?_
   refine wD (X:=NV) I I (fun W' _=>Bk b (by omega) W') ?_
   intro y hy
   refine wD (X:=NV) I I (fun W' hp=>Hj a b W' (some ⟨x.1,0,none⟩) (some ⟨y.1,0,none⟩) x.2.1 y.2.1 (A6.of_bx hp 0 I) (A6.of_bx hp 1 I) (by omega) (by omega)) ?_
   intro w hw
   exact wC I I (fun W' hp=>(G2 (a*b) hab W' (some ⟨w.1,0,none⟩) w.2.1 (A6.of_bx hp 2 I)).cast hres) (wP I (wP I (wP I (wP I (Aa (zE (zO (wR2 I I hres.symm))))))))
 |false=>
  obtain⟨x0,y0,h2⟩:=Ho hs ha hb
  refine wP I (wP I (wC I I (fun W _=>h2 W) ?_))
  iterate 7 refine wP I ?_
  refine Aa (zE (zA (zB (wP I (wP I ?_)))))
  iterate 6 refine At I I ?_
  refine wP I (Aa (zE (zS I (zI (zE (zA (zB (wP I ?_))))))))
  refine wD (X:=NV) I I (fun W' _=>Bk a (by omega) W') ?_
  intro x hx
  refine wP I ?_
  refine wD (X:=NV) I I (fun W' _=>Bk b (by omega) W') ?_
  intro y hy
  refine wD (X:=NV) I I (fun W' hp=>Hj a b W' (some ⟨x.1,0,none⟩) (some ⟨y.1,0,none⟩) x.2.1 y.2.1 (A6.of_bx hp 0 I) (A6.of_bx hp 1 I) (by omega) (by omega)) ?_
  intro w hw
  exact wC I I (fun W' hp=>(G2 (a*b) hab W' (some ⟨w.1,0,none⟩) w.2.1 (A6.of_bx hp 2 I)).cast hres) (wP I (wP I (wP I (wP I (Aa (zE (zO (wR2 I I hres.symm))))))))
theorem Sc (a b:Int) (ha:(decDigits a.natAbs).length≤300) (hb:(decDigits b.natAbs).length≤300) (W:World) (ht:AM W):
  Ai Tryz.prog 149 #[str (itoa a),str (itoa b)] W (fun _:Unit=>IL (a+b)) (fun _=>True) (fun _=>[]):=by
 have hab:(decDigits (a+b).natAbs).length≤606:=YI ha hb
 obtain⟨rs,re,hres⟩:=GS (a+b)
 have la:=CF (m:=a.natAbs) (by omega)
 have lb:=CF (m:=b.natAbs) (by omega)
 refine Ae (args:=[str (itoa a),str (itoa b)]) Tryz.func149 I I I ?_
 refine zA (zB (wP I (wP I (Aa (zE (zA (zA (zB (wP I (wP I (wC I I (fun W _=>Dy a b ha hb W) (wP I (Aa ?_)))))))))))))
 refine zE (zA (zB (wP I (wP I (Aa (zE (zS I (zI (zE (zA (zA (zB ?_))))))))))))
 cases hs:smI a&&smI b with
 |true=>
  obtain⟨h1,h2⟩:=Bool.and_eq_true_iff.1 hs
  have b1:=HW h1
  have b2:=HW h2
  refine wP I (wP I (wC I I (fun W _=>H7 hs W) ?_))
  iterate 7 refine wP I ?_
  refine Aa (zE (zA (zB (wP I (Aa (zE (zR I (zA (zB (wP I (wP I (wP I (wV 26 (a+b) I (Au (by omega) (by omega)) ?_)))))))))))))
  exact wC I I (fun W hp=>B7 (a+b) (by omega) (by omega) W (ht.hp hp)) (wP I (wP I (Aa (zE (zO (zP (A7 tH I (.tmp I) (.tmp I) () (EI (Dx (by omega))).symm tO fun W _=>Ar.nil _ _)))))))
 |false=>
  obtain⟨x0,y0,h2⟩:=Ho hs ha hb
  refine wP I (wP I (wC I I (fun W _=>h2 W) ?_))
  iterate 7 refine wP I ?_
  refine Aa (zE (zA (zB (wP I (Aa (zE (zS I (zI (zE (zA (zB (wP I ?_))))))))))))
  refine wD (X:=NV) I I (fun W' _=>Bk a (by omega) W') ?_
  intro x hx
  refine wP I ?_
  refine wD (X:=NV) I I (fun W' _=>Bk b (by omega) W') ?_
  intro y hy
  refine wD (X:=NV) I I (fun W' hp=>Js a b W' (some ⟨x.1,0,none⟩) (some ⟨y.1,0,none⟩) x.2.1 y.2.1 (A6.of_bx hp 0 I) (A6.of_bx hp 1 I) (by omega) (by omega)) ?_
  intro w hw
  exact wC I I (fun W' hp=>(G2 (a+b) hab W' (some ⟨w.1,0,none⟩) w.2.1 (A6.of_bx hp 2 I)).cast hres) (wP I (wP I (wP I (wP I (Aa (zE (zO (wR2 I I hres.symm))))))))
-- BOXES 4
-- CODE2
theorem PA (r:Nat):lv br [r]=r:=by show r+br*0=r;rw[Nat.mul_zero,Nat.add_zero]
theorem OO (W:World) (p:Option Addr) (cap a dv:Nat) (hA:A6 W p (lbs br a)) (hna:(lbs br a).length≤1000000) (hd0:0<dv) (hd1:dv<br):
  Ai Tryz.prog 194 #[slv p (lbs br a).length cap, .int .i64 (dv:Nat)] W (fun x:NV×NV=> .tuple #[BG x.1 (lbs br (a/dv)).length,BG x.2 (lbs br (a%dv)).length]) (fun x=>CB x.1 (lbs br (a/dv))∧CB x.2 (lbs br (a%dv))) (fun x=>[BZ x.1 (lbs br (a/dv)),BZ x.2 (lbs br (a%dv))]):=by
 obtain⟨K,hK⟩: ∃K,(lbs br a).length=K:=⟨_,rfl⟩
 have hd1':dv<1000000:=hd1
 have hal:=AS br2 a
 rw[hK] at hna hal
 refine Ae (args:=[slv p (lbs br a).length cap, .int .i64 (dv:Nat)]) Tryz.func194 I I I ?_
 rw[hK]
 refine zA (zB (wP I (wP I (Aa (zE (zA (zB (wP I (wP I ?_)))))))))
 refine C0 Tryz.vec130 K I I I I I I I (by simp only[maxLen];omega) (by omega) ?_
 intro g
 have ez:Cw (Value.cells (.int .i64 0)).toList K=nI (List.replicate K 0)++[]:=by rw[List.append_nil];exact FU K
 rw[ez]
 refine wP I (Aa (zE (zA (zB (wP I (Aa (zE (zA (zA (zB (wP I (wP I (wP I ?_)))))))))))))
 refine wV 14 ((K:Int)-1) I (Au (by omega) (by omega)) (wP I (Aa (zE (zH ?_))))
 refine A8 (X:=Nat×List Nat×Nat×Nat) (fun x=>[(0,slv p K cap),(1, .int .i64 (dv:Nat)),(6,slv (some ⟨g,0,none⟩) K K),(7, .int .i64 (x.2.2.2:Nat)),(8, .int .i64 ((x.1:Nat)-1:Int))]) (fun x=>[⟨g,3,nI x.2.1++[],true,none⟩])
  (fun x=>x.1≤K∧x.2.1.length=K∧(∀y∈x.2.1,y<br)∧lv br x.2.1=br^x.1*x.2.2.1∧a/br^x.1=x.2.2.1*dv+x.2.2.2∧x.2.2.2<dv) (fun x=>x.1) (K,List.replicate K 0,0,0) ⟨Nat.le_refl _,List.length_replicate,I0 (by decide) K,by rw[Ff];show 0=br^K*0;rw[Nat.mul_zero],by show a/br^K=0*dv+0;rw[Nat.div_eq_of_lt hal];omega,hd0⟩ ⟨rfl,rfl,rfl,rfl,rfl,trivial⟩ [] rfl ?_
 rintro⟨k,l,qh,rs⟩ ⟨hk,hl,hlb,hlv,hq,hr⟩
 have hk:k≤K:=hk
 have hl:l.length=K:=hl
 have hlv:lv br l=br^k*qh:=hlv
 have hq:a/br^k=qh*dv+rs:=hq
 have hr:rs<dv:=hr
 refine zA (zA (zB (wP I (wP I ?_))))
 cases k with
 |zero=>
  have hq:a=qh*dv+rs:=by simpa using hq
  have hlv:lv br l=qh:=by rw[hlv];simp
  have eq1:a/dv=qh:=by rw[hq,Nat.mul_comm,Nat.mul_add_div hd0,Nat.div_eq_of_lt hr,Nat.add_zero]
  have eq2:a%dv=rs:=by rw[hq,Nat.mul_comm,Nat.mul_add_mod,Nat.mod_eq_of_lt hr]
  refine wU 16 false I (dF (by show¬(((0:Nat):Int)-1≥0);omega)) (Aa (zE (zS I (zJ (zK (zK (zL (zE (zA (zB ?_))))))))))
  have hV0:(⟨some g,K,[]⟩:Vec).OK 1 l.length (nI l):=⟨EV _,(fun h=>by cases h),fun _=>⟨by show _≤K;omega,by show K≤maxLen;simp only[maxLen];omega,by show(nI l).length+0=K*1;rw[BR];omega⟩⟩
  obtain⟨j1,hV1,he1⟩:=El hV0 hlb
  have hrb: ∀x∈[rs],x<br:=fun x hx=>by obtain rfl:=List.mem_singleton.1 hx;show x<1000000;omega
  refine wP I ?_
  refine Aj 35 (slv (some ⟨g,0,none⟩) l.length K) I (by rw[hl]) ?_
  refine wC I I (fun W hp=>Dd W _ K _ (A6.of_bx hp 0 I) hlb (by omega) (by omega)) (wP I ?_)
  refine AN Tryz.hZ tH I I I I I I I I I I I fun bN=> ?_
  have hV2:(⟨some bN,1,[]⟩:Vec).OK 1 [rs].length (nI [rs]):=⟨rfl,(fun h=>by cases h),fun _=>⟨Nat.le_refl _,(by show 1≤maxLen;decide),rfl⟩⟩
  obtain⟨j2,hV3,he2⟩:=El hV2 hrb
  refine wC I I (fun W hp=>Dd W (some ⟨bN,0,none⟩) 1 [rs] (A6.of_bx (junk:=[]) hp 1 I) hrb (by show 1≤1;omega) (by show 1<_;decide)) (wP I (wP I (Aa (zE (zO ?_)))))
  rw[hlv, ←eq1] at hV1 he1
  rw[PA, ←eq2] at hV3 he2
  exact A7 tH I (.tmp I) (.tmp I) (((g,K,j1):NV),((bN,1,j2):NV)) (by rw[hlv, ←eq1,PA, ←eq2]) ⟨hV1,hV3⟩ fun W hp=>Ar.of_hp (hp.pick (l:=[BZ (g,K,j1) (lbs br (a/dv)),BZ (bN,1,j2) (lbs br (a%dv))]) [0,1] (by decide) (by
   show some [(⟨g,3,nI l++[],true,none⟩:Bx),⟨bN,3,nI [rs]++[],true,none⟩]=some [⟨g,3,nI (lbs br (a/dv))++j1,true,none⟩,⟨bN,3,nI (lbs br (a%dv))++j2,true,none⟩]
   rw[he1, ←eq2,he2]))
 |succ k=>
  have hq:a/br^(k+1)=qh*dv+rs:=hq
  have hi:k<l.length:=by rw[hl];omega
  obtain⟨b1,o1,rfl,r1⟩:=hA.row (show k<(lbs br a).length by omega)
  have r1:=r1 k (by omega)
  obtain⟨v,hv⟩: ∃v,lim (lbs br a) k=v:=⟨_,rfl⟩
  rw[hv] at r1
  have hvb:v<br:=by rw[←hv];exact Bp br2 (By br2 a) _
  have hvb':v<1000000:=hvb
  have hve:v=a/br^k%br:=by rw[←hv];exact Bs br2 a _
  obtain⟨n,hn⟩: ∃n,n=v+rs*br:=⟨_,rfl⟩
  have hn':n=v+rs*1000000:=hn
  have hn63:n<1000000000000:=by omega
  have hnq:=RT (B:=br) (d:=dv) hvb hr hn
  have hnq':n/dv<1000000:=hnq
  have hs:=Jv (B:=br) (d:=dv) (q:=qh) (r:=rs) (i:=k) hq (n:=n) (by rw[hn,hve])
  have hzero:l[k]? =some 0:=by
   rw[DP hi,CL br2 _ hlb,hlv,Nat.pow_succ,Nat.mul_assoc,Nat.mul_div_cancel_left _ (Nat.pow_pos (by decide)),Nat.mul_mod_right]
  have hset:=HZ (B:=br) (n/dv) hzero
  rw[Nat.mul_zero,Nat.add_zero,hlv,Nat.pow_succ,Nat.mul_assoc, ←Nat.mul_add] at hset
  have hrm:n%dv<dv:=Nat.mod_lt _ hd0
  refine wU 16 true I (dT (by show(((k+1:Nat):Int)-1≥0);omega)) (Aa (zE (zR I (zI (zE (zA (zH (zA (zB (wP I (wP I (wP I (wP I ?_)))))))))))))
  refine wV 22 (k:Nat) I (by show((k+1:Nat):Int)-1=_;omega) ?_
  refine wJ ?_
  refine wL 0 I I (fun W hp=>r1.hp hp) I (wP I (wV 25 (n:Nat) I (by show w64 (w64 ((rs:Int)*((1000000:Nat):Int))+v)=_;rw[CE (by omega),AW (by omega),hn',Nat.add_comm]) (wP I (Aa (zE (zA (zB (wP I (wP I (wV 27 (k:Nat) I (by show((k+1:Nat):Int)-1=_;omega) (wP I (wP I ?_))))))))))))
  refine Ei I I I I I (by omega) ?_
  refine wV 30 ((n/dv:Nat):Int) I (BW (by omega)) ?_
  refine wJ ?_
  refine A4 0 (nI (l.set k (n/dv))++[]) tH I I I I I I I I I I (by show 0+k*1+1≤(nI l++[]).length;rw[List.append_nil,BR];omega) (CR hi (n/dv)) ?_
  refine Aa (zE (zB (wP I (wP I ?_))))
  refine Ft I I I I I (by omega) ?_
  refine Aj 34 (.int .i64 ((n%dv:Nat):Int)) I I ?_
  exact wP I (Aa (zN (zE (zB (wP I (wV 17 (k:Nat) I (by show((k+1:Nat):Int)-1=_;omega) (wP I (wV 18 ((k:Nat)-1:Int) I (Au (by omega) (by omega)) (wP I (Aa (Ay (k,l.set k (n/dv),qh*br+n/dv,n%dv) ⟨by show k≤K;omega,by rw[List.length_set];exact hl,Dh hlb hnq,by show lv br (l.set k (n/dv))=br^k*(qh*br+n/dv);rw[hset,Nat.mul_comm qh],by show a/br^k=_;exact hs,hrm⟩ (by show k<k+1;omega) ⟨I,I,I,I,I,tO⟩ [] I)))))))))))
end
end Go.Proofs.YthndmdimmgkpgaaGreatDoor
