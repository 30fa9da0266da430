/-
  Lemmas that the theorem convexSections_upto_card needs (part 4 of 7).
-/
import Derived.Test.YthndmdimmgkpgaaGreatDoorCsc
set_option maxHeartbeats 64000000
namespace Go.Proofs.YthndmdimmgkpgaaGreatDoor
section
def Ae (l:List Ag) (i:Nat):Ag:=(l[i%l.length]?).getD (0,0)
theorem AE {l:List Ag} {i:Nat} (h:i<l.length):Ae l i=l[i]:=by
 unfold Ae;rw[Nat.mod_eq_of_lt h,List.getElem?_eq_getElem h];rfl
theorem HW {l:List Ag}:Ae l l.length=Ae l 0:=by
 unfold Ae;simp
theorem B6 (l:List Ag) (i:Nat):Ae l (i%l.length)=Ae l i:=by
 unfold Ae;simp
def AY (l:List Ag):Prop:=BM (Ae l) l.length
def C0 (P:Nat→Ag) (n:Nat) (f:AL):List H4:=(List.range n).flatMap fun i=>
 (if f.at (P i)≤0 then[(i,0)] else[])++(if f.at (P i)*f.at (P (i+1))<0 then[(i,f.at (P i)/(f.at (P i)-f.at (P (i+1))))] else[])
theorem C2 {P:Nat→Ag} {n:Nat} {f:AL} (k:H4):k∈C0 P n f↔IT P n f k:=by
 unfold C0 IT
 rw[List.mem_flatMap]
 constructor
 ·rintro⟨i,hi,hk⟩
  rw[List.mem_range] at hi
  rw[List.mem_append] at hk
  rcases hk with hk|hk
  ·split at hk
   ·rename_i c
    rw[List.mem_singleton] at hk;subst hk
    exact⟨hi,Or.inl ⟨I,c⟩⟩
   ·exact absurd hk (by simp)
  ·split at hk
   ·rename_i c
    rw[List.mem_singleton] at hk;subst hk
    exact⟨hi,Or.inr ⟨c,I⟩⟩
   ·exact absurd hk (by simp)
 ·obtain⟨i,t⟩:=k
  rintro⟨hi,hk⟩
  refine⟨i,List.mem_range.2 hi, ?_⟩
  rw[List.mem_append]
  rcases hk with⟨a,b⟩|⟨a,b⟩
  ·left;simp only at a b;rw[if_pos b,a];simp
  ·right;simp only at a b;rw[if_pos a,b];simp
theorem LO (P:Nat→Ag) (n:Nat) (f:AL):(C0 P n f).Pairwise Se:=by
 unfold C0
 rw[List.pairwise_flatMap]
 constructor
 ·intro i _
  rw[List.pairwise_append]
  refine⟨by split<;>simp,by split<;>simp, ?_⟩
  intro x hx y hy
  split at hx
  ·split at hy
   ·rename_i c
    rw[List.mem_singleton] at hx hy;subst hx;subst hy
    exact Or.inr ⟨I,(Fl c).1⟩
   ·exact absurd hy (by simp)
  ·exact absurd hx (by simp)
 ·refine List.pairwise_lt_range.imp ?_
  intro i j hij x hx y hy
  have ex:x.1=i:=by
   rw[List.mem_append] at hx
   rcases hx with hx|hx<;>split at hx<;>simp at hx<;>rw[hx]
  have ey:y.1=j:=by
   rw[List.mem_append] at hy
   rcases hy with hy|hy<;>split at hy<;>simp at hy<;>rw[hy]
  exact Or.inl (by rw[ex,ey];exact hij)
def BW (f:AL) (l:List Ag):List Ag:=(C0 (Ae l) l.length f).map (Cj (Ae l))
theorem Xw {α:Type} {l:List α} {a b c:α} (ha:a∈l) (hb:b∈l) (hc:c∈l) (h1:a≠b) (h2:a≠c) (h3:b≠c):3≤l.length:=by
 match l,ha,hb,hc with
 |[x],ha,hb,_=>simp at ha hb;exact absurd (ha.trans hb.symm) h1
 |[x,y],ha,hb,hc=>
  simp at ha hb hc
  rcases ha with rfl|rfl<;>rcases hb with rfl|rfl<;>rcases hc with rfl|rfl<;>simp_all
 |_::_::_::l,_,_,_=>simp
theorem Sv {P:Nat→Ag} {n:Nat} {f:AL} (h:BM P n) {i:Nat} (hi:i<n) (hf:f.at (P i)<0):3≤(C0 P n f).length:=by
 have n3:=h.n3
 have k1:(i,(0:Rat))∈C0 P n f:=(C2 _).2 ⟨hi,Or.inl ⟨rfl,Rat.le_of_lt hf⟩⟩
 -- the next one
 have nx: ∃k∈C0 P n f,(k.1=i∧0<k.2)∨(k.2=0∧(k.1=i+1∨k.1=0∧i+1=n)):=by
  rcases Cw 0 (f.at (P (i+1))) with c|c
  ·have pr:f.at (P i)*f.at (P (i+1))<0:=by
    have:=Rat.mul_pos (show 0< -f.at (P i) by grind) c;grind
   exact⟨_,(C2 _).2 (IT.cut hi pr),Or.inl ⟨I,(Fl pr).1⟩⟩
  ·by_cases e:i+1=n
   ·exact⟨(0,0),(C2 _).2 ⟨show 0<n by omega,Or.inl ⟨I,by rw[e,h.cl] at c;exact c⟩⟩,Or.inr ⟨I,Or.inr ⟨I,e⟩⟩⟩
   ·exact⟨(i+1,0),(C2 _).2 ⟨show i+1<n by omega,Or.inl ⟨I,c⟩⟩,Or.inr ⟨I,Or.inl I⟩⟩
 have pv: ∃k∈C0 P n f,(k.1+1=i∨k.1+1=n∧i=0):=by
  obtain⟨j,hj,e1,e2⟩: ∃j,j<n∧(j+1=i∨j+1=n∧i=0)∧P (j+1)=P i:=by
   rcases Nat.eq_zero_or_pos i with rfl|c
   ·exact⟨n-1,by omega,Or.inr ⟨by omega,I⟩,by rw[show n-1+1=n by omega];exact h.cl⟩
   ·exact⟨i-1,by omega,Or.inl (by omega),by rw[show i-1+1=i by omega]⟩
  rcases Cw 0 (f.at (P j)) with c|c
  ·have pr:f.at (P j)*f.at (P (j+1))<0:=by
    rw[e2]
    have:=Rat.mul_pos c (show 0< -f.at (P i) by grind);grind
   exact⟨_,(C2 _).2 (IT.cut hj pr),e1⟩
  ·exact⟨(j,0),(C2 _).2 ⟨hj,Or.inl ⟨I,c⟩⟩,e1⟩
 obtain⟨k2,m2,h2⟩:=nx
 obtain⟨k3,m3,h3⟩:=pv
 refine Xw k1 m2 m3 ?_ ?_ ?_
 ·rintro rfl
  rcases h2 with⟨_,b⟩|⟨_,b|b⟩
  ·simp only at b;grind
  ·simp only at b;omega
  ·simp only at b;omega
 ·rintro rfl
  simp only at h3;omega
 ·rintro rfl
  rcases h2 with⟨b,_⟩|⟨_,b|b⟩<;>omega
theorem H0 {f:AL} {l:List Ag} {i:Nat} (h:i<(C0 (Ae l) l.length f).length):Ae (BW f l) i=Cj (Ae l) (C0 (Ae l) l.length f)[i]:=by
 have h':i<(BW f l).length:=by unfold BW;rw[List.length_map];exact h
 rw[AE h']
 exact List.getElem_map (Cj (Ae l))
theorem Hr (f:AL) (l:List Ag):(BW f l).length=(C0 (Ae l) l.length f).length:=by unfold BW;rw[List.length_map]
theorem Oe {f:AL} {l:List Ag} (h:AY l) {p:Ag} (hp:p∈l) (hf:f.at p<0):AY (BW f l):=by
 obtain⟨i,hi,rfl⟩:=List.getElem_of_mem hp
 have k3:=Sv (f:=f) h hi (by rw[AE hi];exact hf)
 refine⟨by rw[Hr];exact k3,HW, ?_⟩
 intro a b c hab hbc hc
 rw[Hr] at hc
 rw[H0 (by omega),H0 (by omega),H0 hc]
 have s:=List.pairwise_iff_getElem.1 (LO (Ae l) l.length f)
 exact IT.tri h ((C2 _).1 (List.getElem_mem _)) ((C2 _).1 (List.getElem_mem _)) ((C2 _).1 (List.getElem_mem _)) (s _ _ (by omega) (by omega) hab) (s _ _ (by omega) (by omega) hbc)
def FV (l:List Ag) (x:Ag):Prop:=NP (Ae l) l.length x
end
section
def EQ (k:Nat) (l:List Ag):List Ag:=l.drop k++l.take k
theorem DD {k:Nat} {l:List Ag} (hk:k≤l.length):(EQ k l).length=l.length:=by
 unfold EQ;rw[List.length_append,List.length_drop,List.length_take];omega
theorem Lw {k:Nat} {l:List Ag} {x:Ag}:x∈EQ k l↔x∈l:=by
 unfold EQ
 conv=>rhs;rw[←List.take_append_drop k l]
 rw[List.mem_append,List.mem_append]
 exact Or.comm
theorem Fo {k:Nat} {l:List Ag} (hk:k≤l.length) (i:Nat):Ae (EQ k l) i=Ae l (i+k):=by
 by_cases h0:l.length=0
 ·have e:l=[]:=List.length_eq_zero_iff.1 h0
  subst e
  simp[EQ,Ae]
 rw[←B6 (EQ k l) i,DD hk, ←B6 l (i+k)]
 have hi:=Nat.mod_lt i (show 0<l.length by omega)
 have e:(i+k)%l.length=(i%l.length+k)%l.length:=by rw[Nat.mod_add_mod]
 rw[e]
 generalize i%l.length=j at*
 rw[AE (by rw[DD hk];exact hi)]
 by_cases c:j+k<l.length
 ·rw[Nat.mod_eq_of_lt c,AE c]
  unfold EQ
  rw[List.getElem_append_left (by rw[List.length_drop];omega),List.getElem_drop]
  congr 1;omega
 ·have e2:(j+k)%l.length=j+k-l.length:=by rw[Nat.mod_eq_sub_mod (by omega),Nat.mod_eq_of_lt (by omega)]
  rw[e2,AE (by omega)]
  unfold EQ
  rw[List.getElem_append_right (by rw[List.length_drop];omega),List.getElem_take]
  congr 1;rw[List.length_drop];omega
theorem AY.per {l:List Ag} (i:Nat):Ae l (i+l.length)=Ae l i:=by
 rw[←B6 l (i+l.length),Nat.add_mod_right,B6]
theorem AY.rot {l:List Ag} (h:AY l) {k:Nat} (hk:k≤l.length):AY (EQ k l):=by
 refine⟨by rw[DD hk];exact h.n3,HW, ?_⟩
 intro a b c hab hbc hc
 rw[DD hk] at hc
 rw[Fo hk,Fo hk,Fo hk]
 have low: ∀i,l.length≤i→Ae l i=Ae l (i-l.length):=fun i hi=>by
  have:=AY.per (l:=l) (i-l.length)
  rw[show i-l.length+l.length=i by omega] at this
  exact this
 by_cases c1:c+k<l.length
 ·exact h.tri _ _ _ (by omega) (by omega) c1
 rw[low (c+k) (by omega)]
 by_cases b1:b+k<l.length
 ·rw[←CD];exact h.tri _ _ _ (by omega) (by omega) b1
 rw[low (b+k) (by omega)]
 by_cases a1:a+k<l.length
 ·rw[CD];exact h.tri _ _ _ (by omega) (by omega) a1
 rw[low (a+k) (by omega)]
 exact h.tri _ _ _ (by omega) (by omega) (by omega)
theorem FV.rot {l:List Ag} {x:Ag} (h:FV l x) {k:Nat} (hk:k≤l.length):FV (EQ k l) x:=by
 intro i hi
 rw[DD hk] at hi
 rw[Fo hk,Fo hk]
 have e:=h ((i+k)%l.length) (Nat.mod_lt _ (by omega))
 rw[B6] at e
 have e2:Ae l ((i+k)%l.length+1)=Ae l (i+1+k):=by
  rw[←B6,Nat.mod_add_mod,B6];congr 1;omega
 rw[e2] at e
 exact e
def AH (p q:Ag):Prop:=p.1<q.1∨p.1=q.1∧p.2<q.2
theorem Do (p q:Ag):AH p q∨p=q∨AH q p:=by
 unfold AH
 rcases Cw p.1 q.1 with a|a
 ·exact Or.inl (Or.inl a)
 rcases Cw q.1 p.1 with b|b
 ·exact Or.inr (Or.inr (Or.inl b))
 have e:p.1=q.1:=by grind
 rcases Cw p.2 q.2 with c|c
 ·exact Or.inl (Or.inr ⟨e,c⟩)
 rcases Cw q.2 p.2 with d|d
 ·exact Or.inr (Or.inr (Or.inr ⟨e.symm,d⟩))
 ·refine Or.inr (Or.inl ?_)
  ext
  ·exact e
  ·grind
theorem Dd {p q:Ag} (h:AH p q): ¬AH q p:=by
 unfold AH at*
 rintro(c|⟨c,d⟩)<;>rcases h with a|⟨a,b⟩<;>grind
theorem Ew (p:Ag): ¬AH p p:=fun h=>Dd h h
def DX (l:List Ag):Prop:= ∀p∈l, ¬AH p (Ae l 0)
theorem Lv {α:Type} {R:α→α→Prop} (has: ∀a b,R a b→ ¬R b a): ∀(l m:List α),l.Pairwise R→m.Pairwise R→(∀x,x∈l↔x∈m)→l=m:=by
 intro l
 induction l with
 |nil=>
  intro m _ _ h
  cases m with
  |nil=>rfl
  |cons b m=>exact absurd ((h b).2 List.mem_cons_self) (by simp)
 |cons a l ih=>
  intro m hl hm h
  cases m with
  |nil=>exact absurd ((h a).1 List.mem_cons_self) (by simp)
  |cons b m=>
   obtain⟨l1,l2⟩:=List.pairwise_cons.1 hl
   obtain⟨m1,m2⟩:=List.pairwise_cons.1 hm
   have e:a=b:=by
    rcases List.mem_cons.1 ((h a).1 List.mem_cons_self) with c|c
    ·exact c
    ·rcases List.mem_cons.1 ((h b).2 List.mem_cons_self) with d|d
     ·exact d.symm
     ·exact absurd (l1 b d) (has _ _ (m1 a c))
   subst e
   have irr: ∀x, ¬R x x:=fun x hx=>has x x hx hx
   refine congrArg (a:: ·) (ih m l2 m2 fun x=>⟨fun hx=> ?_,fun hx=> ?_⟩)
   ·rcases List.mem_cons.1 ((h x).1 (List.mem_cons_of_mem _ hx)) with c|c
    ·subst c;exact absurd (l1 x hx) (irr x)
    ·exact c
   ·rcases List.mem_cons.1 ((h x).2 (List.mem_cons_of_mem _ hx)) with c|c
    ·subst c;exact absurd (m1 x hx) (irr x)
    ·exact c
theorem AU {l:List Ag} (h:0<l.length) (i:Nat):Ae l i∈l:=by
 rw[←B6,AE (Nat.mod_lt i h)]
 exact List.getElem_mem _
theorem Cs {l:List Ag} {x:Ag} (h:x∈l): ∃i,i<l.length∧Ae l i=x:=by
 obtain⟨i,hi,rfl⟩:=List.getElem_of_mem h
 exact⟨i,hi,AE hi⟩
theorem Rw {A B:List Ag} (hA:AY A) (hB:AY B) (h1: ∀x∈B,FV A x) (h2: ∀x∈A,FV B x) (la:DX A) (lb:DX B):A=B:=by
 have a3:=hA.n3;have b3:=hB.n3
 have mem: ∀x,x∈A↔x∈B:=fun x=>by
  constructor
  ·intro hx
   obtain⟨j,hj,rfl⟩:=Cs hx
   obtain⟨i,hi,e⟩:=hA.uniq hB (fun i hi=>h1 _ (AU (by omega) i)) (fun i hi=>h2 _ (AU (by omega) i)) hj
   rw[←e];exact AU (by omega) i
  ·intro hx
   obtain⟨j,hj,rfl⟩:=Cs hx
   obtain⟨i,hi,e⟩:=hB.uniq hA (fun i hi=>h2 _ (AU (by omega) i)) (fun i hi=>h1 _ (AU (by omega) i)) hj
   rw[←e];exact AU (by omega) i
 have e0:Ae A 0=Ae B 0:=by
  rcases Do (Ae A 0) (Ae B 0) with c|c|c
  ·exact absurd c (lb _ ((mem _).1 (AU (by omega) 0)))
  ·exact c
  ·exact absurd c (la _ ((mem _).2 (AU (by omega) 0)))
 have prs: ∀ {C:List Ag},AY C→ ∃t,C=Ae C 0::t∧t.Pairwise (fun u v=>0<A7 (Ae C 0) u v):=by
  intro C hC
  have c3:=hC.n3
  match C,hC,c3 with
  |c::t,hC,c3=>
   refine⟨t,by rw[AE (by simp)];rfl, ?_⟩
   rw[List.pairwise_iff_getElem]
   intro i j hi hj hij
   have:=hC.tri 0 (i+1) (j+1) (by omega) (by omega) (by simp;omega)
   rw[AE (i:=i+1) (by simp;omega),AE (i:=j+1) (by simp;omega)] at this
   exact this
 obtain⟨s,ea,pa⟩:=prs hA
 obtain⟨t,eb,pb⟩:=prs hB
 rw[←e0] at eb pb
 have has: ∀u v:Ag,0<A7 (Ae A 0) u v→ ¬0<A7 (Ae A 0) v u:=fun u v h c=>by
  have e:A7 (Ae A 0) v u= -A7 (Ae A 0) u v:=by unfold A7;grind
  grind
 have notin: ∀ {l:List Ag},l.Pairwise (fun u v=>0<A7 (Ae A 0) u v)→2≤l.length→Ae A 0∉l:=by
  intro l hp hl hx
  match l,hp,hl,hx with
  |x::y::l,hp,_,hx=>
   obtain⟨p1,p2⟩:=List.pairwise_cons.1 hp
   rcases List.mem_cons.1 hx with c|c
   ·have:=p1 y List.mem_cons_self
    rw[c,Le] at this;grind
   ·have:=p1 _ c
    rw[GC] at this;grind
 have ls:2≤s.length:=by have:=congrArg List.length ea;simp at this;omega
 have lt:2≤t.length:=by have:=congrArg List.length eb;simp at this;omega
 have mm: ∀x,x∈s↔x∈t:=fun x=>by
  constructor
  ·intro hx
   have:x∈B:=(mem x).1 (by rw[ea];exact List.mem_cons_of_mem _ hx)
   rw[eb] at this
   rcases List.mem_cons.1 this with c|c
   ·subst c;exact absurd hx (notin pa ls)
   ·exact c
  ·intro hx
   have:x∈A:=(mem x).2 (by rw[eb];exact List.mem_cons_of_mem _ hx)
   rw[ea] at this
   rcases List.mem_cons.1 this with c|c
   ·subst c;exact absurd hx (notin pb lt)
   ·exact c
 rw[ea,eb,Lv has s t pa pb mm]
end
section
def BD (p q:Ag):Bool:=decide (p.1<q.1)||(decide (p.1=q.1)&&decide (p.2<q.2))
theorem Cl {p q:Ag}:BD p q=true↔AH p q:=by unfold BD AH;simp
def C7 (l:List Ag):Nat→Nat
 |0=>0
 |k+1=>if BD (Ae l k) (Ae l (C7 l k)) then k else C7 l k
theorem Hg (l:List Ag): ∀k,(C7 l k=0∨C7 l k<k)∧ ∀i,i<k→ ¬AH (Ae l i) (Ae l (C7 l k)):=by
 intro k
 induction k with
 |zero=>exact⟨Or.inl rfl,fun i h=>by omega⟩
 |succ k ih=>
  unfold C7
  split
  ·rename_i c
   refine⟨Or.inr (by omega),fun i hi=> ?_⟩
   rcases Nat.eq_or_lt_of_le (show i≤k by omega) with rfl|q
   ·exact Ew _
   ·intro hp
    have hc:=Cl.1 c
    have a:=ih.2 i q
    -- i < k < the least one
    apply a
    unfold AH at*
    rcases hp with hp|⟨hp,hp2⟩<;>rcases hc with hc|⟨hc,hc2⟩<;>grind
  ·rename_i c
   refine⟨by rcases ih.1 with a|a<;>omega,fun i hi=> ?_⟩
   rcases Nat.eq_or_lt_of_le (show i≤k by omega) with rfl|q
   ·intro hp;exact c (Cl.2 hp)
   ·exact ih.2 i q
def B1 (l:List Ag):List Ag:=EQ (C7 l l.length) l
theorem Gj (l:List Ag):C7 l l.length≤l.length:=by
 rcases(Hg l l.length).1 with a|a<;>omega
theorem M1 {l:List Ag}:DX (B1 l):=by
 intro p hp
 unfold B1 at*
 rw[Fo (Gj l),Nat.zero_add]
 obtain⟨i,hi,rfl⟩:=Cs (Lw.1 hp)
 exact(Hg l l.length).2 i hi
theorem OW {l:List Ag} {x:Ag}:x∈B1 l↔x∈l:=Lw
theorem Io {l:List Ag} (h:AY l):AY (B1 l):=h.rot (Gj l)
theorem NQ {l:List Ag} {x:Ag} (h:FV l x):FV (B1 l) x:=h.rot (Gj l)
def JT (f:AL) (l:List Ag):Bool:=l.any fun p=>decide (f.at p<0)
theorem IM {f:AL} {l:List Ag}:JT f l=true↔ ∃p∈l,f.at p<0:=by unfold JT;simp
def BT (f:AL) (l:List Ag):List Ag:=if JT f l then B1 (BW f l) else[]
def DT (l:List Ag) (x:Ag):Prop:= ∀g:AL,(∀p∈l,0≤g.at p)→0≤g.at x
theorem DT.mem {l:List Ag} {x:Ag} (h:x∈l):DT l x:=fun _ hg=>hg _ h
theorem DT.ins {l:List Ag} (h:AY l) {x:Ag} (hx:DT l x):FV l x:=by
 intro i hi
 rw[←DV]
 refine hx _ fun p hp=> ?_
 obtain⟨k,hk,rfl⟩:=Cs hp
 rw[DV]
 exact h.side hi (Nat.le_of_lt hk)
def AL.neg (f:AL):AL:=⟨-f.a, -f.b, -f.c⟩
theorem AL.neg_at (f:AL) (x:Ag):f.neg.at x= -f.at x:=by unfold AL.at AL.neg;grind
theorem OH {α β:Type} {f g:α→List β}: ∀ {l:List α},(∀x∈l,f x=g x)→l.flatMap f=l.flatMap g:=by
 intro l
 induction l with
 |nil=>intro _;rfl
 |cons a l ih=>intro h;rw[List.flatMap_cons,List.flatMap_cons,h a List.mem_cons_self,ih fun x hx=>h x (List.mem_cons_of_mem _ hx)]
theorem Tb (l:List Ag):(List.range l.length).map (Ae l)=l:=by
 apply List.ext_getElem
 ·simp
 ·intro i h1 h2
  rw[List.getElem_map,List.getElem_range,AE h2]
theorem QL {f:AL} {l:List Ag} (h:AY l) {p:Ag} (hp:p∈l) (hf:f.at p<0):AY (BT f l):=by
 unfold BT
 rw[if_pos (IM.2 ⟨p,hp,hf⟩)]
 exact Io (Oe h hp hf)
theorem Pd {f:AL} {l:List Ag} (h: ∀p∈l,0≤f.at p):BT f l=[]:=by
 unfold BT
 refine if_neg fun c=> ?_
 obtain⟨p,hp,hf⟩:=IM.1 c
 have:=h p hp
 grind
end
section
def IL (F:Nat→Rat):Nat→Rat
 |0=>0
 |n+1=>IL F n+F n
def F0 (p q:Ag):Rat:=p.1*q.2-q.1*p.2
def CI (l:List Ag):Rat:=IL (fun i=>F0 (Ae l i) (Ae l (i+1))) l.length
theorem Ke {f:AL} (hf:f.a≠0∨f.b≠0) {o p q:Ag} (ho:f.at o=0) (hp:f.at p=0) (hq:f.at q=0):A7 o p q=0:=by
 unfold AL.at at*
 have e1:f.a*A7 o p q=0:=by unfold A7;grind
 have e2:f.b*A7 o p q=0:=by unfold A7;grind
 rcases hf with h|h
 ·rcases Rat.mul_eq_zero.1 e1 with a|a
  ·exact absurd a h
  ·exact a
 ·rcases Rat.mul_eq_zero.1 e2 with a|a
  ·exact absurd a h
  ·exact a
theorem EB {u v:Rat}:u*v<0↔(u<0∧0<v)∨(0<u∧v<0):=by
 constructor
 ·intro h
  rcases Cw u 0 with a|a
  ·rcases Cw 0 v with b|b
   ·exact Or.inl ⟨a,b⟩
   ·have:=Rat.mul_nonneg (show 0≤ -u by grind) (show 0≤ -v by grind);grind
  ·rcases Cw v 0 with b|b
   ·refine Or.inr ⟨?_,b⟩
    rcases Cw 0 u with c|c
    ·exact c
    ·have e:u=0:=by grind
     rw[e] at h;grind
   ·have:=Rat.mul_nonneg a b;grind
 ·rintro(⟨a,b⟩|⟨a,b⟩)
  ·have:=Rat.mul_pos (show 0< -u by grind) b;grind
  ·have:=Rat.mul_pos a (show 0< -v by grind);grind
def NS (f:AL) (p q:Ag):List Ag:=(if f.at p≤0 then[p] else[])++(if f.at p*f.at q<0 then[DR (f.at p/(f.at p-f.at q)) p q] else[])
theorem Ol (P:Nat→Ag) (n:Nat) (f:AL):(C0 P (n+1) f).map (Cj P)=(C0 P n f).map (Cj P)++NS f (P n) (P (n+1)):=by
 unfold C0 NS
 rw[List.range_succ,List.flatMap_append,List.map_append]
 congr 1
 rw[List.flatMap_cons,List.flatMap_nil,List.append_nil,List.map_append]
 congr 1
 ·split
  ·show[Cj P (n,0)]=_
   unfold Cj;rw[QR]
  ·rfl
 ·split<;>rfl
end
section
def JH (u1 u2:Rat):Prop:=0<u1∨u1=0∧0<u2
theorem B8 {p q:Ag} (h:AH p q):JH (q.1-p.1) (q.2-p.2):=by
 unfold AH at h;unfold JH
 rcases h with h|⟨h,h2⟩
 ·left;grind
 ·right;constructor<;>grind
theorem SG {u1 u2 v1 v2 w1 w2:Rat} (hu:JH u1 u2) (hv:JH v1 v2) (hw:JH w1 w2) (h1:0≤u1*v2-u2*v1) (h2:0≤v1*w2-v2*w1):0≤u1*w2-u2*w1:=by
 unfold JH at*
 have u0:0≤u1:=by rcases hu with h|⟨h,_⟩<;>grind
 have w0:0≤w1:=by rcases hw with h|⟨h,_⟩<;>grind
 rcases hv with h|⟨h,h3⟩
 ·apply SE h
  have a:=Rat.mul_nonneg u0 h2
  have b:=Rat.mul_nonneg w0 h1
  grind
 ·subst h
  have e:w1=0:=by
   rcases Cw 0 w1 with c|c
   ·have:=Rat.mul_pos h3 c;grind
   ·grind
  subst e
  rcases hw with c|⟨_,c⟩
  ·grind
  ·have:=Rat.mul_nonneg u0 (Rat.le_of_lt c);grind
theorem KZ {u1 u2 v1 v2 w1 w2:Rat} (hu:JH u1 u2) (hv:JH v1 v2) (hw:JH w1 w2) (h1:0<u1*v2-u2*v1) (h2:0≤v1*w2-v2*w1):0<u1*w2-u2*w1:=by
 unfold JH at*
 have u0:0≤u1:=by rcases hu with h|⟨h,_⟩<;>grind
 have v0:0≤v1:=by rcases hv with h|⟨h,_⟩<;>grind
 have u1p:0<u1:=by
  rcases hu with h|⟨h,h3⟩
  ·exact h
  ·subst h
   have:=Rat.mul_nonneg (Rat.le_of_lt h3) v0
   grind
 rcases hw with c|⟨c,c2⟩
 ·rcases hv with h|⟨h,h3⟩
  ·apply FF h
   have a:=Rat.mul_nonneg u0 h2
   have b:=Rat.mul_pos c h1
   grind
  ·subst h
   have:=Rat.mul_pos h3 c;grind
 ·subst c
  have:=Rat.mul_pos u1p c2;grind
theorem SQ {u1 u2 v1 v2 w1 w2:Rat} (hu:JH u1 u2) (hv:JH v1 v2) (hw:JH w1 w2) (h1:0≤u1*v2-u2*v1) (h2:0<v1*w2-v2*w1):0<u1*w2-u2*w1:=by
 unfold JH at*
 have w0:0≤w1:=by rcases hw with h|⟨h,_⟩<;>grind
 rcases hv with h|⟨h,h3⟩
 ·rcases hu with a|⟨a,a2⟩
  ·apply FF h
   have x:=Rat.mul_pos a h2
   have y:=Rat.mul_nonneg w0 h1
   grind
  ·subst a
   have:=Rat.mul_pos a2 h;grind
 ·subst h
  have:=Rat.mul_nonneg (Rat.le_of_lt h3) w0
  grind
theorem F2 (a b c:Ag):A7 a b c=(b.1-a.1)*(c.2-b.2)-(b.2-a.2)*(c.1-b.1):=by unfold A7;grind
theorem Kq {p q r:Ag} (h1:AH p q) (h2:AH q r):AH p r:=by
 unfold AH at*
 rcases h1 with h1|⟨h1,h3⟩<;>rcases h2 with h2|⟨h2,h4⟩<;>grind
theorem UD {a b c p:Ag} (h1:AH a b) (h2:AH b c) (h3:AH c p) (t1:0<A7 a b c) (t2:0<A7 b c p):0<A7 a b p:=by
 rw[F2] at*
 have x:=KZ (B8 h1) (B8 h2) (B8 h3) t1 (Rat.le_of_lt t2)
 grind
theorem Vk {a b c p:Ag} (h1:AH a b) (h2:AH b c) (h3:AH c p) (t1:0<A7 a b c) (t2:0<A7 b c p):0<A7 a c p:=by
 rw[F2] at*
 have x:=KZ (B8 h1) (B8 h2) (B8 h3) t1 (Rat.le_of_lt t2)
 grind
theorem TH {a b p x:Ag} (h1:AH a b) (h2:AH b p) (h3:AH x b) (t1:0<A7 a b p) (t2:0≤A7 a b x):0<A7 b p x∨0≤A7 b p x:=by
 right
 have y:=SG (u1:=b.1-x.1) (u2:=b.2-x.2) (v1:=b.1-a.1) (v2:=b.2-a.2) (w1:=p.1-b.1) (w2:=p.2-b.2) (B8 h3) (B8 h1) (B8 h2) (by unfold A7 at t2;grind) (by rw[F2] at t1;grind)
 unfold A7;grind
theorem Wx {a b p x:Ag} (h1:AH a b) (h2:AH a p) (h3:AH a x) (t1:A7 a b p≤0) (t2:0≤A7 a b x):0≤A7 a p x:=by
 have y:=SG (u1:=p.1-a.1) (u2:=p.2-a.2) (v1:=b.1-a.1) (v2:=b.2-a.2) (w1:=x.1-a.1) (w2:=x.2-a.2) (B8 h2) (B8 h1) (B8 h3) (by unfold A7 at t1;grind) (by unfold A7 at t2;grind)
 unfold A7;grind
def By (p:Ag):List Ag→List Ag
 |b::a::t=>if A7 a b p≤0 then By p (a::t) else b::a::t
 |l=>l
def Ao (l:List Ag):List Ag:=l.foldl (fun r p=>p::By p r) []
def LU:List Ag→Prop
 |[]=>True
 |a::l=>l.Pairwise (fun b c=>0<A7 c b a)∧LU l
def Iu (X:List Ag):List Ag→Prop
 |b::a::z=>(∀x∈X,0≤A7 a b x)∧Iu X (a::z)
 |_=>True
structure Iy (X r:List Ag):Prop where
 desc:r.Pairwise (fun p q=>AH q p)
 mem: ∀p∈r,p∈X
 tri:LU r
 edge:Iu X r
theorem Rq {X:List Ag} {p:Ag} (hp: ∀x∈X,AH x p): ∀(r:List Ag),Iy X r→ ∀(b:Ag) (z:List Ag),r=b::z→
  (∀x∈X,x=b∨AH x b∨0≤A7 b p x)→(∀m,r.getLast? =some m→ ∀x∈X,x=m∨AH m x)→
  ∃c y,By p r=c::y∧Iy X (c::y)∧(∀x∈X,0≤A7 c p x)∧(c::y).Pairwise (fun u v=>0<A7 v u p)∧(c::y).getLast? =r.getLast? :=by
 intro r
 induction r with
 |nil=>intro _ b z e;exact absurd e (by simp)
 |cons b0 t ih=>
  intro hc b z e hb hm
  obtain⟨rfl,rfl⟩:=List.cons.inj e
  cases t with
  |nil=>
   refine⟨b0,[],I,hc,fun x hx=> ?_,List.pairwise_singleton _ _,I⟩
   rcases hb x hx with rfl|q|q
   ·rw[GC];grind
   ·rcases hm b0 rfl x hx with rfl|q2
    ·rw[GC];grind
    ·exact absurd q2 (Dd q)
   ·exact q
  |cons a t=>
   have ab:AH a b0:=(List.pairwise_cons.1 hc.desc).1 a List.mem_cons_self
   have bp:AH b0 p:=hp _ (hc.mem _ List.mem_cons_self)
   have ap:AH a p:=Kq ab bp
   have hca:Iy X (a::t):=⟨(List.pairwise_cons.1 hc.desc).2,fun q hq=>hc.mem q (List.mem_cons_of_mem _ hq),hc.tri.2,hc.edge.2⟩
   have hE:=hc.edge.1
   unfold By
   split
   ·rename_i c
    obtain⟨c',y,e1,e2,e3,e4,e5⟩:=ih hca a t rfl (fun x hx=>by
     rcases Do x a with q|q|q
     ·exact Or.inr (Or.inl q)
     ·exact Or.inl q
     ·exact Or.inr (Or.inr (Wx ab ap q c (hE x hx)))) (fun m hm'=>hm m (by rw[List.getLast?_cons_cons];exact hm'))
    exact⟨c',y,e1,e2,e3,e4,by rw[e5,List.getLast?_cons_cons]⟩
   ·rename_i c
    have tp:0<A7 a b0 p:=by grind
    refine⟨b0,a::t,I,hc,fun x hx=> ?_, ?_,I⟩
    ·rcases Do x b0 with q|q|q
     ·rcases TH ab bp q tp (hE x hx) with w|w<;>grind
     ·subst q;rw[GC];grind
     ·rcases hb x hx with rfl|w|w
      ·exact absurd q (Ew _)
      ·exact absurd w (Dd q)
      ·exact w
    ·
     have h1: ∀v∈a::t,0<A7 v b0 p:=by
      intro v hv
      rcases List.mem_cons.1 hv with rfl|hv
      ·exact tp
      ·have va:AH v a:=(List.pairwise_cons.1 hca.desc).1 v hv
       have tv:0<A7 v a b0:=(List.pairwise_cons.1 hc.tri.1).1 v hv
       exact Vk va ab bp tv tp
     rw[List.pairwise_cons]
     refine⟨h1, ?_⟩
     have hd:=(List.pairwise_cons.1 hc.desc)
     have:=List.Pairwise.and hc.tri.1 hd.2
     refine List.Pairwise.imp_of_mem ?_ this
     rintro u v hu hv ⟨t1,t2⟩
     exact UD t2 (hd.1 u hu) bp t1 (h1 u hu)
theorem Iu.more {X:List Ag} {p:Ag}: ∀ {l:List Ag},Iu X l→l.Pairwise (fun u v=>0<A7 v u p)→Iu (X++[p]) l
 |[],_,_=>trivial
 |[_],_,_=>trivial
 |b::a::z,h,hp=>by
  obtain⟨p1,p2⟩:=List.pairwise_cons.1 hp
  refine⟨fun x hx=> ?_,Iu.more h.2 p2⟩
  rcases List.mem_append.1 hx with q|q
  ·exact h.1 x q
  ·rw[List.mem_singleton] at q;subst q
   exact Rat.le_of_lt (p1 a List.mem_cons_self)
theorem J8: ∀(l:List Ag),l.Pairwise AH→Iy l (Ao l)∧(Ao l).getLast? =l.head? ∧(Ao l).head? =l.getLast? :=by
 intro l
 -- from the end
 suffices H: ∀n (l:List Ag),l.length=n→l.Pairwise AH→Iy l (Ao l)∧(Ao l).getLast? =l.head? ∧(Ao l).head? =l.getLast? from H _ l rfl
 intro n
 induction n with
 |zero=>
  intro l hl _
  have e:l=[]:=List.length_eq_zero_iff.1 hl
  subst e
  exact⟨⟨List.Pairwise.nil,fun _ h=>h,tO,tO⟩,I,I⟩
 |succ n ih=>
  intro l hl hs
  obtain⟨X,p,rfl⟩: ∃X p,l=X++[p]:=⟨l.dropLast,l.getLast (by intro e;subst e;simp at hl),(List.dropLast_concat_getLast _).symm⟩
  obtain⟨s1,_,s3⟩:=List.pairwise_append.1 hs
  obtain⟨i1,i2,i3⟩:=ih X (by simp at hl;exact hl) s1
  have hp: ∀x∈X,AH x p:=fun x hx=>s3 x hx p List.mem_cons_self
  have eC:Ao (X++[p])=p::By p (Ao X):=by unfold Ao;rw[List.foldl_append];rfl
  rw[eC]
  cases hX:Ao X with
  |nil=>
   rw[hX] at i2
   have e:X=[]:=by
    cases X with
    |nil=>rfl
    |cons x X=>exact absurd i2 (by simp)
   subst e
   refine⟨⟨List.pairwise_singleton _ _,fun q hq=>hq,⟨List.Pairwise.nil,tO⟩,tO⟩,I,I⟩
  |cons b z=>
   rw[hX] at i1 i2 i3
   have hb: ∀x∈X,x=b∨AH x b:=by
    intro x hx
    have e:X.getLast? =some b:=by rw[←i3];rfl
    obtain⟨Y,rfl⟩: ∃Y,X=Y++[b]:=by
     have:=List.getLast?_eq_some_iff.1 e
     exact this
    rcases List.mem_append.1 hx with q|q
    ·exact Or.inr ((List.pairwise_append.1 s1).2.2 x q b List.mem_cons_self)
    ·exact Or.inl (List.mem_singleton.1 q)
   have hm: ∀m,(b::z).getLast? =some m→ ∀x∈X,x=m∨AH m x:=by
    intro m e x hx
    rw[i2] at e
    cases X with
    |nil=>exact absurd hx (by simp)
    |cons y X=>
     have e:y=m:=Option.some.inj e
     subst e
     rcases List.mem_cons.1 hx with q|q
     ·exact Or.inl q
     ·exact Or.inr ((List.pairwise_cons.1 s1).1 x q)
   obtain⟨c,y,e1,e2,e3,e4,e5⟩:=Rq hp (b::z) i1 b z rfl (fun x hx=>(hb x hx).elim Or.inl fun q=>Or.inr (Or.inl q)) hm
   rw[e1]
   refine⟨⟨?_, ?_,⟨e4,e2.tri⟩, ?_,(Iu.more e2.edge e4)⟩, ?_,by simp⟩
   ·rw[List.pairwise_cons]
    exact⟨fun q hq=>hp q (e2.mem q hq),e2.desc⟩
   ·intro q hq
    rcases List.mem_cons.1 hq with w|w
    ·subst w;simp
    ·exact List.mem_append_left _ (e2.mem q w)
   ·intro x hx
    rcases List.mem_append.1 hx with w|w
    ·exact e3 x w
    ·rw[List.mem_singleton] at w;subst w;rw[KX];grind
   ·rw[List.getLast?_cons_cons,e5,i2]
    cases X with
    |nil=>rw[i2] at*;simp at i3
    |cons x X=>rfl
end
section
theorem LU.get: ∀ {l:List Ag},LU l→ ∀(i j k:Nat) (hij:i<j) (hjk:j<k) (hk:k<l.length),0<A7 l[k] l[j] l[i]
 |a::l,h,i,j,k,hij,hjk,hk=>by
  cases i with
  |zero=>
   obtain⟨j,rfl⟩: ∃j',j=j'+1:=⟨j-1,by omega⟩
   obtain⟨k,rfl⟩: ∃k',k=k'+1:=⟨k-1,by omega⟩
   have:=List.pairwise_iff_getElem.1 h.1 j k (by simp at hk;omega) (by simp at hk;omega) (by omega)
   exact this
  |succ i=>
   obtain⟨j,rfl⟩: ∃j',j=j'+1:=⟨j-1,by omega⟩
   obtain⟨k,rfl⟩: ∃k',k=k'+1:=⟨k-1,by omega⟩
   exact LU.get h.2 i j k (by omega) (by omega) (by simp at hk;omega)
theorem Iu.get {X:List Ag}: ∀ {l:List Ag},Iu X l→ ∀(i:Nat) (hi:i+1<l.length), ∀x∈X,0≤A7 l[i+1] l[i] x
 |[a],_,i,hi=>by simp at hi
 |b::a::z,h,i,hi=>by
  cases i with
  |zero=>exact h.1
  |succ i=>exact Iu.get h.2 i (by simp at hi⊢;omega)
structure Kp (S:List Ag) (f:Nat→Ag) (r:Nat):Prop where
 lt: ∀i j,i<j→j≤r→AH (f i) (f j)
 mem: ∀i,i≤r→f i∈S
 tri: ∀i j k,i<j→j<k→k≤r→0<A7 (f i) (f j) (f k)
 edge: ∀i,i<r→ ∀x∈S,0≤A7 (f i) (f (i+1)) x
theorem Iy.asc {S l:List Ag} (h:Iy S l) (h0:0<l.length):Kp S (fun i=>Ae l (l.length-1-i)) (l.length-1):=by
 have g: ∀i,i≤l.length-1→ ∃(hi:l.length-1-i<l.length),Ae l (l.length-1-i)=l[l.length-1-i]:=fun i _=>⟨by omega,AE _⟩
 refine⟨?_, ?_, ?_, ?_⟩
 ·intro i j hij hj
  show AH (Ae l _) (Ae l _)
  rw[AE (by omega),AE (by omega)]
  exact List.pairwise_iff_getElem.1 h.desc _ _ (by omega) (by omega) (by omega)
 ·intro i hi
  exact h.mem _ (AU h0 _)
 ·intro i j k hij hjk hk
  show 0<A7 (Ae l _) (Ae l _) (Ae l _)
  rw[AE (i:=l.length-1-i) (by omega),AE (i:=l.length-1-j) (by omega),AE (i:=l.length-1-k) (by omega)]
  exact h.tri.get _ _ _ (by omega) (by omega) (by omega)
 ·intro i hi x hx
  show 0≤A7 (Ae l _) (Ae l _) x
  rw[AE (i:=l.length-1-i) (by omega),AE (i:=l.length-1-(i+1)) (by omega)]
  have e:l.length-1-i=l.length-1-(i+1)+1:=by omega
  have:=h.edge.get (l.length-1-(i+1)) (by omega) x hx
  simp only[←e] at this
  exact this
def Bq (p:Ag):Ag:=(-p.1, -p.2)
theorem GP (a b c:Ag):A7 (Bq a) (Bq b) (Bq c)=A7 a b c:=by unfold A7 Bq;grind
theorem M6 {a b:Ag}:AH (Bq a) (Bq b)↔AH b a:=by
 unfold AH Bq
 constructor<;>rintro(h|⟨h,h2⟩)
 ·left;grind
 ·right;constructor<;>grind
 ·left;grind
 ·right;constructor<;>grind
theorem Nn (p:Ag): ∀l:List Ag,By (Bq p) (l.map Bq)=(By p l).map Bq
 |[]=>rfl
 |[_]=>rfl
 |b::a::t=>by
  show(if A7 (Bq a) (Bq b) (Bq p)≤0 then By (Bq p) ((a::t).map Bq) else Bq b::Bq a::t.map Bq)=List.map Bq (if A7 a b p≤0 then By p (a::t) else b::a::t)
  rw[GP]
  split
  ·exact Nn p (a::t)
  ·rfl
theorem Qr (l:List Ag):Ao (l.map Bq)=(Ao l).map Bq:=by
 have H: ∀(l r:List Ag),(l.map Bq).foldl (fun r p=>p::By p r) (r.map Bq)=(l.foldl (fun r p=>p::By p r) r).map Bq:=by
  intro l
  induction l with
  |nil=>intro r;rfl
  |cons a l ih=>
   intro r
   show(l.map Bq).foldl _ (Bq a::By (Bq a) (r.map Bq))=_
   rw[Nn]
   exact ih (a::By a r)
 exact H l []
theorem Tr {S:List Ag} {a b x u w:Ag} (ab:AH a b) (xu:AH x u) (wx:AH w x) (t:0<A7 u x w) (eu: ∀s∈S,0≤A7 u x s) (ew: ∀s∈S,0≤A7 x w s) (ha:a∈S) (hb:b∈S)
  (nb:AH b x∨b=x→ ∃c,c∈S∧AH b c∧0<A7 a b c∧0≤A7 b c x) (na:AH x a∨x=a→ ∃z,z∈S∧AH z a∧0<A7 z a b∧0≤A7 z a x):A7 a b x≠0:=by
 intro h0
 -- three ways about x: D, A, B, C
 have core: ∀c d:Ag,AH c x→AH x d→c∈S→d∈S→0≤A7 c x d→False:=by
  intro c d hc hd mc md ht
  have DA:0≤(d.1-x.1)*(u.2-x.2)-(d.2-x.2)*(u.1-x.1):=by have:=eu d md;unfold A7 at this;grind
  have AB:0<(u.1-x.1)*(x.2-w.2)-(u.2-x.2)*(x.1-w.1):=by unfold A7 at t;grind
  have BC:0≤(x.1-w.1)*(x.2-c.2)-(x.2-w.2)*(x.1-c.1):=by have:=ew c mc;unfold A7 at this;grind
  have DB:=SQ (B8 hd) (B8 xu) (B8 wx) DA AB
  have DC:=KZ (B8 hd) (B8 wx) (B8 hc) DB BC
  rw[F2] at ht
  grind
 rcases Do x a with q|q|q
 ·obtain⟨z,mz,za,t1,t2⟩:=na (Or.inl q)
  have h1:0≤(a.1-x.1)*(a.2-z.2)-(a.2-x.2)*(a.1-z.1):=by unfold A7 at t2;grind
  have h2:0<(a.1-z.1)*(b.2-a.2)-(a.2-z.2)*(b.1-a.1):=by rw[F2] at t1;exact t1
  have:=SQ (B8 q) (B8 za) (B8 ab) h1 h2
  unfold A7 at h0
  grind
 ·subst q
  obtain⟨z,mz,za,t1,t2⟩:=na (Or.inr rfl)
  exact core z b za ab mz hb (Rat.le_of_lt t1)
 rcases Do x b with q2|q2|q2
 ·refine core a b q q2 ha hb ?_
  have:A7 a x b= -A7 a b x:=by unfold A7;grind
  rw[this,h0];grind
 ·subst q2
  obtain⟨c,mc,bc,t1,t2⟩:=nb (Or.inr rfl)
  exact core a c ab bc ha mc (Rat.le_of_lt t1)
 ·obtain⟨c,mc,bc,t1,t2⟩:=nb (Or.inl q2)
  have h1:0<(b.1-a.1)*(c.2-b.2)-(b.2-a.2)*(c.1-b.1):=by rw[F2] at t1;exact t1
  have h2:0≤(c.1-b.1)*(x.2-b.2)-(c.2-b.2)*(x.1-b.1):=by unfold A7 at t2;grind
  have:=KZ (B8 ab) (B8 bc) (B8 q2) h1 h2
  rw[F2] at h0
  grind
theorem Kp.strict {S T:List Ag} {f g:Nat→Ag} {r q:Nat} (hf:Kp S f r) (hg:Kp T (fun i=>Bq (g i)) q) (hT: ∀x,x∈S→Bq x∈T) (hT': ∀x,Bq x∈T→x∈S) (e0:f 0=g q) (e1:f r=g 0) {i l:Nat} (hi:i<r) (h0:0<l) (hl:l<q):0<A7 (f i) (f (i+1)) (g l):=by
 have gm: ∀j,j≤q→g j∈S:=fun j hj=>hT' _ (hg.mem j hj)
 have gl: ∀j k,j<k→k≤q→AH (g k) (g j):=fun j k h1 h2=>M6.1 (hg.lt j k h1 h2)
 have ge: ∀j,j<q→ ∀s∈S,0≤A7 (g j) (g (j+1)) s:=fun j hj s hs=>by
  have:=hg.edge j hj _ (hT s hs);rw[GP] at this;exact this
 have gt: ∀j k m,j<k→k<m→m≤q→0<A7 (g j) (g k) (g m):=fun j k m h1 h2 h3=>by
  have:=hg.tri j k m h1 h2 h3;rw[GP] at this;exact this
 have nn:=hf.edge i hi (g l) (gm l (by omega))
 have xlt:AH (g l) (f r):=by rw[e1];exact gl 0 l h0 (by omega)
 have xgt:AH (f 0) (g l):=by rw[e0];exact gl l q hl (by omega)
 obtain⟨l',rfl⟩: ∃l',l=l'+1:=⟨l-1,by omega⟩
 have ne:=Tr (S:=S) (a:=f i) (b:=f (i+1)) (x:=g (l'+1)) (u:=g l') (w:=g (l'+1+1)) (hf.lt _ _ (by omega) (by omega)) (gl _ _ (by omega) (by omega)) (gl _ _ (by omega) (by omega)) (gt _ _ _ (by omega) (by omega) (by omega)) (ge l' (by omega)) (ge (l'+1) (by omega)) (hf.mem _ (by omega)) (hf.mem _ (by omega)) (fun h=>by
   have hr:i+1≠r:=by
    intro e
    rw[e] at h
    rcases h with h|h
    ·exact Dd h xlt
    ·rw[h] at xlt;exact Ew _ xlt
   exact⟨f (i+2),hf.mem _ (by omega),hf.lt _ _ (by omega) (by omega),hf.tri _ _ _ (by omega) (by omega) (by omega),hf.edge (i+1) (by omega) _ (gm _ (by omega))⟩) (fun h=>by
   have hr:i≠0:=by
    intro e
    rw[e] at h
    rcases h with h|h
    ·exact Dd h xgt
    ·rw[←h] at xgt;exact Ew _ xgt
   obtain⟨i',rfl⟩: ∃i',i=i'+1:=⟨i-1,by omega⟩
   exact⟨f i',hf.mem _ (by omega),hf.lt _ _ (by omega) (by omega),hf.tri _ _ _ (by omega) (by omega) (by omega),hf.edge i' (by omega) _ (gm _ (by omega))⟩)
 grind
theorem OE {S T:List Ag} {f g:Nat→Ag} {r q:Nat} (hf:Kp S f r) (hg:Kp T (fun i=>Bq (g i)) q) (hT: ∀x,x∈S→Bq x∈T) (hT': ∀x,Bq x∈T→x∈S) (e0:f 0=g q) (e1:f r=g 0) {P:Nat→Ag} (hP: ∀i,i≤r→P i=f i) (hQ: ∀i,i≤q→P (r+i)=g i) (n3:3≤r+q):BM P (r+q)∧ ∀x∈S,NP P (r+q) x:=by
 have ge: ∀j,j<q→ ∀s∈S,0≤A7 (g j) (g (j+1)) s:=fun j hj s hs=>by
  have:=hg.edge j hj _ (hT s hs);rw[GP] at this;exact this
 have gt: ∀j k m,j<k→k<m→m≤q→0<A7 (g j) (g k) (g m):=fun j k m h1 h2 h3=>by
  have:=hg.tri j k m h1 h2 h3;rw[GP] at this;exact this
 have cl:P (r+q)=P 0:=by rw[hQ q (Nat.le_refl _),hP 0 (Nat.zero_le _),e0]
 refine⟨BM.of_chk n3 cl ?_, ?_⟩
 ·intro i k hi hk h1 h2 h3
  rcases Nat.lt_or_ge i r with c|c
  ·rw[hP i (by omega),hP (i+1) (by omega)]
   rcases Nat.lt_or_ge r k with d|d
   ·obtain⟨l,rfl⟩: ∃l,k=r+l:=⟨k-r,by omega⟩
    rw[hQ l (by omega)]
    exact hf.strict hg hT hT' e0 e1 c (by omega) (by omega)
   ·rw[hP k d]
    rcases Nat.lt_or_ge k i with w|w
    ·rw[←CD];exact hf.tri _ _ _ w (by omega) (by omega)
    ·exact hf.tri _ _ _ (by omega) (by omega) (by omega)
  ·obtain⟨j,rfl⟩: ∃j,i=r+j:=⟨i-r,by omega⟩
   rw[hQ j (by omega),show r+j+1=r+(j+1) by omega,hQ (j+1) (by omega)]
   by_cases k0:k=0
   ·subst k0
    rw[←cl,hQ q (Nat.le_refl _)]
    exact gt _ _ _ (by omega) (by omega) (by omega)
   rcases Nat.lt_or_ge k r with d|d
   ·
    rw[hP k (by omega), ←GP]
    have hf':Kp S (fun i=>Bq (Bq (f i))) r:=by
     have e:(fun i=>Bq (Bq (f i)))=f:=by
      funext i;unfold Bq;ext<;>grind
     rw[e];exact hf
    have nn: ∀x:Ag,Bq (Bq x)=x:=fun x=>by unfold Bq;ext<;>grind
    exact Kp.strict (S:=T) (T:=S) (f:=fun i=>Bq (g i)) (g:=fun i=>Bq (f i)) hg hf' (fun x hx=>hT' _ (by rw[nn];exact hx)) (fun x hx=>by have:=hT _ hx;rw[nn] at this;exact this) (by show Bq (g 0)=Bq (f r);rw[e1]) (by show Bq (g q)=Bq (f 0);rw[e0]) (i:=j) (l:=k) (by omega) (by omega) d
   ·obtain⟨l,rfl⟩: ∃l,k=r+l:=⟨k-r,by omega⟩
    rw[hQ l (by omega)]
    rcases Nat.lt_or_ge l j with w|w
    ·rw[←CD];exact gt _ _ _ w (by omega) (by omega)
    ·exact gt _ _ _ (by omega) (by omega) (by omega)
 ·intro x hx i hi
  rcases Nat.lt_or_ge i r with c|c
  ·rw[hP i (by omega),hP (i+1) (by omega)]
   exact hf.edge i c x hx
  ·obtain⟨j,rfl⟩: ∃j,i=r+j:=⟨i-r,by omega⟩
   rw[hQ j (by omega),show r+j+1=r+(j+1) by omega,hQ (j+1) (by omega)]
   exact ge j (by omega) x hx
end
section
def BK (S:List Ag):List Ag:=(Ao S).tail.reverse++(Ao S.reverse).tail.reverse
theorem Iy.ne {S l:List Ag} (h0:S≠[]) (h2:l.getLast? =S.head?):0<l.length:=by
 cases S with
 |nil=>exact absurd rfl h0
 |cons a S=>
  cases l with
  |nil=>exact absurd h2 (by simp)
  |cons b l=>simp
theorem RW {a b:List Ag} {P:Nat→Ag} (ha:0<a.length) (hb:0<b.length) (e0:a.getLast? =b.head?) (e1:a.head? =b.getLast?) (hP:P=Ae (a.tail.reverse++b.tail.reverse)) (hn:0<(a.length-1)+(b.length-1)):
  (a.tail.reverse++b.tail.reverse).length=(a.length-1)+(b.length-1)∧(∀i,i≤a.length-1→P i=Ae a (a.length-1-i))∧(∀i,i≤b.length-1→P (a.length-1+i)=Ae b (b.length-1-i)):=by
 have hlen:(a.tail.reverse++b.tail.reverse).length=(a.length-1)+(b.length-1):=by simp
 have lo: ∀i,i<a.length-1→P i=Ae a (a.length-1-i):=fun i hi=>by
  rw[hP,AE (by rw[hlen];omega),AE (by omega),List.getElem_append_left (by simp;omega),List.getElem_reverse,List.getElem_tail]
  congr 1;simp;omega
 have up: ∀i,i<b.length-1→P (a.length-1+i)=Ae b (b.length-1-i):=fun i hi=>by
  rw[hP,AE (by rw[hlen];omega),AE (by omega),List.getElem_append_right (by simp),List.getElem_reverse,List.getElem_tail]
  congr 1;simp;omega
 have top:Ae a 0=Ae b (b.length-1):=by
  rw[AE ha,AE (by omega)]
  rw[List.head?_eq_getElem?,List.getLast?_eq_getElem?,List.getElem?_eq_getElem ha,List.getElem?_eq_getElem (by omega)] at e1
  exact Option.some.inj e1
 have bot:Ae a (a.length-1)=Ae b 0:=by
  rw[AE hb,AE (by omega)]
  rw[List.head?_eq_getElem?,List.getLast?_eq_getElem?,List.getElem?_eq_getElem hb,List.getElem?_eq_getElem (by omega)] at e0
  exact Option.some.inj e0
 have cl:P ((a.length-1)+(b.length-1))=P 0:=by rw[hP, ←hlen];exact HW
 have p0:P 0=Ae a (a.length-1):=by
  rcases Nat.eq_zero_or_pos (a.length-1) with c|c
  ·have:=up 0 (by omega)
   rw[c] at this⊢
   rw[show 0+0=0 by rfl] at this
   rw[this,top];rfl
  ·exact lo 0 c
 refine⟨hlen,fun i hi=> ?_,fun i hi=> ?_⟩
 ·rcases Nat.lt_or_ge i (a.length-1) with c|c
  ·exact lo i c
  ·obtain rfl:i=a.length-1:=by omega
   rw[Nat.sub_self,top]
   rcases Nat.eq_zero_or_pos (b.length-1) with d|d
   ·have:=cl
    rw[d,Nat.add_zero,p0,bot] at this
    rw[this,d]
   ·exact up 0 d
 ·rcases Nat.lt_or_ge i (b.length-1) with c|c
  ·exact up i c
  ·obtain rfl:i=b.length-1:=by omega
   rw[cl,p0,bot,Nat.sub_self]
theorem Nb {l:List Ag} (h:l.Pairwise AH):(l.reverse.map Bq).Pairwise AH:=by
 rw[List.pairwise_map,List.pairwise_reverse]
 exact h.imp fun {a b} h=>M6.2 h
theorem Up {l:List Ag} (h:0<l.length) (i:Nat):Ae (l.map Bq) i=Bq (Ae l i):=by
 rw[←B6, ←B6 l]
 have e:(l.map Bq).length=l.length:=by simp
 rw[e,AE (by rw[e];exact Nat.mod_lt i h),AE (Nat.mod_lt i h)]
 exact List.getElem_map Bq
theorem Q7 {p q a b c:Ag} (hpq:AH p q) (ha:A7 p q a=0) (hb:A7 p q b=0) (hc:A7 p q c=0):A7 a b c=0:=by
 refine Ke (f:=Tq p q) ?_ (by rw[DV];exact ha) (by rw[DV];exact hb) (by rw[DV];exact hc)
 unfold Tq AH at*
 rcases hpq with h|⟨_,h⟩
 ·right;grind
 ·left;grind
theorem Oa {S:List Ag} (hs:S.Pairwise AH) (h0:S≠[]):
  (∀p∈BK S,p∈S)∧
  (3≤(BK S).length→AY (BK S)∧(∀x∈S,FV (BK S) x)∧DX (BK S))∧
  ((BK S).length<3→ ∀a∈S, ∀b∈S, ∀c∈S,A7 a b c=0):=by
 obtain⟨c1,c2,c3⟩:=J8 S hs
 obtain⟨d1,d2,d3⟩:=J8 (S.reverse.map Bq) (Nb hs)
 have eN:Ao (S.reverse.map Bq)=(Ao S.reverse).map Bq:=Qr _
 rw[eN] at d1 d2 d3
 have a0:0<(Ao S).length:=Iy.ne h0 c2
 have b0:0<(Ao S.reverse).length:=by
  have:=Iy.ne (S:=S.reverse.map Bq) (by simp[h0]) d2
  simpa using this
 have nn: ∀x:Ag,Bq (Bq x)=x:=fun x=>by unfold Bq;ext<;>grind
 have inj: ∀x y:Ag,Bq x=Bq y→x=y:=fun x y h=>by rw[←nn x,h,nn]
 have hT: ∀x,x∈S→Bq x∈S.reverse.map Bq:=fun x hx=>List.mem_map.2 ⟨x,List.mem_reverse.2 hx,rfl⟩
 have hT': ∀x,Bq x∈S.reverse.map Bq→x∈S:=fun x hx=>by
  obtain⟨y,hy,e⟩:=List.mem_map.1 hx
  rw[←inj _ _ e];exact List.mem_reverse.1 hy
 have e0:(Ao S).getLast? =(Ao S.reverse).head? :=by
  rw[c2]
  have:(Ao S.reverse).head?.map Bq=S.head?.map Bq:=by
   rw[←List.head?_map,d3,List.getLast?_map,List.getLast?_reverse]
  cases hA:S.head? with
  |none=>rw[hA] at this;cases hB:(Ao S.reverse).head? with
   |none=>rfl
   |some y=>rw[hB] at this;exact absurd this (by simp)
  |some x=>rw[hA] at this;cases hB:(Ao S.reverse).head? with
   |none=>rw[hB] at this;exact absurd this (by simp)
   |some y=>rw[hB] at this;rw[inj _ _ (Option.some.inj this)]
 have e1:(Ao S).head? =(Ao S.reverse).getLast? :=by
  rw[c3]
  have:(Ao S.reverse).getLast?.map Bq=S.getLast?.map Bq:=by
   rw[←List.getLast?_map,d2,List.head?_map,List.head?_reverse]
  cases hA:S.getLast? with
  |none=>rw[hA] at this;cases hB:(Ao S.reverse).getLast? with
   |none=>rfl
   |some y=>rw[hB] at this;exact absurd this (by simp)
  |some x=>rw[hA] at this;cases hB:(Ao S.reverse).getLast? with
   |none=>rw[hB] at this;exact absurd this (by simp)
   |some y=>rw[hB] at this;rw[inj _ _ (Option.some.inj this)]
 have hf:=c1.asc a0
 have hg:=d1.asc (by simpa using b0)
 rw[List.length_map] at hg
 have gfun:(fun i=>Ae ((Ao S.reverse).map Bq) ((Ao S.reverse).length-1-i))=fun i=>Bq (Ae (Ao S.reverse) ((Ao S.reverse).length-1-i)):=by
  funext i;exact Up b0 _
 rw[gfun] at hg
 have memL: ∀p∈Ao S,p∈S:=c1.mem
 have memU: ∀p∈Ao S.reverse,p∈S:=fun p hp=>hT' p (d1.mem _ (List.mem_map.2 ⟨p,hp,rfl⟩))
 have mem: ∀p∈BK S,p∈S:=by
  intro p hp
  unfold BK at hp
  rcases List.mem_append.1 hp with q|q
  ·exact memL _ (List.mem_of_mem_tail (List.mem_reverse.1 q))
  ·exact memU _ (List.mem_of_mem_tail (List.mem_reverse.1 q))
 have b1:Ae (Ao S) ((Ao S).length-1)=Ae (Ao S.reverse) 0:=by
  rw[AE b0,AE (by omega)]
  rw[List.head?_eq_getElem?,List.getLast?_eq_getElem?,List.getElem?_eq_getElem b0,List.getElem?_eq_getElem (by omega)] at e0
  exact Option.some.inj e0
 have t1:Ae (Ao S) 0=Ae (Ao S.reverse) ((Ao S.reverse).length-1):=by
  rw[AE a0,AE (by omega)]
  rw[List.head?_eq_getElem?,List.getLast?_eq_getElem?,List.getElem?_eq_getElem a0,List.getElem?_eq_getElem (by omega)] at e1
  exact Option.some.inj e1
 have E0:Ae (Ao S) ((Ao S).length-1-0)=Ae (Ao S.reverse) ((Ao S.reverse).length-1-((Ao S.reverse).length-1)):=by rw[Nat.sub_self,Nat.sub_zero,b1]
 have E1:Ae (Ao S) ((Ao S).length-1-((Ao S).length-1))=Ae (Ao S.reverse) ((Ao S.reverse).length-1-0):=by rw[Nat.sub_self,Nat.sub_zero,t1]
 have hlen:(BK S).length=((Ao S).length-1)+((Ao S.reverse).length-1):=by unfold BK;simp
 have least: ∀x∈S, ¬AH x (Ae (Ao S) ((Ao S).length-1)):=by
  intro x hx hp
  have e:Ae (Ao S) ((Ao S).length-1)=S.head h0:=by
   rw[AE (by omega)]
   rw[List.getLast?_eq_getElem?,List.getElem?_eq_getElem (by omega),List.head?_eq_some_head h0] at c2
   exact Option.some.inj c2
  rw[e] at hp
  cases S with
  |nil=>exact h0 rfl
  |cons y S=>
   rcases List.mem_cons.1 hx with q|q
   ·subst q;exact Ew _ hp
   ·exact Dd hp ((List.pairwise_cons.1 hs).1 x q)
 refine⟨mem,fun n3=> ?_,fun n3=> ?_⟩
 ·obtain⟨l1,l2,l3⟩:=RW (P:=Ae (BK S)) a0 b0 e0 e1 rfl (by omega)
  have H:=OE hf hg hT hT' E0 E1 (P:=Ae (BK S)) l2 l3 (by omega)
  refine⟨?_,fun x hx=> ?_,fun p hp=> ?_⟩
  ·show BM (Ae (BK S)) (BK S).length
   rw[hlen];exact H.1
  ·show NP (Ae (BK S)) (BK S).length x
   rw[hlen];exact H.2 x hx
  ·have e:=l2 0 (Nat.zero_le _)
   rw[Nat.sub_zero] at e
   rw[e]
   exact least p (mem p hp)
 ·intro a ha b hb c hc
  rw[hlen] at n3
  have LE: ∀i j:Nat,i<j→j≤(Ao S).length-1→AH (Ae (Ao S) ((Ao S).length-1-i)) (Ae (Ao S) ((Ao S).length-1-j)):=hf.lt
  have GE: ∀i j:Nat,i<j→j≤(Ao S.reverse).length-1→AH (Ae (Ao S.reverse) ((Ao S.reverse).length-1-j)) (Ae (Ao S.reverse) ((Ao S.reverse).length-1-i)):=fun i j h1 h2=>M6.1 (hg.lt i j h1 h2)
  by_cases r0:(Ao S).length-1=0
  ·
   have all: ∀x∈S,x=Ae (Ao S) 0:=by
    intro x hx
    have g1:S.head h0=Ae (Ao S) 0:=by
     rw[AE a0]
     rw[List.getLast?_eq_getElem?,List.head?_eq_some_head h0,List.getElem?_eq_getElem (by omega)] at c2
     have:=Option.some.inj c2
     simp only[r0] at this
     exact this.symm
    have g2:S.getLast h0=Ae (Ao S) 0:=by
     rw[AE a0]
     rw[List.head?_eq_getElem?,List.getLast?_eq_some_getLast h0,List.getElem?_eq_getElem a0] at c3
     exact(Option.some.inj c3).symm
    cases S with
    |nil=>exact absurd rfl h0
    |cons y S=>
     have g1:y=_:=g1
     cases S with
     |nil=>
      rcases List.mem_cons.1 hx with q|q
      ·rw[q];exact g1
      ·exact absurd q (by simp)
     |cons z S=>
      exfalso
      have lm:(y::z::S).getLast h0∈z::S:=by
       rw[List.getLast_cons (by simp)];exact List.getLast_mem _
      have:=(List.pairwise_cons.1 hs).1 _ lm
      rw[g2, ←g1] at this
      exact Ew _ this
   rw[all a ha,all b hb,Le]
  ·have q0:(Ao S.reverse).length-1≠0:=by
    intro q0
    have x:=LE 0 ((Ao S).length-1) (by omega) (Nat.le_refl _)
    rw[Nat.sub_zero,Nat.sub_self,b1,t1,q0] at x
    exact Ew _ x
   have r1:(Ao S).length-1=1:=by omega
   have q1:(Ao S.reverse).length-1=1:=by omega
   have lt:=LE 0 1 (by omega) (by omega)
   rw[r1] at lt
   have z: ∀x∈S,A7 (Ae (Ao S) 1) (Ae (Ao S) 0) x=0:=by
    intro x hx
    have u1:=hf.edge 0 (by omega) x hx
    have u2:=hg.edge 0 (by omega) (Bq x) (hT x hx)
    rw[GP] at u2
    simp only[r1,q1] at u1 u2
    have E0':Ae (Ao S) 1=Ae (Ao S.reverse) 0:=by rw[←b1,r1]
    have E1':Ae (Ao S) 0=Ae (Ao S.reverse) 1:=by rw[t1,q1]
    have u2:0≤A7 (Ae (Ao S.reverse) 1) (Ae (Ao S.reverse) 0) x:=u2
    rw[←E0', ←E1'] at u2
    have u1:0≤A7 (Ae (Ao S) 1) (Ae (Ao S) 0) x:=u1
    have:=S3 (Ae (Ao S) 0) (Ae (Ao S) 1) x
    grind
   exact Q7 lt (z a ha) (z b hb) (z c hc)
theorem Rz {S R:List Ag} (hs:S.Pairwise AH) (h0:S≠[]) (hR:AY R) (hl:DX R) (h1: ∀p∈R,p∈S) (h2: ∀x∈S,FV R x):BK S=R:=by
 obtain⟨a1,a2,a3⟩:=Oa hs h0
 have r3:=hR.n3
 have n3:3≤(BK S).length:=by
  rcases Nat.lt_or_ge (BK S).length 3 with c|c
  ·exfalso
   have t:=hR.tri 0 1 2 (by omega) (by omega) (by omega)
   have:=a3 c _ (h1 _ (AU (by omega) 0)) _ (h1 _ (AU (by omega) 1)) _ (h1 _ (AU (by omega) 2))
   grind
  ·exact c
 obtain⟨b1,b2,b3⟩:=a2 n3
 exact Rw b1 hR (fun x hx=>b2 x (h1 x hx)) (fun x hx=>h2 x (a1 x hx)) b3 hl
end
section
theorem PR {l S:List Ag} (hl:AY l) (hs:S.Pairwise AH) (h1: ∀p∈l,p∈S) (h2: ∀x∈S,DT l x):BK S=B1 l:=by
 have n3:=hl.n3
 have hR:=Io hl
 refine Rz hs ?_ hR M1 (fun p hp=>h1 p (OW.1 hp)) (fun x hx=>NQ ((h2 x hx).ins hl))
 intro e
 have:=h1 _ (AU (l:=l) (by omega) 0)
 rw[e] at this
 exact absurd this (by simp)
def IJ (l:List Ag):Rat:=IL (fun i=>((Ae l i).1+(Ae l (i+1)).1)*F0 (Ae l i) (Ae l (i+1))) l.length
def I2 (l:List Ag):Rat:=IL (fun i=>((Ae l i).2+(Ae l (i+1)).2)*F0 (Ae l i) (Ae l (i+1))) l.length
end
section
def CA (P:Nat→Ag) (n:Nat) (f:AL):List H4:=(List.range n).flatMap fun i=>
 (if f.at (P i)=0 then[(i,0)] else[])++(if f.at (P i)*f.at (P (i+1))<0 then[(i,f.at (P i)/(f.at (P i)-f.at (P (i+1))))] else[])
def Vr (P:Nat→Ag) (n:Nat) (f:AL) (k:H4):Prop:=k.1<n∧(k.2=0∧f.at (P k.1)=0∨f.at (P k.1)*f.at (P (k.1+1))<0∧k.2=f.at (P k.1)/(f.at (P k.1)-f.at (P (k.1+1))))
theorem Vr.kp {P:Nat→Ag} {n:Nat} {f:AL} {k:H4} (h:Vr P n f k):IT P n f k:=⟨h.1,h.2.imp (fun q=>⟨q.1,by rw[q.2];grind⟩) id⟩
theorem DH {P:Nat→Ag} {n:Nat} {f:AL} (k:H4):k∈CA P n f↔Vr P n f k:=by
 unfold CA Vr
 rw[List.mem_flatMap]
 constructor
 ·rintro⟨i,hi,hk⟩
  rw[List.mem_range] at hi
  rw[List.mem_append] at hk
  rcases hk with hk|hk
  ·split at hk
   ·rename_i c
    rw[List.mem_singleton] at hk;subst hk
    exact⟨hi,Or.inl ⟨I,c⟩⟩
   ·exact absurd hk (by simp)
  ·split at hk
   ·rename_i c
    rw[List.mem_singleton] at hk;subst hk
    exact⟨hi,Or.inr ⟨c,I⟩⟩
   ·exact absurd hk (by simp)
 ·obtain⟨i,t⟩:=k
  rintro⟨hi,hk⟩
  refine⟨i,List.mem_range.2 hi, ?_⟩
  rw[List.mem_append]
  rcases hk with⟨a,b⟩|⟨a,b⟩
  ·left;simp only at a b;rw[if_pos b,a];simp
  ·right;simp only at a b;rw[if_pos a,b];simp
def OC (P:Nat→Ag) (f:AL) (i:Nat):List H4:=(if f.at (P i)=0 then[(i,0)] else[])++(if f.at (P i)*f.at (P (i+1))<0 then[(i,f.at (P i)/(f.at (P i)-f.at (P (i+1))))] else[])
theorem L6 (P:Nat→Ag) (f:AL) (i:Nat):(OC P f i).length≤1:=by
 unfold OC
 split
 ·rename_i c
  rw[c,if_neg (by grind)]
  simp
 ·split<;>simp
theorem Na {α β:Type} {g:α→List β} (h: ∀a,(g a).length≤1) (l:List α):(l.flatMap g).length≤l.length:=by
 induction l with
 |nil=>simp
 |cons a l ih=>rw[List.flatMap_cons,List.length_append,List.length_cons];have:=h a;omega
theorem Pu (P:Nat→Ag) (n:Nat) (f:AL):(CA P n f).length≤n:=by
 have:=Na (L6 P f) (List.range n)
 rw[List.length_range] at this
 exact this
theorem HE (P:Nat→Ag) (n:Nat) (f:AL):(CA P n f).Pairwise (fun a b=>a.1<b.1):=by
 unfold CA
 rw[List.pairwise_flatMap]
 constructor
 ·intro i _
  have h:=L6 P f i
  show(OC P f i).Pairwise _
  match OC P f i,h with
  |[],_=>exact List.Pairwise.nil
  |[x],_=>exact List.pairwise_singleton _ _
  |_::_::_,h=>simp at h
 ·refine List.pairwise_lt_range.imp ?_
  intro i j hij x hx y hy
  have ex:x.1=i:=by
   rw[List.mem_append] at hx
   rcases hx with hx|hx<;>split at hx<;>simp at hx<;>rw[hx]
  have ey:y.1=j:=by
   rw[List.mem_append] at hy
   rcases hy with hy|hy<;>split at hy<;>simp at hy<;>rw[hy]
  rw[ex,ey];exact hij
def BA (f:AL) (l:List Ag):List Ag:=(CA (Ae l) l.length f).map (Cj (Ae l))
theorem GH {f:AL} {l:List Ag} {x:Ag} (hx:x∈BA f l):DT l x∧f.at x=0:=by
 unfold BA at hx
 obtain⟨k,hk,rfl⟩:=List.mem_map.1 hx
 have ks:=(DH k).1 hk
 have r:=ks.kp.rng
 have i0:0<l.length:=by have:=ks.1;omega
 constructor
 ·intro g hg
  unfold Cj
  rw[AL.cm]
  exact L9 r.1 r.2 (hg _ (AU i0 _)) (hg _ (AU i0 _))
 ·unfold Cj
  rw[AL.cm]
  rcases ks.2 with⟨a,b⟩|⟨a,b⟩
  ·rw[a,b];grind
  ·rw[b];exact(Fl a).2.2
theorem W5 {P:Nat→Ag} {n:Nat} (h:BM P n) {i j:Nat} {t s:Rat} (hij:i<j) (hj:j<n) (t1:t<1) (s0:0≤s) (s1:s<1):Cj P (i,t)≠Cj P (j,s):=by
 have n3:=h.n3
 intro e
 have a:A7 (P i) (P (i+1)) (Cj P (i,t))=0:=by unfold Cj;rw[JJ,GC,KX];grind
 rw[e] at a
 have b:A7 (P i) (P (i+1)) (Cj P (j,s))=(1-s)*A7 (P i) (P (i+1)) (P j)+s*A7 (P i) (P (i+1)) (P (j+1)):=by unfold Cj;rw[JJ]
 have x0:=h.side (i:=i) (k:=j) (by omega) (by omega)
 have y0:=h.side (i:=i) (k:=j+1) (by omega) (by omega)
 by_cases c:j=i+1
 ·subst c
  rcases Cw 0 s with d|d
  ·have:=Mo d s1 x0 (h.str (i:=i) (j:=i+1) (k:=i+1+1) (by omega) (by omega) (by omega) (by omega))
   grind
  ·have es:s=0:=by grind
   subst es
   have e3:Cj P (i+1,0)=P (i+1):=by unfold Cj;rw[QR]
   have e4:DR t (P i) (P (i+1))=P (i+1):=e.trans e3
   have e2:DR t (P i) (P (i+1))=DR 1 (P i) (P (i+1)):=by rw[X1];exact e4
   -- a third corner
   obtain⟨k,hk,hp⟩: ∃k,k<n∧0<A7 (P i) (P (i+1)) (P k):=by
    by_cases q:i+2<n
    ·exact⟨i+2,q,h.tri _ _ _ (by omega) (by omega) q⟩
    ·exact⟨0,by omega,by rw[←CD];exact h.tri 0 i (i+1) (by omega) (by omega) (by omega)⟩
   have m:=Kh t 1 (P i) (P (i+1)) (P k)
   rw[e2,Le] at m
   have:=Rat.mul_pos (show 0<1-t by grind) hp
   grind
 ·have:=G7 s0 s1 (h.str (i:=i) (j:=i+1) (k:=j) (by omega) (by omega) (by omega) (by omega)) y0
  grind
theorem Nd {f:AL} {l:List Ag} (h:AY l):(BA f l).Pairwise (· ≠ ·):=by
 unfold BA
 rw[List.pairwise_map]
 refine List.Pairwise.imp_of_mem ?_ (HE _ _ _)
 intro a b ha hb hab
 have ka:=((DH a).1 ha).kp.rng
 have kb:=(DH b).1 hb
 exact W5 h hab kb.1 ka.2 kb.kp.rng.1 kb.kp.rng.2
theorem Vj (u:Nat→Rat): ∀d s,u s<0→0<u (s+d)→ ∃i,s≤i∧i<s+d∧(u i=0∨u i*u (i+1)<0):=by
 intro d
 induction d with
 |zero=>intro s h1 h2;have h2:0<u s:=h2;exfalso;grind
 |succ d ih=>
  intro s h1 h2
  rcases Cw (u (s+d)) 0 with a|a
  ·exact⟨s+d,by omega,by omega,Or.inr (EB.2 (Or.inl ⟨a,h2⟩))⟩
  ·rcases Cw 0 (u (s+d)) with b|b
   ·obtain⟨i,x,y,z⟩:=ih s h1 b
    exact⟨i,x,by omega,z⟩
   ·exact⟨s+d,by omega,by omega,Or.inl (by grind)⟩
theorem LS {f:AL} {l:List Ag} (h0:0<l.length) {i:Nat} (h:f.at (Ae l i)=0∨f.at (Ae l i)*f.at (Ae l (i+1))<0): ∃t,(i%l.length,t)∈CA (Ae l) l.length f:=by
 have e:Ae l (i%l.length+1)=Ae l (i+1):=by
  rw[←B6,Nat.mod_add_mod,B6]
 rw[←B6 l i, ←e] at h
 rcases h with h|h
 ·exact⟨0,(DH _).2 ⟨Nat.mod_lt _ h0,Or.inl ⟨I,h⟩⟩⟩
 ·exact⟨f.at (Ae l (i%l.length))/(f.at (Ae l (i%l.length))-f.at (Ae l (i%l.length+1))),(DH _).2 ⟨Nat.mod_lt _ h0,Or.inr ⟨h,I⟩⟩⟩
theorem Vf (u:Nat→Rat) (d s:Nat) (h1:0<u s) (h2:u (s+d)<0): ∃i,s≤i∧i<s+d∧(u i=0∨u i*u (i+1)<0):=by
 obtain⟨i,x,y,z⟩:=Vj (fun i=> -u i) d s (show-u s<0 by grind) (show 0< -u (s+d) by grind)
 refine⟨i,x,y, ?_⟩
 rcases z with q|q
 ·left;have q: -u i=0:=q;grind
 ·right;have q: -u i* -u (i+1)<0:=q;grind
theorem Xs {α:Type} {l:List α} {a b:α} (ha:a∈l) (hb:b∈l) (h:a≠b):2≤l.length:=by
 match l,ha,hb with
 |[x],ha,hb=>simp at ha hb;exact absurd (ha.trans hb.symm) h
 |_::_::l,_,_=>simp
theorem Lm {f:AL} {l:List Ag} {a b:Nat} (hab:a<b) (hb:b<l.length) (h:f.at (Ae l a)<0∧0<f.at (Ae l b)∨0<f.at (Ae l a)∧f.at (Ae l b)<0):2≤(CA (Ae l) l.length f).length:=by
 have both: ∃i j,a≤i∧i<b∧b≤j∧j<a+l.length∧(f.at (Ae l i)=0∨f.at (Ae l i)*f.at (Ae l (i+1))<0)∧(f.at (Ae l j)=0∨f.at (Ae l j)*f.at (Ae l (j+1))<0):=by
  have per:=AY.per (l:=l) a
  rcases h with⟨h1,h2⟩|⟨h1,h2⟩
  ·obtain⟨i,x,y,z⟩:=Vj (fun i=>f.at (Ae l i)) (b-a) a h1 (by rw[show a+(b-a)=b by omega];exact h2)
   obtain⟨j,x2,y2,z2⟩:=Vf (fun i=>f.at (Ae l i)) (a+l.length-b) b h2 (by rw[show b+(a+l.length-b)=a+l.length by omega,per];exact h1)
   exact⟨i,j,x,by omega,x2,by omega,z,z2⟩
  ·obtain⟨i,x,y,z⟩:=Vf (fun i=>f.at (Ae l i)) (b-a) a h1 (by rw[show a+(b-a)=b by omega];exact h2)
   obtain⟨j,x2,y2,z2⟩:=Vj (fun i=>f.at (Ae l i)) (a+l.length-b) b h2 (by rw[show b+(a+l.length-b)=a+l.length by omega,per];exact h1)
   exact⟨i,j,x,by omega,x2,by omega,z,z2⟩
 obtain⟨i,j,h1,h2,h3,h4,h5,h6⟩:=both
 obtain⟨t,ht⟩:=LS (by omega) h5
 obtain⟨s,hs⟩:=LS (by omega) h6
 refine Xs ht hs fun e=> ?_
 have e1:i%l.length=j%l.length:=congrArg Prod.fst e
 rw[Nat.mod_eq_of_lt (show i<l.length by omega)] at e1
 rcases Nat.lt_or_ge j l.length with c|c
 ·rw[Nat.mod_eq_of_lt c] at e1;omega
 ·rw[Nat.mod_eq_sub_mod c,Nat.mod_eq_of_lt (by omega)] at e1;omega
def Fx (f:AL) (l:List Ag):Nat:=(l.filter fun p=>decide (f.at p=0)).length
theorem Iw (f:AL) (l:List Ag):Fx f l=((List.range l.length).filter fun i=>decide (f.at (Ae l i)=0)).length:=by
 unfold Fx
 conv=>lhs;rw[←Tb l]
 rw[List.filter_map,List.length_map]
 rfl
theorem QY {f:AL} (hf:f.a≠0∨f.b≠0) {l:List Ag} (h:AY l):Fx f l≤2:=by
 rw[Iw]
 rcases Nat.lt_or_ge 2 ((List.range l.length).filter fun i=>decide (f.at (Ae l i)=0)).length with c|c
 ·exfalso
  have s:((List.range l.length).filter fun i=>decide (f.at (Ae l i)=0)).Pairwise (· < ·):=List.pairwise_lt_range.sublist List.filter_sublist
  have g:=List.pairwise_iff_getElem.1 s
  have m: ∀i (hi:i<((List.range l.length).filter fun i=>decide (f.at (Ae l i)=0)).length),((List.range l.length).filter fun i=>decide (f.at (Ae l i)=0))[i]<l.length∧f.at (Ae l ((List.range l.length).filter fun i=>decide (f.at (Ae l i)=0))[i])=0:=fun i hi=>by
   have:=List.mem_filter.1 (List.getElem_mem hi)
   exact⟨List.mem_range.1 this.1,by simpa using this.2⟩
  have t:=h.tri _ _ _ (g 0 1 (by omega) (by omega) (by omega)) (g 1 2 (by omega) (by omega) (by omega)) (m 2 (by omega)).1
  have z:=Ke hf (m 0 (by omega)).2 (m 1 (by omega)).2 (m 2 (by omega)).2
  grind
 ·exact c
theorem Ki {α β:Type} (p:α→Bool) (g:α→β) (l:List α):(l.flatMap fun a=>if p a then[g a] else[]).length=(l.filter p).length:=by
 induction l with
 |nil=>rfl
 |cons a l ih=>
  rw[List.flatMap_cons,List.length_append,ih,List.filter_cons]
  split<;>simp<;>omega
theorem OP {α β:Type} {g k:α→List β} (h: ∀a,(g a).length≤(k a).length) (l:List α):(l.flatMap g).length≤(l.flatMap k).length:=by
 induction l with
 |nil=>simp
 |cons a l ih=>rw[List.flatMap_cons,List.flatMap_cons,List.length_append,List.length_append];have:=h a;omega
theorem MR {f:AL} (hf:f.a≠0∨f.b≠0) {l:List Ag} (h:AY l):2≤(BA f l).length↔((∃p∈l,f.at p<0)∧ ∃p∈l,0<f.at p)∨Fx f l=2:=by
 have n3:=h.n3
 have el:(BA f l).length=(CA (Ae l) l.length f).length:=by unfold BA;rw[List.length_map]
 have zl:Fx f l=((List.range l.length).flatMap fun i=>if decide (f.at (Ae l i)=0) then[((i,0):H4)] else[]).length:=by
  rw[Iw,Ki (fun i=>decide (f.at (Ae l i)=0)) (fun i=>((i,0):H4))]
 rw[el]
 constructor
 ·intro c
  by_cases d:(∃p∈l,f.at p<0)∧ ∃p∈l,0<f.at p
  ·exact Or.inl d
  ·right
   have nc: ∀i, ¬f.at (Ae l i)*f.at (Ae l (i+1))<0:=by
    intro i q
    have mi:=AU (l:=l) (by omega) i
    have mj:=AU (l:=l) (by omega) (i+1)
    rcases EB.1 q with⟨q1,q2⟩|⟨q1,q2⟩
    ·exact d ⟨⟨_,mi,q1⟩,⟨_,mj,q2⟩⟩
    ·exact d ⟨⟨_,mj,q2⟩,⟨_,mi,q1⟩⟩
   have e:CA (Ae l) l.length f=(List.range l.length).flatMap fun i=>if decide (f.at (Ae l i)=0) then[((i,0):H4)] else[]:=by
    unfold CA
    refine OH fun i _=> ?_
    rw[if_neg (nc i),List.append_nil]
    by_cases q:f.at (Ae l i)=0
    ·rw[if_pos q,if_pos (dT q)]
    ·rw[if_neg q,if_neg (by simp[q])]
   rw[e, ←zl] at c
   have:=QY hf h
   omega
 ·rintro(⟨⟨p,hp,fp⟩,⟨q,hq,fq⟩⟩|c)
  ·obtain⟨i,hi,rfl⟩:=Cs hp
   obtain⟨j,hj,rfl⟩:=Cs hq
   rcases Nat.lt_trichotomy i j with d|d|d
   ·exact Lm d hj (Or.inl ⟨fp,fq⟩)
   ·subst d;exfalso;grind
   ·exact Lm d hi (Or.inr ⟨fq,fp⟩)
  ·rw[←c,zl]
   refine OP (fun i=> ?_) _
   by_cases q:f.at (Ae l i)=0
   ·rw[if_pos (dT q),if_pos q];simp
   ·rw[if_neg (by simp[q])];simp
end
section
open Go Go.RowKit Go.Am Go.Lib
set_option maxRecDepth 10000
-- BOXES 3
-- CODE2
theorem SL (b:UInt8):decide (((b.toNat:Nat):Int)<48)=decide (b.toNat<48):=decide_eq_decide.2 (by omega)
theorem SD (b:UInt8):decide (((b.toNat:Nat):Int)>57)=decide (57<b.toNat):=decide_eq_decide.2 (by omega)
def dgB (s:List UInt8):Bool:=decide (s=decDigits (AQ s))
theorem GM {s:List UInt8}:dgB s=true↔MP s:=by unfold dgB;rw[decide_eq_true_iff];exact PZ.symm
theorem Rr {s:List UInt8} (h: ¬MP s):dgB s=false:=by
 cases e:dgB s
 ·rfl
 ·exact absurd (GM.1 e) h
theorem Hj (s:List UInt8) (hs:s.length<4611686018427387904):Bv Tryz.prog 83 [str s] (.bool (dgB s)):=by
 intro W
 refine Ab Tryz.func83 I I I ?_
 refine zA (zB (wP I (Aa (AI (A0 (A0 ?_))))))
 refine AG (X:=Unit) (fun _=>[(0,str s),(16, .bool (decide (s=[]∨(1<s.length∧s[0]? =some 48))))]) (fun _=>[]) (fun _=>True) ?_ ?_
 ·refine zB (wP I (wP I ?_))
  refine Af 5 (.int .i64 (s.length:Nat)) I (congrArg (fun n:Nat=>Value.int .i64 (n:Int)) (A4 s)) ?_
  refine wP I ?_
  by_cases h0:s=[]
  ·refine wU 6 true I (by rw[h0];rfl) (wP I ?_)
   iterate 8 refine Al I I ?_
   exact wP I (Aa (An () tO ⟨I,by rw[dT (Or.inl h0)];rfl,tO⟩ [] I))
  ·have hpos:0<s.length:=List.length_pos_iff.2 h0
   refine wU 6 false I (by rw[beq_eq_false_iff_ne];omega) (wP I (wP I (wP I ?_)))
   refine Af 9 (.int .i64 (s.length:Nat)) I (congrArg (fun n:Nat=>Value.int .i64 (n:Int)) (A4 s)) ?_
   refine wP I ?_
   by_cases h1:1<s.length
   ·refine wU 10 true I (dT (by omega)) ?_
    obtain⟨b,hb⟩: ∃b,s[0]? =some b:=⟨s[0],List.getElem?_eq_getElem hpos⟩
    refine wP I (wP I ?_)
    refine Bb 0 tH I I I I I I I I hb ?_
    refine wP I (wU 14 (decide (b=48)) I (Dr b 48) (wP I (wP I (Aa ?_))))
    refine An () tO ⟨I, ?_,tO⟩ [] I
    have e:decide (s=[]∨(1<s.length∧s[0]? =some 48))=decide (b=48):=by
     rw[decide_eq_decide,hb]
     constructor
     ·rintro(h|⟨_,h⟩)
      ·exact absurd h h0
      ·exact Option.some.inj h
     ·intro h;exact .inr ⟨h1,by rw[h]⟩
    rw[e];rfl
   ·refine wU 10 false I (dF (by omega)) (wP I ?_)
    iterate 3 refine Al I I ?_
    exact wP I (wP I (Aa (An () tO ⟨I,by rw[show decide (s=[]∨1<s.length∧s[0]? =some 48)=false from dF (fun h=>h.elim h0 (fun h=>h1 h.1))];rfl,tO⟩ [] I)))
 intro _ _
 refine Av I (fun hc=> ?_) (fun hc=> ?_)
 ·have hc:=of_decide_eq_true hc
  refine zA (zB (wP I (Aa (zE (zO (zP ?_))))))
  refine wR1 I I ?_
  rw[Rr fun h=> ?_]
  rcases hc with hc|⟨h1,h2⟩
  ·exact h.ne hc
  ·exact h.lead h1 h2
 have hc:=of_decide_eq_false hc
 have hne:s≠[]:=fun h=>hc (.inl h)
 have hlead:1<s.length→s[0]? ≠some 48:=fun h1 h2=>hc (.inr ⟨h1,h2⟩)
 refine zI (zE (zA (zA (zB (wP I (Aa (zE (zH ?_))))))))
 refine AA (X:=Nat) (fun i=>[(0,str s),(3, .int .i64 (i:Nat))]) (fun _=>[]) (fun i=>i≤s.length∧ ∀b∈s.take i,DE b=true) (fun i=>s.length-i) 0 ⟨Nat.zero_le _,fun b hb=>by simp at hb⟩ ⟨I,I,tO⟩ [] I ?_
 rintro i ⟨hi,hdg⟩
 have hi:i≤s.length:=hi
 have hdg: ∀b∈s.take i,DE b=true:=hdg
 refine zA (zA (zB (wP I (wP I (wP I ?_)))))
 refine Af 19 (.int .i64 (s.length:Nat)) I (congrArg (fun n:Nat=>Value.int .i64 (n:Int)) (A4 s)) ?_
 refine wP I ?_
 by_cases hlt:i<s.length
 ·refine wU 20 true I (dT (by omega)) (Aa (zE (zR I (zI (zE (zA (zH (zA (zB ?_)))))))))
  obtain⟨b,hb⟩: ∃b,s[i]? =some b:=⟨s[i],List.getElem?_eq_getElem hlt⟩
  have hbm:b∈s:=List.mem_of_getElem? hb
  refine wP I (wP I ?_)
  refine Bb i tH I I I I I I I I hb ?_
  refine wP I ?_
  by_cases h48:b.toNat<48
  ·refine wU 26 true I ((SL b).trans (dT h48)) (wP I ?_)
   iterate 4 refine Al I I ?_
   refine wP I (Aa (zE (zR I (zA (zB (wP I (Aa (zE (zO (zQ (zP (zP (zQ ?_)))))))))))))
   refine zP ?_
   refine wR1 I I ?_
   rw[Rr fun h=>by have:=C3.1 (h.all b hbm);omega]
  ·refine wU 26 false I ((SL b).trans (dF h48)) (wP I (wP I (wP I ?_)))
   refine Bb i tH I I I I I I I I hb ?_
   refine wP I ?_
   by_cases h57:57<b.toNat
   ·refine wU 31 true I ((SD b).trans (dT h57)) (wP I (Aa (zE (zR I (zA (zB (wP I (Aa (zE (zO (zQ (zP (zP ?_)))))))))))))
    refine zQ (zP ?_)
    refine wR1 I I ?_
    rw[Rr fun h=>by have:=C3.1 (h.all b hbm);omega]
   ·refine wU 31 false I ((SD b).trans (dF h57)) (wP I (Aa (zE (zS I (zI (zN (zE (zB (wP I (wP I (wV 22 ((i+1:Nat):Int) I (Ay (by omega)) (wP I (Aa ?_)))))))))))))
    refine A6 (i+1) ⟨hlt,fun c hc=> ?_⟩ (by show s.length-(i+1)<s.length-i;omega) ⟨I,I,tO⟩ [] I
    rw[List.take_add_one,hb,List.mem_append] at hc
    rcases hc with hc|hc
    ·exact hdg c hc
    ·obtain rfl:c=b:=by simpa using hc
     exact C3.2 ⟨by omega,by omega⟩
 ·refine wU 20 false I (dF (by omega)) (Aa (zE (zS I (zJ (zK (zK (zL (zE (zA (zB (wP I (Aa (zE ?_)))))))))))))
  refine zO ?_
  refine wR1 I I ?_
  rw[List.take_of_length_le (by omega)] at hdg
  rw[GM.2 ⟨hne,hdg,hlead⟩]
theorem K7 (a b:Nat) (ha:a<9223372036854775808) (hb:b<9223372036854775808):Bv Tryz.prog 84 [.int .i64 (a:Nat), .int .i64 (b:Nat)] (.int .i64 (Nat.gcd a b:Nat)):=by
 intro W
 refine Ab Tryz.func84 I I I ?_
 refine zA (zB (wP I (Aa (zE (zA (zH ?_))))))
 refine AA (X:=Nat×Nat) (fun x=>[(0, .int .i64 (x.1:Nat)),(1, .int .i64 (x.2:Nat))]) (fun _=>[]) (fun x=>x.1<9223372036854775808∧x.2<9223372036854775808∧Nat.gcd x.1 x.2=Nat.gcd a b) (fun x=>x.2) (a,b) ⟨ha,hb,I⟩ ⟨I,I,tO⟩ [] I ?_
 rintro⟨x,y⟩ ⟨hx,hy,hg⟩
 have hx:x<9223372036854775808:=hx
 have hy:y<9223372036854775808:=hy
 have hg:Nat.gcd x y=Nat.gcd a b:=hg
 refine zA (zA (zB (wP I (wP I (Aa (zE ?_))))))
 by_cases h0:y=0
 ·refine Bh 6 (.bool false) I (congrArg Value.bool (by rw[bne_eq_false_iff_eq];omega)) ?_
  exact zS I (zJ (zK (zK (zL (zE (zA (zB (wP I (wP I (Aa (zE (zO (wR1 I I (by rw[←hg,h0,Nat.gcd_zero_right]))))))))))))))
 ·refine Bh 6 (.bool true) I (congrArg Value.bool (by rw[bne_iff_ne];omega)) ?_
  refine zR I (zI (zE (zH (zU (qP I (qP I (qP I ?_)))))))
  refine Ex I I I I I (by omega) ?_
  refine qP I (qP I (AT (Aa (zN ?_))))
  have hr:x%y<y:=Nat.mod_lt _ (by omega)
  exact A6 (y,x%y) ⟨hy,Nat.lt_trans hr hy,by show Nat.gcd y (x%y)=_;rw[Nat.gcd_comm, ←Nat.gcd_rec,Nat.gcd_comm];exact hg⟩ hr ⟨I,I,tO⟩ [] I
theorem Ce (s:List UInt8) (hs:s.length≤18) (hd: ∀b∈s,DE b=true):Bv Tryz.prog 85 [str s] (.int .i64 (AQ s:Nat)):=by
 intro W
 have hlt: ∀i,AQ (s.take i)<1000000000000000000:=fun i=>by
  have h1:=FL (s.take i).length (s:=s.take i) rfl fun b hb=>hd b (List.mem_of_mem_take hb)
  have h2:(s.take i).length≤18:=by rw[List.length_take];omega
  exact Nat.lt_of_lt_of_le h1 (Nat.pow_le_pow_right (by decide) h2)
 refine Ab Tryz.func85 I I I ?_
 refine zA (zB (wP I (Aa (zE (zA (zB (wP I (Aa (zE (zA (zA (zB (wP I ?_)))))))))))))
 refine Aa (zE (zH ?_))
 refine AA (X:=Nat) (fun i=>[(0,str s),(3, .int .i64 (AQ (s.take i):Nat)),(4, .int .i64 (i:Nat))]) (fun _=>[]) (fun i=>i≤s.length) (fun i=>s.length-i) 0 (Nat.zero_le _) ⟨I,I,I,tO⟩ [] I ?_
 intro i hi
 have hi:i≤s.length:=hi
 refine zA (zA (zB (wP I (wP I (wP I ?_)))))
 refine Af 7 (.int .i64 (s.length:Nat)) I (congrArg (fun n:Nat=>Value.int .i64 (n:Int)) (A4 s)) ?_
 refine wP I ?_
 by_cases h:i<s.length
 ·refine wU 8 true I (dT (by omega)) (Aa (zE (zR I (zI (zE (zA (zH (zB ?_))))))))
  obtain⟨b,hb⟩: ∃b,s[i]? =some b:=⟨s[i],List.getElem?_eq_getElem h⟩
  have hdb:=C3.1 (hd b (List.mem_of_getElem? hb))
  have e1:AQ (s.take (i+1))=10*AQ (s.take i)+(b.toNat-48):=by
   rw[List.take_add_one,hb];exact Dm _ _
  have l1:=hlt i
  have l2:=hlt (i+1)
  refine wP I (wP I (wV 12 ((10*AQ (s.take i):Nat):Int) I (show w64 (10*(AQ (s.take i):Nat))=_ by rw[Ap (by omega) (by omega)];omega) (wP I (wP I ?_))))
  refine Bb i tH I I I I I I I I hb ?_
  refine wP I ?_
  refine Af 16 (.int .u8 ((b.toNat-48:Nat):Int)) I (congrArg (Value.int .u8) (show IntKind.u8.wrap ((b.toNat:Nat)-48)=_ by
   simp only[IntKind.wrap,IntKind.signed,IntKind.bits];simp;omega)) ?_
  refine I5 Tryz.underlying5 Tryz.underlying3 I I I I ?_
  exact wV 17 ((b.toNat-48:Nat):Int) I (BG (by omega)) (wP I (wV 18 ((AQ (s.take (i+1)):Nat):Int) I (show w64 (((10*AQ (s.take i):Nat):Int)+((b.toNat-48:Nat):Int))=_ by rw[Ap (by omega) (by omega),e1];omega) (wP I (Aa (zN (zE (zB (wP I (wP I (wV 10 ((i+1:Nat):Int) I (Ay (by omega)) (wP I (Aa (A6 (i+1) h (by show s.length-(i+1)<s.length-i;omega) ⟨I,I,I,tO⟩ [] I)))))))))))))
 ·refine wU 8 false I (dF (by omega)) (Aa (zE (zS I (zJ (zK (zK (zL (zE (zA (zB (wP I (wP I (Aa ?_)))))))))))))
  exact zE (zO (wR1 I I (by rw[List.take_of_length_le (by omega)])))
-- BOXES 3
-- CODE2
section
variable {r:Option Nat} {n:Nat} {P:Program} {N:Nat} {D:List Deferred} {ops:List Oper} {Q:Exit→Act→World→Prop} {o:Oper} {rest:List Oper} {env:Env} {A:World→Prop} {A2:World→Prop} {R:Act→World→Prop}
theorem Vm {T:Tbl} {i:TI} {ρ:Operand→Value} {a:List UInt8} {t:TypeId} {x y:Operand} {k:IntKind} (l:Nat) (hT:Go.Am.okB P T=true) (ho:o.op= .slice t x none (some y) none) (ht:Ch T t=some i) (hk:i.kind=1)
  (hx:ρ x=str a) (hy:ρ y= .int k l) (h1:l≤a.length) (W:World):(execOp ρ o).run P W= .ok (.value (str (a.take l))) W:=by
 have hu:=Gr (Bz hT ht) hk
 have hsz:(⟨a.toArray⟩:ByteArray).size=a.length:=by show a.toArray.size=_;simp
 have e:(⟨a.toArray⟩:ByteArray).extract 0 l=⟨(a.take l).toArray⟩:=by
  apply ByteArray.ext
  rw[ByteArray.data_extract]
  apply Array.toList_inj.1
  simp[List.extract_eq_take_drop]
 simp[execOp,ho,Instr.sliceAt,Instr.slice,Instr.sliceBounds,Instr.sliceBound,hx,hy,asIntOf,run_underlying hu,hsz,h1,e]
theorem W8 (l:Nat) {T:Tbl} {i:TI} {a:List UInt8} {d:Nat} {t:TypeId} {x y:Operand} {k:IntKind} {z:Int} (hT:Go.Am.okB P T=true) (hg:A8 ops N env o=some true) (hd:o.dst=some d) (ho:o.op= .slice t x none (some y) none) (ht:Ch T t=some i) (hk:i.kind=1)
  (hx:evO N env x=some (str a)) (hy:evO N env y=some (.int k z)) (hz:z=l) (h1:l≤a.length)
  (hn:WQ P N D ops A2 R rest ((d,str (a.take l))::env) A):WQ P N D ops A2 R (o::rest) env A:=
 D7 hg hd (fun c e=>by rw[ho] at e;cases e) (fun ρ W hρ _=>Vm l hT ho ht hk (hρ _ _ hx) (by rw[←hz];exact hρ _ _ hy) h1 W) hn
end
section
variable {n:Nat} {P:Program} {W0:World} {N:Nat} {env:Env} {bxs:List Bx}
theorem Ld {fn:Func} {T:Tbl} {r1 r2 r3 r4:ResultVar} {v1 v2 v3 v4:Value} {X:Type} {val:X→Value} {Φ:X→Prop} {nb:X→List Bx} (hT:Go.Am.okB P T=true) (hr:fn.results= #[r1,r2,r3,r4])
  (h1:Res P T env bxs N r1 v1) (h2:Res P T env bxs N r2 v2) (h3:Res P T env bxs N r3 v3) (h4:Res P T env bxs N r4 v4)
  (x:X) (hv: .tuple #[v1,v2,v3,v4]=val x) (hx:Φ x) (hnb: ∀W,Hp W0 bxs W→As W0 W (nb x)):NE N [] (Hw P fn W0 val Φ nb) .ret env (Hp W0 bxs):=
 Md (rvs:=[r1,r2,r3,r4]) (vs:=[v1,v2,v3,v4]) hT hr rfl (fun i h _=>by
  match i,h with
  |0,_=>exact h1
  |1,_=>exact h2
  |2,_=>exact h3
  |3,_=>exact h4
  |i+4,h=>exact absurd h (by show¬i+4<4;omega)) x (by simpa using hv) hx hnb
end
def Qp (a:List UInt8):Value:= .tuple #[.bool (hasPrefix a [45]),str (cut (trimPrefix a [45]) [47]).1,str (cut (trimPrefix a [45]) [47]).2.1, .bool (cut (trimPrefix a [45]) [47]).2.2]
theorem FJ (a:List UInt8) (ha:a.length<4611686018427387904):Bv Tryz.prog 82 [str a] (Qp a):=by
 intro W
 refine Ab Tryz.func82 I I I ?_
 refine zA (zB (wP I (wP I (wP I (wP I (Aa (zE (zA (zB (wP I (wP I (Aa (AI ?_)))))))))))))
 refine A0 ?_
 refine AG (X:=Unit) (fun _=>[(6,str a),(7, .bool (hasPrefix a [45]))]) (fun _=>[]) (fun _=>True) ?_ ?_
 ·refine zB (wP I (wP I ?_))
  refine Af 11 (.int .i64 (a.length:Nat)) I (congrArg (fun n:Nat=>Value.int .i64 (n:Int)) (A4 a)) ?_
  refine wP I ?_
  cases ea:a with
  |nil=>
   refine Af 12 (.bool false) I I ?_
   refine wP I ?_
   iterate 3 refine Al I I ?_
   exact wP I (wP I (Aa (An () tO ⟨I,I,tO⟩ [] I)))
  |cons b t=>
   refine wU 12 true I (dT (by show(((b::t).length:Nat):Int)>0;rw[List.length_cons];omega)) (wP I (wP I ?_))
   refine Bb 0 tH I I I I I I I I (show(b::t)[0]? =some b from I) ?_
   exact wP I (wU 16 (hasPrefix (b::t) [45]) I ((Dr b 45).trans (by rw[Bt];exact decide_eq_decide.2 (by simp))) (wP I (wP I (Aa (An () tO ⟨I,I,tO⟩ [] I)))))
 intro _ _
 refine zA (zA (zB (wP I (Aa (AI ?_)))))
 try refine A0 ?_
 obtain⟨b,hb⟩: ∃b,b=trimPrefix a [45]:=⟨_,rfl⟩
 have hbl:b.length≤a.length:=by rw[hb,Ba];split<;>simp
 refine AG (X:=Unit) (fun _=>[(6,str b),(7, .bool (hasPrefix a [45]))]) (fun _=>[]) (fun _=>True) ?_ ?_
 ·refine Av I (fun hm=> ?_) (fun hm=> ?_)
  ·have hm:a[0]? =some 45:=by rw[Bt] at hm;exact of_decide_eq_true hm
   have h1:1≤a.length:=(List.getElem?_eq_some_iff.1 hm).1
   refine zB (wP I ?_)
   refine Fa 1 tH I I I I I I I I h1 ?_
   exact wP I (Aa (An () tO ⟨by rw[hb,Ba,if_pos hm];rfl,I,tO⟩ [] I))
  ·have hm: ¬a[0]? =some 45:=by rw[Bt] at hm;exact of_decide_eq_false hm
   exact zI (An () tO ⟨by rw[hb,Ba,if_neg hm];rfl,I,tO⟩ [] I)
 intro _ _
 refine zA (zA (zB (wP I (Aa (zE (zH ?_))))))
 refine AA (X:=Nat) (fun i=>[(6,str b),(7, .bool (hasPrefix a [45])),(8, .int .i64 (i:Nat))]) (fun _=>[]) (fun i=>i≤b.length∧47∉b.take i) (fun i=>b.length-i) 0 ⟨Nat.zero_le _,by simp⟩ ⟨I,I,I,tO⟩ [] I ?_
 rintro i ⟨hi,hno⟩
 have hi:i≤b.length:=hi
 have hno:47∉b.take i:=hno
 refine zA (zA (zB (wP I (wP I (wP I ?_)))))
 refine Af 23 (.int .i64 (b.length:Nat)) I (congrArg (fun n:Nat=>Value.int .i64 (n:Int)) (A4 b)) ?_
 refine wP I ?_
 by_cases hlt:i<b.length
 ·refine wU 24 true I (dT (by omega)) (Aa (zE (zR I (zI (zE (zA (zH (zA (zB ?_)))))))))
  obtain⟨c,hc⟩: ∃c,b[i]? =some c:=⟨b[i],List.getElem?_eq_getElem hlt⟩
  refine wP I (wP I ?_)
  refine Bb i tH I I I I I I I I hc ?_
  refine wP I (wU 30 (decide (c=47)) I (Dr c 47) (Aa (zE ?_)))
  refine Av I (fun h47=> ?_) (fun h47=> ?_)
  ·have h47:c=47:=of_decide_eq_true h47
   have eb:b=b.take i++47::b.drop (i+1):=by
    conv=>lhs;rw[←List.take_append_drop i b]
    rw[List.drop_eq_getElem_cons hlt]
    have:b[i]=47:=by rw[List.getElem?_eq_getElem hlt] at hc;rw[Option.some.inj hc];exact h47
    rw[this]
   have ec:=Gd (b.drop (i+1)) hno
   rw[←eb,hb] at ec
   refine zA (zU (qP I (qP I (qP I ?_))))
   refine W8 i tH I I I I I I I I (by omega) ?_
   refine qP I (qP I (qP I (qV 37 ((i+1:Nat):Int) I (Ay (by omega)) ?_)))
   refine Ou (i+1) tH I I I I I I I I (by omega) ?_
   exact qP I (qP I (qP I (qP I (AT (Aa (zE (zO (zQ (zP (zP (zQ (zP (Ld tH I (.tmp I) (.tmp I) (.tmp I) (.tmp I) () (by rw[Qp,ec,hb]) tO fun W _=>As.nil _ _)))))))))))))
  ·have h47: ¬c=47:=of_decide_eq_false h47
   refine zI (zN (zE (zB (wP I (wP I (wV 26 ((i+1:Nat):Int) I (Ay (by omega)) (wP I (Aa ?_))))))))
   refine A6 (i+1) ⟨hlt,fun h=> ?_⟩ (by show b.length-(i+1)<b.length-i;omega) ⟨I,I,I,tO⟩ [] I
   rw[List.take_add_one,hc,List.mem_append] at h
   rcases h with h|h
   ·exact hno h
   ·exact h47 (by simpa using h:(47:UInt8)=c).symm
 ·refine wU 24 false I (dF (by omega)) (Aa (zE (zS I (zJ (zK (zK (zL (zE (zA (zB ?_))))))))))
  rw[List.take_of_length_le (by omega)] at hno
  have ec:=ED hno
  rw[hb] at ec
  iterate 6 refine wP I ?_
  exact Aa (zE (zO (Ld tH I (.tmp I) (.tmp I) (.tmp I) (.tmp I) () (by rw[Qp,ec,hb]) tO fun W _=>As.nil _ _)))
theorem Om {z:Int} {d:Nat} (_hd:1≤d):hasPrefix (EY z d) [45]=decide (z<0)∧cut (trimPrefix (EY z d) [45]) [47]=(decDigits z.natAbs,if d=1 then[] else decDigits d,decide (d≠1)):=by
 have hn47:(47:UInt8)∉decDigits z.natAbs:=fun h=>by have:=Fk _ _ h;exact absurd this.1 (by decide)
 have hp: ∀r,hasPrefix (itoa z++r) [45]=decide (z<0):=fun r=>by
  rw[Bt]
  unfold itoa
  split
  ·rename_i h;rw[dT h];rfl
  ·rename_i h
   rw[dF h]
   obtain⟨b,t,hb,h3,_⟩:=CG z.toNat
   rw[hb]
   refine dF fun e=> ?_
   have e:b=45:=by simpa using e
   rw[e] at h3;exact absurd h3 (by decide)
 have ht: ∀r,trimPrefix (itoa z++r) [45]=decDigits z.natAbs++r:=fun r=>by
  have h1:=hp r
  rw[Ba]
  rw[Bt] at h1
  by_cases hz:z<0
  ·rw[dT hz] at h1
   rw[if_pos (of_decide_eq_true h1)]
   unfold itoa
   rw[if_pos hz];rfl
  ·rw[dF hz] at h1
   rw[if_neg (of_decide_eq_false h1)]
   unfold itoa
   rw[if_neg hz,show z.toNat=z.natAbs by omega]
 unfold EY
 by_cases h1:d=1
 ·rw[if_pos h1]
  have e1:=hp []
  have e2:=ht []
  rw[List.append_nil] at e1 e2
  rw[List.append_nil] at e2
  exact⟨e1,by rw[e2,ED hn47,if_pos h1,h1];rfl⟩
 ·rw[if_neg h1]
  exact⟨hp _,by rw[ht,Gd _ hn47,if_neg h1,dT (show d≠1 from h1)]⟩
theorem Ob (q:Rat):Qp (Ad q)= .tuple #[.bool (decide (q.num<0)),str (decDigits q.num.natAbs),str (if q.den=1 then[] else decDigits q.den), .bool (decide (q.den≠1))]:=by
 obtain⟨h1,h2⟩:=Om (z:=q.num) q.den_pos
 unfold Qp Ad
 rw[h1,h2]
def ER (q:Rat):Bool:=decide ((decDigits q.num.natAbs).length≤9)&&(decide (q.den=1)||decide ((decDigits q.den).length≤9))
theorem M2 {n:Nat} (h:(decDigits n).length≤9):n<1000000000:=Nat.lt_of_lt_of_le (Dt n) (Nat.pow_le_pow_right (by decide) h)
theorem Kl {q:Rat} (h:ER q=true):q.num.natAbs<1000000000∧q.den<1000000000:=by
 unfold ER at h
 simp only[Bool.and_eq_true,Bool.or_eq_true,decide_eq_true_eq] at h
 refine⟨M2 h.1, ?_⟩
 rcases h.2 with e|e
 ·rw[e];decide
 ·exact M2 e
theorem Rm (q:Rat) (hl:(Ad q).length<4611686018427387904):Bv Tryz.prog 120 [str (Ad q)] (if ER q=true then .tuple #[.int .i64 q.num, .int .i64 (q.den:Nat), .bool true] else .tuple #[.int .i64 0, .int .i64 0, .bool false]):=by
 intro W
 obtain⟨n,hn⟩: ∃n,n=decDigits q.num.natAbs:=⟨_,rfl⟩
 obtain⟨e,he⟩: ∃e,e=(if q.den=1 then[] else decDigits q.den):=⟨_,rfl⟩
 have hsp:Ai Tryz.prog 82 #[str (Ad q)] W (fun _:Unit=> .tuple #[.bool (decide (q.num<0)),str n,str e, .bool (decide (q.den≠1))]) (fun _=>True) (fun _=>[]):=(FJ (Ad q) hl W).cast (by rw[Ob,hn,he])
 have hsh:ER q=(decide (n.length≤9)&&decide (e.length≤9)):=by
  unfold ER
  rw[hn,he]
  by_cases h1:q.den=1
  ·rw[if_pos h1,dT h1];rfl
  ·rw[if_neg h1,dF h1,Bool.false_or]
 have hnd: ∀b∈n,DE b=true:=by rw[hn];exact(ES _).all
 refine Ab Tryz.func120 I I I ?_
 refine zA (zB (wP I (wP I (wP I (Aa (zE (zA (zB (wP I (wC I I (fun W1 hp=>(FJ (Ad q) hl W1).cast (v':= .tuple #[.bool (decide (q.num<0)),str n,str e, .bool (decide (q.den≠1))]) (by rw[Ob,hn,he])) ?_))))))))))
 iterate 9 refine wP I ?_
 refine Aa ?_
 by_cases hs:ER q=true
 ·rw[if_pos hs]
  have hs2:=hs
  rw[hsh,Bool.and_eq_true,decide_eq_true_eq,decide_eq_true_eq] at hs2
  obtain⟨hs2,hs3⟩:=hs2
  obtain⟨l1,l2⟩:=Kl hs
  refine zE (zA (zA (zB (wP I (wP I ?_)))))
  refine Af 19 (.int .i64 (n.length:Nat)) I (congrArg (fun n:Nat=>Value.int .i64 (n:Int)) (A4 n)) ?_
  refine wP I (wU 20 false I (dF (by omega)) (wP I (wP I (wP I ?_))))
  refine Af 23 (.int .i64 (e.length:Nat)) I (congrArg (fun n:Nat=>Value.int .i64 (n:Int)) (A4 e)) ?_
  refine wP I (wU 24 false I (dF (by omega)) (wP I (Aa (zE (zS I (zI (zE (zA (zB (wP I (wC I I (fun W1 hp=>(Ce n (by omega) hnd W1).cast (v':= .int .i64 (q.num.natAbs:Nat)) (by rw[hn,BR])) (wP I (wP I ?_)))))))))))))
  refine Aa (zE (zA (zA (zB (wP I (Aa (AI ?_)))))))
  try refine A0 ?_
  refine AG (X:=Unit) (fun _=>[(5, .bool (decide (q.num<0))),(9, .int .i64 (q.num.natAbs:Nat)),(10, .int .i64 (q.den:Nat))]) (fun _=>[]) (fun _=>True) ?_ ?_
  ·refine Av I (fun h1=> ?_) (fun h1=> ?_)
   ·have h1:q.den≠1:=of_decide_eq_true h1
    have e1:e=decDigits q.den:=by rw[he,if_neg h1]
    exact zB (wP I (wC I I (fun W1 hp=>(Ce e (by omega) (by rw[e1];exact(ES _).all) W1).cast (v':= .int .i64 (q.den:Nat)) (by rw[e1,BR])) (wP I (Aa (An () tO ⟨I,I,I,tO⟩ [] I)))))
   ·have h1:q.den=1:=Decidable.byContradiction fun h=>absurd h1 (by rw[dT h];decide)
    exact zI (An () tO ⟨I,I,by rw[h1];rfl,tO⟩ [] I)
  intro _ _
  refine zA (zA (zB (wP I (Aa (AI ?_)))))
  try refine A0 ?_
  refine AG (X:=Unit) (fun _=>[(9, .int .i64 q.num),(10, .int .i64 (q.den:Nat))]) (fun _=>[]) (fun _=>True) ?_ ?_
  ·refine Av I (fun h1=> ?_) (fun h1=> ?_)
   ·have h1:q.num<0:=of_decide_eq_true h1
    exact zB (wP I (wP I (wV 33 q.num I (by show w64 (0-((q.num.natAbs:Nat):Int))=_;rw[Ap (by omega) (by omega)];omega) (wP I (Aa (An () tO ⟨I,I,tO⟩ [] I))))))
   ·have h1: ¬q.num<0:=of_decide_eq_false h1
    exact zI (An () tO ⟨congrArg (fun z=>some (Value.int .i64 z)) (by omega),I,tO⟩ [] I)
  intro _ _
  refine zA (zB ?_)
  iterate 5 refine wP I ?_
  exact Aa (zE (zO (wR3 I I I)))
 ·rw[if_neg hs]
  have hs2: ¬(n.length≤9∧e.length≤9):=fun h=>hs (by rw[hsh,dT h.1,dT h.2];rfl)
  refine AI (A0 (A0 ?_))
  refine AG (X:=Unit) (fun _=>[(25, .bool true)]) (fun _=>[]) (fun _=>True) ?_ ?_
  ·refine zB (wP I (wP I ?_))
   refine Af 19 (.int .i64 (n.length:Nat)) I (congrArg (fun n:Nat=>Value.int .i64 (n:Int)) (A4 n)) ?_
   refine wP I ?_
   by_cases h1:n.length≤9
   ·refine wU 20 false I (dF (by omega)) (wP I (wP I (wP I ?_)))
    refine Af 23 (.int .i64 (e.length:Nat)) I (congrArg (fun n:Nat=>Value.int .i64 (n:Int)) (A4 e)) ?_
    exact wP I (wU 24 true I (dT (by omega)) (wP I (Aa (An () tO ⟨I,tO⟩ [] I))))
   ·refine wU 20 true I (dT (by omega)) (wP I ?_)
    iterate 3 refine Al I I ?_
    exact wP I (Aa (An () tO ⟨I,tO⟩ [] I))
  intro _ _
  exact zR I (zA (zB (wP I (wP I (wP I (Aa (zE (zO (zP (wR3 I I I))))))))))
theorem Pi (q:Rat) (hl:(Ad q).length≤1000):Bv Tryz.prog 121 [str (Ad q)] (.tuple #[str (itoa q.num),str (decDigits q.den)]):=by
 intro W
 have hlen:(decDigits q.num.natAbs).length≤1000:=by
  have:=SN (a:=Ad q) (G2 q.num q.den_pos)
  omega
 refine Ab Tryz.func121 I I I ?_
 refine zA (zB (wP I (wP I (Aa (zE (zA (zB (wP I (wC I I (fun W1 hp=>(FJ (Ad q) (by omega) W1).cast (Ob q)) ?_)))))))))
 iterate 9 refine wP I ?_
 refine Aa (zE (zA (zA (zB (wP I (Aa (AI ?_)))))))
 try refine A0 ?_
 refine AG (X:=Unit) (fun _=>[(5,str (itoa q.num)),(6,str (if q.den=1 then[] else decDigits q.den)),(7, .bool (decide (q.den≠1)))]) (fun _=>[]) (fun _=>True) ?_ ?_
 ·refine Av I (fun h1=> ?_) (fun h1=> ?_)
  ·have h1:q.num<0:=of_decide_eq_true h1
   refine zB (wP I ?_)
   refine BY I I I I I (a:=[45]) (b:=decDigits q.num.natAbs) (by decide) (by omega) ?_
   exact wP I (Aa (An () tO ⟨by unfold itoa;rw[if_pos h1];rfl,I,I,tO⟩ [] I))
  ·have h1: ¬q.num<0:=of_decide_eq_false h1
   exact zI (An () tO ⟨by unfold itoa;rw[if_neg h1,show q.num.toNat=q.num.natAbs by omega];rfl,I,I,tO⟩ [] I)
 intro _ _
 refine zA (zA (zB (wP I (wP I (Aa (AI ?_))))))
 try refine A0 ?_
 refine AG (X:=Unit) (fun _=>[(5,str (itoa q.num)),(6,str (decDigits q.den))]) (fun _=>[]) (fun _=>True) ?_ ?_
 ·refine Av I (fun h1=> ?_) (fun h1=> ?_)
  ·have h1:q.den=1:=Decidable.byContradiction fun h=>absurd h1 (by rw[dT h];decide)
   exact zB (wP I (Aa (An () tO ⟨I,by rw[h1,FI];rfl,tO⟩ [] I)))
  ·have h1:q.den≠1:=Decidable.byContradiction fun h=>absurd h1 (by rw[dF h];decide)
   exact zI (An () tO ⟨I,by rw[if_neg h1];rfl,tO⟩ [] I)
 intro _ _
 exact zA (zB (wP I (wP I (wP I (wP I (Aa (zE (zO (wR2 I I I)))))))))
-- BOXES 1
-- CODE2
def byV (l:List UInt8):List Value:=l.map fun b=> .int .u8 (b.toNat:Int)
def zrV (k:Nat):List Value:=Cc [.int .u8 0] k
theorem J1 (k:Nat):(zrV k).length=k:=by unfold zrV;rw[EI];simp
theorem U8 (k:Nat):zrV (k+1)=zrV k++[.int .u8 0]:=by
 induction k with
 |zero=>rfl
 |succ k ih=>
  have e: ∀j,zrV (j+1)=[.int .u8 0]++zrV j:=fun j=>rfl
  rw[e,ih, ←List.append_assoc, ←e,ih]
theorem SI {k:Nat} {c:UInt8} {suf:List UInt8}:B5 (zrV (k+1)++byV suf) (0+k*1) [.int .u8 (c.toNat:Int)]=zrV k++byV (c::suf):=by
 rw[U8,show 0+k*1=(zrV k).length+0 by rw[J1];omega,List.append_assoc,Eh]
 rfl
theorem SB {k:Nat} {l:List UInt8} {j:Nat} (hj:j<l.length):(zrV k++byV l)[k+j]? =some (.int .u8 (l[j].toNat:Int)):=by
 rw[List.getElem?_append_right (by rw[J1];omega),J1,Nat.add_sub_cancel_left]
 unfold byV
 rw[List.getElem?_map,List.getElem?_eq_getElem hj];rfl
theorem UT (u:Nat):IntKind.u8.wrap ((48+u%10:Nat):Int)=((UInt8.ofNat (48+u%10)).toNat:Int):=by
 rw[Ph (by omega) (by omega),Dq (Nat.mod_lt _ (by omega))]
-- BOXES 1
-- CODE2
theorem H9 (m:Nat) (hm:m<9223372036854775808):Bv Tryz.prog 199 [.int .i64 (m:Nat)] (str (decDigits m)):=by
 intro W
 have hlen:(decDigits m).length≤19:=Dv 19 m (by omega) (by omega)
 refine Ab Tryz.func199 I I I ?_
 refine zA (zB (wP I (Aa (zE (zA (zB ?_))))))
 refine Cd Tryz.vec202 20 I I I I I I I (by decide) (by decide) ?_
 intro b
 refine wP I (Aa (zE (zA (zB (wP I (wP I (wP I (Aa (zE (zH ?_))))))))))
 refine AA (X:=Nat×List UInt8) (fun x=>[(0, .int .i64 (x.1:Nat)),(3, .slice (some ⟨b,0,none⟩) 20 20),(4, .int .i64 ((20-x.2.length:Nat):Int))]) (fun x=>[⟨b,5,zrV (20-x.2.length)++byV x.2,true,none⟩])
  (fun x=>x.1<9223372036854775808∧decDigits m=decDigits x.1++x.2) (fun x=>x.1) (m,[]) ⟨hm,by simp⟩ ⟨rfl,rfl,rfl,trivial⟩ [] rfl ?_
 rintro⟨u,suf⟩ ⟨hu0,hd0⟩
 have hu:u<9223372036854775808:=hu0
 have hd:decDigits m=decDigits u++suf:=hd0
 have hs:suf.length≤18:=by
  have h1:=congrArg List.length hd
  rw[List.length_append] at h1
  have h2:(decDigits u).length≠0:=fun e=>F9 u (List.length_eq_zero_iff.1 e)
  omega
 refine zH (zA (zB (wP I (wP I (wV 9 ((19-suf.length:Nat):Int) I (show w64 (((20-suf.length:Nat):Int)-1)=_ by rw[Ap (by omega) (by omega)];omega) (wP I (Aa (zE (zA (zB (wP I (wP I (wP I ?_)))))))))))))
 refine Ft I I I I I (by decide) ?_
 refine wV 13 ((u%10:Nat):Int) I (show Int.tmod (u:Nat) ((10:Nat):Int)=_ from(Int.ofNat_tmod _ _).symm) (wP I (wV 14 ((48+u%10:Nat):Int) I (show w64 (48+((u%10:Nat):Int))=_ by rw[Ap (by omega) (by omega)];omega) ?_))
 refine Vh Tryz.underlying3 Tryz.underlying5 I I I I ?_
 refine Af 15 (.int .u8 ((UInt8.ofNat (48+u%10)).toNat:Int)) I (congrArg (Value.int .u8) (UT u)) ?_
 refine wJ ?_
 refine Aw 0 (zrV (20-(UInt8.ofNat (48+u%10)::suf).length)++byV (UInt8.ofNat (48+u%10)::suf)) tH I I I I I I I I I I (by show 0+(19-suf.length)*1+1≤(zrV (20-suf.length)++byV suf).length;rw[List.length_append,J1];omega) (by
  rw[List.length_cons,show 20-(suf.length+1)=19-suf.length by omega]
  show B5 (zrV (20-suf.length)++byV suf) _ _=_
  rw[show 20-suf.length=19-suf.length+1 by omega]
  exact SI) ?_
 refine Aa (zE (zA (zB (wP I ?_))))
 refine D5 I I I I I (by decide) ?_
 refine wV 18 ((u/10:Nat):Int) I (show w64 (Int.tdiv (u:Nat) ((10:Nat):Int))=_ by rw[←Int.ofNat_tdiv,Ap (by omega) (by omega)]) (wP I (Aa (zE (zA (zB (wP I (wP I (Aa (zE ?_)))))))))
 generalize hc:UInt8.ofNat (48+u%10)=c at*
 refine Av I (fun h=> ?_) (fun h=> ?_)
 ·have h0:u<10:=by have h':(((u/10:Nat):Int)==0)=true:=h;rw[beq_iff_eq] at h';omega
  have he:decDigits m=c::suf:=by rw[hd,decDigits_one h0, ←hc,Nat.mod_eq_of_lt h0];rfl
  refine zA (zB (wP I (wP I ?_)))
  refine Eu (19-suf.length) tH I I I I I I I I (by omega) (by omega) ?_
  refine Af 23 (.slice (some ⟨b,19-suf.length,none⟩) (c::suf).length (20-(19-suf.length))) I (by
   rw[if_neg (by omega),List.length_cons,show 20-(19-suf.length)=suf.length+1 by omega,show 0+(19-suf.length)*1=19-suf.length by omega]) ?_
  refine Hv 0 (c::suf) (e:=5) (by kernel_rfl) Tryz.underlying5 (by kernel_rfl) I I I I I I I (fun j hj=>by
   show(zrV (20-(c::suf).length)++byV (c::suf))[19-suf.length+j]? =_
   rw[show 20-(c::suf).length=19-suf.length by rw[List.length_cons];omega]
   exact SB hj) ?_
  exact wP I (Aa (zE (zO (zQ (zP (zQ (wR1 I I (by rw[he]))))))))
 ·have h0: ¬u<10:=by have h':(((u/10:Nat):Int)==0)=false:=h;rw[beq_eq_false_iff_ne] at h';omega
  refine zI (zN ?_)
  refine A6 (u/10,c::suf) ⟨by show u/10<9223372036854775808;omega, ?_⟩ (by show u/10<u;omega) ⟨I,I,congrArg (fun z=>some (Value.int .i64 z)) (by rw[List.length_cons,show 20-(suf.length+1)=19-suf.length by omega]),tO⟩ [] I
  show decDigits m=decDigits (u/10)++c::suf
  rw[hd,decDigits,dif_neg h0,hc,List.append_assoc];rfl
theorem U5 {z:Int} {g:Nat} (hg:0<g) (h:g∣z.natAbs):itoa (z/(g:Int))=(if z<0 then[45] else[])++decDigits (z.natAbs/g):=by
 obtain⟨k,hk⟩:=h
 by_cases hz:z<0
 ·have e:z= -((g*k:Nat):Int):=by omega
  have hk0:k≠0:=fun e=>by rw[e] at hk;omega
  have e2:z/(g:Int)= -(k:Int):=by
   rw[e,Int.natCast_mul, ←Int.mul_neg]
   exact Int.mul_ediv_cancel_left _ (by omega)
  rw[if_pos hz,e2,M4 hk0,hk,Nat.mul_div_cancel_left _ hg];rfl
 ·have e:z=((g*k:Nat):Int):=by omega
  have e2:z/(g:Int)=(k:Int):=by
   rw[e,Int.natCast_mul]
   exact Int.mul_ediv_cancel_left _ (by omega)
  rw[if_neg hz,e2,hk,Nat.mul_div_cancel_left _ hg]
  unfold itoa
  rw[if_neg (by omega)];rfl
theorem DS (z:Int) (d:Nat) (hz:z.natAbs<9223372036854775808) (hd0:0<d) (hd:d<9223372036854775808):Bv Tryz.prog 148 [.int .i64 z, .int .i64 (d:Nat)] (str (Ad (mkRat z d))):=by
 intro W
 obtain⟨n,hn⟩: ∃n,z.natAbs=n:=⟨_,rfl⟩
 obtain⟨g,hg⟩: ∃g,Nat.gcd n d=g:=⟨_,rfl⟩
 have hg0:0<g:=by rw[←hg];exact Nat.gcd_pos_of_pos_right _ hd0
 have hgn:g∣n:=by rw[←hg];exact Nat.gcd_dvd_left ..
 have hgd:g∣d:=by rw[←hg];exact Nat.gcd_dvd_right ..
 have hgle:g≤d:=Nat.le_of_dvd hd0 hgd
 rw[hn] at hz
 have hnq:n/g≤n:=Nat.div_le_self ..
 have hdq:d/g≤d:=Nat.div_le_self ..
 have hnl:(decDigits (n/g)).length≤19:=Dv 19 _ (by decide) (by omega)
 have hdl:(decDigits (d/g)).length≤19:=Dv 19 _ (by decide) (by omega)
 obtain⟨s,hs⟩: ∃s:List UInt8,s=if z<0 then[45] else[]:=⟨_,rfl⟩
 have hsl:s.length≤1:=by rw[hs];split<;>decide
 have hq:itoa (z/(g:Int))=s++decDigits (n/g):=by rw[hs, ←hn];exact U5 hg0 (by rw[hn];exact hgn)
 refine Ab Tryz.func148 I I I ?_
 refine zA (zB (wP I (Aa (zE (zA (zB (wP I (Aa (zE (zA (zA (zB (wP I (wP I ?_))))))))))))))
 refine Aa (AI ?_)
 try refine A0 ?_
 refine AG (X:=Unit) (fun _=>[(0, .int .i64 (n:Nat)),(1, .int .i64 (d:Nat)),(5,str s)]) (fun _=>[]) (fun _=>True) ?_ ?_
 ·refine Av I (fun h=> ?_) (fun h=> ?_)
  ·have h:z<0:=by simpa using h
   exact zB (wP I (wP I (wV 10 (n:Nat) I (show w64 (0-z)=_ by rw[Ap (by omega) (by omega)];omega) (wP I (wP I (Aa (An () tO ⟨I,I,by rw[hs,if_pos h];rfl,tO⟩ [] I)))))))
  ·have h: ¬z<0:=by simpa using h
   exact zI (An () tO ⟨congrArg (fun z=>some (Value.int .i64 z)) (by omega),I,by rw[hs,if_neg h];rfl,tO⟩ [] I)
 intro _ _
 refine zA (zB (wP I (wP I (wC I I (fun W hp=>(K7 n d hz hd W).cast (v':= .int .i64 (g:Nat)) (by rw[hg])) (wP I (Aa (zE (zA (zB (wP I (wP I (wP I ?_))))))))))))
 refine D5 I I I I I (by omega) ?_
 refine wV 17 ((n/g:Nat):Int) I (by rw[Dz];exact BG (by omega)) (wC I I (fun W hp=>H9 (n/g) (by omega) W) ?_)
 refine BY I I I I I (a:=s) (b:=decDigits (n/g)) (by omega) (by omega) ?_
 refine Af 19 (str (itoa (z/(g:Int)))) I (by rw[hq]) ?_
 refine wP I (Aa (zE (zA (zA (zB (wP I (wP I ?_)))))))
 refine D5 I I I I I (by omega) ?_
 refine wV 22 ((d/g:Nat):Int) I (by rw[Dz];exact BG (by omega)) (wP I ?_)
 have hql:(itoa (z/(g:Int))).length≤20:=by rw[hq,List.length_append];omega
 by_cases h1:d/g=1
 ·exact wU 23 true I (by rw[beq_iff_eq];omega) (Aa (zE (zR I (zA (zB (wP I (wP I (Aa (zE (zO (zP (wR1 I I (by rw[J3 (by omega) (by rw[hn,hg];exact h1),hn,hg])))))))))))))
 ·refine wU 23 false I (by rw[beq_eq_false_iff_ne];omega) (Aa (zE (zS I (zI (zE (zA (zB (wP I ?_))))))))
  refine BY I I I I I (a:=itoa (z/(g:Int))) (b:=[47]) (by omega) (by decide) ?_
  refine wP I (wP I ?_)
  refine D5 I I I I I (by omega) ?_
  refine wV 29 ((d/g:Nat):Int) I (by rw[Dz];exact BG (by omega)) (wC I I (fun W hp=>H9 (d/g) (by omega) W) ?_)
  refine BY I I I I I (by rw[List.length_append];show _+1≤_;omega) (by omega) ?_
  exact wP I (Aa (zE (zO (wR1 I I (by rw[JE (by omega) (by rw[hn,hg];exact h1),hn,hg,BV])))))
theorem Pm {z:Int} {d:Nat} (hz:z<0):EY z d=45::EY (-z) d:=by
 have e:itoa z=45::itoa (-z):=by
  unfold itoa
  rw[if_pos hz,if_neg (by omega),show(-z).toNat=z.natAbs by omega]
 unfold EY
 rw[e]
 split<;>rfl
theorem LC (q:Rat) (hl:(Ad q).length≤1000):Bv Tryz.prog 102 [str (Ad q)] (str (Ad (-q))):=by
 intro W
 have en:(-q).num= -q.num:=rfl
 have ed:(-q).den=q.den:=rfl
 refine Ab Tryz.func102 I I I ?_
 refine zA (zB (wP I (Aa (zE (zA (zH (zA (zB (wP I (wP I (wU 5 (decide (Ad q=[48])) I (Bd _ _) (wP I (Aa ?_)))))))))))))
 refine zE ?_
 refine Av I (fun h=> ?_) (fun h=> ?_)
 ·have h:q.num=0:=G8.1 (of_decide_eq_true h)
  have e0:Ad (-q)=Ad q:=by rw[G8.2 h,G8.2 (by rw[en,h];rfl)]
  exact zA (zB (wP I (wP I (Aa (zE (zO (zQ (zP (wR1 I I (by rw[e0]))))))))))
 have h: ¬q.num=0:=fun e=>of_decide_eq_false h (G8.2 e)
 have hpre:=(Om (z:=q.num) q.den_pos).1
 rw[Bt] at hpre
 obtain⟨c,hc⟩: ∃c,(Ad q)[0]? =some c:=by
  cases e:Ad q with
  |nil=>
   have:=congrArg List.length e
   unfold Ad EY at this
   have h2:itoa q.num≠[]:=by unfold itoa;split;simp;exact F9 _
   split at this
   ·exact absurd (List.length_eq_zero_iff.1 this) h2
   ·rw[List.length_append] at this;simp at this
  |cons c t=>exact⟨c,rfl⟩
 have hc45:decide (c=45)=decide (q.num<0):=by
  rw[←hpre]
  show _=decide ((Ad q)[0]? =some 45)
  exact decide_eq_decide.2 (by rw[hc];simp)
 refine zA (zB (wP I ?_))
 refine Bb 0 tH I I I I I I I I hc ?_
 refine wP I (wU 10 (decide (q.num<0)) I ((Dr c 45).trans hc45) (wP I (Aa (zE ?_))))
 refine Av I (fun hn=> ?_) (fun hn=> ?_)
 ·have hn:q.num<0:=of_decide_eq_true hn
  have e1:Ad q=45::Ad (-q):=by unfold Ad;rw[en,ed];exact Pm hn
  have hlen:=congrArg List.length e1
  rw[List.length_cons] at hlen
  refine zA (zB (wP I ?_))
  refine Fa 1 tH I I I I I I I I (by omega) ?_
  exact wP I (Aa (zE (zO (zQ (zP (wR1 I I (by rw[e1];rfl)))))))
 ·have hn: ¬q.num<0:=of_decide_eq_false hn
  have e1:Ad (-q)=45::Ad q:=by
   unfold Ad
   rw[en,ed,Pm (show -q.num<0 by omega),Int.neg_neg]
  refine zI (zN (zE (zA (zB (wP I ?_)))))
  refine BY I I I I I (a:=[45]) (b:=Ad q) (by decide) (by omega) ?_
  exact wP I (Aa (zE (zO (wR1 I I (by rw[e1];rfl)))))
-- BOXES 5
-- CODE2
abbrev cvV (p:Ag):Value:= .agg #[str (Ad p.1),str (Ad p.2)]
def CH (W:World) (c:Nat):Prop:=W.heap[c]? =some (.cells #[.int .i64 0] 61 (0,0))
theorem CH.hp {W0 W:World} {bxs:List Bx} {c:Nat} (h:CH W0 c) (hp:Hp W0 bxs W):CH W c:=
 (hp.below.block c (Array.getElem?_eq_some_iff.1 h).1).trans h
theorem CH.row {W:World} {c:Nat} (h:CH W c):Ak W c 0 [.int .i64 0]:=Ak.of_block h
theorem Ia (c g:Nat) (a b v:List UInt8) (W:World) (hc:CH W c) (hE:Bf Tryz.prog g=true) (hg: ∀W1,Below W.heap.size W W1→Ai Tryz.prog g #[str a,str b] W1 (fun _:Unit=> .tuple #[str v, .int .i64 0]) (fun _=>True) (fun _=>[])):
  Ai Tryz.prog 104 #[Aj c, .func (.func g) #[] #[],str a,str b] W (fun _:Unit=>str v) (fun _=>True) (fun _=>[]):=by
 refine Ab (args:=[Aj c, .func (.func g) #[] #[],str a,str b]) Tryz.func104 I I I ?_
 refine zA (zB (wP I (Aa (zE (zA (zA (zB (wP I ?_))))))))
 refine AO I I I I ?_
 refine wP I (wL 0 I I (fun W1 hp=>(hc.hp hp).row) I (wP I (Aa (zE (zS I (zI (zE (zA (zB (wP I (wP I (wP I ?_))))))))))))
 refine Bo (capt:=[]) I I I I I I hE (fun W1 h=>hg W1 h.below) ?_
 iterate 5 refine wP I ?_
 refine Aa (zE (zA (zA (zB (wP I (wP I ?_))))))
 refine AO I I I I ?_
 refine wP I ?_
 refine Jn (c:=[.int .i64 0]) (ty:=61) tH I I I I I I I I I I (fun W1 hp=>hc.hp hp) ?_
 refine Aa (zE (zA (zB (wP I (wP I (Aa (zE (zS I (zI (zE (zA (zB (wP I (wP I ?_))))))))))))))
 exact Aa (zE (zO (wR1 I I I)))
theorem CK (c:Nat) (p q:Rat) (hz:Sz2 p q) (W:World) (hc:CH W c) (hv:BL W) (ht:AM W):
  Ai Tryz.prog 45 #[Aj c,str (Ad p),str (Ad q)] W (fun _:Unit=>str (Ad (p+q))) (fun _=>True) (fun _=>[]):=by
 refine Ab (args:=[Aj c,str (Ad p),str (Ad q)]) Tryz.func45 I I I ?_
 refine zA (zB (wP I (Aa (zE (zA (zB (wP I (wP I (wP I (wC I I (fun W hp=>Ia c 16 (Ad p) (Ad q) (Ad (p+q)) W (hc.hp hp) (by kernel_rfl) (fun W1 hb=>LD p q hz W1 ((hv.hp hp).below hb) ((ht.hp hp).below hb))) (wP I (Aa (zE ?_)))))))))))))
 exact zO (wR1 I I I)
theorem CJ (c:Nat) (p q:Rat) (hz:Sz2 p q) (W:World) (hc:CH W c) (hv:BL W) (ht:AM W):
  Ai Tryz.prog 59 #[Aj c,str (Ad p),str (Ad q)] W (fun _:Unit=>str (Ad (p-q))) (fun _=>True) (fun _=>[]):=by
 refine Ab (args:=[Aj c,str (Ad p),str (Ad q)]) Tryz.func59 I I I ?_
 refine zA (zB (wP I (Aa (zE (zA (zB (wP I (wP I (wP I (wC I I (fun W hp=>Ia c 126 (Ad p) (Ad q) (Ad (p-q)) W (hc.hp hp) (by kernel_rfl) (fun W1 hb=>QV p q hz W1 ((hv.hp hp).below hb) ((ht.hp hp).below hb))) (wP I (Aa (zE ?_)))))))))))))
 exact zO (wR1 I I I)
theorem Co (c:Nat) (p q:Rat) (hz:Sz2 p q) (W:World) (hc:CH W c) (hv:BL W) (ht:AM W):
  Ai Tryz.prog 60 #[Aj c,str (Ad p),str (Ad q)] W (fun _:Unit=>str (Ad (p*q))) (fun _=>True) (fun _=>[]):=by
 refine Ab (args:=[Aj c,str (Ad p),str (Ad q)]) Tryz.func60 I I I ?_
 refine zA (zB (wP I (Aa (zE (zA (zB (wP I (wP I (wP I (wC I I (fun W hp=>Ia c 72 (Ad p) (Ad q) (Ad (p*q)) W (hc.hp hp) (by kernel_rfl) (fun W1 hb=>IE p q hz W1 ((hv.hp hp).below hb) ((ht.hp hp).below hb))) (wP I (Aa (zE ?_)))))))))))))
 exact zO (wR1 I I I)
theorem GL (c:Nat) (p q:Rat) (hz:Sz2 p q) (h0:q.num≠0) (W:World) (hc:CH W c) (hv:BL W) (ht:AM W):
  Ai Tryz.prog 47 #[Aj c,str (Ad p),str (Ad q)] W (fun _:Unit=>str (Ad (p/q))) (fun _=>True) (fun _=>[]):=by
 refine Ab (args:=[Aj c,str (Ad p),str (Ad q)]) Tryz.func47 I I I ?_
 refine zA (zB (wP I (Aa (zE (zA (zB (wP I (wP I (wP I (wC I I (fun W hp=>Ia c 105 (Ad p) (Ad q) (Ad (p/q)) W (hc.hp hp) (by kernel_rfl) (fun W1 hb=>(Ro p q hz W1 ((hv.hp hp).below hb) ((ht.hp hp).below hb)).cast (by rw[MM,if_neg h0]))) (wP I (Aa (zE ?_)))))))))))))
 exact zO (wR1 I I I)
theorem Ek (c:Nat) (p q:Rat) (hz:Sz2 p q) (W:World) (hc:CH W c) (hv:BL W) (ht:AM W):
  Ai Tryz.prog 53 #[Aj c,str (Ad p),str (Ad q)] W (fun _:Unit=> .int .i64 (Dy p q)) (fun _=>True) (fun _=>[]):=by
 refine Ab (args:=[Aj c,str (Ad p),str (Ad q)]) Tryz.func53 I I I ?_
 refine zA (zB (wP I (Aa (zE (zA (zA (zB (wP I ?_))))))))
 refine AO I I I I ?_
 refine wP I (wL 0 I I (fun W1 hp=>(hc.hp hp).row) I (wP I (Aa (zE (zS I (zI (zE (zA (zB (wP I (wP I (wC I I (fun W hp=>(MB p q hz W (hv.hp hp) (ht.hp hp)).cast (v':= .tuple #[.int .i64 (Dy p q), .int .i64 0]) (by rw[O0])) ?_))))))))))))
 iterate 5 refine wP I ?_
 refine Aa (zE (zA (zB (wP I (wP I ?_)))))
 refine AO I I I I ?_
 refine wP I ?_
 refine Jn (c:=[.int .i64 0]) (ty:=61) tH I I I I I I I I I I (fun W1 hp=>hc.hp hp) ?_
 exact Aa (zE (zA (zB (wP I (wP I (Aa (zE (zO (wR1 I I I)))))))))
structure WZ (p q r:Ag):Prop where
 s1:Sz2 q.1 p.1
 s2:Sz2 r.2 p.2
 s3:Sz2 q.2 p.2
 s4:Sz2 r.1 p.1
 m1:Sz2 (q.1-p.1) (r.2-p.2)
 m2:Sz2 (q.2-p.2) (r.1-p.1)
 o:Sz2 ((q.1-p.1)*(r.2-p.2)) ((q.2-p.2)*(r.1-p.1))
def RR (p q r:Ag):Int:=Dy ((q.1-p.1)*(r.2-p.2)) ((q.2-p.2)*(r.1-p.1))
theorem Pp (c:Nat) (p q r:Ag) (hz:WZ p q r) (W:World) (hc:CH W c) (hv:BL W) (ht:AM W):
  Ai Tryz.prog 55 #[Aj c,cvV p,cvV q,cvV r] W (fun _:Unit=> .int .i64 (RR p q r)) (fun _=>True) (fun _=>[]):=by
 refine Ab (args:=[Aj c,cvV p,cvV q,cvV r]) Tryz.func55 I I I ?_
 refine zA (zB ?_)
 (refine A5 rfl rfl rfl rfl ?_;intro)
 (refine A5 rfl rfl rfl rfl ?_;intro)
 (refine A5 rfl rfl rfl rfl ?_;intro)
 refine wP I (Aa (zE (zA (zU (qP I (qP I (qB 1 I I I (qP I (qB 0 I I I (qC I I (fun W hp=>CJ c q.1 p.1 hz.s1 W (hc.hp hp) (hv.hp hp) (ht.hp hp)) (qP I (qP I (qB 2 I I I ?_)))))))))))))
 refine qP I (qB 0 I I I (qC I I (fun W hp=>CJ c r.2 p.2 hz.s2 W (hc.hp hp) (hv.hp hp) (ht.hp hp)) (qP I (qP I (AT (Aa (zE (zA (zU (qP I (qP I (qB 1 I I I (qP I ?_)))))))))))))
 refine qB 0 I I I (qC I I (fun W hp=>CJ c q.2 p.2 hz.s3 W (hc.hp hp) (hv.hp hp) (ht.hp hp)) (qP I (qP I (qB 2 I I I (qP I (qB 0 I I I (qC I I (fun W hp=>CJ c r.1 p.1 hz.s4 W (hc.hp hp) (hv.hp hp) (ht.hp hp)) (qP I (qP I (AT (Aa (zE (zA ?_)))))))))))))
 refine zB (wP I (wP I (wP I (wP I (wC I I (fun W hp=>Co c (q.1-p.1) (r.2-p.2) hz.m1 W (hc.hp hp) (hv.hp hp) (ht.hp hp)) (wP I (wP I (wP I (wC I I (fun W hp=>Co c (q.2-p.2) (r.1-p.1) hz.m2 W (hc.hp hp) (hv.hp hp) (ht.hp hp)) (wC I I (fun W hp=>Ek c _ _ hz.o W (hc.hp hp) (hv.hp hp) (ht.hp hp)) (wP I (Aa (zE ?_)))))))))))))
 exact zO (wR1 I I I)
def Ic (p q:Ag):Int:=if Dy p.1 q.1=0 then Dy p.2 q.2 else Dy p.1 q.1
theorem F3 (p q:Rat):Dy p q= -1∨Dy p q=0∨Dy p q=1:=by
 unfold Dy
 split
 ·exact Or.inl I
 ·split
  ·exact Or.inr (Or.inl I)
  ·exact Or.inr (Or.inr I)
theorem K5 (c:Nat) (p q:Ag) (h1:Sz2 p.1 q.1) (h2:Sz2 p.2 q.2) (W:World) (hc:CH W c) (hv:BL W) (ht:AM W):
  Ai Tryz.prog 71 #[Aj c,cvV p,cvV q] W (fun _:Unit=> .int .i64 (Ic p q)) (fun _=>True) (fun _=>[]):=by
 refine Ab (args:=[Aj c,cvV p,cvV q]) Tryz.func71 I I I ?_
 refine zA (zB ?_)
 (refine A5 rfl rfl rfl rfl ?_;intro)
 (refine A5 rfl rfl rfl rfl ?_;intro)
 refine wP I (Aa (zE (zA (zA (zB (wP I (wP I (wB 0 I I I (wP I (wB 1 I I I ?_))))))))))
 rcases F3 p.1 q.1 with e|e|e
 ·refine wC I I (fun W hp=>(Ek c p.1 q.1 h1 W (hc.hp hp) (hv.hp hp) (ht.hp hp)).cast (congrArg (Value.int .i64) e)) (wP I (Aa (zE (zA (zB (wP I (wP I (Aa (zE (zR I (zA (zB (wP I (wP I ?_))))))))))))))
  exact Aa (zE (zO (zP (wR1 I I (by rw[Ic,e,if_neg (by decide)])))))
 ·refine wC I I (fun W hp=>(Ek c p.1 q.1 h1 W (hc.hp hp) (hv.hp hp) (ht.hp hp)).cast (congrArg (Value.int .i64) e)) (wP I (Aa (zE (zA (zB (wP I (wP I (Aa (zE (zS I (zI (zE (zA ?_)))))))))))))
  exact zB (wP I (wP I (wB 0 I I I (wP I (wB 1 I I I (wC I I (fun W hp=>Ek c p.2 q.2 h2 W (hc.hp hp) (hv.hp hp) (ht.hp hp)) (wP I (Aa (zE (zO (wR1 I I (by rw[Ic,if_pos e]))))))))))))
 ·refine wC I I (fun W hp=>(Ek c p.1 q.1 h1 W (hc.hp hp) (hv.hp hp) (ht.hp hp)).cast (congrArg (Value.int .i64) e)) (wP I (Aa (zE (zA (zB (wP I (wP I (Aa (zE (zR I (zA (zB (wP I (wP I ?_))))))))))))))
  exact Aa (zE (zO (zP (wR1 I I (by rw[Ic,e,if_neg (by decide)])))))
def Fh (q:Rat):Int:=if q.num=0 then 0 else if q.num<0 then -1 else 1
theorem EM (q:Rat):Bv Tryz.prog 68 [str (Ad q)] (.int .i64 (Fh q)):=by
 intro W
 refine Ab Tryz.func68 I I I ?_
 refine zA (zB (wP I (Aa (zE (zA (zH (zA (zB (wP I (wP I (wU 5 (decide (Ad q=[48])) I (Bd _ _) (wP I (Aa ?_)))))))))))))
 refine zE ?_
 refine Av I (fun h=> ?_) (fun h=> ?_)
 ·have h:q.num=0:=G8.1 (of_decide_eq_true h)
  exact zA (zB (wP I (Aa (zE (zO (zQ (zP (wR1 I I (by rw[Fh,if_pos h])))))))))
 have h: ¬q.num=0:=fun e=>of_decide_eq_false h (G8.2 e)
 have hpre:=(Om (z:=q.num) q.den_pos).1
 rw[Bt] at hpre
 obtain⟨c,hc⟩: ∃c,(Ad q)[0]? =some c:=by
  cases e:Ad q with
  |nil=>
   have:=congrArg List.length e
   unfold Ad EY at this
   have h2:itoa q.num≠[]:=by unfold itoa;split;simp;exact F9 _
   split at this
   ·exact absurd (List.length_eq_zero_iff.1 this) h2
   ·rw[List.length_append] at this;simp at this
  |cons c t=>exact⟨c,rfl⟩
 have hc45:decide (c=45)=decide (q.num<0):=by
  rw[←hpre]
  show _=decide ((Ad q)[0]? =some 45)
  exact decide_eq_decide.2 (by rw[hc];simp)
 refine zA (zB (wP I ?_))
 refine Bb 0 tH I I I I I I I I hc ?_
 refine wP I (wU 9 (decide (q.num<0)) I ((Dr c 45).trans hc45) (wP I (Aa (zE ?_))))
 refine Av I (fun hn=> ?_) (fun hn=> ?_)
 ·have hn:q.num<0:=of_decide_eq_true hn
  exact zA (zB (wP I (Aa (zE (zO (zQ (zP (wR1 I I (by rw[Fh,if_neg h,if_pos hn])))))))))
 ·have hn: ¬q.num<0:=of_decide_eq_false hn
  exact zI (zN (zE (zA (zB (wP I (Aa (zE (zO (wR1 I I (by rw[Fh,if_neg h,if_neg hn]))))))))))
-- BOXES 4
-- CODE2
abbrev br:Nat:=1000000
theorem br2:2≤br:=by decide
theorem DK {g cap:Nat} {junk:List Value} {l:List Nat} (h:(⟨some g,cap,junk⟩:Vec).OK 1 l.length (nI l)) (hl: ∀x∈l,x<br):
  ∃junk',(⟨some g,cap,junk'⟩:Vec).OK 1 (lbs br (lv br l)).length (nI (lbs br (lv br l)))∧nI l++junk=nI (lbs br (lv br l))++junk':=by
 obtain⟨h1,h2,h3⟩:=h.cap (by simp)
 have e:=Me br2 hl
 have hlen:=(BP br2).2 (Fz br2 hl)
 have e2:nI l=nI (lbs br (lv br l))++nI (l.drop (lbs br (lv br l)).length):=by
  conv=>lhs;rw[←List.take_append_drop (lbs br (lv br l)).length l]
  rw[IH, ←e]
 have h3':(nI l).length+junk.length=cap*1:=h3
 have h2':cap≤maxLen:=h2
 refine⟨nI (l.drop (lbs br (lv br l)).length)++junk,⟨E8 _,(fun h=>by cases h),fun _=>⟨by show _≤cap;rw[BB] at h3';omega,h2', ?_⟩⟩, ?_⟩
 ·show(nI (lbs br (lv br l))).length+(nI (l.drop (lbs br (lv br l)).length)++junk).length=cap*1
  rw[List.length_append,BB,BB,List.length_drop]
  rw[BB] at h3';omega
 ·rw[←List.append_assoc, ←e2]
theorem Db (W:World) (p:Option Addr) (cap n:Nat) (l:List Nat) (i x:Nat) (h:Ax W p l) (hn:l.length=n) (hi:i<4611686018427387904) (hx:lim l i=x):Ai Tryz.prog 195 #[slv p n cap, .int .i64 (i:Nat)] W (fun _:Unit=> .int .i64 (x:Nat)) (fun _=>True) (fun _=>[]):=by
 subst hn hx
 refine Ab (args:=[slv p l.length cap, .int .i64 (i:Nat)]) Tryz.func195 I I I ?_
 refine zA (zB (wP I (Aa (zE (zA (zA (zB (wP I (wP I (wP I (wP I (Aa (zE ?_)))))))))))))
 refine Av I (fun hc=> ?_) (fun hc=> ?_)
 ·have hl:i<l.length:=by simp at hc;omega
  obtain⟨b,off,rfl,hrow⟩:=h.row hl
  refine zA (zB (wP I (wP I ?_)))
  refine wJ ?_
  exact wL 0 I I (fun W hp=>(hrow i hl).hp hp) I (wP I (Aa (zE (zO (zP (wR1 I I I))))))
 ·have hl:l.length≤i:=by simp at hc;omega
  exact zI (zE (zA (zB (wP I (Aa (zE (zO (wR1 I I (by rw[Px hl];rfl)))))))))
theorem CF (W:World) (p:Option Addr) (cap:Nat) (l:List Nat) (h:Ax W p l) (hl: ∀x∈l,x<br) (hc:l.length≤cap) (hn:l.length<4611686018427387904):
  Ai Tryz.prog 193 #[slv p l.length cap] W (fun _:Unit=>slv p (lbs br (lv br l)).length cap) (fun _=>True) (fun _=>[]):=by
 refine Ab (args:=[slv p l.length cap]) Tryz.func193 I I I ?_
 refine zA (zB (wP I (Aa (zE (zA (zB (wP I (wP I (wP I (Aa (zE (zA (zH ?_)))))))))))))
 refine AA (X:=Nat) (fun k=>[(0,slv p l.length cap),(3, .int .i64 (k:Nat))]) (fun _=>[]) (fun k=>k≤l.length∧ ∀i,k≤i→i<l.length→l[i]? =some 0) (fun k=>k) l.length ⟨Nat.le_refl _,fun i h1 h2=>by omega⟩ ⟨I,I,tO⟩ [] I ?_
 rintro k ⟨hk,hz⟩
 have hk:k≤l.length:=hk
 have hend:(k=0∨l[k-1]? ≠some 0)→(lbs br (lv br l)).length=k:=fun h0=>by
  rw[←PQ br2 hk hl hz h0,List.length_take];omega
 by_cases h0:k=0
 ·subst h0
  refine zA (zA (zB (wP I (wP I ?_))))
  refine Af 7 (.bool false) I I ?_
  refine wP I ?_
  iterate 6 refine Al I I ?_
  refine wP I (Aa (zE (zS I (zJ (zK (zK (zL (zE (zA (zB (wP I (wP I ?_))))))))))))
  refine C6 0 tH I I I I I I I I (by omega) ?_
  exact wP I (Aa (zE (zO (wR1 I I (by rw[hend (.inl I)])))))
 ·refine zA (zA (zB (wP I (wP I (wU 7 true I (by simp;omega) ?_)))))
  obtain⟨b,off,rfl,hrow⟩:=h.row (show k-1<l.length by omega)
  refine wP I (wP I (wP I (wP I (wV 11 ((k-1:Nat):Int) I (by show w64 ((k:Int)-1)=_;rw[Ap (by omega) (by omega)];omega) ?_))))
  refine wJ ?_
  refine wL 0 I I (fun W hp=>(hrow (k-1) (by omega)).hp hp) I (wP I (wP I (Aa (zE ?_))))
  have e1:((lim l (k-1):Int)==0)=decide (l[k-1]? =some 0):=by
   rw[Du (show k-1<l.length by omega),Qz]
   simp
  refine Av I (fun hc=> ?_) (fun hc=> ?_)
  ·have hz0:l[k-1]? =some 0:=by simpa[e1] using hc
   refine zI (zE (zH (zB (wP I (wP I (wV 17 ((k-1:Nat):Int) I (by show w64 ((k:Int)-1)=_;rw[Ap (by omega) (by omega)];omega) (wP I (Aa (zN ?_)))))))))
   refine A6 (k-1) ⟨by show k-1≤_;omega,fun i h1 h2=> ?_⟩ (by show k-1<k;omega) ⟨I,I,tO⟩ [] I
   by_cases hi:i=k-1
   ·rw[hi];exact hz0
   ·exact hz i (by have h1:k-1≤i:=h1;omega) h2
  ·have hz0:l[k-1]? ≠some 0:=by simpa[e1] using hc
   refine zJ (zK (zK (zL (zE (zA (zB (wP I (wP I ?_))))))))
   refine C6 k tH I I I I I I I I (by omega) ?_
   exact wP I (Aa (zE (zO (wR1 I I (by rw[hend (.inr hz0)])))))
theorem Mg {a b:Nat} (h:(lbs br a).length<(lbs br b).length):a<b:=by
 rcases Nat.lt_or_ge a b with h1|h1
 ·exact h1
 ·have:=(BP br2 (n:=b)).2 (Nat.lt_of_le_of_lt h1 (AK br2 a))
  omega
theorem Xl {B:Nat} (_hB:2≤B) {a b:Nat} {k:Nat} (h:a/B^(k+1)=b/B^(k+1)):(a/B^k<b/B^k↔a/B^k%B<b/B^k%B)∧(a/B^k=b/B^k↔a/B^k%B=b/B^k%B):=by
 have h1:=Nat.mod_add_div (a/B^k) B
 have h2:=Nat.mod_add_div (b/B^k) B
 rw[Nat.div_div_eq_div_mul,show B^k*B=B^(k+1) from(Nat.pow_succ ..).symm] at h1 h2
 rw[h] at h1
 constructor<;>constructor<;>intro<;>omega
theorem NK {a b c:Nat} (h:a/c<b/c):a<b:=by
 rcases Nat.lt_or_ge a b with h1|h1
 ·exact h1
 ·exact absurd (Nat.div_le_div_right (c:=c) h1) (by omega)
def Mh (a b:Nat):Int:=if a<b then -1 else if b<a then 1 else 0
theorem K2 (W:World) (p q:Option Addr) (cap cap2:Nat) (a b:Nat) (hA:Ax W p (lbs br a)) (hB:Ax W q (lbs br b)) (hna:(lbs br a).length≤1000000) (_hnb:(lbs br b).length≤1000000):
  Ai Tryz.prog 198 #[slv p (lbs br a).length cap,slv q (lbs br b).length cap2] W (fun _:Unit=> .int .i64 (Mh a b)) (fun _=>True) (fun _=>[]):=by
 have hal:=AK br2 a
 have hbl:=AK br2 b
 refine Ab (args:=[slv p (lbs br a).length cap,slv q (lbs br b).length cap2]) Tryz.func198 I I I ?_
 refine zA (zB (wP I (Aa (zE (zA (zA (zB ?_)))))))
 iterate 5 refine wP I ?_
 by_cases hl:(lbs br a).length=(lbs br b).length
 rotate_left
 ·refine wU 10 true I (bne_iff_ne.2 (by omega)) (Aa (zE (zR I (zA (zA (zB ?_))))))
  iterate 5 refine wP I ?_
  by_cases h:(lbs br a).length<(lbs br b).length
  ·have hlt:=Mg h
   exact wU 15 true I (dT (by omega)) (Aa (zE (zR I (zA (zB (wP I (Aa (zE (zO (zP (zP (wR1 I I (by unfold Mh;rw[if_pos hlt])))))))))))))
  ·have hlt:=Mg (a:=b) (b:=a) (by omega)
   exact wU 15 false I (dF (by omega)) (Aa (zE (zS I (zI (zE (zA (zB (wP I (Aa (zE (zO (zP (wR1 I I (by unfold Mh;rw[if_neg (by omega),if_pos hlt]))))))))))))))
 obtain⟨K,hK⟩: ∃K,(lbs br b).length=K:=⟨_,rfl⟩
 rw[hl,hK] at hal
 rw[hK] at hbl hl
 rw[hl,hK]
 refine wU 10 false I (by simp) (Aa (zE (zS I (zI (zE (zA (zA (zB (wP I (wP I (wP I (wV 18 ((K:Int)-1) I (Ap (by omega) (by omega)) (wP I ?_)))))))))))))
 refine Aa (zE (zH ?_))
 refine AA (X:=Nat) (fun k=>[(0,slv p K cap),(1,slv q K cap2),(5, .int .i64 ((k:Nat)-1:Int))]) (fun _=>[]) (fun k=>k≤K∧a/br^k=b/br^k) (fun k=>k) K ⟨Nat.le_refl _,by rw[Nat.div_eq_of_lt hal,Nat.div_eq_of_lt hbl]⟩ ⟨I,I,I,tO⟩ [] I ?_
 rintro k ⟨hk,hq⟩
 have hk:k≤K:=hk
 refine zA (zA (zB (wP I (wP I ?_))))
 cases k with
 |zero=>
  have e:a=b:=by have hq:a/br^0=b/br^0:=hq;simpa using hq
  refine wU 20 false I (dF (by show¬(((0:Nat):Int)-1≥0);omega)) (Aa (zE (zS I (zJ (zK (zK (zL (zE (zA (zB (wP I (Aa (zE ?_)))))))))))))
  exact zO (wR1 I I (by unfold Mh;rw[e,if_neg (Nat.lt_irrefl _),if_neg (Nat.lt_irrefl _)]))
 |succ k=>
  have hq:a/br^(k+1)=b/br^(k+1):=hq
  obtain⟨h1,h2⟩:=Xl br2 hq
  obtain⟨b1,o1,rfl,r1⟩:=hA.row (show k<(lbs br a).length by omega)
  obtain⟨b2,o2,rfl,r2⟩:=hB.row (show k<(lbs br b).length by omega)
  have r1:=r1 k (by omega)
  have r2:=r2 k (by omega)
  obtain⟨x,hx⟩: ∃x,lim (lbs br a) k=x:=⟨_,rfl⟩
  obtain⟨y,hy⟩: ∃y,lim (lbs br b) k=y:=⟨_,rfl⟩
  rw[hx] at r1
  rw[hy] at r2
  rw[Bk br2] at hx hy
  rw[hx,hy] at h1 h2
  have hxb:x<br:=by rw[←hx];exact Nat.mod_lt _ (by decide)
  have hyb:y<br:=by rw[←hy];exact Nat.mod_lt _ (by decide)
  have hxb:x<1000000:=hxb
  have hyb:y<1000000:=hyb
  refine wU 20 true I (dT (by show(((k+1:Nat):Int)-1≥0);omega)) (Aa (zE (zR I (zI (zE (zA (zH (zA (zA (zU (qP I (qP I (qV 24 (k:Nat) I (by show((k+1:Nat):Int)-1=_;omega) ?_)))))))))))))
  refine qJ ?_
  refine qL 0 I I (fun W hp=>r1.hp hp) I (qP I (qP I (qV 28 (k:Nat) I (by show((k+1:Nat):Int)-1=_;omega) ?_)))
  refine qJ ?_
  refine qL 0 I I (fun W hp=>r2.hp hp) I (qP I ?_)
  by_cases hlt:x<y
  ·have:=NK (h1.2 hlt)
   refine qU 31 true I (dT (by omega)) (AT (Aa (zE (zR I (zA (zB (wP I (Aa (zE (zO (zP (zQ (zP (zP ?_))))))))))))))
   exact zQ (zP (wR1 I I (by unfold Mh;rw[if_pos this])))
  refine qU 31 false I (dF (by omega)) (AT (Aa (zE (zS I (zI (zE (zA (zU (qP I (qP I (qV 33 (k:Nat) I (by show((k+1:Nat):Int)-1=_;omega) ?_)))))))))))
  refine qJ ?_
  refine qL 0 I I (fun W hp=>r1.hp hp) I (qP I (qP I (qV 37 (k:Nat) I (by show((k+1:Nat):Int)-1=_;omega) ?_)))
  refine qJ ?_
  refine qL 0 I I (fun W hp=>r2.hp hp) I (qP I ?_)
  by_cases hgt:y<x
  ·have h3: ¬a/br^k<b/br^k:=fun h=>hlt (h1.1 h)
   have h4: ¬a/br^k=b/br^k:=fun h=>by have:=h2.1 h;omega
   have:=NK (a:=b) (b:=a) (c:=br^k) (by omega)
   refine qU 40 true I (dT (by show((x:Nat):Int)>(y:Nat);omega)) (AT (Aa (zE (zR I (zA (zB (wP I (Aa (zE (zO (zQ (zP (zP ?_)))))))))))))
   exact zQ (zP (wR1 I I (by unfold Mh;rw[if_neg (by omega),if_pos this])))
  refine qU 40 false I (dF (by show¬((x:Nat):Int)>(y:Nat);omega)) (AT (Aa (zE (zS I (zI (zN (zE (zB (wP I (wV 21 (k:Nat) I (by show((k+1:Nat):Int)-1=_;omega) (wP I (wV 22 ((k:Nat)-1:Int) I (Ap (by omega) (by omega)) (wP I ?_)))))))))))))
  exact Aa (A6 k ⟨by show k≤K;omega,h2.2 (by omega)⟩ (by show k<k+1;omega) ⟨I,I,I,tO⟩ [] I)
def Gf (a b:List Nat):Nat→List Nat×Nat
 |0=>([],0)
 |i+1=>((Gf a b i).1++[(lim a i+lim b i+(Gf a b i).2)%br],(lim a i+lim b i+(Gf a b i).2)/br)
theorem My (a b:List Nat): ∀i,(Gf a b i).1.length=i
 |0=>rfl
 |i+1=>by show(_++[_]).length=_;rw[List.length_append,My a b i];rfl
theorem Si {a b:List Nat} (ha: ∀x∈a,x<br) (hb: ∀x∈b,x<br): ∀i,(∀x∈(Gf a b i).1,x<br)∧(Gf a b i).2≤1
 |0=>⟨fun x h=>(by cases h),Nat.zero_le _⟩
 |i+1=>by
  obtain⟨h1,h2⟩:=Si ha hb i
  have l1:lim a i<1000000:=Bi br2 ha i
  have l2:lim b i<1000000:=Bi br2 hb i
  refine⟨fun x hx=> ?_, ?_⟩
  ·rcases List.mem_append.1 hx with hx|hx
   ·exact h1 x hx
   ·obtain rfl:=List.mem_singleton.1 hx;exact Nat.mod_lt _ (by decide)
  ·show _/1000000≤1;omega
theorem Mp (a b:Nat): ∀i,lv br (Gf (lbs br a) (lbs br b) i).1+br^i*(Gf (lbs br a) (lbs br b) i).2=a%br^i+b%br^i
 |0=>by show 0+br^0*0=_;rw[Nat.pow_zero,Nat.mod_one,Nat.mod_one]
 |i+1=>Nk (My _ _ i) (Mp a b i) (by rw[Bk br2,Bk br2])
theorem P7 (W:World) (p q:Option Addr) (cap cap2:Nat) (a b:Nat) (hA:Ax W p (lbs br a)) (hB:Ax W q (lbs br b)) (hna:(lbs br a).length≤1000000) (hnb:(lbs br b).length≤1000000):
  Ai Tryz.prog 221 #[slv p (lbs br a).length cap,slv q (lbs br b).length cap2] W (fun x:NV=>B2 x (lbs br (a+b)).length) (fun x=>Cn x (lbs br (a+b))) (fun x=>[BH x (lbs br (a+b))]):=by
 have hla:=Bm br2 a
 have hlb:=Bm br2 b
 have hal:=AK br2 a
 have hbl:=AK br2 b
 obtain⟨na,hna'⟩: ∃n,(lbs br a).length=n:=⟨_,rfl⟩
 obtain⟨nb,hnb'⟩: ∃n,(lbs br b).length=n:=⟨_,rfl⟩
 rw[hna'] at hna hal
 rw[hnb'] at hnb hbl
 obtain⟨M,hM⟩: ∃M,M=max na nb:=⟨_,rfl⟩
 have ham:a<br^M:=Nat.lt_of_lt_of_le hal (Nat.pow_le_pow_right (by decide) (by omega))
 have hbm:b<br^M:=Nat.lt_of_lt_of_le hbl (Nat.pow_le_pow_right (by decide) (by omega))
 refine Ab (args:=[slv p (lbs br a).length cap,slv q (lbs br b).length cap2]) Tryz.func221 I I I ?_
 rw[hna',hnb']
 refine zA (zB (wP I (Aa (zE (zA (zB ?_))))))
 refine E3 tH I I I I I ?_
 intro g
 refine wP I (Aa (zE (zA (zB (wP I (Aa (zE (zA (zA (zB (wP I (Aa (zE ?_)))))))))))))
 refine zH ?_
 refine AA (X:=Nat×NV) (fun x=>[(0,slv p na cap),(1,slv q nb cap2),(5,B2 x.2 x.1),(6, .int .i64 ((Gf (lbs br a) (lbs br b) x.1).2:Nat)),(7, .int .i64 (x.1:Nat))]) (fun x=>[BH x.2 (Gf (lbs br a) (lbs br b) x.1).1])
  (fun x=>x.1≤M+1∧Cn x.2 (Gf (lbs br a) (lbs br b) x.1).1∧(x.1=M+1→(Gf (lbs br a) (lbs br b) (M+1)).2=0)) (fun x=>M+1-x.1) (0,g,0,[]) ⟨Nat.zero_le _,⟨rfl,(fun h=>by cases h),fun _=>⟨Nat.le_refl _,Nat.zero_le _,rfl⟩⟩,fun h=>by have h:0=M+1:=h;omega⟩ ⟨rfl,rfl,rfl,rfl,rfl,trivial⟩ [] rfl ?_
 rintro⟨i,x⟩ ⟨hi,hx,hend⟩
 have hi:i≤M+1:=hi
 have hx:Cn x (Gf (lbs br a) (lbs br b) i).1:=hx
 have hlen:=My (lbs br a) (lbs br b) i
 obtain⟨hob,hc1⟩:=Si hla hlb i
 have hval:=Mp a b i
 obtain⟨out,hout⟩: ∃out,(Gf (lbs br a) (lbs br b) i).1=out:=⟨_,rfl⟩
 obtain⟨c,hc⟩: ∃c,(Gf (lbs br a) (lbs br b) i).2=c:=⟨_,rfl⟩
 rw[hout] at hx hlen hob hval
 rw[hc] at hc1 hval
 have eout:BH x (Gf (lbs br a) (lbs br b) i).1=BH x out:=by rw[hout]
 simp only[hc,hout]
 refine A0 (A0 ?_)
 refine AG (X:=Unit) (fun _=>[(0,slv p na cap),(1,slv q nb cap2),(5,B2 x i),(6, .int .i64 (c:Nat)),(7, .int .i64 (i:Nat)),(23, .bool (decide (i<na∨i<nb∨0<c)))]) (fun _=>[BH x out]) (fun _=>True) ?_ ?_
 ·refine zB (wP I (wP I (wP I (wP I ?_))))
  by_cases h1:i<na
  ·refine wU 13 true I (dT (by omega)) (wP I ?_)
   iterate 4 refine Al I I ?_
   refine wP I (wP I ?_)
   iterate 2 refine Al I I ?_
   exact wP I (Aa (An () tO ⟨I,I,I,I,I,by rw[dT (Or.inl h1)];rfl,tO⟩ [] I))
  refine wU 13 false I (dF (by omega)) ?_
  iterate 5 refine wP I ?_
  by_cases h2:i<nb
  ·refine wU 18 true I (dT (by omega)) (wP I (wP I ?_))
   iterate 2 refine Al I I ?_
   exact wP I (Aa (An () tO ⟨I,I,I,I,I,by rw[dT (Or.inr (Or.inl h2))];rfl,tO⟩ [] I))
  exact wU 18 false I (dF (by omega)) (wP I (wP I (wP I (wP I (wU 22 (decide (i<na∨i<nb∨0<c)) I (decide_eq_decide.2 (by omega)) (wP I (Aa (An () tO ⟨I,I,I,I,I,I,tO⟩ [] I))))))))
 intro _ _
 refine Av I (fun hcd=> ?_) (fun hcd=> ?_)
 ·have hcd:i<na∨i<nb∨0<c:=of_decide_eq_true hcd
  have hiM:i≤M:=by
   rcases Nat.lt_or_ge M i with h|h
   ·have h1:i=M+1:=by omega
    have h2:=hend h1
    rw[←h1,hc] at h2
    omega
   ·exact h
  obtain⟨u,hu⟩: ∃u,lim (lbs br a) i=u:=⟨_,rfl⟩
  obtain⟨v,hv⟩: ∃v,lim (lbs br b) i=v:=⟨_,rfl⟩
  have hub:u<1000000:=by rw[←hu];exact Bi br2 hla i
  have hvb:v<1000000:=by rw[←hv];exact Bi br2 hlb i
  have e1:(Gf (lbs br a) (lbs br b) (i+1)).1=out++[(u+v+c)%br]:=by show _++[_]=_;rw[hout,hu,hv,hc]
  have e2:(Gf (lbs br a) (lbs br b) (i+1)).2=(u+v+c)/br:=by show _/_=_;rw[hu,hv,hc]
  refine zI (zE (zA (zH (zA (zB (wP I (wP I (wC I I (fun W' hp=>Db W' p cap na (lbs br a) i u (hA.hp hp) hna' (by omega) hu) (wP I (wP I (wC I I (fun W' hp=>Db W' q cap2 nb (lbs br b) i v (hB.hp hp) hnb' (by omega) hv) (wP I (wP I (wP I ?_))))))))))))))
  refine wV 34 ((u+v+c:Nat):Int) I (by show w64 (w64 ((u:Int)+v)+c)=_;rw[AV (by omega),AV (by omega)]) (wP I (Aa (zE (zA (zB (wP I (wP I ?_)))))))
  refine Ft I I I I I (by decide) ?_
  refine AF Tryz.hZ tH I I I I I I I I I I I fun bN=> ?_
  refine Bs (V:=nvV x) (len:=i) (xs:=nI out) 0 1 Tryz.vec130 (i+1) (nI (out++[(u+v+c)%br])) I I I I I I I I I I I (by rw[←hlen];exact hx) I I I (by rw[IH];rfl) (by simp only[maxLen];omega) (by omega) I ?_
  intro g1 c1 j1 hV1
  refine wP I (Aa (zE (zB (wP I ?_))))
  refine D5 I I I I I (by decide) ?_
  refine wV 41 (((u+v+c)/br:Nat):Int) I (BG (show(u+v+c)/1000000<9223372036854775808 by omega)) (wP I (Aa (zN (zE (zB (wP I (wP I (wV 25 ((i+1:Nat):Int) I (Ay (by omega)) (wP I (Aa ?_))))))))))
  refine A6 (i+1,g1,c1,j1) ⟨by show i+1≤M+1;omega, ?_,fun h=> ?_⟩ (by show M+1-(i+1)<M+1-i;omega) ⟨I,I,I,by rw[e2];rfl,I,tO⟩ _ (by show _=[BH _ (Gf _ _ (i+1)).1]++_;rw[e1];rfl)
  ·show Cn _ (Gf (lbs br a) (lbs br b) (i+1)).1
   rw[e1]
   show Vec.OK _ 1 (out++[_]).length _
   rw[List.length_append,hlen]
   exact hV1
  ·have h:i+1=M+1:=h
   have h9:=Mp a b (M+1)
   have hp1:br^(M+1)=br^M*br:=Nat.pow_succ ..
   have hp2:br^M*2≤br^M*br:=Nat.mul_le_mul_left _ br2
   rw[Nat.mod_eq_of_lt (by omega),Nat.mod_eq_of_lt (by omega)] at h9
   rcases Nat.eq_zero_or_pos (Gf (lbs br a) (lbs br b) (M+1)).2 with h0|h0
   ·exact h0
   ·have:=Nat.mul_le_mul_left (br^(M+1)) h0
    omega
 ·have hcd: ¬(i<na∨i<nb∨0<c):=of_decide_eq_false hcd
  have ev:lv br out=a+b:=by
   have hc0:c=0:=by omega
   rw[hc0,Nat.mul_zero,Nat.add_zero] at hval
   have h3:br^M≤br^i:=Nat.pow_le_pow_right (by decide) (by omega)
   rw[Nat.mod_eq_of_lt (by omega),Nat.mod_eq_of_lt (by omega)] at hval
   exact hval
  obtain⟨j2,hj1,hj2⟩:=DK hx hob
  rw[ev] at hj1 hj2
  refine zJ (zK (zK (zL (zE (zA (zB (wP I ?_)))))))
  refine Af 42 (slv (some ⟨x.1,0,none⟩) out.length x.2.1) I (by rw[hlen]) ?_
  exact wC I I (fun W' hp=>CF W' (some ⟨x.1,0,none⟩) x.2.1 out (Ax.of_bx hp 0 I) hob (by have:=(hx.cap (by simp)).1;exact this) (by omega)) (wP I (Aa (zE (zO (Au tH I (.tmp I) ((x.1,x.2.1,j2):NV) (by rw[ev]) hj1 fun W hp=>As.of_hp1 hp 0 (by show some (⟨x.1,3,nI out++x.2.2,true,none⟩:Bx)=some ⟨x.1,3,nI (lbs br (a+b))++j2,true,none⟩;rw[hj2]))))))
-- BOXES 4
-- CODE2
def HG (x y c:Nat):Nat×Nat:=if y+c≤x then(x-y-c,0) else(x+br-y-c,1)
theorem SY {x y c:Nat} (hx:x<br) (hy:y<br) (hc:c≤1):(HG x y c).1<br∧(HG x y c).2≤1∧(HG x y c).1+y+c=x+br*(HG x y c).2:=by
 have hx:x<1000000:=hx
 have hy:y<1000000:=hy
 unfold HG
 split
 ·exact⟨by show x-y-c<1000000;omega,Nat.zero_le _,by show x-y-c+y+c=x+1000000*0;omega⟩
 ·exact⟨by show x+1000000-y-c<1000000;omega,Nat.le_refl _,by show x+1000000-y-c+y+c=x+1000000*1;omega⟩
def Ha (a b:List Nat):Nat→List Nat×Nat
 |0=>([],0)
 |i+1=>((Ha a b i).1++[(HG (lim a i) (lim b i) (Ha a b i).2).1],(HG (lim a i) (lim b i) (Ha a b i).2).2)
theorem MH (a b:List Nat): ∀i,(Ha a b i).1.length=i
 |0=>rfl
 |i+1=>by show(_++[_]).length=_;rw[List.length_append,MH a b i];rfl
theorem OL {a b:List Nat} (ha: ∀x∈a,x<br) (hb: ∀x∈b,x<br): ∀i,(∀x∈(Ha a b i).1,x<br)∧(Ha a b i).2≤1
 |0=>⟨fun x h=>(by cases h),Nat.zero_le _⟩
 |i+1=>by
  obtain⟨h1,h2⟩:=OL ha hb i
  obtain⟨h3,h4,_⟩:=SY (Bi br2 ha i) (Bi br2 hb i) h2
  refine⟨fun x hx=> ?_,h4⟩
  rcases List.mem_append.1 hx with hx|hx
  ·exact h1 x hx
  ·obtain rfl:=List.mem_singleton.1 hx;exact h3
theorem Pb (a b:Nat): ∀i,lv br (Ha (lbs br a) (lbs br b) i).1+b%br^i=a%br^i+br^i*(Ha (lbs br a) (lbs br b) i).2
 |0=>by show 0+_=_+br^0*0;rw[Nat.pow_zero,Nat.mod_one,Nat.mod_one]
 |i+1=>by
  have hc:=(OL (Bm br2 a) (Bm br2 b) i).2
  exact Ma (MH _ _ i) (Pb a b i) (by rw[←Bk br2 b i, ←Bk br2 a i];exact(SY (Bi br2 (Bm br2 a) i) (Bi br2 (Bm br2 b) i) hc).2.2)
theorem Fe (W:World) (p q:Option Addr) (cap cap2:Nat) (a b:Nat) (hba:b≤a) (hA:Ax W p (lbs br a)) (hB:Ax W q (lbs br b)) (hna:(lbs br a).length≤1000000):
  Ai Tryz.prog 196 #[slv p (lbs br a).length cap,slv q (lbs br b).length cap2] W (fun x:NV=>B2 x (lbs br (a-b)).length) (fun x=>Cn x (lbs br (a-b))) (fun x=>[BH x (lbs br (a-b))]):=by
 have hla:=Bm br2 a
 have hlb:=Bm br2 b
 have hal:=AK br2 a
 obtain⟨na,hna'⟩: ∃n,(lbs br a).length=n:=⟨_,rfl⟩
 obtain⟨nb,hnb'⟩: ∃n,(lbs br b).length=n:=⟨_,rfl⟩
 rw[hna'] at hna hal
 refine Ab (args:=[slv p (lbs br a).length cap,slv q (lbs br b).length cap2]) Tryz.func196 I I I ?_
 rw[hna',hnb']
 refine zA (zB (wP I (Aa (zE (zA (zB ?_))))))
 refine E3 tH I I I I I ?_
 intro g
 refine wP I (Aa (zE (zA (zB (wP I (Aa (zE (zA (zA (zB (wP I (Aa (zE ?_)))))))))))))
 refine zH ?_
 refine AA (X:=Nat×NV) (fun x=>[(0,slv p na cap),(1,slv q nb cap2),(5,B2 x.2 x.1),(6, .int .i64 ((Ha (lbs br a) (lbs br b) x.1).2:Nat)),(7, .int .i64 (x.1:Nat))]) (fun x=>[BH x.2 (Ha (lbs br a) (lbs br b) x.1).1])
  (fun x=>x.1≤na∧Cn x.2 (Ha (lbs br a) (lbs br b) x.1).1) (fun x=>na-x.1) (0,g,0,[]) ⟨Nat.zero_le _,⟨rfl,(fun h=>by cases h),fun _=>⟨Nat.le_refl _,Nat.zero_le _,rfl⟩⟩⟩ ⟨rfl,rfl,rfl,rfl,rfl,trivial⟩ [] rfl ?_
 rintro⟨i,x⟩ ⟨hi,hx⟩
 have hi:i≤na:=hi
 have hx:Cn x (Ha (lbs br a) (lbs br b) i).1:=hx
 have hlen:=MH (lbs br a) (lbs br b) i
 obtain⟨hob,hc1⟩:=OL hla hlb i
 have hval:=Pb a b i
 obtain⟨out,hout⟩: ∃out,(Ha (lbs br a) (lbs br b) i).1=out:=⟨_,rfl⟩
 obtain⟨c,hc⟩: ∃c,(Ha (lbs br a) (lbs br b) i).2=c:=⟨_,rfl⟩
 rw[hout] at hx hlen hob hval
 rw[hc] at hc1 hval
 simp only[hc,hout]
 refine zA (zA (zB (wP I (wP I (wP I (wP I ?_))))))
 by_cases h1:i<na
 ·refine wU 13 true I (dT (by omega)) (Aa (zE (zR I (zI (zE (zA (zH (zA (zU ?_)))))))))
  obtain⟨u,hu⟩: ∃u,lim (lbs br a) i=u:=⟨_,rfl⟩
  obtain⟨v,hv⟩: ∃v,lim (lbs br b) i=v:=⟨_,rfl⟩
  have hub:u<1000000:=by rw[←hu];exact Bi br2 hla i
  have hvb:v<1000000:=by rw[←hv];exact Bi br2 hlb i
  obtain⟨b1,o1,rfl,r1⟩:=hA.row (show i<(lbs br a).length by omega)
  have r1:=r1 i (by omega)
  rw[hu] at r1
  have e1:(Ha (lbs br a) (lbs br b) (i+1)).1=out++[(HG u v c).1]:=by show _++[_]=_;rw[hout,hu,hv,hc]
  have e2:(Ha (lbs br a) (lbs br b) (i+1)).2=(HG u v c).2:=by show(HG _ _ _).2=_;rw[hu,hv,hc]
  refine qP I (qP I ?_)
  refine qJ ?_
  refine qL 0 I I (fun W hp=>r1.hp hp) I (qP I (qP I (qC I I (fun W' hp=>Db W' q cap2 nb (lbs br b) i v (hB.hp hp) hnb' (by omega) hv) (qP I (qP I (qP I (qV 25 ((u:Int)-v-c) I (by show w64 (w64 ((u:Int)-v)-c)=_;rw[Ap (x:=(u:Int)-v) (by omega) (by omega),Ap (by omega) (by omega)]) (qP I (AT (Aa (zE (zA (zB ?_)))))))))))))
  refine wP I (Aa (AI (A0 (A0 (zB (wP I (wP I ?_)))))))
  refine Af 27 (.bool (decide ((u:Int)-v-c<0))) I I ?_
  refine Aa (AI ?_)
  try refine A0 ?_
  refine AG (X:=Unit) (fun _=>[(0,slv (some ⟨b1,o1,none⟩) na cap),(1,slv q nb cap2),(5,B2 x i),(6, .int .i64 ((HG u v c).2:Nat)),(7, .int .i64 (i:Nat)),(8, .int .i64 ((HG u v c).1:Nat))]) (fun _=>[BH x out]) (fun _=>True) ?_ ?_
  ·refine Av I (fun hn=> ?_) (fun hn=> ?_)
   ·have hn:(u:Int)-v-c<0:=of_decide_eq_true hn
    have em:HG u v c=(u+br-v-c,1):=by unfold HG;rw[if_neg (by omega)]
    exact zA (zB (wP I (wP I (wV 29 ((u+br-v-c:Nat):Int) I (by show w64 (((u:Int)-v-c)+((1000000:Nat):Int))=_;rw[Ap (by omega) (by omega)];show _=((u+1000000-v-c:Nat):Int);omega) (wP I (Aa (zE (zB (wP I (Aa (An () tO ⟨I,I,I,by rw[em];rfl,I,by rw[em];rfl,tO⟩ [] I)))))))))))
   ·have hn: ¬(u:Int)-v-c<0:=of_decide_eq_false hn
    have em:HG u v c=(u-v-c,0):=by unfold HG;rw[if_pos (by omega)]
    exact zI (An () tO ⟨I,I,I,by rw[em];rfl,I,by rw[em];exact congrArg (fun z=>some (Value.int .i64 z)) (by show(u:Int)-v-c=((u-v-c:Nat):Int);omega),tO⟩ [] I)
  intro _ _
  refine zB (wP I (wP I ?_))
  refine AF Tryz.hZ tH I I I I I I I I I I I fun bN=> ?_
  refine Bs (V:=nvV x) (len:=i) (xs:=nI out) 0 1 Tryz.vec130 (i+1) (nI (out++[(HG u v c).1])) I I I I I I I I I I I (by rw[←hlen];exact hx) I I I (by rw[IH];rfl) (by simp only[maxLen];omega) (by omega) I ?_
  intro g1 c1 j1 hV1
  refine wP I (Aa (zN (zE (zB (wP I (wP I (wV 15 ((i+1:Nat):Int) I (Ay (by omega)) (wP I (Aa ?_)))))))))
  refine A6 (i+1,g1,c1,j1) ⟨h1, ?_⟩ (by show na-(i+1)<na-i;omega) ⟨I,I,I,by rw[e2];rfl,I,tO⟩ _ (by show _=[BH _ (Ha _ _ (i+1)).1]++_;rw[e1];rfl)
  show Cn _ (Ha (lbs br a) (lbs br b) (i+1)).1
  rw[e1]
  show Vec.OK _ 1 (out++[_]).length _
  rw[List.length_append,hlen]
  exact hV1
 ·have e:i=na:=by omega
  subst e
  have ev:lv br out=a-b:=Np br2 hlen hob hval hal hba
  obtain⟨j2,hj1,hj2⟩:=DK hx hob
  rw[ev] at hj1 hj2
  refine wU 13 false I (dF (by omega)) (Aa (zE (zS I (zJ (zK (zK (zL (zE (zA (zB (wP I ?_)))))))))))
  refine Af 34 (slv (some ⟨x.1,0,none⟩) out.length x.2.1) I (by rw[hlen]) ?_
  exact wC I I (fun W' hp=>CF W' (some ⟨x.1,0,none⟩) x.2.1 out (Ax.of_bx hp 0 I) hob (by have:=(hx.cap (by simp)).1;exact this) (by omega)) (wP I (Aa (zE (zO (Au tH I (.tmp I) ((x.1,x.2.1,j2):NV) (by rw[ev]) hj1 fun W hp=>As.of_hp1 hp 0 (by show some (⟨x.1,3,nI out++x.2.2,true,none⟩:Bx)=some ⟨x.1,3,nI (lbs br (a-b))++j2,true,none⟩;rw[hj2]))))))
-- BOXES 4
-- CODE2
theorem TQ {x y:Nat} (hx:x<br) (hy:y<br):x*y≤999998000001:=(Nat.mul_le_mul (Nat.le_of_lt_succ hx) (Nat.le_of_lt_succ hy):x*y≤999999*999999)
theorem Ip (W:World) (p q:Option Addr) (cap cap2:Nat) (a:Nat) (lb:List Nat) (hlb: ∀x∈lb,x<br) (hA:Ax W p (lbs br a)) (hB:Ax W q lb) (hna:(lbs br a).length≤1000000) (hnb:lb.length≤1000000):
  Ai Tryz.prog 197 #[slv p (lbs br a).length cap,slv q lb.length cap2] W (fun x:NV=>B2 x (lbs br (a*lv br lb)).length) (fun x=>Cn x (lbs br (a*lv br lb))) (fun x=>[BH x (lbs br (a*lv br lb))]):=by
 have hla:=Bm br2 a
 have hal:=AK br2 a
 have hbl:=Fz br2 hlb
 obtain⟨b,hbv⟩: ∃b,lv br lb=b:=⟨_,rfl⟩
 rw[hbv] at hbl⊢
 obtain⟨na,hna'⟩: ∃n,(lbs br a).length=n:=⟨_,rfl⟩
 obtain⟨nb,hnb'⟩: ∃n,lb.length=n:=⟨_,rfl⟩
 obtain⟨M,hM⟩: ∃M,M=na+nb+1:=⟨_,rfl⟩
 rw[hna'] at hna hal
 rw[hnb'] at hnb hbl
 refine Ab (args:=[slv p (lbs br a).length cap,slv q lb.length cap2]) Tryz.func197 I I I ?_
 rw[hna',hnb']
 refine zA (zB (wP I (Aa (zE (zA (zB ?_))))))
 iterate 6 refine wP I ?_
 refine wV 15 (M:Nat) I (by show w64 (w64 ((na:Int)+nb)+1)=_;rw[AV (by omega),Ay (by omega),hM]) ?_
 refine Cd Tryz.vec130 M I I I I I I I (by simp only[maxLen];omega) (by omega) ?_
 intro g
 have ez:Cc (Value.cells (.int .i64 0)).toList M=nI (List.replicate M 0)++[]:=by rw[List.append_nil];exact FB M
 rw[ez]
 refine wP I (Aa (zE (zA (zA (zB (wP I (Aa (zE (zH ?_)))))))))
 refine AA (X:=Nat×List Nat) (fun x=>[(0,slv p na cap),(1,slv q nb cap2),(5,slv (some ⟨g,0,none⟩) M M),(6, .int .i64 (x.1:Nat))]) (fun x=>[⟨g,3,nI x.2++[],true,none⟩])
  (fun x=>x.1≤na∧x.2.length=M∧(∀y∈x.2,y<br)∧lv br x.2=a%br^x.1*b) (fun x=>na-x.1) (0,List.replicate M 0) ⟨Nat.zero_le _,List.length_replicate,fun y hy=>by rw[List.eq_of_mem_replicate hy];decide,by rw[EK];show 0=a%br^0*b;rw[Nat.pow_zero,Nat.mod_one,Nat.zero_mul]⟩ ⟨rfl,rfl,rfl,rfl,trivial⟩ [] rfl ?_
 rintro⟨i,out⟩ ⟨hi,hlen,hob,hov⟩
 have hi:i≤na:=hi
 have hlen:out.length=M:=hlen
 refine zA (zA (zB (wP I (wP I (wP I (wP I ?_))))))
 by_cases hi':i<na
 ·refine wU 20 true I (dT (by omega)) (Aa (zE (zR I (zI (zE (zA (zH (zA (zB ?_)))))))))
  obtain⟨pb,po,rfl,hrow⟩:=hA.row (show i<(lbs br a).length by omega)
  obtain⟨x,hx⟩: ∃x,lim (lbs br a) i=x:=⟨_,rfl⟩
  have hrx: ∀W' bx,Hp W bx W'→Ak W' pb (po+i*1) [.int .i64 (x:Nat)]:=fun W' bx hp=>by
   have:=(hrow i (by omega)).hp hp
   rwa [hx] at this
  have hxb:x<br:=by rw[←hx];exact Bi br2 hla i
  have hxe:x=a/br^i%br:=by rw[←hx];exact Bk br2 a i
  refine wP I (Aa (zE (zA (zB (wP I (Aa (zE (zH ?_))))))))
  refine AA (X:=Nat×List Nat×Nat) (fun x'=>[(0,slv (some ⟨pb,po,none⟩) na cap),(1,slv q nb cap2),(5,slv (some ⟨g,0,none⟩) M M),(6, .int .i64 (i:Nat)),(7, .int .i64 (x'.2.2:Nat)),(8, .int .i64 (x'.1:Nat))]) (fun x'=>[⟨g,3,nI x'.2.1++[],true,none⟩])
   (fun x'=>x'.1≤nb+1∧x'.2.1.length=M∧(∀y∈x'.2.1,y<br)∧x'.2.2<br∧lv br x'.2.1+br^(i+x'.1)*x'.2.2=lv br out+br^i*(x*(b%br^x'.1))) (fun x'=>nb+1-x'.1) (0,out,0) ⟨Nat.zero_le _,hlen,hob,show 0<br by decide,by show lv br out+br^(i+0)*0=lv br out+br^i*(x*(b%br^0));rw[Nat.pow_zero,Nat.mod_one];simp⟩ ⟨rfl,rfl,rfl,rfl,rfl,rfl,trivial⟩ [] rfl ?_
  rintro⟨k,u,c⟩ ⟨hk,hul,hub,hcb,huv⟩
  have hk:k≤nb+1:=hk
  have hul:u.length=M:=hul
  have hcb:c<1000000:=hcb
  have huv:lv br u+br^(i+k)*c=lv br out+br^i*(x*(b%br^k)):=huv
  have hlast:k=nb+1→c=0:=fun e=>by
   subst e
   exact(Nx br2 huv hbl hxb (by rw[hov];exact K9 br2 hbl)).2
  refine A0 (A0 ?_)
  refine AG (X:=Unit) (fun _=>[(0,slv (some ⟨pb,po,none⟩) na cap),(1,slv q nb cap2),(5,slv (some ⟨g,0,none⟩) M M),(6, .int .i64 (i:Nat)),(7, .int .i64 (c:Nat)),(8, .int .i64 (k:Nat)),(30, .bool (decide (k<nb∨0<c)))]) (fun _=>[⟨g,3,nI u++[],true,none⟩]) (fun _=>True) ?_ ?_
  ·refine zB (wP I (wP I (wP I (wP I ?_))))
   by_cases h1:k<nb
   ·refine wU 26 true I (dT (by omega)) (wP I ?_)
    iterate 2 refine Al I I ?_
    exact wP I (Aa (An () tO ⟨I,I,I,I,I,I,by rw[dT (Or.inl h1)];rfl,tO⟩ [] I))
   ·exact wU 26 false I (dF (by omega)) (wP I (wP I (wP I (wU 29 (decide (k<nb∨0<c)) I (decide_eq_decide.2 (by show((c:Nat):Int)>0↔(k<nb∨0<c);omega)) (wP I (Aa (An () tO ⟨I,I,I,I,I,I,I,tO⟩ [] I)))))))
  intro _ _
  refine Av I (fun hc=> ?_) (fun hc=> ?_)
  ·have hc:k<nb∨0<c:=of_decide_eq_true hc
   have hk':k<nb+1:=by
    rcases Nat.lt_or_ge k (nb+1) with h|h
    ·exact h
    ·have:=hlast (by omega);omega
   have hik:i+k<u.length:=by rw[hul];omega
   obtain⟨o,ho⟩: ∃o,lim u (i+k)=o:=⟨_,rfl⟩
   obtain⟨y,hy⟩: ∃y,lim lb k=y:=⟨_,rfl⟩
   have hob':o<br:=by rw[←ho];exact Bi br2 hub _
   have hyb:y<br:=by rw[←hy];exact Bi br2 hlb _
   have hou:u[i+k]? =some o:=by rw[Du hik,ho]
   obtain⟨n,hn⟩: ∃n,n=o+x*y+c:=⟨_,rfl⟩
   have hnb2:=KA hxb hyb hob' hcb hn
   have hn63:n<1000000000000:=hnb2.2
   have hxy:=TQ hxb hyb
   have hyy:=hy
   rw[Ct br2 k hlb,hbv] at hyy
   have hstep:=IK (n:=n) hou huv (by rw[hn,hyy])
   have hrx':=hrx
   refine zI (zE (zA (zH (zA (zU (qP I (qP I (qP I (qP I (qV 36 ((i+k:Nat):Int) I (AV (by omega)) ?_))))))))))
   refine qJ ?_
   refine qL 0 I I (fun W' hp=>Ak.of_intsX hp 0 I hik ho) I (qP I (qP I ?_))
   refine qJ ?_
   refine qL 0 I I (fun W' hp=>hrx W' _ hp) I (qP I (qP I (qC I I (fun W' hp=>Db W' q cap2 nb lb k y (hB.hp hp) hnb' (by omega) hy) (qP I (qP I (qP I (qP I (qV 49 (n:Nat) I (by show w64 (w64 ((o:Int)+w64 ((x:Int)*y))+c)=_;rw[Ck (by omega),AV (by omega),AV (by omega),hn]) (qP I (AT (Aa (zE (zA ?_)))))))))))))
   refine zB (wP I (wP I (wP I (wP I (wV 53 ((i+k:Nat):Int) I (AV (by omega)) (wP I ?_))))))
   refine Ft I I I I I (by decide) ?_
   refine wJ ?_
   refine Aw 0 (nI (u.set (i+k) (n%br))++[]) tH I I I I I I I I I I (by show 0+(i+k)*1+1≤(nI u++[]).length;rw[List.append_nil,BB];omega) (Cy hik (n%br)) ?_
   refine Aa (zE (zB (wP I ?_)))
   refine D5 I I I I I (by decide) ?_
   exact wV 58 ((n/br:Nat):Int) I (BG (show n/1000000<9223372036854775808 by omega)) (wP I (Aa (zN (zE (zB (wP I (wP I (wV 32 ((k+1:Nat):Int) I (Ay (by omega)) (wP I (Aa (A6 (k+1,u.set (i+k) (n%br),n/br) ⟨hk',by rw[List.length_set];exact hul,CM hub (Nat.mod_lt _ (by decide)),hnb2.1,hstep⟩ (by show nb+1-(k+1)<nb+1-k;omega) ⟨I,I,I,I,I,I,tO⟩ [] I)))))))))))
  ·have hc: ¬(k<nb∨0<c):=of_decide_eq_false hc
   have hc0:c=0:=by omega
   have h1:lv br u=lv br out+br^i*(x*b):=by
    rw[hc0,Nat.mul_zero,Nat.add_zero] at huv
    have h3:br^nb≤br^k:=Nat.pow_le_pow_right (by decide) (by omega)
    rw[Nat.mod_eq_of_lt (show b<br^k by omega)] at huv
    exact huv
   have h2:=L8 (a:=a) (b:=b) (i:=i) hov
   rw[←hxe, ←h1] at h2
   exact zJ (zK (zK (zL (zN (zE (zB (wP I (wP I (wV 22 ((i+1:Nat):Int) I (Ay (by omega)) (wP I (Aa (A6 (i+1,u) ⟨hi',hul,hub,h2⟩ (by show na-(i+1)<na-i;omega) ⟨I,I,I,I,tO⟩ [] I))))))))))))
 ·have hi':i=na:=by omega
  subst hi'
  rw[Nat.mod_eq_of_lt hal] at hov
  refine wU 20 false I (dF (by omega)) (Aa (zE (zS I (zJ (zK (zK (zL (zE (zA (zB ?_))))))))))
  have hV0:(⟨some g,M,[]⟩:Vec).OK 1 out.length (nI out):=⟨E8 _,(fun h=>by cases h),fun _=>⟨by show _≤M;omega,by show M≤maxLen;simp only[maxLen];omega,by show(nI out).length+0=M*1;rw[BB];omega⟩⟩
  obtain⟨j',hV2,he⟩:=DK hV0 hob
  refine wP I ?_
  refine Af 59 (slv (some ⟨g,0,none⟩) out.length M) I (by rw[hlen]) ?_
  refine wC I I (fun W hp=>CF W _ M _ (Ax.of_bx hp 0 I) hob (by omega) (by omega)) (wP I (Aa (zE (zO ?_))))
  rw[hov] at hV2 he
  exact Au tH I (.tmp I) ((g,M,j'):NV) (by rw[hov]) hV2 fun W hp=>As.of_hp1 hp 0 (by show some (⟨g,3,nI out++[],true,none⟩:Bx)=some ⟨g,3,nI (lbs br (a*b))++j',true,none⟩;rw[he])
theorem Jy (W:World) (p q:Option Addr) (cap cap2:Nat) (a b:Nat) (hA:Ax W p (lbs br a)) (hB:Ax W q (lbs br b)) (hna:(lbs br a).length≤1000000) (hnb:(lbs br b).length≤1000000):
  Ai Tryz.prog 197 #[slv p (lbs br a).length cap,slv q (lbs br b).length cap2] W (fun x:NV=>B2 x (lbs br (a*b)).length) (fun x=>Cn x (lbs br (a*b))) (fun x=>[BH x (lbs br (a*b))]):=by
 have h:=Ip W p q cap cap2 a (lbs br b) (Bm br2 b) hA hB hna hnb
 rwa [JW br2] at h
-- BOXES 2
-- CODE2
def G0 (z:Int):List UInt8:=if z<0 then[45] else[]
theorem BU (z:Int):itoa z=G0 z++decDigits z.natAbs:=by
 unfold itoa G0
 split
 ·rfl
 ·rw[show z.toNat=z.natAbs by omega];rfl
theorem KU (z:Int):(G0 z).length≤1:=by unfold G0;split<;>decide
theorem EL (z:Int): ∃c,(itoa z)[0]? =some c∧decide (c=45)=decide (z<0):=by
 have h:=K1 z
 rw[Bt] at h
 cases e:itoa z with
 |nil=>
  rw[BU] at e
  exact absurd (List.append_eq_nil_iff.1 e).2 (F9 _)
 |cons c t=>
  rw[e] at h
  exact⟨c,I,by rw[←h];exact decide_eq_decide.2 (by simp)⟩
theorem RM {n:Nat} (h:(decDigits n)[0]? =some 48):n=0:=by
 rcases Nat.eq_zero_or_pos n with h0|h0
 ·exact h0
 ·obtain⟨b,r,h1,h2⟩:=KY n (by omega)
  rw[h1] at h
  have h:b=48:=by simpa using h
  rw[h] at h2;exact absurd rfl h2
theorem Ff (z:Int) (hl:(decDigits z.natAbs).length≤300):Bv Tryz.prog 191 [str (itoa z)] (.int .i64 0):=by
 intro W
 obtain⟨s,hs⟩: ∃s,s=itoa z:=⟨_,rfl⟩
 obtain⟨dd,hdd⟩: ∃dd,dd=decDigits z.natAbs:=⟨_,rfl⟩
 obtain⟨f,hf⟩: ∃f,f=(G0 z).length:=⟨_,rfl⟩
 have hss:s=G0 z++dd:=by rw[hs,hdd];exact BU z
 have hf1:f≤1:=hf▸KU z
 have hsl:s.length=f+dd.length:=by rw[hss,List.length_append,hf]
 have hd0:0<dd.length:=by rw[hdd];exact List.length_pos_iff.2 (F9 _)
 have hget: ∀i,f≤i→s[i]? =dd[i-f]? :=fun i hi=>by rw[hss,List.getElem?_append_right (by omega),hf]
 obtain⟨c0,hc0,hc45⟩:=EL z
 rw[←hs] at hc0⊢
 rw[←hdd] at hl
 have hdg: ∀b∈dd,DE b=true:=by rw[hdd];exact(ES _).all
 refine Ab Tryz.func191 I I I ?_
 refine zA (zB (wP I (Aa (zE (zA (zB (wP I (Aa (zE (zA (zA (zB (wP I (wP I ?_))))))))))))))
 refine Af 6 (.int .i64 (s.length:Nat)) I (congrArg (fun n:Nat=>Value.int .i64 (n:Int)) (A4 s)) ?_
 refine wP I (wU 7 true I (dT (by omega)) (wP I (wP I ?_)))
 refine Bb 0 tH I I I I I I I I hc0 ?_
 refine wP I (wU 11 (decide (z<0)) I ((Dr c0 45).trans hc45) (wP I (Aa (AI ?_))))
 try refine A0 ?_
 refine AG (X:=Unit) (fun _=>[(0,str s),(3, .int .i64 (f:Nat))]) (fun _=>[]) (fun _=>True) ?_ ?_
 ·refine Av I (fun h=> ?_) (fun h=> ?_)
  ·have h:z<0:=of_decide_eq_true h
   exact zB (wP I (Aa (An () tO ⟨I,by rw[hf];unfold G0;rw[if_pos h];rfl,tO⟩ [] I)))
  ·have h: ¬z<0:=of_decide_eq_false h
   exact zI (An () tO ⟨I,by rw[hf];unfold G0;rw[if_neg h];rfl,tO⟩ [] I)
 intro _ _
 refine A0 (A0 ?_)
 refine AG (X:=Unit) (fun _=>[(0,str s),(3, .int .i64 (f:Nat)),(27, .bool false)]) (fun _=>[]) (fun _=>True) ?_ ?_
 ·refine zB (wP I (wP I (wP I ?_)))
  refine Af 15 (.int .i64 (s.length:Nat)) I (congrArg (fun n:Nat=>Value.int .i64 (n:Int)) (A4 s)) ?_
  refine wP I (wU 16 false I (by rw[beq_eq_false_iff_ne];omega) ?_)
  obtain⟨b,hb⟩: ∃b,dd[0]? =some b:=⟨dd[0],List.getElem?_eq_getElem hd0⟩
  have hsb:s[f]? =some b:=by rw[hget f (Nat.le_refl _),Nat.sub_self];exact hb
  refine wP I (wP I (wP I ?_))
  refine Bb f tH I I I I I I I I hsb ?_
  refine wP I ?_
  by_cases h48:b=48
  ·rw[h48,hdd] at hb
   have h0:=RM hb
   have hz:z=0:=by omega
   have hs1:s.length=1:=by rw[hs,hz,Cf];rfl
   refine wU 21 true I ((Dr b 48).trans (dT h48)) (wP I (wP I (wP I ?_)))
   refine Af 24 (.int .i64 (s.length:Nat)) I (congrArg (fun n:Nat=>Value.int .i64 (n:Int)) (A4 s)) ?_
   exact wP I (wU 25 false I (dF (by omega)) (wP I (wP I (Aa (An () tO ⟨I,I,I,tO⟩ [] I)))))
  ·refine wU 21 false I ((Dr b 48).trans (dF h48)) (wP I ?_)
   iterate 3 refine Al I I ?_
   exact wP I (wP I (Aa (An () tO ⟨I,I,I,tO⟩ [] I)))
 intro _ _
 refine zS I (zI (zE (zA (zA (zB (wP I (wP I (Aa (zE (zH ?_))))))))))
 refine AA (X:=Nat) (fun i=>[(0,str s),(3, .int .i64 (f:Nat)),(4, .int .i64 (i:Nat))]) (fun _=>[]) (fun i=>i≤s.length∧f≤i) (fun i=>s.length-i) f ⟨by omega,Nat.le_refl _⟩ ⟨I,I,I,tO⟩ [] I ?_
 rintro i ⟨hi,hfi⟩
 have hi:i≤s.length:=hi
 have hfi:f≤i:=hfi
 refine zA (zA (zB (wP I (wP I (wP I ?_)))))
 refine Af 31 (.int .i64 (s.length:Nat)) I (congrArg (fun n:Nat=>Value.int .i64 (n:Int)) (A4 s)) ?_
 refine wP I ?_
 by_cases hlt:i<s.length
 ·refine wU 32 true I (dT (by omega)) (Aa (zE (zR I (zI (zE (zA (zH (zA (zB ?_)))))))))
  obtain⟨b,hb⟩: ∃b,dd[i-f]? =some b:=⟨dd[i-f]'(by omega),List.getElem?_eq_getElem (by omega)⟩
  have hsb:s[i]? =some b:=by rw[hget i hfi];exact hb
  have hbd:=C3.1 (hdg b (List.mem_of_getElem? hb))
  refine wP I (wP I ?_)
  refine Bb i tH I I I I I I I I hsb ?_
  refine wP I (wU 38 false I ((SL b).trans (dF (by omega))) (wP I (wP I (wP I ?_))))
  refine Bb i tH I I I I I I I I hsb ?_
  refine wP I (wU 43 false I ((SD b).trans (dF (by omega))) (wP I (Aa (zE (zS I (zI (zN (zE (zB (wP I (wP I (wV 34 ((i+1:Nat):Int) I (Ay (by omega)) (wP I ?_)))))))))))))
  exact Aa (A6 (i+1) ⟨hlt,by show f≤i+1;omega⟩ (by show s.length-(i+1)<s.length-i;omega) ⟨I,I,I,tO⟩ [] I)
 ·refine wU 32 false I (dF (by omega)) (Aa (zE (zS I (zJ (zK (zK (zL (zE (zA (zA (zB (wP I (wP I ?_)))))))))))))
  refine Af 46 (.int .i64 (s.length:Nat)) I (congrArg (fun n:Nat=>Value.int .i64 (n:Int)) (A4 s)) ?_
  refine wP I (wP I (wV 48 (dd.length:Nat) I (by show w64 ((s.length:Int)-f)=_;rw[Ap (by omega) (by omega)];omega) (wP I (wU 49 false I (dF (by omega)) (Aa (zE (zS I (zI (zE (zA (zB (wP I (Aa ?_)))))))))))))
  exact zE (zO (wR1 I I I))
theorem Df (a b:Int) (ha:(decDigits a.natAbs).length≤300) (hb:(decDigits b.natAbs).length≤300):Bv Tryz.prog 141 [str (itoa a),str (itoa b)] (.int .i64 0):=by
 intro W
 refine Ab Tryz.func141 I I I ?_
 refine zA (zB (wP I (Aa (zE (zA (zA (zB (wP I (wC I I (fun W _=>Ff a ha W) (wP I (Aa (zE (zA ?_)))))))))))))
 refine zB (wP I (wP I (Aa (zE (zS I (zI (zE (zA (zB (wP I (wC I I (fun W _=>Ff b hb W) (wP I (Aa ?_)))))))))))))
 exact zE (zO (wR1 I I I))
def smI (z:Int):Bool:=decide ((itoa z).length≤17)
theorem Hs {z:Int} (h:smI z=true):z.natAbs<100000000000000000:=by
 have h:(itoa z).length≤17:=of_decide_eq_true h
 rw[BU,List.length_append] at h
 exact Nat.lt_of_lt_of_le (Dt _) (show _≤10^17 from Nat.pow_le_pow_right (by decide) (by omega))
theorem Jk (z:Int) (hl:(itoa z).length<4611686018427387904):Bv Tryz.prog 192 [str (itoa z)] (.tuple #[.int .i64 (if smI z=true then z else 0), .bool (smI z)]):=by
 intro W
 obtain⟨s,hs⟩: ∃s,s=itoa z:=⟨_,rfl⟩
 obtain⟨dd,hdd⟩: ∃dd,dd=decDigits z.natAbs:=⟨_,rfl⟩
 obtain⟨f,hf⟩: ∃f,f=(G0 z).length:=⟨_,rfl⟩
 have hss:s=G0 z++dd:=by rw[hs,hdd];exact BU z
 have hf1:f≤1:=hf▸KU z
 have hsl:s.length=f+dd.length:=by rw[hss,List.length_append,hf]
 have hd0:0<dd.length:=by rw[hdd];exact List.length_pos_iff.2 (F9 _)
 have hget: ∀i,f≤i→s[i]? =dd[i-f]? :=fun i hi=>by rw[hss,List.getElem?_append_right (by omega),hf]
 have hneg: ∀i,i<f→s[i]? =some 45:=fun i hi=>by
  have h0:i=0:=by omega
  subst h0
  rw[hss]
  unfold G0 at hf⊢
  split
  ·rfl
  ·rename_i h;rw[if_neg h] at hf;simp at hf;omega
 obtain⟨c0,hc0,hc45⟩:=EL z
 have hsm:smI z=decide (s.length≤17):=by rw[hs];rfl
 rw[←hs] at hc0 hl⊢
 have hdg: ∀b∈dd,DE b=true:=by rw[hdd];exact(ES _).all
 refine Ab Tryz.func192 I I I ?_
 refine zA (zB (wP I (wP I (Aa (zE (zA (zA (zB (wP I (wP I ?_))))))))))
 refine Af 7 (.int .i64 (s.length:Nat)) I (congrArg (fun n:Nat=>Value.int .i64 (n:Int)) (A4 s)) ?_
 refine wP I ?_
 by_cases h17:s.length≤17
 rotate_left
 ·exact wU 8 true I (dT (by show((s.length:Nat):Int)>17;omega)) (Aa (zE (zR I (zA (zB (wP I (wP I (Aa (zE (zO (zP (wR2 I I (by rw[hsm,dF h17];rfl)))))))))))))
 have hlt: ∀i,AQ (dd.take i)<100000000000000000:=fun i=>by
  have h1:=FL (dd.take i).length (s:=dd.take i) rfl fun b hb=>hdg b (List.mem_of_mem_take hb)
  have h2:(dd.take i).length≤17:=by rw[List.length_take];omega
  exact Nat.lt_of_lt_of_le h1 (show _≤10^17 from Nat.pow_le_pow_right (by decide) h2)
 refine wU 8 false I (dF (by show¬((s.length:Nat):Int)>17;omega)) (Aa (zE (zS I (zI (zE (zA (zB (wP I (Aa (zE (zA (zA (zB ?_)))))))))))))
 refine wP I (Aa (zE (zH ?_)))
 refine AA (X:=Nat) (fun i=>[(0,str s),(4, .int .i64 (AQ (dd.take (i-f)):Nat)),(5, .int .i64 (i:Nat))]) (fun _=>[]) (fun i=>i≤s.length) (fun i=>s.length-i) 0 (Nat.zero_le _) ⟨I,by show some _=some (Value.int .i64 (AQ (dd.take (0-f)):Nat));rw[Nat.zero_sub,List.take_zero];rfl,I,tO⟩ [] I ?_
 intro i hi
 have hi:i≤s.length:=hi
 refine zA (zA (zB (wP I (wP I (wP I ?_)))))
 refine Af 11 (.int .i64 (s.length:Nat)) I (congrArg (fun n:Nat=>Value.int .i64 (n:Int)) (A4 s)) ?_
 refine wP I ?_
 by_cases hlt':i<s.length
 ·refine wU 12 true I (dT (by omega)) (Aa (zE (zR I (zI (zE ?_)))))
  try refine A0 ?_
  refine AG (X:=Unit) (fun _=>[(0,str s),(4, .int .i64 (AQ (dd.take (i+1-f)):Nat)),(5, .int .i64 (i:Nat))]) (fun _=>[]) (fun _=>True) ?_ ?_
  ·refine zH (zA (zB (wP I (wP I ?_))))
   by_cases hif:i<f
   ·refine Bb i tH I I I I I I I I (hneg i hif) ?_
    exact wP I (Aa (zE (zS I (zI (zN (An () tO ⟨I,by rw[show i+1-f=0 by omega,show i-f=0 by omega];rfl,I,tO⟩ [] I))))))
   obtain⟨b,hb⟩: ∃b,dd[i-f]? =some b:=⟨dd[i-f]'(by omega),List.getElem?_eq_getElem (by omega)⟩
   have hsb:s[i]? =some b:=by rw[hget i (by omega)];exact hb
   have hbd:=C3.1 (hdg b (List.mem_of_getElem? hb))
   have e1:AQ (dd.take (i+1-f))=10*AQ (dd.take (i-f))+(b.toNat-48):=by
    rw[show i+1-f=i-f+1 by omega,List.take_add_one,hb];exact Dm _ _
   have l1:=hlt (i-f)
   have l2:=hlt (i+1-f)
   refine Bb i tH I I I I I I I I hsb ?_
   refine wP I ?_
   refine Af 18 (.bool true) I (congrArg Value.bool (by
    show(!((((b.toNat:Nat):Int))==(45:Int)))=true
    rw[Bool.not_eq_true',beq_eq_false_iff_ne];omega)) ?_
   refine Aa (zE (zR I (zB (wP I (wP I (wV 20 ((10*AQ (dd.take (i-f)):Nat):Int) I (show w64 (10*(AQ (dd.take (i-f)):Nat))=_ by rw[Ap (by omega) (by omega)];omega) (wP I (wP I ?_))))))))
   refine Bb i tH I I I I I I I I hsb ?_
   refine wP I ?_
   refine Af 24 (.int .u8 ((b.toNat-48:Nat):Int)) I (congrArg (Value.int .u8) (by show IntKind.u8.wrap (((b.toNat:Nat):Int)-48)=_;rw[show((b.toNat:Nat):Int)-48=((b.toNat-48:Nat):Int) by omega,Ph (by omega) (by omega)])) ?_
   refine I5 Tryz.underlying5 Tryz.underlying3 I I I I ?_
   exact wV 25 ((b.toNat-48:Nat):Int) I (BG (by omega)) (wP I (wV 26 ((AQ (dd.take (i+1-f)):Nat):Int) I (show w64 (((10*AQ (dd.take (i-f)):Nat):Int)+((b.toNat-48:Nat):Int))=_ by rw[Ap (by omega) (by omega),e1];omega) (wP I (Aa (zN (An () tO ⟨I,I,I,tO⟩ [] I))))))
  intro _ _
  exact zB (wP I (wP I (wV 14 ((i+1:Nat):Int) I (Ay (by omega)) (wP I (Aa (A6 (i+1) hlt' (by show s.length-(i+1)<s.length-i;omega) ⟨I,I,I,tO⟩ [] I))))))
 ·refine wU 12 false I (dF (by omega)) (Aa (zE (zS I (zJ (zK (zK (zL (zE (zA (zA (zB ?_)))))))))))
  have hv:AQ (dd.take (i-f))=z.natAbs:=by rw[List.take_of_length_le (by omega),hdd,BR]
  have hzl:z.natAbs<100000000000000000:=by rw[←hv];exact hlt _
  refine wP I ?_
  refine Bb 0 tH I I I I I I I I hc0 ?_
  refine wP I (wU 29 (decide (z<0)) I ((Dr c0 45).trans hc45) (Aa (AI ?_)))
  try refine A0 ?_
  refine AG (X:=Unit) (fun _=>[(4, .int .i64 z)]) (fun _=>[]) (fun _=>True) ?_ ?_
  ·refine Av I (fun h=> ?_) (fun h=> ?_)
   ·have h:z<0:=of_decide_eq_true h
    exact zB (wP I (wP I (wV 31 z I (by rw[hv];show w64 (0-((z.natAbs:Nat):Int))=_;rw[Ap (by omega) (by omega)];omega) (wP I (Aa (An () tO ⟨I,tO⟩ [] I))))))
   ·have h: ¬z<0:=of_decide_eq_false h
    exact zI (An () tO ⟨congrArg (fun z=>some (Value.int .i64 z)) (by rw[hv];omega),tO⟩ [] I)
  intro _ _
  exact zA (zB (wP I (wP I (wP I (Aa (zE (zO (wR2 I I (by rw[hsm,dT h17,if_pos I])))))))))
theorem M7 (a b:Int) (ha:(itoa a).length<4611686018427387904) (hb:(itoa b).length<4611686018427387904):Bv Tryz.prog 142 [str (itoa a),str (itoa b)] (.tuple #[.int .i64 (if smI a=true then a else 0), .int .i64 (if smI a=true then(if smI b=true then b else 0) else 0), .bool (smI a&&smI b)]):=by
 intro W
 refine Ab Tryz.func142 I I I ?_
 refine zA (zB (wP I (wP I (wP I (Aa (zE (zA (zB (wP I (wC I I (fun W _=>Jk a ha W) ?_))))))))))
 iterate 5 refine wP I ?_
 refine Aa ?_
 cases hsa:smI a with
 |false=>
  refine zE (zA (zA (zB (wP I (wP I (Aa (zE (zR I (zA (zB (wP I (wP I (wP I ?_)))))))))))))
  exact Aa (zE (zO (zP (wR3 I I I))))
 |true=>
  refine zE (zA (zA (zB (wP I (wP I (Aa (zE (zS I (zI (zE (zA (zB (wP I ?_)))))))))))))
  refine wC I I (fun W _=>Jk b hb W) ?_
  iterate 5 refine wP I ?_
  refine Aa (zE (zA (zB ?_)))
  iterate 6 refine wP I ?_
  exact Aa (zE (zO (wR3 I I I)))
-- BOXES 4
-- CODE2
theorem NJ (a:List UInt8): ∀(n:Nat) (b:List UInt8),b.length=n→AQ (a++b)=AQ a*10^n+AQ b
 |0,b,h=>by
  rw[List.length_eq_zero_iff.1 h,List.append_nil,Nat.pow_zero,Nat.mul_one];rfl
 |n+1,b,h=>by
  obtain⟨c,d,rfl⟩: ∃c d,b=c++[d]:=⟨b.dropLast,b.getLast (fun e=>by rw[e] at h;cases h),(List.dropLast_concat_getLast _).symm⟩
  have hc:c.length=n:=by rw[List.length_append] at h;exact Nat.succ.inj h
  rw[←List.append_assoc,Dm,NJ a n c hc,Dm,Nat.pow_succ]
  grind
theorem Q1 (a b:List UInt8):AQ (a++b)=AQ a*10^b.length+AQ b:=NJ a b.length b rfl
theorem Uu {m lo e:Nat} (_h1:lo≤e) (h2:e≤(decDigits m).length):AQ (((decDigits m).take e).drop lo)=m/10^((decDigits m).length-e)%10^(e-lo):=by
 obtain⟨dd,hdd⟩: ∃dd,dd=decDigits m:=⟨_,rfl⟩
 have hdg: ∀b∈dd,DE b=true:=by rw[hdd];exact(ES m).all
 have hv:AQ dd=m:=by rw[hdd];exact BR m
 rw[←hdd] at h2⊢
 have a1:=Q1 (dd.take e) (dd.drop e)
 rw[List.take_append_drop,hv,List.length_drop] at a1
 have b1:=FL (dd.drop e).length (s:=dd.drop e) rfl fun b hb=>hdg b (List.mem_of_mem_drop hb)
 rw[List.length_drop] at b1
 have c1:m/10^(dd.length-e)=AQ (dd.take e):=by
  rw[a1,Nat.mul_comm,Nat.mul_add_div (Nat.pow_pos (by decide)),Nat.div_eq_of_lt b1,Nat.add_zero]
 rw[c1]
 have a2:=Q1 ((dd.take e).take lo) ((dd.take e).drop lo)
 have b2:=FL ((dd.take e).drop lo).length (s:=(dd.take e).drop lo) rfl fun b hb=>hdg b (List.mem_of_mem_take (List.mem_of_mem_drop hb))
 rw[List.take_append_drop] at a2
 have hl:((dd.take e).drop lo).length=e-lo:=by rw[List.length_drop,List.length_take,Nat.min_eq_left h2]
 rw[hl] at a2 b2
 rw[a2,Nat.mul_comm,Nat.mul_add_mod,Nat.mod_eq_of_lt b2]
def rdL (m:Nat) (j:Nat):List Nat:=(List.range j).map fun i=>m/br^i%br
theorem Pn (m j:Nat):rdL m (j+1)=rdL m j++[m/br^j%br]:=by unfold rdL;rw[List.range_succ,List.map_append];rfl
theorem Lc (m j:Nat):(rdL m j).length=j:=by unfold rdL;rw[List.length_map,List.length_range]
theorem TX (m j:Nat): ∀x∈rdL m j,x<br:=fun x hx=>by
 obtain⟨i,_,rfl⟩:=List.mem_map.1 hx
 exact Nat.mod_lt _ (by decide)
theorem SM (m:Nat): ∀j,lv br (rdL m j)=m%br^j
 |0=>by show 0=_;rw[Nat.pow_zero,Nat.mod_one]
 |j+1=>by rw[Pn,OA (Lc m j),SM m j, ←Ec]
theorem Kn (j:Nat):br^j=10^(6*j):=by rw[Nat.pow_mul]
theorem Us {m k:Nat} (h:m<10^(6*k)):(lbs br m).length≤k:=(BP br2).2 (by rw[Kn];exact h)
theorem X6 {m e k:Nat} (h:(decDigits m).length≤e) (he:e=6*k):(lbs br m).length≤k:=by
 subst he
 exact Us (Nat.lt_of_lt_of_le (Dt m) (Nat.pow_le_pow_right (by decide) h))
theorem Cm {m:Nat} (h:(decDigits m).length≤606):(lbs br m).length≤101:=X6 h rfl
abbrev VH (z:Int) (x:NV):Value:= .agg #[.bool (decide (z<0)),B2 x (lbs br z.natAbs).length]
theorem VT (y:Int):(if y>0 then y else 0)=max 0 y:=by omega
theorem Be (z:Int) (hl:(decDigits z.natAbs).length≤1000) (W:World):
  Ai Tryz.prog 143 #[str (itoa z)] W (fun x:NV=>VH z x) (fun x=>Cn x (lbs br z.natAbs)) (fun x=>[BH x (lbs br z.natAbs)]):=by
 obtain⟨m,hm⟩: ∃m,m=z.natAbs:=⟨_,rfl⟩
 obtain⟨c0,hc0,hc45⟩:=EL z
 have hzl:=BU z
 refine Ab (args:=[str (itoa z)]) Tryz.func143 I I I ?_
 refine zA (zB ?_)
 (refine Ah Tryz.hZ rfl rfl rfl rfl ?_;intro)
 refine Aa ?_
 rename_i b2
 refine zE (zA (zB ?_))
 refine Az Tryz.hZ tH I I I I I I I I ?_
 (refine Ah Tryz.hZ rfl rfl rfl rfl ?_;intro)
 refine wS 1 I I I (Aa ?_)
 rename_i b3
 refine zE (zA (zA (zB (wP I ?_))))
 refine Bb 0 tH I I I I I I I I hc0 ?_
 refine wP I (wU 10 (decide (z<0)) I ((Dr c0 45).trans hc45) (Aa (AI ?_)))
 try refine A0 ?_
 refine AG (X:=Unit) (fun _=>[(0,str (decDigits m)),(2,Aj b2),(3,Aj b3)]) (fun _=>[⟨b2,153,[.bool false, .slice none 0 0],true,none⟩,⟨b3,153,[.bool (decide (z<0)), .slice none 0 0],true,none⟩]) (fun _=>True) ?_ ?_
 ·refine Av I (fun h=> ?_) (fun h=> ?_)
  ·have h:z<0:=of_decide_eq_true h
   have e:itoa z=45::decDigits m:=by rw[hzl,hm];unfold G0;rw[if_pos h];rfl
   refine zA (zB (wP I (wS 1 I I I (Aa (zE (zB (wP I ?_)))))))
   refine Fa 1 tH I I I I I I I I (by rw[e,List.length_cons];omega) ?_
   exact wP I (Aa (An () tO ⟨by rw[e];rfl,I,I,tO⟩ [] (by rw[dT h];rfl)))
  ·have h: ¬z<0:=of_decide_eq_false h
   have e:itoa z=decDigits m:=by rw[hzl,hm];unfold G0;rw[if_neg h];rfl
   exact zI (An () tO ⟨by rw[e];rfl,I,I,tO⟩ [] (by rw[dF h];rfl))
 intro _ _
 rw[←hm] at hl⊢
 obtain⟨dd,hdd⟩: ∃dd,dd=decDigits m:=⟨_,rfl⟩
 have hdg: ∀b∈dd,DE b=true:=by rw[hdd];exact(ES m).all
 have hd0:0<dd.length:=by rw[hdd];exact List.length_pos_iff.2 (F9 _)
 have hmid: ∀lo e,lo≤e→e≤dd.length→AQ ((dd.take e).drop lo)=m/10^(dd.length-e)%10^(e-lo):=fun lo e h1 h2=>by
  rw[hdd] at h2⊢;exact Uu h1 h2
 have hmlt:m<10^dd.length:=by rw[hdd];exact Dt m
 rw[←hdd] at hl⊢
 refine zA (zA (zB (wP I (wP I ?_))))
 refine Af 15 (.int .i64 (dd.length:Nat)) I (congrArg (fun n:Nat=>Value.int .i64 (n:Int)) (A4 dd)) ?_
 refine wP I (Aa (zE (zH ?_)))
 refine F6 ?_
 refine AA (X:=Nat×Vec) (fun x=>[(0,str dd),(2,Aj b2),(3,Aj b3),(4, .int .i64 ((dd.length:Int)-6*(x.1:Nat)))])
  (fun x=>[⟨b2,153,[.bool false, .slice none 0 0],true,none⟩,⟨b3,153,[.bool (decide (z<0)),x.2.val x.1],true,none⟩,x.2.bx 3 (nI (rdL m x.1))])
  (fun x=>x.2.OK 1 x.1 (nI (rdL m x.1))∧6*x.1<dd.length+6) (fun x=>dd.length+6-6*x.1) (0,Vec.empty) ⟨Vec.OK.empty 1,by show 6*0<_;omega⟩ ⟨rfl,rfl,rfl,congrArg (fun z=>some (Value.int .i64 z)) (by show((dd.length:Nat):Int)=(dd.length:Int)-6*((0:Nat):Int);omega),trivial⟩ [] rfl ?_
 rintro⟨j,V⟩ ⟨hV,hj⟩
 have hV:V.OK 1 j (nI (rdL m j)):=hV
 have hj:6*j<dd.length+6:=hj
 refine zA (zA (zB (wP I (wP I ?_))))
 by_cases hlt:6*j<dd.length
 ·refine wU 17 true I (dT (by show(dd.length:Int)-6*(j:Nat)>0;omega)) (Aa (zE (zR I (zI (zE (zA (zH (zA (zB ?_)))))))))
  obtain⟨e,he⟩: ∃e,e=dd.length-6*j:=⟨_,rfl⟩
  have hev:(dd.length:Int)-6*(j:Nat)=(e:Nat):=by omega
  obtain⟨lo,hlo⟩: ∃lo,lo=e-6:=⟨_,rfl⟩
  have hlim:AQ ((dd.take e).drop lo)=m/br^j%br:=by
   rw[hmid lo e (by omega) (by omega),Kn,show dd.length-e=6*j by omega]
   by_cases h6:6≤e
   ·rw[show e-lo=6 by omega]
   ·have hl0:lo=0:=by omega
    have h1:m/10^(6*j)<10^e:=by
     apply Nat.div_lt_of_lt_mul
     rw[←Nat.pow_add,show 6*j+e=dd.length by omega];exact hmlt
    have h2:(10:Nat)^e≤10^6:=Nat.pow_le_pow_right (by decide) (by omega)
    rw[hl0,Nat.sub_zero,Nat.mod_eq_of_lt h1,Nat.mod_eq_of_lt (show m/10^(6*j)<br by show _<10^6;omega)]
  refine wP I (Aa (zE (zA (zA (zB (wP I (wP I (wV 21 ((e:Int)-6) I (by show w64 ((dd.length:Int)-6*(j:Nat)-6)=_;rw[hev,Ap (by omega) (by omega)]) (wP I (wV 22 (lo:Nat) I (by show(if (e:Int)-6>0 then(e:Int)-6 else 0)=_;rw[VT];omega) (wP I (Aa (zE ?_)))))))))))))
  refine zH ?_
  refine AA (X:=Nat) (fun i=>[(0,str dd),(2,Aj b2),(3,Aj b3),(4, .int .i64 (e:Nat)),(5, .int .i64 (AQ ((dd.take i).drop lo):Nat)),(6, .int .i64 (i:Nat))])
   (fun _=>[⟨b2,153,[.bool false, .slice none 0 0],true,none⟩,⟨b3,153,[.bool (decide (z<0)),V.val j],true,none⟩,V.bx 3 (nI (rdL m j))])
   (fun i=>lo≤i∧i≤e) (fun i=>e-i) lo ⟨Nat.le_refl _,by omega⟩ ⟨rfl,rfl,rfl,(by rw[hev];rfl),by show some _=some (Value.int .i64 (AQ ((dd.take lo).drop lo):Nat));rw[List.drop_of_length_le (by rw[List.length_take];omega)];rfl,rfl,trivial⟩ [] rfl ?_
  rintro i ⟨hi1,hi2⟩
  have hi1:lo≤i:=hi1
  have hi2:i≤e:=hi2
  refine zA (zA (zB (wP I (wP I (wP I ?_)))))
  by_cases hie:i<e
  ·refine wU 25 true I (dT (by omega)) (Aa (zE (zR I (zI (zE (zA (zH (zB ?_))))))))
   obtain⟨b,hb⟩: ∃b,dd[i]? =some b:=⟨dd[i]'(by omega),List.getElem?_eq_getElem (by omega)⟩
   have hbd:=C3.1 (hdg b (List.mem_of_getElem? hb))
   have e1:AQ ((dd.take (i+1)).drop lo)=10*AQ ((dd.take i).drop lo)+(b.toNat-48):=by
    rw[List.take_add_one,hb,List.drop_append_of_le_length (by rw[List.length_take];omega)]
    exact Dm _ _
   have hbnd: ∀k,k≤e→AQ ((dd.take k).drop lo)<1000000:=fun k hk=>by
    have h1:=FL ((dd.take k).drop lo).length (s:=(dd.take k).drop lo) rfl fun b hb=>hdg b (List.mem_of_mem_take (List.mem_of_mem_drop hb))
    have h2:((dd.take k).drop lo).length≤6:=by rw[List.length_drop,List.length_take];omega
    exact Nat.lt_of_lt_of_le h1 (show _≤10^6 from Nat.pow_le_pow_right (by decide) h2)
   have l1:=hbnd i hi2
   have l2:=hbnd (i+1) hie
   refine wP I (wP I (wV 29 ((10*AQ ((dd.take i).drop lo):Nat):Int) I (show w64 (10*(AQ ((dd.take i).drop lo):Nat))=_ by rw[Ap (by omega) (by omega)];omega) (wP I (wP I ?_))))
   refine Bb i tH I I I I I I I I hb ?_
   refine wP I ?_
   refine Af 33 (.int .u8 ((b.toNat-48:Nat):Int)) I (congrArg (Value.int .u8) (by show IntKind.u8.wrap (((b.toNat:Nat):Int)-48)=_;rw[show((b.toNat:Nat):Int)-48=((b.toNat-48:Nat):Int) by omega,Ph (by omega) (by omega)])) ?_
   refine I5 Tryz.underlying5 Tryz.underlying3 I I I I ?_
   exact wV 34 ((b.toNat-48:Nat):Int) I (BG (by omega)) (wP I (wV 35 ((AQ ((dd.take (i+1)).drop lo):Nat):Int) I (show w64 (((10*AQ ((dd.take i).drop lo):Nat):Int)+((b.toNat-48:Nat):Int))=_ by rw[Ap (by omega) (by omega),e1];omega) (wP I (Aa (zN (zE (zB (wP I (wP I (wV 27 ((i+1:Nat):Int) I (Ay (by omega)) (wP I (Aa (A6 (i+1) ⟨by show lo≤i+1;omega,hie⟩ (by show e-(i+1)<e-i;omega) ⟨I,I,I,I,I,I,tO⟩ [] I)))))))))))))
  ·have hie:i=e:=by omega
   subst hie
   refine wU 25 false I (dF (by omega)) (Aa (zE (zS I (zJ (zK (zK (zL (zE (zB ?_)))))))))
   rw[hlim]
   refine wP I (wB 1 I I I (wP I ?_))
   refine AF Tryz.hZ tH I I I I I I I I I I I fun bN=> ?_
   refine Bs (V:=V) (len:=j) (xs:=nI (rdL m j)) 2 3 Tryz.vec130 (j+1) (nI (rdL m (j+1))) I I I I I I I I I I I hV I I I (by rw[Pn,IH];rfl) (by simp only[maxLen];omega) (by omega) I ?_
   intro g1 c1 j1 hV1
   exact wP I (wS 1 I I I (Aa (zN (zE (zB (wP I (wP I (wV 19 ((dd.length:Int)-6*((j+1:Nat):Int)) I (by show w64 (((i:Nat):Int)-6)=_;rw[Ap (by omega) (by omega)];omega) (wP I (Aa (A6 (j+1,⟨some g1,c1,j1⟩) ⟨hV1,by show 6*(j+1)<_;omega⟩ (by show dd.length+6-6*(j+1)<dd.length+6-6*j;omega) ⟨I,I,I,I,tO⟩ _ I)))))))))))
 ·refine wU 17 false I (dF (by show¬(dd.length:Int)-6*(j:Nat)>0;omega)) (Aa (zE (zS I (zJ (zK (zK (zL (zE (zA (zB ?_))))))))))
  obtain⟨pV,cV,jV⟩:=V
  cases pV with
  |none=>have:=hV.nil rfl;omega
  |some g=>
  have hval:lv br (rdL m j)=m:=by
   rw[SM,Kn]
   exact Nat.mod_eq_of_lt (Nat.lt_of_lt_of_le hmlt (Nat.pow_le_pow_right (by decide) (by omega)))
  have hV2:(⟨some g,cV,jV⟩:Vec).OK 1 (rdL m j).length (nI (rdL m j)):=by rw[Lc];exact hV
  obtain⟨j2,hj1,hj2⟩:=DK hV2 (TX m j)
  rw[hval] at hj1 hj2
  refine wP I (wB 1 I I I ?_)
  refine Af 43 (slv (some ⟨g,0,none⟩) (rdL m j).length cV) I (by rw[Lc];rfl) ?_
  refine wC I I (fun W' hp=>(CF W' (some ⟨g,0,none⟩) cV (rdL m j) (Ax.of_bx hp 2 I) (TX m j) (by have:=(hV2.cap (by simp)).1;exact this) (by rw[Lc];omega)).cast (v':=slv (some ⟨g,0,none⟩) (lbs br m).length cV) (by rw[hval])) (wP I (wS 1 I I I (Aa (zE (zA (zB (wB 1 I I I (wS 0 I I I (Aa (zE (zO ?_)))))))))))
  subst hm
  exact Au tH I (.cell 0 I I I I I) ((g,cV,j2):NV) I hj1 fun W hp=>As.of_hp1 hp 2 (by
   show some (⟨g,3,nI (rdL z.natAbs j)++jV,true,none⟩:Bx)=some (⟨g,3,nI (lbs br z.natAbs)++j2,true,none⟩:Bx)
   rw[hj2])
def Ge (m:Nat):Nat→List UInt8
 |0=>[]
 |d+1=>UInt8.ofNat (48+m/10^d%10)::Ge m d
theorem J6 (m:Nat): ∀d,(Ge m d).length=d
 |0=>rfl
 |d+1=>by show(Ge m d).length+1=_;rw[J6 m d]
theorem PH (m:Nat): ∀(d i:Nat),i<d→(Ge m d)[d-1-i]? =some (UInt8.ofNat (48+m/10^i%10))
 |0,_,h=>absurd h (Nat.not_lt_zero _)
 |d+1,i,h=>by
  by_cases e:i=d
  ·subst e
   rw[show i+1-1-i=0 by omega];rfl
  ·rw[show d+1-1-i=(d-1-i)+1 by omega]
   show(_::Ge m d)[_+1]? =_
   rw[List.getElem?_cons_succ]
   exact PH m d i (by omega)
theorem Wb {m d:Nat} (h:(decDigits m).length≤d):Ge m d=List.replicate (d-(decDigits m).length) 48++decDigits m:=by
 apply List.ext_getElem?
 intro t
 by_cases ht:t<d
 ·have h1:=PH m d (d-1-t) (by omega)
  rw[show d-1-(d-1-t)=t by omega] at h1
  rw[h1]
  by_cases h2:t<d-(decDigits m).length
  ·rw[List.getElem?_append_left (by rw[List.length_replicate];exact h2),List.getElem?_replicate_of_lt h2]
   have h3:m/10^(d-1-t)=0:=Nat.div_eq_of_lt (Nat.lt_of_lt_of_le (Dt m) (Nat.pow_le_pow_right (by decide) (by omega)))
   rw[h3];rfl
  ·rw[List.getElem?_append_right (by rw[List.length_replicate];omega),List.length_replicate]
   have h3:=Vv (n:=m) (i:=d-1-t) (by omega)
   rw[←h3]
   congr 1;omega
 ·rw[List.getElem?_eq_none (by rw[J6];omega),List.getElem?_eq_none (by rw[List.length_append,List.length_replicate];omega)]
theorem Uw {m i k:Nat} (hk:k<6):m/br^i%br/10^k%10=m/10^(6*i+k)%10:=by
 rw[Nat.pow_add, ←Kn, ←Nat.div_div_eq_div_mul]
 generalize m/br^i=x
 have h:k=0∨k=1∨k=2∨k=3∨k=4∨k=5:=by omega
 show x%1000000/10^k%10=x/10^k%10
 rcases h with rfl|rfl|rfl|rfl|rfl|rfl<;>simp only[Nat.reducePow,Nat.div_one]<;>omega
theorem EV (z:Int) (hl:(decDigits z.natAbs).length≤606) (W:World) (p:Option Addr) (cap:Nat) (hA:Ax W p (lbs br z.natAbs)):
  Ai Tryz.prog 145 #[.agg #[.bool (decide (z<0)),slv p (lbs br z.natAbs).length cap]] W (fun _:Unit=>str (itoa z)) (fun _=>True) (fun _=>[]):=by
 obtain⟨m,hm⟩: ∃m,z.natAbs=m:=⟨_,rfl⟩
 rw[hm] at hl hA⊢
 obtain⟨L,hL⟩: ∃L,(lbs br m).length=L:=⟨_,rfl⟩
 have hL101:L≤101:=by rw[←hL];exact Cm hl
 have hml:m<br^L:=by rw[←hL];exact AK br2 m
 refine Ab (args:=[.agg #[.bool (decide (z<0)),slv p (lbs br m).length cap]]) Tryz.func145 I I I ?_
 rw[hL]
 refine zA (zB ?_)
 (refine A5 rfl rfl rfl rfl ?_;intro)
 refine wP I (Aa ?_)
 rename_i b1
 refine zE (zA (zA (zB (wP I (wB 0 I I I (wP I (wP I ?_)))))))
 by_cases hm0:m=0
 ·have hL0:L=0:=by rw[←hL,hm0,Bc];rfl
  have hz:z=0:=by omega
  exact wU 10 true I (by rw[beq_iff_eq,hL0];rfl) (Aa (zE (zR I (zA (zB (wP I (Aa (zE (zO (zP (wR1 I I (by rw[hz,Cf]))))))))))))
 have hL0:L≠0:=fun e=>hm0 ((Dl br2).1 (List.length_eq_zero_iff.1 (hL.trans e)))
 refine wU 10 false I (by rw[beq_eq_false_iff_ne];omega) (Aa (zE (zS I (zI (zE (zA (zB ?_)))))))
 obtain⟨K,hK⟩: ∃K,K=6*L:=⟨_,rfl⟩
 refine wP I (wB 0 I I I (wP I (wP I (wV 14 (K:Nat) I (by show w64 (6*(L:Int))=_;rw[Ap (by omega) (by omega)];omega) ?_))))
 refine Cd Tryz.vec202 K I I I I I I I (by simp only[maxLen];omega) (by omega) ?_
 intro g
 refine wP I (Aa (zE (zA (zA (zB (wP I (Aa (AI ?_))))))))
 try refine A0 ?_
 refine AG (X:=Unit) (fun _=>[(1,Aj b1),(3, .slice (some ⟨g,0,none⟩) K K)]) (fun _=>[⟨b1,153,[.bool (decide (z<0)),slv p L cap],true,none⟩,⟨g,5,zrV 0++byV (Ge m K),true,none⟩]) (fun _=>True) ?_ ?_
 ·refine zH ?_
  refine AA (X:=Nat) (fun i=>[(1,Aj b1),(3, .slice (some ⟨g,0,none⟩) K K),(4, .int .i64 (i:Nat))]) (fun i=>[⟨b1,153,[.bool (decide (z<0)),slv p L cap],true,none⟩,⟨g,5,zrV (K-6*i)++byV (Ge m (6*i)),true,none⟩]) (fun i=>i≤L) (fun i=>L-i) 0 (Nat.zero_le _) ⟨I,I,I,tO⟩ [] (by show _=[_,(⟨g,5,zrV (K-0)++[],true,none⟩:Bx)]++[];simp only[List.append_nil,Nat.sub_zero];rfl) ?_
  intro i hi
  have hi:i≤L:=hi
  refine zA (zA (zB (wP I (wP I (wB 0 I I I (wP I (wP I ?_)))))))
  by_cases hiL:i<L
  ·refine wU 20 true I (dT (by omega)) (Aa (zE (zR I (zI (zE (zA (zH (zA (zB ?_)))))))))
   obtain⟨bA,oA,rfl,rA⟩:=hA.row (show i<(lbs br m).length by omega)
   have rA:=rA i (by omega)
   rw[Bk br2] at rA
   obtain⟨v,hv⟩: ∃v,v=m/br^i%br:=⟨_,rfl⟩
   rw[←hv] at rA
   have hvb:v<1000000:=by rw[hv];exact Nat.mod_lt _ (by decide)
   refine wP I (wB 0 I I I (wP I ?_))
   refine wJ ?_
   refine wL 0 I I (fun W hp=>rA.hp hp) I (wP I (Aa (zE (zA (zB (wP I (Aa (zE (zH ?_)))))))))
   refine AA (X:=Nat) (fun k=>[(1,Aj b1),(3, .slice (some ⟨g,0,none⟩) K K),(4, .int .i64 (i:Nat)),(5, .int .i64 ((v/10^k:Nat):Int)),(6, .int .i64 ((k+1:Nat):Int))]) (fun k=>[⟨b1,153,[.bool (decide (z<0)),slv (some ⟨bA,oA,none⟩) L cap],true,none⟩,⟨g,5,zrV (K-(6*i+k))++byV (Ge m (6*i+k)),true,none⟩]) (fun k=>k≤6) (fun k=>6-k) 0 (by decide) ⟨I,I,I,by show some _=some (Value.int .i64 ((v/1:Nat):Int));rw[Nat.div_one],I,tO⟩ [] I ?_
   intro k hk
   have hk:k≤6:=hk
   refine zA (zA (zB (wP I (wP I ?_))))
   by_cases hk6:k<6
   ·refine wU 29 true I (dT (by show((k+1:Nat):Int)≤6;omega)) (Aa (zE (zR I (zI (zE (zA (zH (zA (zB ?_)))))))))
    obtain⟨u,hu⟩: ∃u,u=v/10^k:=⟨_,rfl⟩
    have hub:u<1000000:=by rw[hu];exact Nat.lt_of_le_of_lt (Nat.div_le_self ..) hvb
    have hdig:u%10=m/10^(6*i+k)%10:=by rw[hu,hv];exact Uw hk6
    have hu2:v/10^(k+1)=u/10:=by rw[hu,Nat.pow_succ,Nat.div_div_eq_div_mul]
    obtain⟨d,hd⟩: ∃d,d=6*i+k:=⟨_,rfl⟩
    have hdK:d<K:=by omega
    rw[←hu, ←hd]
    rw[←hd] at hdig
    iterate 5 refine wP I ?_
    refine wV 36 ((6*i:Nat):Int) I (by show w64 (6*(i:Int))=_;rw[Ap (by omega) (by omega)];omega) (wP I (wV 37 ((K-6*i:Nat):Int) I (by show w64 ((K:Int)-((6*i:Nat):Int))=_;rw[Ap (by omega) (by omega)];omega) (wP I (wP I (wV 39 ((K-d-1:Nat):Int) I (by show w64 (((K-6*i:Nat):Int)-((k+1:Nat):Int))=_;rw[Ap (by omega) (by omega)];omega) (wP I ?_))))))
    refine Ft I I I I I (by decide) ?_
    refine wV 41 ((u%10:Nat):Int) I (show Int.tmod (u:Nat) ((10:Nat):Int)=_ from(Int.ofNat_tmod _ _).symm) (wP I (wV 42 ((48+u%10:Nat):Int) I (show w64 (48+((u%10:Nat):Int))=_ by rw[Ap (by omega) (by omega)];omega) ?_))
    refine Vh Tryz.underlying3 Tryz.underlying5 I I I I ?_
    refine Af 43 (.int .u8 ((UInt8.ofNat (48+m/10^d%10)).toNat:Int)) I (congrArg (Value.int .u8) (by rw[UT u,hdig])) ?_
    refine wJ ?_
    refine Aw 1 (zrV (K-d-1)++byV (Ge m (d+1))) tH I I I I I I I I I I (by show 0+(K-d-1)*1+1≤(zrV (K-d)++byV (Ge m d)).length;rw[List.length_append,J1];omega) (by
     show B5 (zrV (K-d)++byV (Ge m d)) _ _=_
     rw[show K-d=K-d-1+1 by omega]
     exact SI) ?_
    refine Aa (zE (zB (wP I ?_)))
    refine D5 I I I I I (by decide) ?_
    exact wV 46 ((u/10:Nat):Int) I (show w64 (Int.tdiv (u:Nat) ((10:Nat):Int))=_ by rw[←Int.ofNat_tdiv,Ap (by omega) (by omega)]) (wP I (Aa (zN (zE (zB (wP I (wP I (wV 31 ((k+1+1:Nat):Int) I (Ay (by omega)) (wP I (Aa (A6 (k+1) hk6 (by show 6-(k+1)<6-k;omega) ⟨I,I,I,by show some _=some (Value.int .i64 ((v/10^(k+1):Nat):Int));rw[hu2],I,tO⟩ [] (by show _=[_,(⟨g,5,zrV (K-(6*i+(k+1)))++byV (Ge m (6*i+(k+1))),true,none⟩:Bx)]++[];rw[show 6*i+(k+1)=d+1 by omega,show K-(d+1)=K-d-1 by omega];rfl))))))))))))
   ·have hk6:k=6:=by omega
    subst hk6
    refine wU 29 false I (dF (by decide)) (Aa (zE (zS I (zJ (zK (zK (zL (zN (zE (zB (wP I (wP I (wV 22 ((i+1:Nat):Int) I (Ay (by omega)) ?_)))))))))))))
    exact wP I (Aa (A6 (i+1) hiL (by show L-(i+1)<L-i;omega) ⟨I,I,I,tO⟩ [] (by show _=[_,(⟨g,5,zrV (K-6*(i+1))++byV (Ge m (6*(i+1))),true,none⟩:Bx)]++[];rw[show 6*(i+1)=6*i+6 by omega];rfl)))
  ·have hiL:i=L:=by omega
   subst hiL
   exact wU 20 false I (dF (by omega)) (Aa (zE (zS I (zJ (zK (zK (zL (An () tO ⟨I,I,tO⟩ [] (by rw[←hK,Nat.sub_self];rfl)))))))))
 intro _ _
 obtain⟨nd,hnd⟩: ∃nd,(decDigits m).length=nd:=⟨_,rfl⟩
 have hndK:nd≤K:=by
  rw[←hnd]
  refine Dv K m (by omega) ?_
  rw[hK, ←Kn];exact hml
 have hnd0:0<nd:=by rw[←hnd];exact List.length_pos_iff.2 (F9 _)
 have hlow:=Wb (m:=m) (d:=K) (by rw[hnd];exact hndK)
 rw[hnd] at hlow
 have hgetB: ∀j,j<K→ ∃b,(Ge m K)[j]? =some b∧(zrV 0++byV (Ge m K))[0+j]? =some (.int .u8 (b.toNat:Int)):=fun j hj=>by
  refine⟨(Ge m K)[j]'(by rw[J6];exact hj),List.getElem?_eq_getElem _, ?_⟩
  exact SB (k:=0) (by rw[J6];exact hj)
 try refine AI ?_
 try refine A0 ?_
 refine AG (X:=Unit) (fun _=>[(1,Aj b1),(3, .slice (some ⟨g,K-nd,none⟩) nd nd)]) (fun _=>[⟨b1,153,[.bool (decide (z<0)),slv p L cap],true,none⟩,⟨g,5,zrV 0++byV (Ge m K),true,none⟩]) (fun _=>True) ?_ ?_
 ·refine zH ?_
  refine AA (X:=Nat) (fun j=>[(1,Aj b1),(3, .slice (some ⟨g,j,none⟩) (K-j) (K-j))]) (fun _=>[⟨b1,153,[.bool (decide (z<0)),slv p L cap],true,none⟩,⟨g,5,zrV 0++byV (Ge m K),true,none⟩]) (fun j=>j≤K-nd) (fun j=>K-nd-j) 0 (Nat.zero_le _) ⟨I,I,tO⟩ [] I ?_
  intro j hj
  have hj:j≤K-nd:=hj
  obtain⟨b,hb,hbc⟩:=hgetB j (by omega)
  rw[Nat.zero_add] at hbc
  have hrow: ∀W1 bxs,Hp W bxs W1→nth bxs 1=some (⟨g,5,zrV 0++byV (Ge m K),true,none⟩:Bx)→Ak W1 g j [.int .u8 (b.toNat:Int)]:=fun W1 bxs hp h1=>by
   have h:=Ak.of_bx hp 1 h1 rfl
   exact⟨h.lt,fun t u hu=>by
    have ht:t=0:=by have:=(List.getElem?_eq_some_iff.1 hu).1;simpa using this
    subst ht
    have hu:u= .int .u8 (b.toNat:Int):=by simpa using hu.symm
    rw[hu]
    have:=h.get j _ hbc
    rwa [Nat.zero_add] at this⟩
  refine zA (zA (zB (wP I (wI I I (by decide) (by show(0:Int)<((K-j:Nat):Int);omega) ?_))))
  refine Af 48 (.pointer (some ⟨g,j,none⟩)) I I ?_
  refine wL 0 I I (fun W1 hp=>hrow W1 _ hp I) I (wP I (wU 50 (decide (b=48)) I (Dr b 48) (Aa (zE ?_))))
  refine Av I (fun h48=> ?_) (fun h48=> ?_)
  ·have h48:b=48:=of_decide_eq_true h48
   have hjl:j<K-nd:=by
    rcases Nat.lt_or_ge j (K-nd) with h|h
    ·exact h
    ·have e:j=K-nd:=by omega
     rw[hlow,List.getElem?_append_right (by rw[List.length_replicate];omega),List.length_replicate,e,Nat.sub_self,h48] at hb
     exact absurd (RM hb) hm0
   refine zI (zE (zH (zB (wP I ?_))))
   refine Eu 1 tH I I I I I I I I (by show 1≤K-j;omega) (Nat.le_refl _) ?_
   refine Af 52 (.slice (some ⟨g,j+1,none⟩) (K-(j+1)) (K-(j+1))) I (by rw[if_neg (show¬K-j=1 by omega)];show Value.slice (some ⟨g,j+1*1,none⟩) (K-j-1) (K-j-1)=_;rw[show K-(j+1)=K-j-1 by omega]) ?_
   exact wP I (Aa (zN (A6 (j+1) hjl (by show K-nd-(j+1)<K-nd-j;omega) ⟨I,I,tO⟩ [] I)))
  ·have h48: ¬b=48:=of_decide_eq_false h48
   have e:j=K-nd:=by
    rcases Nat.lt_or_ge j (K-nd) with h|h
    ·rw[hlow,List.getElem?_append_left (by rw[List.length_replicate];exact h),List.getElem?_replicate_of_lt h] at hb
     exact absurd (Option.some.inj hb).symm h48
    ·omega
   exact zJ (zK (zK (zL (An () tO ⟨I,by rw[e,show K-(K-nd)=nd by omega];rfl,tO⟩ [] I))))
 intro _ _
 have hbytes: ∀j (hj:j<(decDigits m).length),(zrV 0++byV (Ge m K))[K-nd+j]? =some (.int .u8 ((decDigits m)[j].toNat:Int)):=fun j hj=>by
  obtain⟨b,hb,hbc⟩:=hgetB (K-nd+j) (by omega)
  rw[Nat.zero_add] at hbc
  rw[hbc]
  rw[hlow,List.getElem?_append_right (by rw[List.length_replicate];omega),List.length_replicate,Nat.add_sub_cancel_left,List.getElem?_eq_getElem hj] at hb
  rw[Option.some.inj hb]
 refine zA (zA (zB (wP I (wB 0 I I I (Aa (zE ?_))))))
 refine Av I (fun hn=> ?_) (fun hn=> ?_)
 ·have hn:z<0:=of_decide_eq_true hn
  refine zA (zB (wP I ?_))
  refine Hv 1 (decDigits m) (e:=5) (by kernel_rfl) Tryz.underlying5 (by kernel_rfl) I I I I I I hnd.symm hbytes ?_
  refine BY I I I I I (a:=[45]) (b:=decDigits m) (by decide) (by omega) ?_
  exact wP I (Aa (zE (zO (zP (wR1 I I (by rw[BU,hm];unfold G0;rw[if_pos hn]))))))
 ·have hn: ¬z<0:=of_decide_eq_false hn
  refine zI (zE (zA (zB (wP I ?_))))
  refine Hv 1 (decDigits m) (e:=5) (by kernel_rfl) Tryz.underlying5 (by kernel_rfl) I I I I I I hnd.symm hbytes ?_
  exact wP I (Aa (zE (zO (wR1 I I (by rw[BU,hm];unfold G0;rw[if_neg hn];rfl)))))
theorem E7 (z:Int) (hl:(decDigits z.natAbs).length≤300) (W:World) (p:Option Addr) (cap:Nat) (hA:Ax W p (lbs br z.natAbs)):
  Ai Tryz.prog 200 #[.agg #[.bool (decide (z<0)),slv p (lbs br z.natAbs).length cap]] W (fun _:Unit=> .tuple #[str (itoa z), .int .i64 0]) (fun _=>True) (fun _=>[]):=by
 refine Ab (args:=[.agg #[.bool (decide (z<0)),slv p (lbs br z.natAbs).length cap]]) Tryz.func200 I I I ?_
 refine zA (zB ?_)
 (refine A5 rfl rfl rfl rfl ?_;intro)
 refine wP I (wP I (Aa (zE (zA (zB (wB 0 I I I (wC I I (fun W hp=>EV z (by omega) W p cap (hA.hp hp)) (wP I (Aa (zE (zA (zA (zB ?_)))))))))))))
 refine wP I (wC I I (fun W _=>Ff z hl W) (wP I (Aa (zE (zS I (zI (zE (zA (zB (wP I (wP I (wP I (Aa ?_)))))))))))))
 exact zE (zO (wR2 I I I))
-- BOXES 6
-- CODE2
abbrev IZ (z:Int) (p:Option Addr) (cap:Nat):Value:= .agg #[.bool (decide (z<0)),slv p (lbs br z.natAbs).length cap]
abbrev Ni (b:Nat) (z:Int) (p:Option Addr) (cap:Nat):Bx:=⟨b,153,[.bool (decide (z<0)),slv p (lbs br z.natAbs).length cap],true,none⟩
theorem Rg (z:Int) (W:World) (p:Option Addr) (cap:Nat):Ai Tryz.prog 177 #[IZ z p cap] W (fun _:Unit=>IZ (-z) p cap) (fun _=>True) (fun _=>[]):=by
 obtain⟨n,hn⟩: ∃n,z.natAbs=n:=⟨_,rfl⟩
 refine Ab (args:=[IZ z p cap]) Tryz.func177 I I I ?_
 unfold IZ
 rw[Int.natAbs_neg,hn]
 refine zA (zB ?_)
 (refine A5 rfl rfl rfl rfl ?_;intro)
 (refine Ah Tryz.hZ rfl rfl rfl rfl ?_;intro)
 refine Aa (zE (zA (zA (zB (wP I (wB 0 I I I (wP I (wP I ?_))))))))
 by_cases h0:n=0
 ·have hz:z=0:=by omega
  exact wU 6 true I (by rw[h0,Bc];rfl) (Aa (zE (zR I (zA (zB (wB 0 I I I (wS 1 I I I (Aa (zE (zO (zP (Au tH I (.cell 1 I I I I I) () (by rw[hz];rfl) tO fun W _=>As.nil _ _))))))))))))
 ·have hL:(lbs br n).length≠0:=fun e=>h0 ((Dl br2).1 (List.length_eq_zero_iff.1 e))
  refine wU 6 false I (by rw[beq_eq_false_iff_ne];omega) (Aa (zE (zS I (zI (zE (zA (zB (wP I (wB 0 I I I (wP I (wP I (wB 0 I I I ?_))))))))))))
  refine Az Tryz.hZ tH I I I I I I I I ?_
  refine wS 1 I I I (Aa (zE (zO ?_)))
  exact Au tH I (.cell 1 I I I I I) () (by
   show Value.agg #[.bool (!decide (z<0)),_]=_
   have e:(!decide (z<0))=decide (-z<0):=by
    by_cases h:z<0
    ·rw[dT h,dF (by omega)];rfl
    ·rw[dF h,dT (by omega)];rfl
   rw[e]) trivial fun W _=>As.nil _ _
theorem I3 (a b:Int) (W:World) (p q:Option Addr) (cap cap2:Nat) (hA:Ax W p (lbs br a.natAbs)) (hB:Ax W q (lbs br b.natAbs)) (hna:(lbs br a.natAbs).length≤1000) (hnb:(lbs br b.natAbs).length≤1000):
  Ai Tryz.prog 176 #[IZ a p cap,IZ b q cap2] W (fun x:NV=>VH (a+b) x) (fun x=>Cn x (lbs br (a+b).natAbs)) (fun x=>[BH x (lbs br (a+b).natAbs)]):=by
 refine Ab (args:=[IZ a p cap,IZ b q cap2]) Tryz.func176 I I I ?_
 refine zA (zB ?_)
 (refine A5 rfl rfl rfl rfl ?_;intro)
 (refine A5 rfl rfl rfl rfl ?_;intro)
 (refine Ah Tryz.hZ rfl rfl rfl rfl ?_;intro)
 refine Aa ?_
 rename_i b2 b3 b4
 refine zE (zA (zA (zB (wP I (wB 0 I I I (wP I (wB 1 I I I ?_)))))))
 by_cases hs:decide (a<0)=decide (b<0)
 ·refine Et (c:=true) Tryz.underlying4 I I I I I (congrArg some (by rw[hs];exact beq_self_eq_true _)) ?_
  refine Aa ?_
  have en:(a+b).natAbs=a.natAbs+b.natAbs:=by
   by_cases h1:a<0<;>by_cases h2:b<0<;>simp[h1,h2] at hs<;>omega
  have es:decide (a<0)=decide (a+b<0):=by
   by_cases h1:a<0<;>by_cases h2:b<0<;>simp[h1,h2] at hs⊢ <;>omega
  refine zE (zR I (A0 ?_))
  refine Bg (X:= { x:NV//Cn x (lbs br (a+b).natAbs) }) [true,true,true,true,true,true,false,false,false] (fun _=>[(4,Aj b4)]) (fun x=>[Ni b2 a p cap,Ni b3 b q cap2,⟨b4,153,[.bool (decide (a+b<0)),B2 x.1 (lbs br (a+b).natAbs).length],true,none⟩,BH x.1 (lbs br (a+b).natAbs)])
   3 [Ni b2 a p cap,Ni b3 b q cap2,⟨b4,153,[.bool false, .slice none 0 0],true,none⟩] Tryz.mixed (by kernel_rfl) ?_ ?_
  ·refine qP I (qB 0 I I I (qP I (qB 0 I I I (qP I (qB 1 I I I (C1 (wX (wZ ?_))))))))
   refine wD (X:=NV) rfl rfl (fun W' hp=>P7 W' p q cap cap2 a.natAbs b.natAbs (hA.hp hp) (hB.hp hp) (by omega) (by omega)) ?_;intro x hx
   refine Aa (Ac (wX (wZ ?_)))
   refine Az Tryz.hZ tH I I I I I I I I ?_
   refine Aa (Ac (wX (wZ (wS 2 I I I (Aa (Ac ?_))))))
   rw[←en] at hx⊢;first|refine A9 rfl (by((repeat (first|refine AC.same ?_|refine AC.off rfl ?_));exact trivial)) ?_|refine AN rfl (by kernel_rfl) ?_
   exact Ar ⟨x,hx⟩ ⟨I,tO⟩ [0,1,2,3] (by decide) (by rw[es];rfl)
  rintro⟨x,hx⟩
  exact zE (zO (zP (Au tH I (.cell 2 I I I I I) x I hx fun W hp=>As.of_hp1 hp 3 I)))
 refine Et (c:=false) Tryz.underlying4 I I I I I (congrArg some (beq_eq_false_iff_ne.2 hs)) ?_
 refine Aa (zE (zS I (zI (zE (zA (zA (zB (wP I (wB 0 I I I (wP I (wB 1 I I I (wC I I (fun W' hp=>K2 W' p q cap cap2 a.natAbs b.natAbs (hA.hp hp) (hB.hp hp) (by omega) (by omega)) (wP I ?_)))))))))))))
 refine wU 24 (decide (a.natAbs<b.natAbs)) I (decide_eq_decide.2 (by unfold Mh;split<;>(try split)<;>omega)) (Aa (AI ?_))
 try refine A0 ?_
 refine AG (X:=(Int×Option Addr×Nat)×(Int×Option Addr×Nat)) (fun _=>[(2,Aj b2),(3,Aj b3),(4,Aj b4)]) (fun x=>[Ni b2 x.1.1 x.1.2.1 x.1.2.2,Ni b3 x.2.1 x.2.2.1 x.2.2.2,⟨b4,153,[.bool false, .slice none 0 0],true,none⟩])
  (fun x=>Ax W x.1.2.1 (lbs br x.1.1.natAbs)∧Ax W x.2.2.1 (lbs br x.2.1.natAbs)∧x.2.1.natAbs≤x.1.1.natAbs∧x.1.1+x.2.1=a+b∧(decide (x.1.1<0)≠decide (x.2.1<0))∧(lbs br x.1.1.natAbs).length≤1000) ?_ ?_
 ·refine Av I (fun h=> ?_) (fun h=> ?_)
  ·have h:a.natAbs<b.natAbs:=of_decide_eq_true h
   exact zB (wB 1 I I I (wB 0 I I I (wS 0 I I I (wS 1 I I I (Aa (An ((b,q,cap2),(a,p,cap)) ⟨hB,hA,Nat.le_of_lt h,Int.add_comm ..,Ne.symm hs,hnb⟩ ⟨I,I,I,tO⟩ [] I))))))
  ·have h: ¬a.natAbs<b.natAbs:=of_decide_eq_false h
   exact zI (An ((a,p,cap),(b,q,cap2)) ⟨hA,hB,by show b.natAbs≤a.natAbs;omega,I,hs,hna⟩ ⟨I,I,I,tO⟩ [] I)
 rintro⟨⟨u,pu,cu⟩,⟨v,pv,cv⟩⟩ ⟨hU,hV,hle,hsum,hsg,hul⟩
 have hU:Ax W pu (lbs br u.natAbs):=hU
 have hV:Ax W pv (lbs br v.natAbs):=hV
 have hle:v.natAbs≤u.natAbs:=hle
 have hsum:u+v=a+b:=hsum
 have hsg:decide (u<0)≠decide (v<0):=hsg
 have hul:(lbs br u.natAbs).length≤1000:=hul
 have en:(a+b).natAbs=u.natAbs-v.natAbs:=by
  rw[←hsum]
  by_cases h1:u<0<;>by_cases h2:v<0<;>simp[h1,h2] at hsg<;>omega
 have es:(a+b).natAbs≠0→decide (u<0)=decide (a+b<0):=fun h0=>by
  rw[←hsum] at h0⊢
  by_cases h1:u<0<;>by_cases h2:v<0<;>simp[h1,h2] at hsg⊢ <;>omega
 refine A0 ?_
 refine Bg (X:= { y:Nat×NV//Cn y.2 (lbs br (a+b).natAbs) }) [true,true,true,true,true,true,false,false,false,false] (fun y=>[(4,Aj b4),(5,Aj y.1.1)]) (fun y=>[⟨b4,153,[.bool false, .slice none 0 0],true,none⟩,⟨y.1.1,153,[.bool (decide (u<0)),B2 y.1.2 (lbs br (a+b).natAbs).length],true,none⟩,BH y.1.2 (lbs br (a+b).natAbs)])
  4 [Ni b2 u pu cu,Ni b3 v pv cv,⟨b4,153,[.bool false, .slice none 0 0],true,none⟩] Tryz.mixed (by kernel_rfl) ?_ ?_
 ·refine qP I (qB 0 I I I (qP I (qB 0 I I I (qP I (qB 1 I I I (C1 (wX ?_)))))))
  refine RS.cons ?_ (RS.cons ?_ (RS.nil))
  ·refine wD (X:=NV) rfl rfl (fun W' hp=>Fe W' pu pv cu cv u.natAbs v.natAbs hle (hU.hp hp) (hV.hp hp) (by omega)) ?_;intro x hx
   refine Aa (Ac (wX ?_))
   refine RS.cons ?_ (RS.cons ?_ (RS.nil))
   ·refine Az Tryz.hZ tH I I I I I I I I ?_
    refine Aa (Ac (wX (wZ ?_)))
    refine Ah Tryz.hZ rfl rfl rfl rfl ?_;intro b5
    refine Aa (Ac (wX (wZ (wS 4 I I I (Aa (Ac ?_))))))
    rw[←en] at hx⊢;first|refine A9 rfl (by((repeat (first|refine AC.same ?_|refine AC.off rfl ?_));exact trivial)) ?_|refine AN rfl (by kernel_rfl) ?_
    exact Ar ⟨(b5,x),hx⟩ ⟨I,I,tO⟩ [2,4,3] (by decide) I
   ·refine Ah Tryz.hZ rfl rfl rfl rfl ?_;intro b5
    refine Aa (Ac (wX (wZ ?_)))
    refine Az Tryz.hZ tH I I I I I I I I ?_
    refine Aa (Ac (wX (wZ (wS 4 I I I (Aa (Ac ?_))))))
    rw[←en] at hx⊢;first|refine A9 rfl (by((repeat (first|refine AC.same ?_|refine AC.off rfl ?_));exact trivial)) ?_|refine AN rfl (by kernel_rfl) ?_
    exact Ar ⟨(b5,x),hx⟩ ⟨I,I,tO⟩ [2,4,3] (by decide) I
  ·refine Ah Tryz.hZ rfl rfl rfl rfl ?_;intro b5
   refine Aa (Ac (wX (wZ ?_)))
   refine wD (X:=NV) rfl rfl (fun W' hp=>Fe W' pu pv cu cv u.natAbs v.natAbs hle (hU.hp hp) (hV.hp hp) (by omega)) ?_;intro x hx
   refine Aa (Ac (wX (wZ ?_)))
   refine Az Tryz.hZ tH I I I I I I I I ?_
   refine Aa (Ac (wX (wZ (wS 3 I I I (Aa (Ac ?_))))))
   rw[←en] at hx⊢;first|refine A9 rfl (by((repeat (first|refine AC.same ?_|refine AC.off rfl ?_));exact trivial)) ?_|refine AN rfl (by kernel_rfl) ?_
   exact Ar ⟨(b5,x),hx⟩ ⟨I,I,tO⟩ [2,3,4] (by decide) I
 rintro⟨⟨b5,x⟩,hx⟩
 have hx:Cn x (lbs br (a+b).natAbs):=hx
 refine zE (zA (zA (zB (wP I (wB 1 I I I (wP I (wP I ?_)))))))
 refine Af 38 (.bool (decide ((a+b).natAbs=0))) I (congrArg Value.bool (by
  by_cases h0:(a+b).natAbs=0
  ·rw[dT h0,h0,Bc];rfl
  ·have hL:(lbs br (a+b).natAbs).length≠0:=fun e=>h0 ((Dl br2).1 (List.length_eq_zero_iff.1 e))
   rw[dF h0,beq_eq_false_iff_ne];omega)) ?_
 refine Aa (AI ?_)
 try refine A0 ?_
 refine AG (X:=Unit) (fun _=>[(4,Aj b4),(5,Aj b5)]) (fun _=>[⟨b4,153,[.bool false, .slice none 0 0],true,none⟩,⟨b5,153,[.bool (decide (a+b<0)),B2 x (lbs br (a+b).natAbs).length],true,none⟩,BH x (lbs br (a+b).natAbs)]) (fun _=>True) ?_ ?_
 ·refine Av I (fun h=> ?_) (fun h=> ?_)
  ·have h:(a+b).natAbs=0:=of_decide_eq_true h
   exact zB (wP I (wS 1 I I I (Aa (An () tO ⟨I,I,tO⟩ [] (by rw[dF (show¬a+b<0 by omega)];rfl)))))
  ·have h: ¬(a+b).natAbs=0:=of_decide_eq_false h
   exact zI (An () tO ⟨I,I,tO⟩ [] (by rw[←es h];rfl))
 intro _ _
 exact zA (zB (wB 1 I I I (wS 0 I I I (Aa (zE (zO (Au tH I (.cell 0 I I I I I) x I hx fun W hp=>As.of_hp1 hp 2 I)))))))
theorem GK (a b:Int) (W:World) (p q:Option Addr) (cap cap2:Nat) (hA:Ax W p (lbs br a.natAbs)) (hB:Ax W q (lbs br b.natAbs)) (hna:(lbs br a.natAbs).length≤1000) (hnb:(lbs br b.natAbs).length≤1000):
  Ai Tryz.prog 220 #[IZ a p cap,IZ b q cap2] W (fun x:NV=>VH (a*b) x) (fun x=>Cn x (lbs br (a*b).natAbs)) (fun x=>[BH x (lbs br (a*b).natAbs)]):=by
 have en:(a*b).natAbs=a.natAbs*b.natAbs:=Int.natAbs_mul a b
 have es:(a*b).natAbs≠0→(decide (a<0) !=decide (b<0))=decide (a*b<0):=fun h0=>by
  rw[en] at h0
  have ha:a≠0:=fun e=>h0 (by rw[e];simp)
  have hb:b≠0:=fun e=>h0 (by rw[e];simp)
  by_cases h1:a<0<;>by_cases h2:b<0
  ·rw[dT h1,dT h2,dF (by have:=Int.mul_pos_of_neg_of_neg h1 h2;omega)];rfl
  ·rw[dT h1,dF h2,dT (Int.mul_neg_of_neg_of_pos h1 (by omega))];rfl
  ·rw[dF h1,dT h2,dT (Int.mul_neg_of_pos_of_neg (by omega) h2)];rfl
  ·rw[dF h1,dF h2,dF (by have:=Int.mul_pos (show 0<a by omega) (show 0<b by omega);omega)];rfl
 refine Ab (args:=[IZ a p cap,IZ b q cap2]) Tryz.func220 I I I ?_
 refine zA (zB ?_)
 (refine A5 rfl rfl rfl rfl ?_;intro)
 (refine A5 rfl rfl rfl rfl ?_;intro)
 (refine Ah Tryz.hZ rfl rfl rfl rfl ?_;intro)
 refine Aa ?_
 rename_i b2 b3 b4
 refine zE (A0 ?_)
 refine Bg (X:= { y:Nat×NV//Cn y.2 (lbs br (a*b).natAbs) }) [true,true,true,true,true,true,true,true,true,false,false,false,false] (fun y=>[(4,Aj b4),(5,Aj y.1.1)]) (fun y=>[⟨b4,153,[.bool false, .slice none 0 0],true,none⟩,⟨y.1.1,153,[.bool (decide (a<0) !=decide (b<0)),B2 y.1.2 (lbs br (a*b).natAbs).length],true,none⟩,BH y.1.2 (lbs br (a*b).natAbs)])
  4 [Ni b2 a p cap,Ni b3 b q cap2,⟨b4,153,[.bool false, .slice none 0 0],true,none⟩] Tryz.mixed (by kernel_rfl) ?_ ?_
 ·refine qP I (qB 0 I I I (qP I (qB 1 I I I ?_)))
  refine UP Tryz.underlying4 I I I I I I ?_
  refine qP I (qB 0 I I I (qP I (qB 1 I I I (C1 (wX ?_)))))
  refine RS.cons ?_ (RS.cons ?_ (RS.nil))
  ·refine wD (X:=NV) rfl rfl (fun W' hp=>Jy W' p q cap cap2 a.natAbs b.natAbs (hA.hp hp) (hB.hp hp) (by omega) (by omega)) ?_;intro x hx
   refine Aa (Ac (wX ?_))
   refine RS.cons ?_ (RS.cons ?_ (RS.nil))
   ·refine Az Tryz.hZ tH I I I I I I I I ?_
    refine Aa (Ac (wX (wZ ?_)))
    refine Ah Tryz.hZ rfl rfl rfl rfl ?_;intro b5
    refine Aa (Ac (wX (wZ (wS 4 I I I (Aa (Ac ?_))))))
    rw[←en] at hx⊢;first|refine A9 rfl (by((repeat (first|refine AC.same ?_|refine AC.off rfl ?_));exact trivial)) ?_|refine AN rfl (by kernel_rfl) ?_
    exact Ar ⟨(b5,x),hx⟩ ⟨I,I,tO⟩ [2,4,3] (by decide) I
   ·refine Ah Tryz.hZ rfl rfl rfl rfl ?_;intro b5
    refine Aa (Ac (wX (wZ ?_)))
    refine Az Tryz.hZ tH I I I I I I I I ?_
    refine Aa (Ac (wX (wZ (wS 4 I I I (Aa (Ac ?_))))))
    rw[←en] at hx⊢;first|refine A9 rfl (by((repeat (first|refine AC.same ?_|refine AC.off rfl ?_));exact trivial)) ?_|refine AN rfl (by kernel_rfl) ?_
    exact Ar ⟨(b5,x),hx⟩ ⟨I,I,tO⟩ [2,4,3] (by decide) I
  ·refine Ah Tryz.hZ rfl rfl rfl rfl ?_;intro b5
   refine Aa (Ac (wX (wZ ?_)))
   refine wD (X:=NV) rfl rfl (fun W' hp=>Jy W' p q cap cap2 a.natAbs b.natAbs (hA.hp hp) (hB.hp hp) (by omega) (by omega)) ?_;intro x hx
   refine Aa (Ac (wX (wZ ?_)))
   refine Az Tryz.hZ tH I I I I I I I I ?_
   refine Aa (Ac (wX (wZ (wS 3 I I I (Aa (Ac ?_))))))
   rw[←en] at hx⊢;first|refine A9 rfl (by((repeat (first|refine AC.same ?_|refine AC.off rfl ?_));exact trivial)) ?_|refine AN rfl (by kernel_rfl) ?_
   exact Ar ⟨(b5,x),hx⟩ ⟨I,I,tO⟩ [2,3,4] (by decide) I
 rintro⟨⟨b5,x⟩,hx⟩
 have hx:Cn x (lbs br (a*b).natAbs):=hx
 refine zE (zA (zA (zB (wP I (wB 1 I I I (wP I (wP I ?_)))))))
 refine Af 20 (.bool (decide ((a*b).natAbs=0))) I (congrArg Value.bool (by
  by_cases h0:(a*b).natAbs=0
  ·rw[dT h0,h0,Bc];rfl
  ·have hL:(lbs br (a*b).natAbs).length≠0:=fun e=>h0 ((Dl br2).1 (List.length_eq_zero_iff.1 e))
   rw[dF h0,beq_eq_false_iff_ne];omega)) ?_
 refine Aa (AI ?_)
 try refine A0 ?_
 refine AG (X:=Unit) (fun _=>[(4,Aj b4),(5,Aj b5)]) (fun _=>[⟨b4,153,[.bool false, .slice none 0 0],true,none⟩,⟨b5,153,[.bool (decide (a*b<0)),B2 x (lbs br (a*b).natAbs).length],true,none⟩,BH x (lbs br (a*b).natAbs)]) (fun _=>True) ?_ ?_
 ·refine Av I (fun h=> ?_) (fun h=> ?_)
  ·have h:(a*b).natAbs=0:=of_decide_eq_true h
   exact zB (wP I (wS 1 I I I (Aa (An () tO ⟨I,I,tO⟩ [] (by rw[dF (show¬a*b<0 by omega)];rfl)))))
  ·have h: ¬(a*b).natAbs=0:=of_decide_eq_false h
   exact zI (An () tO ⟨I,I,tO⟩ [] (by rw[←es h];rfl))
 intro _ _
 exact zA (zB (wB 1 I I I (wS 0 I I I (Aa (zE (zO (Au tH I (.cell 0 I I I I I) x I hx fun W hp=>As.of_hp1 hp 2 I)))))))
-- BOXES 6
-- CODE2
theorem F8 {z:Int} (h:(decDigits z.natAbs).length≤300):(itoa z).length≤301:=by
 rw[BU,List.length_append]
 have:=KU z
 omega
theorem GR {a b:Int} (h:(smI a&&smI b)=true):Bv Tryz.prog 142 [str (itoa a),str (itoa b)] (.tuple #[.int .i64 a, .int .i64 b, .bool true]):=fun W=>by
 obtain⟨h1,h2⟩:=Bool.and_eq_true_iff.1 h
 have l1:(itoa a).length≤17:=of_decide_eq_true h1
 have l2:(itoa b).length≤17:=of_decide_eq_true h2
 have:=M7 a b (by omega) (by omega) W
 rw[h1,h2] at this
 exact this
theorem GB {a b:Int} (h:(smI a&&smI b)=false) (ha:(decDigits a.natAbs).length≤300) (hb:(decDigits b.natAbs).length≤300): ∃x y:Int,Bv Tryz.prog 142 [str (itoa a),str (itoa b)] (.tuple #[.int .i64 x, .int .i64 y, .bool false]):=
 ⟨_,_,fun W=>by
  have l1:=F8 ha
  have l2:=F8 hb
  have:=M7 a b (by omega) (by omega) W
  rw[h] at this
  exact this⟩
theorem I9 (a b:Int) (ha:(decDigits a.natAbs).length≤300) (hb:(decDigits b.natAbs).length≤300) (hab:(decDigits (a*b).natAbs).length≤300) (W:World) (ht:AM W):
  Ai Tryz.prog 175 #[str (itoa a),str (itoa b)] W (fun _:Unit=> .tuple #[str (itoa (a*b)), .int .i64 0]) (fun _=>True) (fun _=>[]):=by
 have la:=Cm (m:=a.natAbs) (by omega)
 have lb:=Cm (m:=b.natAbs) (by omega)
 have l1:=F8 ha
 have l2:=F8 hb
 refine Ab (args:=[str (itoa a),str (itoa b)]) Tryz.func175 I I I ?_
 refine zA (zB (wP I (wP I (Aa (zE (zA (zA (zB (wP I (wP I (wC I I (fun W _=>Df a b ha hb W) (wP I (Aa ?_)))))))))))))
 refine zE (zA (zB (wP I (wP I (Aa (zE (zS I (zI (zE (zA (zA (zB ?_))))))))))))
 cases hs:smI a&&smI b with
 |true=>
  refine wP I (wP I (wC I I (fun W _=>GR hs W) ?_))
  iterate 7 refine wP I ?_
  refine Aa (zE (zA (zB (wP I (wP I (wP I (wP I ?_)))))))
  refine Af 26 (.int .i64 ((itoa a).length:Nat)) I (congrArg (fun n:Nat=>Value.int .i64 (n:Int)) (A4 _)) ?_
  refine wP I (wP I ?_)
  refine Af 28 (.int .i64 ((itoa b).length:Nat)) I (congrArg (fun n:Nat=>Value.int .i64 (n:Int)) (A4 _)) ?_
  refine wP I (wV 29 (((itoa a).length+(itoa b).length:Nat):Int) I (AV (by omega)) (wP I (wU 30 (decide ((itoa a).length+(itoa b).length≤18)) I (decide_eq_decide.2 (by omega)) (wP I (Aa (zE ?_))))))
  refine Av I (fun h18=> ?_) (fun h18=> ?_)
  ·have h18:(itoa a).length+(itoa b).length≤18:=of_decide_eq_true h18
   have hm:(a*b).natAbs<1000000000000000000:=by
    have p1:=Dt a.natAbs
    have p2:=Dt b.natAbs
    have q1:(decDigits a.natAbs).length≤(itoa a).length:=by rw[BU,List.length_append];omega
    have q2:(decDigits b.natAbs).length≤(itoa b).length:=by rw[BU,List.length_append];omega
    rw[Int.natAbs_mul]
    have r1:=Nat.mul_lt_mul'' p1 p2
    rw[←Nat.pow_add] at r1
    exact Nat.lt_of_lt_of_le r1 (show _≤10^18 from Nat.pow_le_pow_right (by decide) (by omega))
   exact zA (zB (wP I (wP I (wP I (wV 34 (a*b) I (Ap (by omega) (by omega)) (wC I I (fun W hp=>Bu (a*b) (by omega) (by omega) W (ht.hp hp)) (wP I (wP I (Aa (zE (zO (zP (wR2 I I I)))))))))))))
  ·refine zI (zE (zA (zB (wP I ?_))))
   refine wD (X:=NV) I I (fun W' _=>Be a (by omega) W') ?_
   intro x hx
   refine wP I ?_
   refine wD (X:=NV) I I (fun W' _=>Be b (by omega) W') ?_
   intro y hy
   refine wD (X:=NV) I I (fun W' hp=>GK a b W' (some ⟨x.1,0,none⟩) (some ⟨y.1,0,none⟩) x.2.1 y.2.1 (Ax.of_bx hp 0 I) (Ax.of_bx hp 1 I) (by omega) (by omega)) ?_
   intro w hw
   exact wC I I (fun W' hp=>E7 (a*b) hab W' (some ⟨w.1,0,none⟩) w.2.1 (Ax.of_bx hp 2 I)) (wP I (wP I (wP I (wP I (Aa (zE (zO (wR2 I I I))))))))
 |false=>
  obtain⟨x0,y0,h2⟩:=GB hs ha hb
  refine wP I (wP I (wC I I (fun W _=>h2 W) ?_))
  iterate 7 refine wP I ?_
  refine Aa (zE (zA (zB (wP I (wP I ?_)))))
  iterate 6 refine Al I I ?_
  refine wP I (Aa (zE (zS I (zI (zE (zA (zB (wP I ?_))))))))
  refine wD (X:=NV) I I (fun W' _=>Be a (by omega) W') ?_
  intro x hx
  refine wP I ?_
  refine wD (X:=NV) I I (fun W' _=>Be b (by omega) W') ?_
  intro y hy
  refine wD (X:=NV) I I (fun W' hp=>GK a b W' (some ⟨x.1,0,none⟩) (some ⟨y.1,0,none⟩) x.2.1 y.2.1 (Ax.of_bx hp 0 I) (Ax.of_bx hp 1 I) (by omega) (by omega)) ?_
  intro w hw
  exact wC I I (fun W' hp=>E7 (a*b) hab W' (some ⟨w.1,0,none⟩) w.2.1 (Ax.of_bx hp 2 I)) (wP I (wP I (wP I (wP I (Aa (zE (zO (wR2 I I I))))))))
theorem Mn (a b:Int) (ha:(decDigits a.natAbs).length≤300) (hb:(decDigits b.natAbs).length≤300) (W:World):
  Ai Tryz.prog 123 #[str (itoa a),str (itoa b)] W (fun _:Unit=> .tuple #[.int .i64 (Fj a b), .int .i64 0]) (fun _=>True) (fun _=>[]):=by
 have la:=Cm (m:=a.natAbs) (by omega)
 have lb:=Cm (m:=b.natAbs) (by omega)
 refine Ab (args:=[str (itoa a),str (itoa b)]) Tryz.func123 I I I ?_
 refine zA (zB (wP I (wP I (Aa (zE (zA (zA (zB (wP I (wP I (wC I I (fun W _=>Df a b ha hb W) (wP I (Aa ?_)))))))))))))
 refine zE (zA (zB (wP I (wP I (Aa (zE (zS I (zI (zE (zA (zA (zB ?_))))))))))))
 cases hs:smI a&&smI b with
 |true=>
  refine wP I (wP I (wC I I (fun W _=>GR hs W) ?_))
  iterate 7 refine wP I ?_
  refine Aa (zE (zA (zB (wP I (Aa (zE (zR I (zA (zA (zB (wP I (wP I (wP I ?_)))))))))))))
  by_cases h1:a<b
  ·exact wU 27 true I (dT h1) (Aa (zE (zR I (zA (zB (wP I (wP I (Aa (zE (zO (zP (zP (wR2 I I (by rw[Fj,if_pos h1]))))))))))))))
  refine wU 27 false I (dF h1) (Aa (zE (zS I (zI (zE (zA (zA (zB (wP I (wP I (wP I ?_)))))))))))
  by_cases h2:b<a
  ·exact wU 30 true I (dT h2) (Aa (zE (zR I (zA (zB (wP I (wP I (Aa (zE (zO (zP (zP (wR2 I I (by rw[Fj,if_neg h1,if_neg (by omega)]))))))))))))))
  exact wU 30 false I (dF h2) (Aa (zE (zS I (zI (zE (zA (zB (wP I (wP I (Aa (zE (zO (zP (wR2 I I (by rw[Fj,if_neg h1,if_pos (by omega)])))))))))))))))
 |false=>
  obtain⟨x0,y0,h2⟩:=GB hs ha hb
  refine wP I (wP I (wC I I (fun W _=>h2 W) ?_))
  iterate 7 refine wP I ?_
  refine Aa (zE (zA (zB (wP I (Aa (zE (zS I (zI (zE (zA (zB (wP I ?_))))))))))))
  refine wD (X:=NV) I I (fun W' _=>Be a (by omega) W') ?_
  intro x hx
  refine wP I ?_
  refine wD (X:=NV) I I (fun W' _=>Be b (by omega) W') ?_
  intro y hy
  refine wC I I (fun W' hp=>Rg b W' (some ⟨y.1,0,none⟩) y.2.1) ?_
  refine wD (X:=NV) I I (fun W' hp=>I3 a (-b) W' (some ⟨x.1,0,none⟩) (some ⟨y.1,0,none⟩) x.2.1 y.2.1 (Ax.of_bx hp 0 I) (by rw[Int.natAbs_neg];exact Ax.of_bx hp 1 I) (by omega) (by rw[Int.natAbs_neg];omega)) ?_
  intro w hw
  (refine Ah Tryz.hZ rfl rfl rfl rfl ?_;intro)
  refine wS 3 I I I (Aa ?_)
  rename_i b10
  refine zE (zA (zA (zB (wP I (wB 3 I I I (wP I (wP I ?_)))))))
  refine Af 40 (.bool (decide (a=b))) I (congrArg Value.bool (by
   by_cases h0:a=b
   ·rw[dT h0,show(a+ -b).natAbs=0 by omega,Bc];rfl
   ·have hL:(lbs br (a+ -b).natAbs).length≠0:=fun e=>by have:=(Dl br2).1 (List.length_eq_zero_iff.1 e);omega
    rw[dF h0,beq_eq_false_iff_ne];omega)) ?_
  refine Aa (zE ?_)
  refine Av I (fun h0=> ?_) (fun h0=> ?_)
  ·have h0:a=b:=of_decide_eq_true h0
   exact zA (zB (wP I (wP I (Aa (zE (zO (zP (wR2 I I (by rw[Fj,if_neg (by omega),if_pos h0])))))))))
  have h0: ¬a=b:=of_decide_eq_false h0
  refine zI (zE (zA (zA (zB (wP I (wB 3 I I I (Aa (zE ?_))))))))
  refine Av I (fun h1=> ?_) (fun h1=> ?_)
  ·have h1:a+ -b<0:=of_decide_eq_true h1
   exact zA (zB (wP I (wP I (Aa (zE (zO (zP (wR2 I I (by rw[Fj,if_pos (by omega)])))))))))
  ·have h1: ¬a+ -b<0:=of_decide_eq_false h1
   exact zI (zE (zA (zB (wP I (wP I (Aa (zE (zO (wR2 I I (by rw[Fj,if_neg (by omega),if_neg h0]))))))))))
-- BOXES 6
-- CODE2
theorem L4 (a b:Int) (ha:(decDigits a.natAbs).length≤300) (hb:(decDigits b.natAbs).length≤300) (hab:(decDigits (a+b).natAbs).length≤300) (W:World) (ht:AM W):
  Ai Tryz.prog 149 #[str (itoa a),str (itoa b)] W (fun _:Unit=> .tuple #[str (itoa (a+b)), .int .i64 0]) (fun _=>True) (fun _=>[]):=by
 have la:=Cm (m:=a.natAbs) (by omega)
 have lb:=Cm (m:=b.natAbs) (by omega)
 refine Ab (args:=[str (itoa a),str (itoa b)]) Tryz.func149 I I I ?_
 refine zA (zB (wP I (wP I (Aa (zE (zA (zA (zB (wP I (wP I (wC I I (fun W _=>Df a b ha hb W) (wP I (Aa ?_)))))))))))))
 refine zE (zA (zB (wP I (wP I (Aa (zE (zS I (zI (zE (zA (zA (zB ?_))))))))))))
 cases hs:smI a&&smI b with
 |true=>
  obtain⟨h1,h2⟩:=Bool.and_eq_true_iff.1 hs
  have b1:=Hs h1
  have b2:=Hs h2
  refine wP I (wP I (wC I I (fun W _=>GR hs W) ?_))
  iterate 7 refine wP I ?_
  refine Aa (zE (zA (zB (wP I (Aa (zE (zR I (zA (zB (wP I (wP I (wP I (wV 26 (a+b) I (Ap (by omega) (by omega)) ?_)))))))))))))
  exact wC I I (fun W hp=>Bu (a+b) (by omega) (by omega) W (ht.hp hp)) (wP I (wP I (Aa (zE (zO (zP (wR2 I I I)))))))
 |false=>
  obtain⟨x0,y0,h2⟩:=GB hs ha hb
  refine wP I (wP I (wC I I (fun W _=>h2 W) ?_))
  iterate 7 refine wP I ?_
  refine Aa (zE (zA (zB (wP I (Aa (zE (zS I (zI (zE (zA (zB (wP I ?_))))))))))))
  refine wD (X:=NV) I I (fun W' _=>Be a (by omega) W') ?_
  intro x hx
  refine wP I ?_
  refine wD (X:=NV) I I (fun W' _=>Be b (by omega) W') ?_
  intro y hy
  refine wD (X:=NV) I I (fun W' hp=>I3 a b W' (some ⟨x.1,0,none⟩) (some ⟨y.1,0,none⟩) x.2.1 y.2.1 (Ax.of_bx hp 0 I) (Ax.of_bx hp 1 I) (by omega) (by omega)) ?_
  intro w hw
  exact wC I I (fun W' hp=>E7 (a+b) hab W' (some ⟨w.1,0,none⟩) w.2.1 (Ax.of_bx hp 2 I)) (wP I (wP I (wP I (wP I (Aa (zE (zO (wR2 I I I))))))))
end
end Go.Proofs.YthndmdimmgkpgaaGreatDoor
