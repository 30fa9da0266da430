/-
  Lemmas that the theorem convexTwice_upto_card needs (part 4 of 6).
-/
import Derived.Test.YtemghkmmcomalaaGreatDoorCtc
set_option maxHeartbeats 64000000
namespace Go.Proofs.YtemghkmmcomalaaGreatDoor
section
def LE (P:Nat→Ai) (n:Nat) (x:Ai):Prop:= ∀i,i<n→0≤AJ (P i) (P (i+1)) x
theorem OC (u:Nat→Rat): ∀(d s:Nat),0<d→0≤u s→u (s+d)≤0→ ∃i,s≤i∧i<s+d∧0≤u i∧u (i+1)≤0:=by
 intro d
 induction d with
 |zero=>intro s h;omega
 |succ d ih=>
  intro s _ h0 h1
  rcases Bs 0 (u (s+1)) with a|a
  ·by_cases c:d=0
   ·subst c;exfalso;have h1:u (s+1)≤0:=h1;grind
   ·obtain⟨i,x1,x2,x3,x4⟩:=ih (s+1) (by omega) (Rat.le_of_lt a) (by rw[show s+1+d=s+(d+1) by omega];exact h1)
    exact⟨i,by omega,by omega,x3,x4⟩
  ·exact⟨s,by omega,by omega,h0,a⟩
theorem Rk (g:AF) (p b c x:Ai):AJ p b c*g.at x=AJ b c x*g.at p+ -AJ p c x*g.at b+AJ p b x*g.at c:=by unfold AF.at AJ;grind
theorem Ta (p b c x:Ai):AJ p b c=AJ b c x+ -AJ p c x+AJ p b x:=by unfold AJ;grind
theorem BL.fan {P:Nat→Ai} {n:Nat} (h:BL P n) {x:Ai} (hx:LE P n x) {g:AF} (hg: ∀i,i<n→0≤g.at (P i)):0≤g.at x∧(g.at x=0→ ∃i,i<n∧g.at (P i)=0):=by
 have n3:=h.n3
 have z1:=hx (n-1) (by omega)
 rw[show n-1+1=n by omega,h.cl] at z1
 have z2:AJ (P 0) (P (1+(n-2))) x≤0:=by
  rw[show 1+(n-2)=n-1 by omega]
  have:=To (P 0) (P (n-1)) x
  grind
 obtain⟨i,a1,a2,a3,a4⟩:=OC (fun i=>AJ (P 0) (P i) x) (n-2) 1 (by omega) (hx 0 (by omega)) z2
 have hD:=h.tri 0 i (i+1) (by omega) (by omega) (by omega)
 have e:=Rk g (P 0) (P i) (P (i+1)) x
 have e1:=Ta (P 0) (P i) (P (i+1)) x
 have s0:=hx i (by omega)
 have g0:=hg 0 (by omega);have g1:=hg i (by omega);have g2:=hg (i+1) (by omega)
 have m0:=Rat.mul_nonneg s0 g0
 have m1:=Rat.mul_nonneg (show 0≤ -AJ (P 0) (P (i+1)) x by grind) g1
 have m2:=Rat.mul_nonneg a3 g2
 refine⟨Qj hD (by grind),fun hz=> ?_⟩
 rw[hz] at e
 rcases Bs 0 (AJ (P i) (P (i+1)) x) with c|c
 ·refine⟨0,by omega, ?_⟩
  rcases Bs 0 (g.at (P 0)) with d|d
  ·have:=Rat.mul_pos c d;grind
  ·grind
 rcases Bs 0 (-AJ (P 0) (P (i+1)) x) with c2|c2
 ·refine⟨i,by omega, ?_⟩
  rcases Bs 0 (g.at (P i)) with d|d
  ·have:=Rat.mul_pos c2 d;grind
  ·grind
 ·refine⟨i+1,by omega, ?_⟩
  rcases Bs 0 (g.at (P (i+1))) with d|d
  ·have:=Rat.mul_pos (show 0<AJ (P 0) (P i) x by grind) d;grind
  ·grind
def AF.plus (f g:AF):AF:=⟨f.a+g.a,f.b+g.b,f.c+g.c⟩
theorem AF.plus_at (f g:AF) (x:Ai):(f.plus g).at x=f.at x+g.at x:=by unfold AF.at AF.plus;grind
theorem QN {o p q b:Ai} (h:0<AJ o p q) (h1:AJ o p b=0) (h2:AJ p q b=0):b=p:=by
 have e1:AJ o p q*(b.1-p.1)= -AJ p q b*(p.1-o.1)+AJ o p b*(q.1-p.1):=by unfold AJ;grind
 have e2:AJ o p q*(b.2-p.2)= -AJ p q b*(p.2-o.2)+AJ o p b*(q.2-p.2):=by unfold AJ;grind
 rw[h1,h2] at e1 e2
 have z: ∀y:Rat,AJ o p q*y=0→y=0:=fun y hy=>by
  rcases Rat.mul_eq_zero.1 hy with a|a
  ·grind
  ·exact a
 have a:=z _ (by rw[e1];grind)
 have b':=z _ (by rw[e2];grind)
 ext
 ·grind
 ·grind
theorem BL.uniq {A B:Nat→Ai} {m n:Nat} (hA:BL A m) (hB:BL B n) (h1: ∀i,i<n→LE A m (B i)) (h2: ∀j,j<m→LE B n (A j)) {j:Nat} (hj:j<m): ∃i,i<n∧B i=A j:=by
 have m3:=hA.n3
 have pv: ∃i,i<m∧A (i+1)=A j∧0<AJ (A i) (A j) (A (j+1)):=by
  rcases Nat.eq_zero_or_pos j with rfl|c
  ·refine⟨m-1,by omega,by rw[show m-1+1=m by omega];exact hA.cl, ?_⟩
   rw[CW];exact hA.tri 0 1 (m-1) (by omega) (by omega) (by omega)
  ·refine⟨j-1,by omega,by rw[show j-1+1=j by omega], ?_⟩
   exact hA.str (by omega) (by omega) (by omega) (by omega)
 obtain⟨i,hi,e,hp⟩:=pv
 have hg: ∀k,k<n→0≤((T1 (A i) (A j)).plus (T1 (A j) (A (j+1)))).at (B k):=fun k hk=>by
  rw[AF.plus_at,Fa,Fa]
  have a:=h1 k hk i hi
  rw[e] at a
  have b:=h1 k hk j hj
  grind
 obtain⟨k,hk,hz⟩:=(hB.fan (h2 j hj) hg).2 (by rw[AF.plus_at,Fa,Fa,Qe,Mg];grind)
 rw[AF.plus_at,Fa,Fa] at hz
 have a:=h1 k hk i hi
 rw[e] at a
 have b:=h1 k hk j hj
 exact⟨k,hk,QN hp (by grind) (by grind)⟩
theorem Qz {f:AF} {z y w x:Ai} (hz:f.at z=0) (hy:f.at y=0):f.at w*AJ z y x=f.at x*AJ z y w:=by
 unfold AF.at at*;unfold AJ;grind
theorem Q5 {f:AF} {z y w x:Ai} (hz:f.at z=0) (hy:f.at y=0) (hw:f.at w<0) (hx:f.at x≤0) (h:0≤AJ z y w):0≤AJ z y x:=by
 have e:=Qz (w:=w) (x:=x) hz hy
 have m:=Rat.mul_nonneg (show 0≤ -f.at x by grind) h
 exact Qj (show 0< -f.at w by grind) (by grind)
theorem Tz {P:Nat→Ai} {n:Nat} {f:AF} {Z:List Gu} (hZ: ∀k,k∈Z↔En P n f k) {z y:Gu} (hz:z∈Z) (hy:y∈Z) (hl:Ee z y) (hn: ∀k∈Z, ¬(Ee z k∧Ee k y)) {x:Ai} (hx:LE P n x):0≤AJ (Bk P z) (Bk P y) x∨f.at (Bk P z)=0∧f.at (Bk P y)=0:=by
 have kz:=(hZ z).1 hz;have ky:=(hZ y).1 hy
 have rz:=kz.rng;have ry:=ky.rng
 obtain⟨i,t⟩:=z;obtain⟨j,s⟩:=y
 have hi:=kz.1;have hj:=ky.1
 simp only[Ee] at*
 have same: ∀s',t≤s'→0≤AJ (Bk P (i,t)) (CO s' (P i) (P (i+1))) x:=fun s' h=>by
  show 0≤AJ (CO t (P i) (P (i+1))) (CO s' (P i) (P (i+1))) x
  rw[GY]
  exact Rat.mul_nonneg (by grind) (hx i hi)
 have bt: ∀k,En P n f k→ ¬((i<k.1∨i=k.1∧t<k.2)∧(k.1<j∨k.1=j∧k.2<s)):=fun k hk=>hn k ((hZ k).2 hk)
 by_cases c0:j=i
 ·subst c0;left;exact same s (by rcases hl with q|q<;>grind)
 have hij:i<j:=by omega
 rcases Bs 0 (f.at (P (i+1))) with c|c
 ·right
  constructor
  ·rcases kz.2 with q|q
   ·rcases Bs (f.at (P i)) 0 with d|d
    ·exfalso
     have pr:f.at (P i)*f.at (P (i+1))<0:=by
      have:=Rat.mul_pos (show 0< -f.at (P i) by grind) c;grind
     refine bt (i,f.at (P i)/(f.at (P i)-f.at (P (i+1)))) ⟨hi,Or.inr ⟨pr,I⟩⟩ ⟨Or.inr ⟨I, ?_⟩,Or.inl hij⟩
     have:=(Cc pr).1
     have:=q.1
     simp only at*
     grind
    ·have:=q.1;simp only at this;subst this
     unfold Bk;rw[AF.cm];have:=q.2;simp only at*;grind
   ·have:=(Cc q.1).2.2
    unfold Bk;rw[AF.cm];have:=q.2;simp only at*;grind
  ·rcases ky.2 with q|q
   ·have hs:=q.1;simp only at hs;subst hs
    have e:f.at (Bk P (j,0))=f.at (P j):=by unfold Bk;rw[AF.cm];simp only;grind
    rw[e]
    have qq:=q.2;simp only at qq
    rcases Bs (f.at (P j)) 0 with d|d
    ·exfalso
     have hne:j≠i+1:=by rintro rfl;grind
     rcases Bs 0 (f.at (P (j-1))) with d2|d2
     ·have pr:f.at (P (j-1))*f.at (P (j-1+1))<0:=by
       rw[show j-1+1=j by omega]
       have:=Rat.mul_pos d2 (show 0< -f.at (P j) by grind);grind
      exact bt _ (En.cut (show j-1<n by omega) pr) ⟨Or.inl (show i<j-1 by omega),Or.inl (show j-1<j by omega)⟩
     ·exact bt (j-1,0) ⟨show j-1<n by omega,Or.inl ⟨I,d2⟩⟩ ⟨Or.inl (show i<j-1 by omega),Or.inl (show j-1<j by omega)⟩
    ·grind
   ·have:=(Cc q.1).2.2
    unfold Bk;rw[AF.cm];have:=q.2;simp only at*;grind
 ·left
  have nb:=bt (i+1,0) ⟨show i+1<n by omega,Or.inl ⟨rfl,c⟩⟩
  have hji:j=i+1∧s=0:=by
   have a: ¬(i+1<j∨i+1=j∧0<s):=fun q=>nb ⟨Or.inl (show i<i+1 by omega),q⟩
   have b:j=i+1:=by
    rcases Nat.lt_or_ge (i+1) j with q|q
    ·exact(a (Or.inl q)).elim
    ·omega
   refine⟨b, ?_⟩
   have r0:0≤s:=ry.1
   rcases Bs 0 s with q|q
   ·exact(a (Or.inr ⟨b.symm,q⟩)).elim
   ·grind
  obtain⟨rfl,rfl⟩:=hji
  have e:Bk P (i+1,0)=CO 1 (P i) (P (i+1)):=by unfold Bk;rw[Se,H3]
  rw[e]
  exact same 1 (by have:t<1:=rz.2;grind)
theorem TA {P:Nat→Ai} {n:Nat} {f:AF} {Z:List Gu} (h:BL P n) (hZ: ∀k,k∈Z↔En P n f k) {z y:Gu} (hz:z∈Z) (hy:y∈Z) (hn: ∀k∈Z, ¬Ee z k) (hm: ∀k∈Z, ¬Ee k y) {x:Ai} (hx:LE P n x):0≤AJ (Bk P z) (Bk P y) x∨f.at (Bk P z)=0∧f.at (Bk P y)=0:=by
 have n3:=h.n3
 have kz:=(hZ z).1 hz;have ky:=(hZ y).1 hy
 have rz:=kz.rng;have ry:=ky.rng
 obtain⟨i,t⟩:=z;obtain⟨j,s⟩:=y
 have hi:=kz.1;have hj:=ky.1
 simp only[Ee] at*
 have bz: ∀k,En P n f k→ ¬(i<k.1∨i=k.1∧t<k.2):=fun k hk=>hn k ((hZ k).2 hk)
 have by': ∀k,En P n f k→ ¬(k.1<j∨k.1=j∧k.2<s):=fun k hk=>hm k ((hZ k).2 hk)
 have fz:0<f.at (P (i+1))→f.at (Bk P (i,t))=0:=fun c=>by
  rcases kz.2 with q|q
  ·rcases Bs (f.at (P i)) 0 with d|d
   ·exfalso
    have pr:f.at (P i)*f.at (P (i+1))<0:=by
     have:=Rat.mul_pos (show 0< -f.at (P i) by grind) c;grind
    refine bz (i,f.at (P i)/(f.at (P i)-f.at (P (i+1)))) ⟨hi,Or.inr ⟨pr,I⟩⟩ (Or.inr ⟨I, ?_⟩)
    have:=(Cc pr).1
    have:=q.1
    simp only at*
    grind
   ·have:=q.1;simp only at this;subst this
    unfold Bk;rw[AF.cm];have:=q.2;simp only at*;grind
  ·have:=(Cc q.1).2.2
   unfold Bk;rw[AF.cm];have:=q.2;simp only at*;grind
 have i1:i+1<n→0<f.at (P (i+1)):=fun c=>by
  rcases Bs 0 (f.at (P (i+1))) with d|d
  ·exact d
  ·exact(bz (i+1,0) ⟨c,Or.inl ⟨I,d⟩⟩ (Or.inl (show i<i+1 by omega))).elim
 rcases Bs 0 (f.at (P 0)) with c|c
 ·right
  constructor
  ·by_cases e:i+1=n
   ·exact fz (by rw[e,h.cl];exact c)
   ·exact fz (i1 (by omega))
  ·rcases ky.2 with q|q
   ·have hs:=q.1;simp only at hs;subst hs
    have e:f.at (Bk P (j,0))=f.at (P j):=by unfold Bk;rw[AF.cm];simp only;grind
    rw[e]
    have qq:=q.2;simp only at qq
    rcases Bs (f.at (P j)) 0 with d|d
    ·exfalso
     have hne:j≠0:=by rintro rfl;grind
     rcases Bs 0 (f.at (P (j-1))) with d2|d2
     ·have pr:f.at (P (j-1))*f.at (P (j-1+1))<0:=by
       rw[show j-1+1=j by omega]
       have:=Rat.mul_pos d2 (show 0< -f.at (P j) by grind);grind
      exact by' _ (En.cut (show j-1<n by omega) pr) (Or.inl (show j-1<j by omega))
     ·exact by' (j-1,0) ⟨show j-1<n by omega,Or.inl ⟨I,d2⟩⟩ (Or.inl (show j-1<j by omega))
    ·grind
   ·have:=(Cc q.1).2.2
    unfold Bk;rw[AF.cm];have:=q.2;simp only at*;grind
 ·have hj0:j=0∧s=0:=by
   have a:=by' (0,0) ⟨show 0<n by omega,Or.inl ⟨rfl,c⟩⟩
   simp only at a
   have b:j=0:=by
    rcases Nat.eq_zero_or_pos j with q|q
    ·exact q
    ·exact(a (Or.inl q)).elim
   refine⟨b, ?_⟩
   have r0:0≤s:=ry.1
   rcases Bs 0 s with q|q
   ·exact(a (Or.inr ⟨b.symm,q⟩)).elim
   ·grind
  obtain⟨rfl,rfl⟩:=hj0
  by_cases e:i+1=n
  ·left
   have e2:Bk P (0,0)=CO 1 (P i) (P (i+1)):=by unfold Bk;rw[Se,H3,e,h.cl]
   rw[e2]
   show 0≤AJ (CO t (P i) (P (i+1))) (CO 1 (P i) (P (i+1))) x
   rw[GY]
   exact Rat.mul_nonneg (by have:t<1:=rz.2;grind) (hx i hi)
  ·right
   refine⟨fz (i1 (by omega)), ?_⟩
   have e2:f.at (Bk P (0,0))=f.at (P 0):=by unfold Bk;rw[AF.cm];simp only;grind
   rw[e2]
   rcases Bs (f.at (P 0)) 0 with d|d
   ·exfalso
    have d2:0<f.at (P (n-1)):=by
     rcases Bs 0 (f.at (P (n-1))) with d3|d3
     ·exact d3
     ·exact(bz (n-1,0) ⟨show n-1<n by omega,Or.inl ⟨I,d3⟩⟩ (Or.inl (show i<n-1 by omega))).elim
    have pr:f.at (P (n-1))*f.at (P (n-1+1))<0:=by
     rw[show n-1+1=n by omega,h.cl]
     have:=Rat.mul_pos d2 (show 0< -f.at (P 0) by grind);grind
    exact bz _ (En.cut (show n-1<n by omega) pr) (Or.inl (show i<n-1 by omega))
   ·grind
end
section
def Ae (l:List Ai) (i:Nat):Ai:=(l[i%l.length]?).getD (0,0)
theorem B2 {l:List Ai} {i:Nat} (h:i<l.length):Ae l i=l[i]:=by
 unfold Ae;rw[Nat.mod_eq_of_lt h,List.getElem?_eq_getElem h];rfl
theorem Hg {l:List Ai}:Ae l l.length=Ae l 0:=by
 unfold Ae;simp
theorem Cb (l:List Ai) (i:Nat):Ae l (i%l.length)=Ae l i:=by
 unfold Ae;simp
def Bb (l:List Ai):Prop:=BL (Ae l) l.length
def B8 (P:Nat→Ai) (n:Nat) (f:AF):List Gu:=(List.range n).flatMap fun i=>
 (if f.at (P i)≤0 then[(i,0)] else[])++(if f.at (P i)*f.at (P (i+1))<0 then[(i,f.at (P i)/(f.at (P i)-f.at (P (i+1))))] else[])
theorem B5 {P:Nat→Ai} {n:Nat} {f:AF} (k:Gu):k∈B8 P n f↔En P n f k:=by
 unfold B8 En
 rw[List.mem_flatMap]
 constructor
 ·rintro⟨i,hi,hk⟩
  rw[List.mem_range] at hi
  rw[List.mem_append] at hk
  rcases hk with hk|hk
  ·split at hk
   ·rename_i c
    rw[List.mem_singleton] at hk;subst hk
    exact⟨hi,Or.inl ⟨I,c⟩⟩
   ·exact absurd hk (by simp)
  ·split at hk
   ·rename_i c
    rw[List.mem_singleton] at hk;subst hk
    exact⟨hi,Or.inr ⟨c,I⟩⟩
   ·exact absurd hk (by simp)
 ·obtain⟨i,t⟩:=k
  rintro⟨hi,hk⟩
  refine⟨i,List.mem_range.2 hi, ?_⟩
  rw[List.mem_append]
  rcases hk with⟨a,b⟩|⟨a,b⟩
  ·left;simp only at a b;rw[if_pos b,a];simp
  ·right;simp only at a b;rw[if_pos a,b];simp
theorem GH (P:Nat→Ai) (n:Nat) (f:AF):(B8 P n f).Pairwise Ee:=by
 unfold B8
 rw[List.pairwise_flatMap]
 constructor
 ·intro i _
  rw[List.pairwise_append]
  refine⟨by split<;>simp,by split<;>simp, ?_⟩
  intro x hx y hy
  split at hx
  ·split at hy
   ·rename_i c
    rw[List.mem_singleton] at hx hy;subst hx;subst hy
    exact Or.inr ⟨I,(Cc c).1⟩
   ·exact absurd hy (by simp)
  ·exact absurd hx (by simp)
 ·refine List.pairwise_lt_range.imp ?_
  intro i j hij x hx y hy
  have ex:x.1=i:=by
   rw[List.mem_append] at hx
   rcases hx with hx|hx<;>split at hx<;>simp at hx<;>rw[hx]
  have ey:y.1=j:=by
   rw[List.mem_append] at hy
   rcases hy with hy|hy<;>split at hy<;>simp at hy<;>rw[hy]
  exact Or.inl (by rw[ex,ey];exact hij)
def AP (f:AF) (l:List Ai):List Ai:=(B8 (Ae l) l.length f).map (Bk (Ae l))
theorem Hf (k:Gu): ¬Ee k k:=by unfold Ee;rintro(a|⟨_,a⟩)<;>grind
theorem FV {a b:Gu} (h:Ee a b): ¬Ee b a:=by unfold Ee at*;rcases h with h|⟨h,h2⟩<;>rintro(c|⟨c,c2⟩)<;>grind
theorem TW {α:Type} {l:List α} {a b c:α} (ha:a∈l) (hb:b∈l) (hc:c∈l) (h1:a≠b) (h2:a≠c) (h3:b≠c):3≤l.length:=by
 match l,ha,hb,hc with
 |[x],ha,hb,_=>simp at ha hb;exact absurd (ha.trans hb.symm) h1
 |[x,y],ha,hb,hc=>
  simp at ha hb hc
  rcases ha with rfl|rfl<;>rcases hb with rfl|rfl<;>rcases hc with rfl|rfl<;>simp_all
 |_::_::_::l,_,_,_=>simp
theorem P9 {P:Nat→Ai} {n:Nat} {f:AF} (h:BL P n) {i:Nat} (hi:i<n) (hf:f.at (P i)<0):3≤(B8 P n f).length:=by
 have n3:=h.n3
 have k1:(i,(0:Rat))∈B8 P n f:=(B5 _).2 ⟨hi,Or.inl ⟨rfl,Rat.le_of_lt hf⟩⟩
 -- the next one
 have nx: ∃k∈B8 P n f,(k.1=i∧0<k.2)∨(k.2=0∧(k.1=i+1∨k.1=0∧i+1=n)):=by
  rcases Bs 0 (f.at (P (i+1))) with c|c
  ·have pr:f.at (P i)*f.at (P (i+1))<0:=by
    have:=Rat.mul_pos (show 0< -f.at (P i) by grind) c;grind
   exact⟨_,(B5 _).2 (En.cut hi pr),Or.inl ⟨I,(Cc pr).1⟩⟩
  ·by_cases e:i+1=n
   ·exact⟨(0,0),(B5 _).2 ⟨show 0<n by omega,Or.inl ⟨I,by rw[e,h.cl] at c;exact c⟩⟩,Or.inr ⟨I,Or.inr ⟨I,e⟩⟩⟩
   ·exact⟨(i+1,0),(B5 _).2 ⟨show i+1<n by omega,Or.inl ⟨I,c⟩⟩,Or.inr ⟨I,Or.inl I⟩⟩
 have pv: ∃k∈B8 P n f,(k.1+1=i∨k.1+1=n∧i=0):=by
  obtain⟨j,hj,e1,e2⟩: ∃j,j<n∧(j+1=i∨j+1=n∧i=0)∧P (j+1)=P i:=by
   rcases Nat.eq_zero_or_pos i with rfl|c
   ·exact⟨n-1,by omega,Or.inr ⟨by omega,I⟩,by rw[show n-1+1=n by omega];exact h.cl⟩
   ·exact⟨i-1,by omega,Or.inl (by omega),by rw[show i-1+1=i by omega]⟩
  rcases Bs 0 (f.at (P j)) with c|c
  ·have pr:f.at (P j)*f.at (P (j+1))<0:=by
    rw[e2]
    have:=Rat.mul_pos c (show 0< -f.at (P i) by grind);grind
   exact⟨_,(B5 _).2 (En.cut hj pr),e1⟩
  ·exact⟨(j,0),(B5 _).2 ⟨hj,Or.inl ⟨I,c⟩⟩,e1⟩
 obtain⟨k2,m2,h2⟩:=nx
 obtain⟨k3,m3,h3⟩:=pv
 refine TW k1 m2 m3 ?_ ?_ ?_
 ·rintro rfl
  rcases h2 with⟨_,b⟩|⟨_,b|b⟩
  ·simp only at b;grind
  ·simp only at b;omega
  ·simp only at b;omega
 ·rintro rfl
  simp only at h3;omega
 ·rintro rfl
  rcases h2 with⟨b,_⟩|⟨_,b|b⟩<;>omega
theorem Cn {f:AF} {l:List Ai} {i:Nat} (h:i<(B8 (Ae l) l.length f).length):Ae (AP f l) i=Bk (Ae l) (B8 (Ae l) l.length f)[i]:=by
 have h':i<(AP f l).length:=by unfold AP;rw[List.length_map];exact h
 rw[B2 h']
 exact List.getElem_map (Bk (Ae l))
theorem C6 (f:AF) (l:List Ai):(AP f l).length=(B8 (Ae l) l.length f).length:=by unfold AP;rw[List.length_map]
theorem I9 {f:AF} {l:List Ai} (h:Bb l) {p:Ai} (hp:p∈l) (hf:f.at p<0):Bb (AP f l):=by
 obtain⟨i,hi,rfl⟩:=List.getElem_of_mem hp
 have k3:=P9 (f:=f) h hi (by rw[B2 hi];exact hf)
 refine⟨by rw[C6];exact k3,Hg, ?_⟩
 intro a b c hab hbc hc
 rw[C6] at hc
 rw[Cn (by omega),Cn (by omega),Cn hc]
 have s:=List.pairwise_iff_getElem.1 (GH (Ae l) l.length f)
 exact En.tri h ((B5 _).1 (List.getElem_mem _)) ((B5 _).1 (List.getElem_mem _)) ((B5 _).1 (List.getElem_mem _)) (s _ _ (by omega) (by omega) hab) (s _ _ (by omega) (by omega) hbc)
def DI (l:List Ai) (x:Ai):Prop:=LE (Ae l) l.length x
theorem Nx {f:AF} {l:List Ai} (h:Bb l) {p:Ai} (hp:p∈l) (hf:f.at p<0) {x:Ai} (hx:DI l x) (hfx:f.at x≤0):DI (AP f l) x:=by
 have hC:=I9 h hp hf
 have c3:=hC.n3
 rw[C6] at c3
 have s:=List.pairwise_iff_getElem.1 (GH (Ae l) l.length f)
 have mk: ∀k,k∈B8 (Ae l) l.length f↔En (Ae l) l.length f k:=fun k=>B5 k
 -- the corner with a negative value
 obtain⟨w,hw,ew⟩: ∃w,w<(AP f l).length∧Ae (AP f l) w=p:=by
  obtain⟨i,hi,rfl⟩:=List.getElem_of_mem hp
  have m:(i,(0:Rat))∈B8 (Ae l) l.length f:=(mk _).2 ⟨hi,Or.inl ⟨rfl,by rw[B2 hi];exact Rat.le_of_lt hf⟩⟩
  obtain⟨w,hw,e⟩:=List.getElem_of_mem m
  refine⟨w,by rw[C6];exact hw, ?_⟩
  rw[Cn hw,e]
  unfold Bk
  rw[H3,B2 hi]
 intro i hi
 have sd:=hC.side hi (Nat.le_of_lt hw)
 rw[ew] at sd
 have fin: ∀z y:Ai,Ae (AP f l) i=z→Ae (AP f l) (i+1)=y→(0≤AJ z y x∨f.at z=0∧f.at y=0)→0≤AJ (Ae (AP f l) i) (Ae (AP f l) (i+1)) x:=by
  rintro z y rfl rfl (q|⟨q1,q2⟩)
  ·exact q
  ·exact Q5 q1 q2 hf hfx sd
 rw[C6] at hi
 by_cases e:i+1=(B8 (Ae l) l.length f).length
 ·have e0:Ae (AP f l) (i+1)=Ae (AP f l) 0:=by rw[e, ←C6];exact Hg
  refine fin _ _ (Cn hi) (e0.trans (Cn (by omega))) (TA h mk (List.getElem_mem _) (List.getElem_mem _) ?_ ?_ hx)
  ·intro k hk c
   obtain⟨j,hj,rfl⟩:=List.getElem_of_mem hk
   rcases Nat.lt_or_ge j i with q|q
   ·exact FV c (s _ _ hj hi q)
   ·obtain rfl:j=i:=by omega
    exact Hf _ c
  ·intro k hk c
   obtain⟨j,hj,rfl⟩:=List.getElem_of_mem hk
   rcases Nat.eq_zero_or_pos j with rfl|q
   ·exact Hf _ c
   ·exact FV c (s _ _ (by omega) hj q)
 ·refine fin _ _ (Cn hi) (Cn (by omega)) (Tz mk (List.getElem_mem _) (List.getElem_mem _) (s _ _ hi (by omega) (by omega)) ?_ hx)
  intro k hk ⟨c1,c2⟩
  obtain⟨j,hj,rfl⟩:=List.getElem_of_mem hk
  rcases Nat.lt_or_ge i j with q|q
  ·rcases Nat.eq_or_lt_of_le (show i+1≤j by omega) with q2|q2
   ·subst q2;exact Hf _ c2
   ·exact FV c2 (s _ _ (by omega) hj q2)
  ·rcases Nat.eq_or_lt_of_le q with rfl|q2
   ·exact Hf _ c1
   ·exact FV c1 (s _ _ hj hi q2)
end
section
def DE (k:Nat) (l:List Ai):List Ai:=l.drop k++l.take k
theorem Dh {k:Nat} {l:List Ai} (hk:k≤l.length):(DE k l).length=l.length:=by
 unfold DE;rw[List.length_append,List.length_drop,List.length_take];omega
theorem Kk {k:Nat} {l:List Ai} {x:Ai}:x∈DE k l↔x∈l:=by
 unfold DE
 conv=>rhs;rw[←List.take_append_drop k l]
 rw[List.mem_append,List.mem_append]
 exact Or.comm
theorem E6 {k:Nat} {l:List Ai} (hk:k≤l.length) (i:Nat):Ae (DE k l) i=Ae l (i+k):=by
 by_cases h0:l.length=0
 ·have e:l=[]:=List.length_eq_zero_iff.1 h0
  subst e
  simp[DE,Ae]
 rw[←Cb (DE k l) i,Dh hk, ←Cb l (i+k)]
 have hi:=Nat.mod_lt i (show 0<l.length by omega)
 have e:(i+k)%l.length=(i%l.length+k)%l.length:=by rw[Nat.mod_add_mod]
 rw[e]
 generalize i%l.length=j at*
 rw[B2 (by rw[Dh hk];exact hi)]
 by_cases c:j+k<l.length
 ·rw[Nat.mod_eq_of_lt c,B2 c]
  unfold DE
  rw[List.getElem_append_left (by rw[List.length_drop];omega),List.getElem_drop]
  congr 1;omega
 ·have e2:(j+k)%l.length=j+k-l.length:=by rw[Nat.mod_eq_sub_mod (by omega),Nat.mod_eq_of_lt (by omega)]
  rw[e2,B2 (by omega)]
  unfold DE
  rw[List.getElem_append_right (by rw[List.length_drop];omega),List.getElem_take]
  congr 1;rw[List.length_drop];omega
theorem Bb.per {l:List Ai} (i:Nat):Ae l (i+l.length)=Ae l i:=by
 rw[←Cb l (i+l.length),Nat.add_mod_right,Cb]
theorem Bb.rot {l:List Ai} (h:Bb l) {k:Nat} (hk:k≤l.length):Bb (DE k l):=by
 refine⟨by rw[Dh hk];exact h.n3,Hg, ?_⟩
 intro a b c hab hbc hc
 rw[Dh hk] at hc
 rw[E6 hk,E6 hk,E6 hk]
 have low: ∀i,l.length≤i→Ae l i=Ae l (i-l.length):=fun i hi=>by
  have:=Bb.per (l:=l) (i-l.length)
  rw[show i-l.length+l.length=i by omega] at this
  exact this
 by_cases c1:c+k<l.length
 ·exact h.tri _ _ _ (by omega) (by omega) c1
 rw[low (c+k) (by omega)]
 by_cases b1:b+k<l.length
 ·rw[←CW];exact h.tri _ _ _ (by omega) (by omega) b1
 rw[low (b+k) (by omega)]
 by_cases a1:a+k<l.length
 ·rw[CW];exact h.tri _ _ _ (by omega) (by omega) a1
 rw[low (a+k) (by omega)]
 exact h.tri _ _ _ (by omega) (by omega) (by omega)
theorem DI.rot {l:List Ai} {x:Ai} (h:DI l x) {k:Nat} (hk:k≤l.length):DI (DE k l) x:=by
 intro i hi
 rw[Dh hk] at hi
 rw[E6 hk,E6 hk]
 have e:=h ((i+k)%l.length) (Nat.mod_lt _ (by omega))
 rw[Cb] at e
 have e2:Ae l ((i+k)%l.length+1)=Ae l (i+1+k):=by
  rw[←Cb,Nat.mod_add_mod,Cb];congr 1;omega
 rw[e2] at e
 exact e
def Gm (p q:Ai):Prop:=p.1<q.1∨p.1=q.1∧p.2<q.2
theorem Qx (p q:Ai):Gm p q∨p=q∨Gm q p:=by
 unfold Gm
 rcases Bs p.1 q.1 with a|a
 ·exact Or.inl (Or.inl a)
 rcases Bs q.1 p.1 with b|b
 ·exact Or.inr (Or.inr (Or.inl b))
 have e:p.1=q.1:=by grind
 rcases Bs p.2 q.2 with c|c
 ·exact Or.inl (Or.inr ⟨e,c⟩)
 rcases Bs q.2 p.2 with d|d
 ·exact Or.inr (Or.inr (Or.inr ⟨e.symm,d⟩))
 ·refine Or.inr (Or.inl ?_)
  ext
  ·exact e
  ·grind
theorem OD {p q:Ai} (h:Gm p q): ¬Gm q p:=by
 unfold Gm at*
 rintro(c|⟨c,d⟩)<;>rcases h with a|⟨a,b⟩<;>grind
theorem Qy (p:Ai): ¬Gm p p:=fun h=>OD h h
def DB (l:List Ai):Prop:= ∀p∈l, ¬Gm p (Ae l 0)
theorem JO {α:Type} {R:α→α→Prop} (has: ∀a b,R a b→ ¬R b a): ∀(l m:List α),l.Pairwise R→m.Pairwise R→(∀x,x∈l↔x∈m)→l=m:=by
 intro l
 induction l with
 |nil=>
  intro m _ _ h
  cases m with
  |nil=>rfl
  |cons b m=>exact absurd ((h b).2 List.mem_cons_self) (by simp)
 |cons a l ih=>
  intro m hl hm h
  cases m with
  |nil=>exact absurd ((h a).1 List.mem_cons_self) (by simp)
  |cons b m=>
   obtain⟨l1,l2⟩:=List.pairwise_cons.1 hl
   obtain⟨m1,m2⟩:=List.pairwise_cons.1 hm
   have e:a=b:=by
    rcases List.mem_cons.1 ((h a).1 List.mem_cons_self) with c|c
    ·exact c
    ·rcases List.mem_cons.1 ((h b).2 List.mem_cons_self) with d|d
     ·exact d.symm
     ·exact absurd (l1 b d) (has _ _ (m1 a c))
   subst e
   have irr: ∀x, ¬R x x:=fun x hx=>has x x hx hx
   refine congrArg (a:: ·) (ih m l2 m2 fun x=>⟨fun hx=> ?_,fun hx=> ?_⟩)
   ·rcases List.mem_cons.1 ((h x).1 (List.mem_cons_of_mem _ hx)) with c|c
    ·subst c;exact absurd (l1 x hx) (irr x)
    ·exact c
   ·rcases List.mem_cons.1 ((h x).2 (List.mem_cons_of_mem _ hx)) with c|c
    ·subst c;exact absurd (m1 x hx) (irr x)
    ·exact c
theorem AZ {l:List Ai} (h:0<l.length) (i:Nat):Ae l i∈l:=by
 rw[←Cb,B2 (Nat.mod_lt i h)]
 exact List.getElem_mem _
theorem E5 {l:List Ai} {x:Ai} (h:x∈l): ∃i,i<l.length∧Ae l i=x:=by
 obtain⟨i,hi,rfl⟩:=List.getElem_of_mem h
 exact⟨i,hi,B2 hi⟩
theorem OW {A B:List Ai} (hA:Bb A) (hB:Bb B) (h1: ∀x∈B,DI A x) (h2: ∀x∈A,DI B x) (la:DB A) (lb:DB B):A=B:=by
 have a3:=hA.n3;have b3:=hB.n3
 have mem: ∀x,x∈A↔x∈B:=fun x=>by
  constructor
  ·intro hx
   obtain⟨j,hj,rfl⟩:=E5 hx
   obtain⟨i,hi,e⟩:=hA.uniq hB (fun i hi=>h1 _ (AZ (by omega) i)) (fun i hi=>h2 _ (AZ (by omega) i)) hj
   rw[←e];exact AZ (by omega) i
  ·intro hx
   obtain⟨j,hj,rfl⟩:=E5 hx
   obtain⟨i,hi,e⟩:=hB.uniq hA (fun i hi=>h2 _ (AZ (by omega) i)) (fun i hi=>h1 _ (AZ (by omega) i)) hj
   rw[←e];exact AZ (by omega) i
 have e0:Ae A 0=Ae B 0:=by
  rcases Qx (Ae A 0) (Ae B 0) with c|c|c
  ·exact absurd c (lb _ ((mem _).1 (AZ (by omega) 0)))
  ·exact c
  ·exact absurd c (la _ ((mem _).2 (AZ (by omega) 0)))
 have prs: ∀ {C:List Ai},Bb C→ ∃t,C=Ae C 0::t∧t.Pairwise (fun u v=>0<AJ (Ae C 0) u v):=by
  intro C hC
  have c3:=hC.n3
  match C,hC,c3 with
  |c::t,hC,c3=>
   refine⟨t,by rw[B2 (by simp)];rfl, ?_⟩
   rw[List.pairwise_iff_getElem]
   intro i j hi hj hij
   have:=hC.tri 0 (i+1) (j+1) (by omega) (by omega) (by simp;omega)
   rw[B2 (i:=i+1) (by simp;omega),B2 (i:=j+1) (by simp;omega)] at this
   exact this
 obtain⟨s,ea,pa⟩:=prs hA
 obtain⟨t,eb,pb⟩:=prs hB
 rw[←e0] at eb pb
 have has: ∀u v:Ai,0<AJ (Ae A 0) u v→ ¬0<AJ (Ae A 0) v u:=fun u v h c=>by
  have e:AJ (Ae A 0) v u= -AJ (Ae A 0) u v:=by unfold AJ;grind
  grind
 have notin: ∀ {l:List Ai},l.Pairwise (fun u v=>0<AJ (Ae A 0) u v)→2≤l.length→Ae A 0∉l:=by
  intro l hp hl hx
  match l,hp,hl,hx with
  |x::y::l,hp,_,hx=>
   obtain⟨p1,p2⟩:=List.pairwise_cons.1 hp
   rcases List.mem_cons.1 hx with c|c
   ·have:=p1 y List.mem_cons_self
    rw[c,Qi] at this;grind
   ·have:=p1 _ c
    rw[Mg] at this;grind
 have ls:2≤s.length:=by have:=congrArg List.length ea;simp at this;omega
 have lt:2≤t.length:=by have:=congrArg List.length eb;simp at this;omega
 have mm: ∀x,x∈s↔x∈t:=fun x=>by
  constructor
  ·intro hx
   have:x∈B:=(mem x).1 (by rw[ea];exact List.mem_cons_of_mem _ hx)
   rw[eb] at this
   rcases List.mem_cons.1 this with c|c
   ·subst c;exact absurd hx (notin pa ls)
   ·exact c
  ·intro hx
   have:x∈A:=(mem x).2 (by rw[eb];exact List.mem_cons_of_mem _ hx)
   rw[ea] at this
   rcases List.mem_cons.1 this with c|c
   ·subst c;exact absurd hx (notin pb lt)
   ·exact c
 rw[ea,eb,JO has s t pa pb mm]
end
section
def BX (p q:Ai):Bool:=decide (p.1<q.1)||(decide (p.1=q.1)&&decide (p.2<q.2))
theorem H8 {p q:Ai}:BX p q=true↔Gm p q:=by unfold BX Gm;simp
def BV (l:List Ai):Nat→Nat
 |0=>0
 |k+1=>if BX (Ae l k) (Ae l (BV l k)) then k else BV l k
theorem GN (l:List Ai): ∀k,(BV l k=0∨BV l k<k)∧ ∀i,i<k→ ¬Gm (Ae l i) (Ae l (BV l k)):=by
 intro k
 induction k with
 |zero=>exact⟨Or.inl rfl,fun i h=>by omega⟩
 |succ k ih=>
  unfold BV
  split
  ·rename_i c
   refine⟨Or.inr (by omega),fun i hi=> ?_⟩
   rcases Nat.eq_or_lt_of_le (show i≤k by omega) with rfl|q
   ·exact Qy _
   ·intro hp
    have hc:=H8.1 c
    have a:=ih.2 i q
    -- i < k < the least one
    apply a
    unfold Gm at*
    rcases hp with hp|⟨hp,hp2⟩<;>rcases hc with hc|⟨hc,hc2⟩<;>grind
  ·rename_i c
   refine⟨by rcases ih.1 with a|a<;>omega,fun i hi=> ?_⟩
   rcases Nat.eq_or_lt_of_le (show i≤k by omega) with rfl|q
   ·intro hp;exact c (H8.2 hp)
   ·exact ih.2 i q
def Bv (l:List Ai):List Ai:=DE (BV l l.length) l
theorem FH (l:List Ai):BV l l.length≤l.length:=by
 rcases(GN l l.length).1 with a|a<;>omega
theorem Kr {l:List Ai}:DB (Bv l):=by
 intro p hp
 unfold Bv at*
 rw[E6 (FH l),Nat.zero_add]
 obtain⟨i,hi,rfl⟩:=E5 (Kk.1 hp)
 exact(GN l l.length).2 i hi
theorem FM {l:List Ai} {x:Ai}:x∈Bv l↔x∈l:=Kk
theorem KX {l:List Ai} (h:Bb l):Bb (Bv l):=h.rot (FH l)
theorem M6 {l:List Ai} {x:Ai} (h:DI l x):DI (Bv l) x:=h.rot (FH l)
theorem Lm {l:List Ai} (h:DB l) (h3:0<l.length):Bv l=l:=by
 have e: ∀k,k≤l.length→BV l k=0:=by
  intro k
  induction k with
  |zero=>intro _;rfl
  |succ k ih=>
   intro hk
   unfold BV
   rw[ih (by omega)]
   exact if_neg fun c=>h _ (AZ h3 k) (H8.1 c)
 unfold Bv DE
 rw[e _ (Nat.le_refl _)]
 simp
def IQ (f:AF) (l:List Ai):Bool:=l.any fun p=>decide (f.at p<0)
theorem Di {f:AF} {l:List Ai}:IQ f l=true↔ ∃p∈l,f.at p<0:=by unfold IQ;simp
def A4 (f:AF) (l:List Ai):List Ai:=if IQ f l then Bv (AP f l) else[]
def CK (l:List Ai) (x:Ai):Prop:= ∀g:AF,(∀p∈l,0≤g.at p)→0≤g.at x
theorem CK.trans {l m:List Ai} {x:Ai} (h:CK m x) (hm: ∀y∈m,CK l y):CK l x:=fun g hg=>h g fun y hy=>hm y hy g hg
theorem CK.ins {l:List Ai} (h:Bb l) {x:Ai} (hx:CK l x):DI l x:=by
 intro i hi
 rw[←Fa]
 refine hx _ fun p hp=> ?_
 obtain⟨k,hk,rfl⟩:=E5 hp
 rw[Fa]
 exact h.side hi (Nat.le_of_lt hk)
def AF.neg (f:AF):AF:=⟨-f.a, -f.b, -f.c⟩
theorem AF.neg_at (f:AF) (x:Ai):f.neg.at x= -f.at x:=by unfold AF.at AF.neg;grind
theorem CK.le {l:List Ai} {x:Ai} (h:CK l x) {f:AF} (hf: ∀p∈l,f.at p≤0):f.at x≤0:=by
 have:=h f.neg fun p hp=>by rw[AF.neg_at];have:=hf p hp;grind
 rw[AF.neg_at] at this
 grind
theorem LQ {f:AF} {l:List Ai} {x:Ai} (hx:x∈AP f l):CK l x∧f.at x≤0:=by
 unfold AP at hx
 obtain⟨k,hk,rfl⟩:=List.mem_map.1 hx
 have kp:=(B5 k).1 hk
 have r:=kp.rng
 have i0:0<l.length:=by have:=kp.1;omega
 refine⟨fun g hg=> ?_,kp.le⟩
 unfold Bk
 rw[AF.cm]
 exact KS r.1 r.2 (hg _ (AZ i0 _)) (hg _ (AZ i0 _))
theorem M1 {α β:Type} {f g:α→List β}: ∀ {l:List α},(∀x∈l,f x=g x)→l.flatMap f=l.flatMap g:=by
 intro l
 induction l with
 |nil=>intro _;rfl
 |cons a l ih=>intro h;rw[List.flatMap_cons,List.flatMap_cons,h a List.mem_cons_self,ih fun x hx=>h x (List.mem_cons_of_mem _ hx)]
theorem Lh {α β:Type} (g:α→β) (l:List α):l.flatMap (fun a=>[g a])=l.map g:=by
 induction l with
 |nil=>rfl
 |cons a l ih=>rw[List.flatMap_cons,ih];rfl
theorem QZ (l:List Ai):(List.range l.length).map (Ae l)=l:=by
 apply List.ext_getElem
 ·simp
 ·intro i h1 h2
  rw[List.getElem_map,List.getElem_range,B2 h2]
theorem Nl {f:AF} {l:List Ai} (h: ∀p∈l,f.at p≤0):AP f l=l:=by
 have e:B8 (Ae l) l.length f=(List.range l.length).map fun i=>(i,(0:Rat)):=by
  unfold B8
  rw[←Lh]
  refine M1 fun i hi=> ?_
  have hi:=List.mem_range.1 hi
  have a:=h _ (AZ (show 0<l.length by omega) i)
  have b:=h _ (AZ (show 0<l.length by omega) (i+1))
  have m:=Rat.mul_nonneg (show 0≤ -f.at (Ae l i) by grind) (show 0≤ -f.at (Ae l (i+1)) by grind)
  rw[if_pos a,if_neg (by grind)]
  rfl
 unfold AP
 rw[e,List.map_map]
 conv=>rhs;rw[←QZ l]
 refine List.map_congr_left fun i _=> ?_
 show Bk (Ae l) (i,0)=Ae l i
 unfold Bk
 rw[H3]
theorem Cg {f:AF} {l:List Ai} (h:Bb l) {p:Ai} (hp:p∈l) (hf:f.at p<0):Bb (A4 f l):=by
 unfold A4
 rw[if_pos (Di.2 ⟨p,hp,hf⟩)]
 exact KX (I9 h hp hf)
theorem Gl {f:AF} {l:List Ai} {p:Ai} (hp:p∈l) (hf:f.at p<0):DB (A4 f l):=by
 unfold A4
 rw[if_pos (Di.2 ⟨p,hp,hf⟩)]
 exact Kr
theorem BE {f:AF} {l:List Ai} {x:Ai} (hx:x∈A4 f l):CK l x∧f.at x≤0:=by
 unfold A4 at hx
 split at hx
 ·exact LQ (FM.1 hx)
 ·exact absurd hx (by simp)
theorem ED {f:AF} {l:List Ai} (h:Bb l) {p:Ai} (hp:p∈l) (hf:f.at p<0) {x:Ai} (hx:DI l x) (hfx:f.at x≤0):DI (A4 f l) x:=by
 unfold A4
 rw[if_pos (Di.2 ⟨p,hp,hf⟩)]
 exact M6 (Nx h hp hf hx hfx)
theorem OA {f:AF} {l:List Ai} {p:Ai} (hp:p∈l) (hf:f.at p<0):p∈A4 f l:=by
 unfold A4
 rw[if_pos (Di.2 ⟨p,hp,hf⟩),FM]
 obtain⟨i,hi,rfl⟩:=E5 hp
 unfold AP
 refine List.mem_map.2 ⟨(i,0),(B5 _).2 ⟨hi,Or.inl ⟨I,Rat.le_of_lt hf⟩⟩, ?_⟩
 unfold Bk
 rw[H3]
theorem M9 {f:AF} {l:List Ai} (h:Bb l) {p:Ai} (hp:p∈l) (hf:f.at p<0):A4 f (A4 f l)=A4 f l:=by
 have hP:=Cg h hp hf
 have e:A4 f (A4 f l)=Bv (AP f (A4 f l)):=by
  conv=>lhs;unfold A4
  exact if_pos (Di.2 ⟨p,OA hp hf,hf⟩)
 rw[e,Nl fun x hx=>(BE hx).2,Lm (Gl hp hf) (by have:=hP.n3;omega)]
theorem DP {f:AF} {l:List Ai} (h: ∀p∈l,0≤f.at p):A4 f l=[]:=by
 unfold A4
 refine if_neg fun c=> ?_
 obtain⟨p,hp,hf⟩:=Di.1 c
 have:=h p hp
 grind
theorem Jg {f g:AF} {l:List Ai} (h:Bb l) {p q:Ai} (hp:p∈l) (hf:f.at p<0) (hq:q∈l) (hg:g.at q<0) {x:Ai} (hx:x∈A4 f l) (hgx:g.at x<0): ∃y∈A4 g l,f.at y<0:=by
 have hP:=Cg h hp hf
 have hC:=Cg hP hx hgx
 have c3:=hC.n3
 have hin: ∀u∈A4 g (A4 f l),DI (A4 g l) u∧f.at u≤0:=fun u hu=>by
  have a:=BE hu
  have b:CK l u:=a.1.trans fun y hy=>(BE hy).1
  exact⟨ED h hq hg (b.ins h) a.2,a.1.le fun y hy=>(BE hy).2⟩
 have hu: ∃u∈A4 g (A4 f l),f.at u<0:=by
  by_cases c: ∃u∈A4 g (A4 f l),f.at u<0
  ·exact c
  ·exfalso
   have z: ∀i,f.at (Ae (A4 g (A4 f l)) i)=0:=fun i=>by
    have m:=AZ (l:=A4 g (A4 f l)) (by omega) i
    have a:=(hin _ m).2
    rcases Bs (f.at (Ae (A4 g (A4 f l)) i)) 0 with d|d
    ·exact absurd ⟨_,m,d⟩ c
    ·grind
   have b:=Rk f (Ae (A4 g (A4 f l)) 0) (Ae (A4 g (A4 f l)) 1) (Ae (A4 g (A4 f l)) 2) p
   rw[z,z,z] at b
   have t:=hC.tri 0 1 2 (by omega) (by omega) (by omega)
   have:=Rat.mul_pos t (show 0< -f.at p by grind)
   grind
 obtain⟨u,hu,fu⟩:=hu
 have hQ:=Cg h hq hg
 have q3:=hQ.n3
 by_cases c: ∃y∈A4 g l,f.at y<0
 ·exact c
 ·exfalso
  have:=(hQ.fan (hin u hu).1 (g:=f) fun i hi=>by
   rcases Bs (f.at (Ae (A4 g l) i)) 0 with d|d
   ·exact absurd ⟨_,AZ (by omega) i,d⟩ c
   ·exact d).1
  grind
theorem Nf {f g:AF} {l:List Ai} (h:Bb l) {p q:Ai} (hp:p∈l) (hf:f.at p<0) (hq:q∈l) (hg:g.at q<0):A4 g (A4 f l)=A4 f (A4 g l):=by
 have hP:=Cg h hp hf
 have hQ:=Cg h hq hg
 by_cases c: ∃x∈A4 f l,g.at x<0
 ·obtain⟨x,hx,gx⟩:=c
  obtain⟨y,hy,fy⟩:=Jg h hp hf hq hg hx gx
  refine OW (Cg hP hx gx) (Cg hQ hy fy) (fun u hu=> ?_) (fun u hu=> ?_) (Gl hx gx) (Gl hy fy)
  ·have a:=BE hu
   have b:CK l u:=a.1.trans fun y hy=>(BE hy).1
   exact ED hP hx gx (ED h hp hf (b.ins h) a.2) (a.1.le fun y hy=>(BE hy).2)
  ·have a:=BE hu
   have b:CK l u:=a.1.trans fun y hy=>(BE hy).1
   exact ED hQ hy fy (ED h hq hg (b.ins h) a.2) (a.1.le fun y hy=>(BE hy).2)
 ·have d: ¬ ∃y∈A4 g l,f.at y<0:=fun⟨y,hy,fy⟩=>c (Jg h hq hg hp hf hy fy)
  have n1: ∀x∈A4 f l,0≤g.at x:=fun x hx=>by
   rcases Bs (g.at x) 0 with e|e
   ·exact absurd ⟨x,hx,e⟩ c
   ·exact e
  have n2: ∀x∈A4 g l,0≤f.at x:=fun x hx=>by
   rcases Bs (f.at x) 0 with e|e
   ·exact absurd ⟨x,hx,e⟩ d
   ·exact e
  rw[DP n1,DP n2]
theorem Px {f g:AF} {l:List Ai} (hg: ∀x∈l,0≤g.at x):A4 g (A4 f l)=[]:=
 DP fun _ hx=>(BE hx).1 g hg
end
section
def HH (F:Nat→Rat):Nat→Rat
 |0=>0
 |n+1=>HH F n+F n
def EF (p q:Ai):Rat:=p.1*q.2-q.1*p.2
def Cs (l:List Ai):Rat:=HH (fun i=>EF (Ae l i) (Ae l (i+1))) l.length
theorem Ht {u v:Rat}:u*v<0↔(u<0∧0<v)∨(0<u∧v<0):=by
 constructor
 ·intro h
  rcases Bs u 0 with a|a
  ·rcases Bs 0 v with b|b
   ·exact Or.inl ⟨a,b⟩
   ·have:=Rat.mul_nonneg (show 0≤ -u by grind) (show 0≤ -v by grind);grind
  ·rcases Bs v 0 with b|b
   ·refine Or.inr ⟨?_,b⟩
    rcases Bs 0 u with c|c
    ·exact c
    ·have e:u=0:=by grind
     rw[e] at h;grind
   ·have:=Rat.mul_nonneg a b;grind
 ·rintro(⟨a,b⟩|⟨a,b⟩)
  ·have:=Rat.mul_pos (show 0< -u by grind) b;grind
  ·have:=Rat.mul_pos a (show 0< -v by grind);grind
def MN (f:AF) (p q:Ai):List Ai:=(if f.at p≤0 then[p] else[])++(if f.at p*f.at q<0 then[CO (f.at p/(f.at p-f.at q)) p q] else[])
theorem Mq (P:Nat→Ai) (n:Nat) (f:AF):(B8 P (n+1) f).map (Bk P)=(B8 P n f).map (Bk P)++MN f (P n) (P (n+1)):=by
 unfold B8 MN
 rw[List.range_succ,List.flatMap_append,List.map_append]
 congr 1
 rw[List.flatMap_cons,List.flatMap_nil,List.append_nil,List.map_append]
 congr 1
 ·split
  ·show[Bk P (n,0)]=_
   unfold Bk;rw[H3]
  ·rfl
 ·split<;>rfl
end
section
def HM (l:List Ai):Rat:=HH (fun i=>((Ae l i).1+(Ae l (i+1)).1)*EF (Ae l i) (Ae l (i+1))) l.length
def H1 (l:List Ai):Rat:=HH (fun i=>((Ae l i).2+(Ae l (i+1)).2)*EF (Ae l i) (Ae l (i+1))) l.length
end
section
def JD (P:Nat→Ai) (n:Nat) (f:AF):List Gu:=(List.range n).flatMap fun i=>
 (if f.at (P i)=0 then[(i,0)] else[])++(if f.at (P i)*f.at (P (i+1))<0 then[(i,f.at (P i)/(f.at (P i)-f.at (P (i+1))))] else[])
def RC (P:Nat→Ai) (f:AF) (i:Nat):List Gu:=(if f.at (P i)=0 then[(i,0)] else[])++(if f.at (P i)*f.at (P (i+1))<0 then[(i,f.at (P i)/(f.at (P i)-f.at (P (i+1))))] else[])
theorem OT (P:Nat→Ai) (f:AF) (i:Nat):(RC P f i).length≤1:=by
 unfold RC
 split
 ·rename_i c
  rw[c,if_neg (by grind)]
  simp
 ·split<;>simp
theorem Lb {α β:Type} {g:α→List β} (h: ∀a,(g a).length≤1) (l:List α):(l.flatMap g).length≤l.length:=by
 induction l with
 |nil=>simp
 |cons a l ih=>rw[List.flatMap_cons,List.length_append,List.length_cons];have:=h a;omega
theorem NG (P:Nat→Ai) (n:Nat) (f:AF):(JD P n f).length≤n:=by
 have:=Lb (OT P f) (List.range n)
 rw[List.length_range] at this
 exact this
def Ey (f:AF) (l:List Ai):List Ai:=(JD (Ae l) l.length f).map (Bk (Ae l))
end
section
open Go Go.RowKit Go.Am Go.Lib
set_option maxRecDepth 10000
-- BOXES 3
-- CODE2
theorem PP (b:UInt8):decide (((b.toNat:Nat):Int)<48)=decide (b.toNat<48):=decide_eq_decide.2 (by omega)
theorem Qb (b:UInt8):decide (((b.toNat:Nat):Int)>57)=decide (57<b.toNat):=decide_eq_decide.2 (by omega)
def dgB (s:List UInt8):Bool:=decide (s=decDigits (AI s))
theorem Gg {s:List UInt8}:dgB s=true↔KW s:=by unfold dgB;rw[decide_eq_true_iff];exact N3.symm
theorem Pp {s:List UInt8} (h: ¬KW s):dgB s=false:=by
 cases e:dgB s
 ·rfl
 ·exact absurd (Gg.1 e) h
theorem GK (s:List UInt8) (hs:s.length<4611686018427387904):Bn Tryz.prog 119 [str s] (.bool (dgB s)):=by
 intro W
 refine Ab Tryz.func119 I I I ?_
 refine zA (zB (wP I (Aa (AG (Ax (Ax ?_))))))
 refine AA (X:=Unit) (fun _=>[(0,str s),(16, .bool (decide (s=[]∨(1<s.length∧s[0]? =some 48))))]) (fun _=>[]) (fun _=>True) ?_ ?_
 ·refine zB (wP I (wP I ?_))
  refine Ad 5 (.int .i64 (s.length:Nat)) I (congrArg (fun n:Nat=>Value.int .i64 (n:Int)) (At s)) ?_
  refine wP I ?_
  by_cases h0:s=[]
  ·refine wU 6 true I (by rw[h0];rfl) (wP I ?_)
   iterate 8 refine Ak I I ?_
   exact wP I (Aa (An () tO ⟨I,by rw[dT (Or.inl h0)];rfl,tO⟩ [] I))
  ·have hpos:0<s.length:=List.length_pos_iff.2 h0
   refine wU 6 false I (by rw[beq_eq_false_iff_ne];omega) (wP I (wP I (wP I ?_)))
   refine Ad 9 (.int .i64 (s.length:Nat)) I (congrArg (fun n:Nat=>Value.int .i64 (n:Int)) (At s)) ?_
   refine wP I ?_
   by_cases h1:1<s.length
   ·refine wU 10 true I (dT (by omega)) ?_
    obtain⟨b,hb⟩: ∃b,s[0]? =some b:=⟨s[0],List.getElem?_eq_getElem hpos⟩
    refine wP I (wP I ?_)
    refine AQ 0 tH I I I I I I I I hb ?_
    refine wP I (wU 14 (decide (b=48)) I (CL b 48) (wP I (wP I (Aa ?_))))
    refine An () tO ⟨I, ?_,tO⟩ [] I
    have e:decide (s=[]∨(1<s.length∧s[0]? =some 48))=decide (b=48):=by
     rw[decide_eq_decide,hb]
     constructor
     ·rintro(h|⟨_,h⟩)
      ·exact absurd h h0
      ·exact Option.some.inj h
     ·intro h;exact .inr ⟨h1,by rw[h]⟩
    rw[e];rfl
   ·refine wU 10 false I (dF (by omega)) (wP I ?_)
    iterate 3 refine Ak I I ?_
    exact wP I (wP I (Aa (An () tO ⟨I,by rw[show decide (s=[]∨1<s.length∧s[0]? =some 48)=false from dF (fun h=>h.elim h0 (fun h=>h1 h.1))];rfl,tO⟩ [] I)))
 intro _ _
 refine As I (fun hc=> ?_) (fun hc=> ?_)
 ·have hc:=of_decide_eq_true hc
  refine zA (zB (wP I (Aa (zE (zO (zP ?_))))))
  refine wR1 I I ?_
  rw[Pp fun h=> ?_]
  rcases hc with hc|⟨h1,h2⟩
  ·exact h.ne hc
  ·exact h.lead h1 h2
 have hc:=of_decide_eq_false hc
 have hne:s≠[]:=fun h=>hc (.inl h)
 have hlead:1<s.length→s[0]? ≠some 48:=fun h1 h2=>hc (.inr ⟨h1,h2⟩)
 refine zI (zE (zA (zA (zB (wP I (Aa (zE (zH ?_))))))))
 refine A8 (X:=Nat) (fun i=>[(0,str s),(3, .int .i64 (i:Nat))]) (fun _=>[]) (fun i=>i≤s.length∧ ∀b∈s.take i,De b=true) (fun i=>s.length-i) 0 ⟨Nat.zero_le _,fun b hb=>by simp at hb⟩ ⟨I,I,tO⟩ [] I ?_
 rintro i ⟨hi,hdg⟩
 have hi:i≤s.length:=hi
 have hdg: ∀b∈s.take i,De b=true:=hdg
 refine zA (zA (zB (wP I (wP I (wP I ?_)))))
 refine Ad 19 (.int .i64 (s.length:Nat)) I (congrArg (fun n:Nat=>Value.int .i64 (n:Int)) (At s)) ?_
 refine wP I ?_
 by_cases hlt:i<s.length
 ·refine wU 20 true I (dT (by omega)) (Aa (zE (zR I (zI (zE (zA (zH (zA (zB ?_)))))))))
  obtain⟨b,hb⟩: ∃b,s[i]? =some b:=⟨s[i],List.getElem?_eq_getElem hlt⟩
  have hbm:b∈s:=List.mem_of_getElem? hb
  refine wP I (wP I ?_)
  refine AQ i tH I I I I I I I I hb ?_
  refine wP I ?_
  by_cases h48:b.toNat<48
  ·refine wU 26 true I ((PP b).trans (dT h48)) (wP I ?_)
   iterate 4 refine Ak I I ?_
   refine wP I (Aa (zE (zR I (zA (zB (wP I (Aa (zE (zO (zQ (zP (zP (zQ ?_)))))))))))))
   refine zP ?_
   refine wR1 I I ?_
   rw[Pp fun h=>by have:=Ch.1 (h.all b hbm);omega]
  ·refine wU 26 false I ((PP b).trans (dF h48)) (wP I (wP I (wP I ?_)))
   refine AQ i tH I I I I I I I I hb ?_
   refine wP I ?_
   by_cases h57:57<b.toNat
   ·refine wU 31 true I ((Qb b).trans (dT h57)) (wP I (Aa (zE (zR I (zA (zB (wP I (Aa (zE (zO (zQ (zP (zP ?_)))))))))))))
    refine zQ (zP ?_)
    refine wR1 I I ?_
    rw[Pp fun h=>by have:=Ch.1 (h.all b hbm);omega]
   ·refine wU 31 false I ((Qb b).trans (dF h57)) (wP I (Aa (zE (zS I (zI (zN (zE (zB (wP I (wP I (wV 22 ((i+1:Nat):Int) I (Az (by omega)) (wP I (Aa ?_)))))))))))))
    refine A0 (i+1) ⟨hlt,fun c hc=> ?_⟩ (by show s.length-(i+1)<s.length-i;omega) ⟨I,I,tO⟩ [] I
    rw[List.take_add_one,hb,List.mem_append] at hc
    rcases hc with hc|hc
    ·exact hdg c hc
    ·obtain rfl:c=b:=by simpa using hc
     exact Ch.2 ⟨by omega,by omega⟩
 ·refine wU 20 false I (dF (by omega)) (Aa (zE (zS I (zJ (zK (zK (zL (zE (zA (zB (wP I (Aa (zE ?_)))))))))))))
  refine zO ?_
  refine wR1 I I ?_
  rw[List.take_of_length_le (by omega)] at hdg
  rw[Gg.2 ⟨hne,hdg,hlead⟩]
theorem Jb (a b:Nat) (ha:a<9223372036854775808) (hb:b<9223372036854775808):Bn Tryz.prog 120 [.int .i64 (a:Nat), .int .i64 (b:Nat)] (.int .i64 (Nat.gcd a b:Nat)):=by
 intro W
 refine Ab Tryz.func120 I I I ?_
 refine zA (zB (wP I (Aa (zE (zA (zH ?_))))))
 refine A8 (X:=Nat×Nat) (fun x=>[(0, .int .i64 (x.1:Nat)),(1, .int .i64 (x.2:Nat))]) (fun _=>[]) (fun x=>x.1<9223372036854775808∧x.2<9223372036854775808∧Nat.gcd x.1 x.2=Nat.gcd a b) (fun x=>x.2) (a,b) ⟨ha,hb,I⟩ ⟨I,I,tO⟩ [] I ?_
 rintro⟨x,y⟩ ⟨hx,hy,hg⟩
 have hx:x<9223372036854775808:=hx
 have hy:y<9223372036854775808:=hy
 have hg:Nat.gcd x y=Nat.gcd a b:=hg
 refine zA (zA (zB (wP I (wP I (Aa (zE ?_))))))
 by_cases h0:y=0
 ·refine AW 6 (.bool false) I (congrArg Value.bool (by rw[bne_eq_false_iff_eq];omega)) ?_
  exact zS I (zJ (zK (zK (zL (zE (zA (zB (wP I (wP I (Aa (zE (zO (wR1 I I (by rw[←hg,h0,Nat.gcd_zero_right]))))))))))))))
 ·refine AW 6 (.bool true) I (congrArg Value.bool (by rw[bne_iff_ne];omega)) ?_
  refine zR I (zI (zE (zH (zU (qP I (qP I (qP I ?_)))))))
  refine DJ I I I I I (by omega) ?_
  refine qP I (qP I (AR (Aa (zN ?_))))
  have hr:x%y<y:=Nat.mod_lt _ (by omega)
  exact A0 (y,x%y) ⟨hy,Nat.lt_trans hr hy,by show Nat.gcd y (x%y)=_;rw[Nat.gcd_comm, ←Nat.gcd_rec,Nat.gcd_comm];exact hg⟩ hr ⟨I,I,tO⟩ [] I
theorem BO (s:List UInt8) (hs:s.length≤18) (hd: ∀b∈s,De b=true):Bn Tryz.prog 121 [str s] (.int .i64 (AI s:Nat)):=by
 intro W
 have hlt: ∀i,AI (s.take i)<1000000000000000000:=fun i=>by
  have h1:=EZ (s.take i).length (s:=s.take i) rfl fun b hb=>hd b (List.mem_of_mem_take hb)
  have h2:(s.take i).length≤18:=by rw[List.length_take];omega
  exact Nat.lt_of_lt_of_le h1 (Nat.pow_le_pow_right (by decide) h2)
 refine Ab Tryz.func121 I I I ?_
 refine zA (zB (wP I (Aa (zE (zA (zB (wP I (Aa (zE (zA (zA (zB (wP I ?_)))))))))))))
 refine Aa (zE (zH ?_))
 refine A8 (X:=Nat) (fun i=>[(0,str s),(3, .int .i64 (AI (s.take i):Nat)),(4, .int .i64 (i:Nat))]) (fun _=>[]) (fun i=>i≤s.length) (fun i=>s.length-i) 0 (Nat.zero_le _) ⟨I,I,I,tO⟩ [] I ?_
 intro i hi
 have hi:i≤s.length:=hi
 refine zA (zA (zB (wP I (wP I (wP I ?_)))))
 refine Ad 7 (.int .i64 (s.length:Nat)) I (congrArg (fun n:Nat=>Value.int .i64 (n:Int)) (At s)) ?_
 refine wP I ?_
 by_cases h:i<s.length
 ·refine wU 8 true I (dT (by omega)) (Aa (zE (zR I (zI (zE (zA (zH (zB ?_))))))))
  obtain⟨b,hb⟩: ∃b,s[i]? =some b:=⟨s[i],List.getElem?_eq_getElem h⟩
  have hdb:=Ch.1 (hd b (List.mem_of_getElem? hb))
  have e1:AI (s.take (i+1))=10*AI (s.take i)+(b.toNat-48):=by
   rw[List.take_add_one,hb];exact CB _ _
  have l1:=hlt i
  have l2:=hlt (i+1)
  refine wP I (wP I (wV 12 ((10*AI (s.take i):Nat):Int) I (show w64 (10*(AI (s.take i):Nat))=_ by rw[Ar (by omega) (by omega)];omega) (wP I (wP I ?_))))
  refine AQ i tH I I I I I I I I hb ?_
  refine wP I ?_
  refine Ad 16 (.int .u8 ((b.toNat-48:Nat):Int)) I (congrArg (Value.int .u8) (show IntKind.u8.wrap ((b.toNat:Nat)-48)=_ by
   simp only[IntKind.wrap,IntKind.signed,IntKind.bits];simp;omega)) ?_
  refine IT Tryz.underlying5 Tryz.underlying3 I I I I ?_
  exact wV 17 ((b.toNat-48:Nat):Int) I (B0 (by omega)) (wP I (wV 18 ((AI (s.take (i+1)):Nat):Int) I (show w64 (((10*AI (s.take i):Nat):Int)+((b.toNat-48:Nat):Int))=_ by rw[Ar (by omega) (by omega),e1];omega) (wP I (Aa (zN (zE (zB (wP I (wP I (wV 10 ((i+1:Nat):Int) I (Az (by omega)) (wP I (Aa (A0 (i+1) h (by show s.length-(i+1)<s.length-i;omega) ⟨I,I,I,tO⟩ [] I)))))))))))))
 ·refine wU 8 false I (dF (by omega)) (Aa (zE (zS I (zJ (zK (zK (zL (zE (zA (zB (wP I (wP I (Aa ?_)))))))))))))
  exact zE (zO (wR1 I I (by rw[List.take_of_length_le (by omega)])))
-- BOXES 3
-- CODE2
section
variable {r:Option Nat} {n:Nat} {P:Program} {N:Nat} {D:List Deferred} {ops:List Oper} {Q:Exit→Act→World→Prop} {o:Oper} {rest:List Oper} {env:Env} {A:World→Prop} {A2:World→Prop} {R:Act→World→Prop}
theorem Rq {T:Tbl} {i:TI} {ρ:Operand→Value} {a:List UInt8} {t:TypeId} {x y:Operand} {k:IntKind} (l:Nat) (hT:Go.Am.okB P T=true) (ho:o.op= .slice t x none (some y) none) (ht:BZ T t=some i) (hk:i.kind=1)
  (hx:ρ x=str a) (hy:ρ y= .int k l) (h1:l≤a.length) (W:World):(execOp ρ o).run P W= .ok (.value (str (a.take l))) W:=by
 have hu:=FL (Bt hT ht) hk
 have hsz:(⟨a.toArray⟩:ByteArray).size=a.length:=by show a.toArray.size=_;simp
 have e:(⟨a.toArray⟩:ByteArray).extract 0 l=⟨(a.take l).toArray⟩:=by
  apply ByteArray.ext
  rw[ByteArray.data_extract]
  apply Array.toList_inj.1
  simp[List.extract_eq_take_drop]
 simp[execOp,ho,Instr.sliceAt,Instr.slice,Instr.sliceBounds,Instr.sliceBound,hx,hy,asIntOf,run_underlying hu,hsz,h1,e]
theorem T0 (l:Nat) {T:Tbl} {i:TI} {a:List UInt8} {d:Nat} {t:TypeId} {x y:Operand} {k:IntKind} {z:Int} (hT:Go.Am.okB P T=true) (hg:Ay ops N env o=some true) (hd:o.dst=some d) (ho:o.op= .slice t x none (some y) none) (ht:BZ T t=some i) (hk:i.kind=1)
  (hx:evO N env x=some (str a)) (hy:evO N env y=some (.int k z)) (hz:z=l) (h1:l≤a.length)
  (hn:WQ P N D ops A2 R rest ((d,str (a.take l))::env) A):WQ P N D ops A2 R (o::rest) env A:=
 D7 hg hd (fun c e=>by rw[ho] at e;cases e) (fun ρ W hρ _=>Rq l hT ho ht hk (hρ _ _ hx) (by rw[←hz];exact hρ _ _ hy) h1 W) hn
end
section
variable {n:Nat} {P:Program} {W0:World} {N:Nat} {env:Env} {bxs:List Bx}
theorem JC {fn:Func} {T:Tbl} {r1 r2 r3 r4:ResultVar} {v1 v2 v3 v4:Value} {X:Type} {val:X→Value} {Φ:X→Prop} {nb:X→List Bx} (hT:Go.Am.okB P T=true) (hr:fn.results= #[r1,r2,r3,r4])
  (h1:Res P T env bxs N r1 v1) (h2:Res P T env bxs N r2 v2) (h3:Res P T env bxs N r3 v3) (h4:Res P T env bxs N r4 v4)
  (x:X) (hv: .tuple #[v1,v2,v3,v4]=val x) (hx:Φ x) (hnb: ∀W,Hp W0 bxs W→Ao W0 W (nb x)):NE N [] (Hl P fn W0 val Φ nb) .ret env (Hp W0 bxs):=
 Kx (rvs:=[r1,r2,r3,r4]) (vs:=[v1,v2,v3,v4]) hT hr rfl (fun i h _=>by
  match i,h with
  |0,_=>exact h1
  |1,_=>exact h2
  |2,_=>exact h3
  |3,_=>exact h4
  |i+4,h=>exact absurd h (by show¬i+4<4;omega)) x (by simpa using hv) hx hnb
end
def No (a:List UInt8):Value:= .tuple #[.bool (hasPrefix a [45]),str (cut (trimPrefix a [45]) [47]).1,str (cut (trimPrefix a [45]) [47]).2.1, .bool (cut (trimPrefix a [45]) [47]).2.2]
theorem Fb (a:List UInt8) (ha:a.length<4611686018427387904):Bn Tryz.prog 118 [str a] (No a):=by
 intro W
 refine Ab Tryz.func118 I I I ?_
 refine zA (zB (wP I (wP I (wP I (wP I (Aa (zE (zA (zB (wP I (wP I (Aa (AG ?_)))))))))))))
 refine Ax ?_
 refine AA (X:=Unit) (fun _=>[(6,str a),(7, .bool (hasPrefix a [45]))]) (fun _=>[]) (fun _=>True) ?_ ?_
 ·refine zB (wP I (wP I ?_))
  refine Ad 11 (.int .i64 (a.length:Nat)) I (congrArg (fun n:Nat=>Value.int .i64 (n:Int)) (At a)) ?_
  refine wP I ?_
  cases ea:a with
  |nil=>
   refine Ad 12 (.bool false) I I ?_
   refine wP I ?_
   iterate 3 refine Ak I I ?_
   exact wP I (wP I (Aa (An () tO ⟨I,I,tO⟩ [] I)))
  |cons b t=>
   refine wU 12 true I (dT (by show(((b::t).length:Nat):Int)>0;rw[List.length_cons];omega)) (wP I (wP I ?_))
   refine AQ 0 tH I I I I I I I I (show(b::t)[0]? =some b from I) ?_
   exact wP I (wU 16 (hasPrefix (b::t) [45]) I ((CL b 45).trans (by rw[Bh];exact decide_eq_decide.2 (by simp))) (wP I (wP I (Aa (An () tO ⟨I,I,tO⟩ [] I)))))
 intro _ _
 refine zA (zA (zB (wP I (Aa (AG ?_)))))
 try refine Ax ?_
 obtain⟨b,hb⟩: ∃b,b=trimPrefix a [45]:=⟨_,rfl⟩
 have hbl:b.length≤a.length:=by rw[hb,AO];split<;>simp
 refine AA (X:=Unit) (fun _=>[(6,str b),(7, .bool (hasPrefix a [45]))]) (fun _=>[]) (fun _=>True) ?_ ?_
 ·refine As I (fun hm=> ?_) (fun hm=> ?_)
  ·have hm:a[0]? =some 45:=by rw[Bh] at hm;exact of_decide_eq_true hm
   have h1:1≤a.length:=(List.getElem?_eq_some_iff.1 hm).1
   refine zB (wP I ?_)
   refine Eu 1 tH I I I I I I I I h1 ?_
   exact wP I (Aa (An () tO ⟨by rw[hb,AO,if_pos hm];rfl,I,tO⟩ [] I))
  ·have hm: ¬a[0]? =some 45:=by rw[Bh] at hm;exact of_decide_eq_false hm
   exact zI (An () tO ⟨by rw[hb,AO,if_neg hm];rfl,I,tO⟩ [] I)
 intro _ _
 refine zA (zA (zB (wP I (Aa (zE (zH ?_))))))
 refine A8 (X:=Nat) (fun i=>[(6,str b),(7, .bool (hasPrefix a [45])),(8, .int .i64 (i:Nat))]) (fun _=>[]) (fun i=>i≤b.length∧47∉b.take i) (fun i=>b.length-i) 0 ⟨Nat.zero_le _,by simp⟩ ⟨I,I,I,tO⟩ [] I ?_
 rintro i ⟨hi,hno⟩
 have hi:i≤b.length:=hi
 have hno:47∉b.take i:=hno
 refine zA (zA (zB (wP I (wP I (wP I ?_)))))
 refine Ad 23 (.int .i64 (b.length:Nat)) I (congrArg (fun n:Nat=>Value.int .i64 (n:Int)) (At b)) ?_
 refine wP I ?_
 by_cases hlt:i<b.length
 ·refine wU 24 true I (dT (by omega)) (Aa (zE (zR I (zI (zE (zA (zH (zA (zB ?_)))))))))
  obtain⟨c,hc⟩: ∃c,b[i]? =some c:=⟨b[i],List.getElem?_eq_getElem hlt⟩
  refine wP I (wP I ?_)
  refine AQ i tH I I I I I I I I hc ?_
  refine wP I (wU 30 (decide (c=47)) I (CL c 47) (Aa (zE ?_)))
  refine As I (fun h47=> ?_) (fun h47=> ?_)
  ·have h47:c=47:=of_decide_eq_true h47
   have eb:b=b.take i++47::b.drop (i+1):=by
    conv=>lhs;rw[←List.take_append_drop i b]
    rw[List.drop_eq_getElem_cons hlt]
    have:b[i]=47:=by rw[List.getElem?_eq_getElem hlt] at hc;rw[Option.some.inj hc];exact h47
    rw[this]
   have ec:=Ft (b.drop (i+1)) hno
   rw[←eb,hb] at ec
   refine zA (zU (qP I (qP I (qP I ?_))))
   refine T0 i tH I I I I I I I I (by omega) ?_
   refine qP I (qP I (qP I (qV 37 ((i+1:Nat):Int) I (Az (by omega)) ?_)))
   refine M2 (i+1) tH I I I I I I I I (by omega) ?_
   exact qP I (qP I (qP I (qP I (AR (Aa (zE (zO (zQ (zP (zP (zQ (zP (JC tH I (.tmp I) (.tmp I) (.tmp I) (.tmp I) () (by rw[No,ec,hb]) tO fun W _=>Ao.nil _ _)))))))))))))
  ·have h47: ¬c=47:=of_decide_eq_false h47
   refine zI (zN (zE (zB (wP I (wP I (wV 26 ((i+1:Nat):Int) I (Az (by omega)) (wP I (Aa ?_))))))))
   refine A0 (i+1) ⟨hlt,fun h=> ?_⟩ (by show b.length-(i+1)<b.length-i;omega) ⟨I,I,I,tO⟩ [] I
   rw[List.take_add_one,hc,List.mem_append] at h
   rcases h with h|h
   ·exact hno h
   ·exact h47 (by simpa using h:(47:UInt8)=c).symm
 ·refine wU 24 false I (dF (by omega)) (Aa (zE (zS I (zJ (zK (zK (zL (zE (zA (zB ?_))))))))))
  rw[List.take_of_length_le (by omega)] at hno
  have ec:=DW hno
  rw[hb] at ec
  iterate 6 refine wP I ?_
  exact Aa (zE (zO (JC tH I (.tmp I) (.tmp I) (.tmp I) (.tmp I) () (by rw[No,ec,hb]) tO fun W _=>Ao.nil _ _)))
theorem Mo {z:Int} {d:Nat} (_hd:1≤d):hasPrefix (Ex z d) [45]=decide (z<0)∧cut (trimPrefix (Ex z d) [45]) [47]=(decDigits z.natAbs,if d=1 then[] else decDigits d,decide (d≠1)):=by
 have hn47:(47:UInt8)∉decDigits z.natAbs:=fun h=>by have:=E2 _ _ h;exact absurd this.1 (by decide)
 have hp: ∀r,hasPrefix (itoa z++r) [45]=decide (z<0):=fun r=>by
  rw[Bh]
  unfold itoa
  split
  ·rename_i h;rw[dT h];rfl
  ·rename_i h
   rw[dF h]
   obtain⟨b,t,hb,h3,_⟩:=Co z.toNat
   rw[hb]
   refine dF fun e=> ?_
   have e:b=45:=by simpa using e
   rw[e] at h3;exact absurd h3 (by decide)
 have ht: ∀r,trimPrefix (itoa z++r) [45]=decDigits z.natAbs++r:=fun r=>by
  have h1:=hp r
  rw[AO]
  rw[Bh] at h1
  by_cases hz:z<0
  ·rw[dT hz] at h1
   rw[if_pos (of_decide_eq_true h1)]
   unfold itoa
   rw[if_pos hz];rfl
  ·rw[dF hz] at h1
   rw[if_neg (of_decide_eq_false h1)]
   unfold itoa
   rw[if_neg hz,show z.toNat=z.natAbs by omega]
 unfold Ex
 by_cases h1:d=1
 ·rw[if_pos h1]
  have e1:=hp []
  have e2:=ht []
  rw[List.append_nil] at e1 e2
  rw[List.append_nil] at e2
  exact⟨e1,by rw[e2,DW hn47,if_pos h1,h1];rfl⟩
 ·rw[if_neg h1]
  exact⟨hp _,by rw[ht,Ft _ hn47,if_neg h1,dT (show d≠1 from h1)]⟩
theorem Mi (q:Rat):No (Af q)= .tuple #[.bool (decide (q.num<0)),str (decDigits q.num.natAbs),str (if q.den=1 then[] else decDigits q.den), .bool (decide (q.den≠1))]:=by
 obtain⟨h1,h2⟩:=Mo (z:=q.num) q.den_pos
 unfold No Af
 rw[h1,h2]
def Eb (q:Rat):Bool:=decide ((decDigits q.num.natAbs).length≤9)&&(decide (q.den=1)||decide ((decDigits q.den).length≤9))
theorem KG {n:Nat} (h:(decDigits n).length≤9):n<1000000000:=Nat.lt_of_lt_of_le (CM n) (Nat.pow_le_pow_right (by decide) h)
theorem ID {q:Rat} (h:Eb q=true):q.num.natAbs<1000000000∧q.den<1000000000:=by
 unfold Eb at h
 simp only[Bool.and_eq_true,Bool.or_eq_true,decide_eq_true_eq] at h
 refine⟨KG h.1, ?_⟩
 rcases h.2 with e|e
 ·rw[e];decide
 ·exact KG e
theorem OZ (q:Rat) (hl:(Af q).length<4611686018427387904):Bn Tryz.prog 97 [str (Af q)] (if Eb q=true then .tuple #[.int .i64 q.num, .int .i64 (q.den:Nat), .bool true] else .tuple #[.int .i64 0, .int .i64 0, .bool false]):=by
 intro W
 obtain⟨n,hn⟩: ∃n,n=decDigits q.num.natAbs:=⟨_,rfl⟩
 obtain⟨e,he⟩: ∃e,e=(if q.den=1 then[] else decDigits q.den):=⟨_,rfl⟩
 have hsp:Ah Tryz.prog 118 #[str (Af q)] W (fun _:Unit=> .tuple #[.bool (decide (q.num<0)),str n,str e, .bool (decide (q.den≠1))]) (fun _=>True) (fun _=>[]):=(Fb (Af q) hl W).cast (by rw[Mi,hn,he])
 have hsh:Eb q=(decide (n.length≤9)&&decide (e.length≤9)):=by
  unfold Eb
  rw[hn,he]
  by_cases h1:q.den=1
  ·rw[if_pos h1,dT h1];rfl
  ·rw[if_neg h1,dF h1,Bool.false_or]
 have hnd: ∀b∈n,De b=true:=by rw[hn];exact(Ef _).all
 refine Ab Tryz.func97 I I I ?_
 refine zA (zB (wP I (wP I (wP I (Aa (zE (zA (zB (wP I (wC I I (fun W1 hp=>(Fb (Af q) hl W1).cast (v':= .tuple #[.bool (decide (q.num<0)),str n,str e, .bool (decide (q.den≠1))]) (by rw[Mi,hn,he])) ?_))))))))))
 iterate 9 refine wP I ?_
 refine Aa ?_
 by_cases hs:Eb q=true
 ·rw[if_pos hs]
  have hs2:=hs
  rw[hsh,Bool.and_eq_true,decide_eq_true_eq,decide_eq_true_eq] at hs2
  obtain⟨hs2,hs3⟩:=hs2
  obtain⟨l1,l2⟩:=ID hs
  refine zE (zA (zA (zB (wP I (wP I ?_)))))
  refine Ad 19 (.int .i64 (n.length:Nat)) I (congrArg (fun n:Nat=>Value.int .i64 (n:Int)) (At n)) ?_
  refine wP I (wU 20 false I (dF (by omega)) (wP I (wP I (wP I ?_))))
  refine Ad 23 (.int .i64 (e.length:Nat)) I (congrArg (fun n:Nat=>Value.int .i64 (n:Int)) (At e)) ?_
  refine wP I (wU 24 false I (dF (by omega)) (wP I (Aa (zE (zS I (zI (zE (zA (zB (wP I (wC I I (fun W1 hp=>(BO n (by omega) hnd W1).cast (v':= .int .i64 (q.num.natAbs:Nat)) (by rw[hn,BA])) (wP I (wP I ?_)))))))))))))
  refine Aa (zE (zA (zA (zB (wP I (Aa (AG ?_)))))))
  try refine Ax ?_
  refine AA (X:=Unit) (fun _=>[(5, .bool (decide (q.num<0))),(9, .int .i64 (q.num.natAbs:Nat)),(10, .int .i64 (q.den:Nat))]) (fun _=>[]) (fun _=>True) ?_ ?_
  ·refine As I (fun h1=> ?_) (fun h1=> ?_)
   ·have h1:q.den≠1:=of_decide_eq_true h1
    have e1:e=decDigits q.den:=by rw[he,if_neg h1]
    exact zB (wP I (wC I I (fun W1 hp=>(BO e (by omega) (by rw[e1];exact(Ef _).all) W1).cast (v':= .int .i64 (q.den:Nat)) (by rw[e1,BA])) (wP I (Aa (An () tO ⟨I,I,I,tO⟩ [] I)))))
   ·have h1:q.den=1:=Decidable.byContradiction fun h=>absurd h1 (by rw[dT h];decide)
    exact zI (An () tO ⟨I,I,by rw[h1];rfl,tO⟩ [] I)
  intro _ _
  refine zA (zA (zB (wP I (Aa (AG ?_)))))
  try refine Ax ?_
  refine AA (X:=Unit) (fun _=>[(9, .int .i64 q.num),(10, .int .i64 (q.den:Nat))]) (fun _=>[]) (fun _=>True) ?_ ?_
  ·refine As I (fun h1=> ?_) (fun h1=> ?_)
   ·have h1:q.num<0:=of_decide_eq_true h1
    exact zB (wP I (wP I (wV 33 q.num I (by show w64 (0-((q.num.natAbs:Nat):Int))=_;rw[Ar (by omega) (by omega)];omega) (wP I (Aa (An () tO ⟨I,I,tO⟩ [] I))))))
   ·have h1: ¬q.num<0:=of_decide_eq_false h1
    exact zI (An () tO ⟨congrArg (fun z=>some (Value.int .i64 z)) (by omega),I,tO⟩ [] I)
  intro _ _
  refine zA (zB ?_)
  iterate 5 refine wP I ?_
  exact Aa (zE (zO (wR3 I I I)))
 ·rw[if_neg hs]
  have hs2: ¬(n.length≤9∧e.length≤9):=fun h=>hs (by rw[hsh,dT h.1,dT h.2];rfl)
  refine AG (Ax (Ax ?_))
  refine AA (X:=Unit) (fun _=>[(25, .bool true)]) (fun _=>[]) (fun _=>True) ?_ ?_
  ·refine zB (wP I (wP I ?_))
   refine Ad 19 (.int .i64 (n.length:Nat)) I (congrArg (fun n:Nat=>Value.int .i64 (n:Int)) (At n)) ?_
   refine wP I ?_
   by_cases h1:n.length≤9
   ·refine wU 20 false I (dF (by omega)) (wP I (wP I (wP I ?_)))
    refine Ad 23 (.int .i64 (e.length:Nat)) I (congrArg (fun n:Nat=>Value.int .i64 (n:Int)) (At e)) ?_
    exact wP I (wU 24 true I (dT (by omega)) (wP I (Aa (An () tO ⟨I,tO⟩ [] I))))
   ·refine wU 20 true I (dT (by omega)) (wP I ?_)
    iterate 3 refine Ak I I ?_
    exact wP I (Aa (An () tO ⟨I,tO⟩ [] I))
  intro _ _
  exact zR I (zA (zB (wP I (wP I (wP I (Aa (zE (zO (zP (wR3 I I I))))))))))
theorem Nh (q:Rat) (hl:(Af q).length≤1000):Bn Tryz.prog 99 [str (Af q)] (.tuple #[str (itoa q.num),str (decDigits q.den)]):=by
 intro W
 have hlen:(decDigits q.num.natAbs).length≤1000:=by
  have:=PJ (a:=Af q) (Fz q.num q.den_pos)
  omega
 refine Ab Tryz.func99 I I I ?_
 refine zA (zB (wP I (wP I (Aa (zE (zA (zB (wP I (wC I I (fun W1 hp=>(Fb (Af q) (by omega) W1).cast (Mi q)) ?_)))))))))
 iterate 9 refine wP I ?_
 refine Aa (zE (zA (zA (zB (wP I (Aa (AG ?_)))))))
 try refine Ax ?_
 refine AA (X:=Unit) (fun _=>[(5,str (itoa q.num)),(6,str (if q.den=1 then[] else decDigits q.den)),(7, .bool (decide (q.den≠1)))]) (fun _=>[]) (fun _=>True) ?_ ?_
 ·refine As I (fun h1=> ?_) (fun h1=> ?_)
  ·have h1:q.num<0:=of_decide_eq_true h1
   refine zB (wP I ?_)
   refine BG I I I I I (a:=[45]) (b:=decDigits q.num.natAbs) (by decide) (by omega) ?_
   exact wP I (Aa (An () tO ⟨by unfold itoa;rw[if_pos h1];rfl,I,I,tO⟩ [] I))
  ·have h1: ¬q.num<0:=of_decide_eq_false h1
   exact zI (An () tO ⟨by unfold itoa;rw[if_neg h1,show q.num.toNat=q.num.natAbs by omega];rfl,I,I,tO⟩ [] I)
 intro _ _
 refine zA (zA (zB (wP I (wP I (Aa (AG ?_))))))
 try refine Ax ?_
 refine AA (X:=Unit) (fun _=>[(5,str (itoa q.num)),(6,str (decDigits q.den))]) (fun _=>[]) (fun _=>True) ?_ ?_
 ·refine As I (fun h1=> ?_) (fun h1=> ?_)
  ·have h1:q.den=1:=Decidable.byContradiction fun h=>absurd h1 (by rw[dT h];decide)
   exact zB (wP I (Aa (An () tO ⟨I,by rw[h1,EJ];rfl,tO⟩ [] I)))
  ·have h1:q.den≠1:=Decidable.byContradiction fun h=>absurd h1 (by rw[dF h];decide)
   exact zI (An () tO ⟨I,by rw[if_neg h1];rfl,tO⟩ [] I)
 intro _ _
 exact zA (zB (wP I (wP I (wP I (wP I (Aa (zE (zO (wR2 I I I)))))))))
-- BOXES 1
-- CODE2
def byV (l:List UInt8):List Value:=l.map fun b=> .int .u8 (b.toNat:Int)
def zrV (k:Nat):List Value:=Cu [.int .u8 0] k
theorem I5 (k:Nat):(zrV k).length=k:=by unfold zrV;rw[Ff];simp
theorem S6 (k:Nat):zrV (k+1)=zrV k++[.int .u8 0]:=by
 induction k with
 |zero=>rfl
 |succ k ih=>
  have e: ∀j,zrV (j+1)=[.int .u8 0]++zrV j:=fun j=>rfl
  rw[e,ih, ←List.append_assoc, ←e,ih]
theorem PN {k:Nat} {c:UInt8} {suf:List UInt8}:BR (zrV (k+1)++byV suf) (0+k*1) [.int .u8 (c.toNat:Int)]=zrV k++byV (c::suf):=by
 rw[S6,show 0+k*1=(zrV k).length+0 by rw[I5];omega,List.append_assoc,M8]
 rfl
theorem PX {k:Nat} {l:List UInt8} {j:Nat} (hj:j<l.length):(zrV k++byV l)[k+j]? =some (.int .u8 (l[j].toNat:Int)):=by
 rw[List.getElem?_append_right (by rw[I5];omega),I5,Nat.add_sub_cancel_left]
 unfold byV
 rw[List.getElem?_map,List.getElem?_eq_getElem hj];rfl
theorem S0 (u:Nat):IntKind.u8.wrap ((48+u%10:Nat):Int)=((UInt8.ofNat (48+u%10)).toNat:Int):=by
 rw[N1 (by omega) (by omega),CE (Nat.mod_lt _ (by omega))]
-- BOXES 1
-- CODE2
theorem G8 (m:Nat) (hm:m<9223372036854775808):Bn Tryz.prog 163 [.int .i64 (m:Nat)] (str (decDigits m)):=by
 intro W
 have hlen:(decDigits m).length≤19:=CN 19 m (by omega) (by omega)
 refine Ab Tryz.func163 I I I ?_
 refine zA (zB (wP I (Aa (zE (zA (zB ?_))))))
 refine BK Tryz.vec233 20 I I I I I I I (by decide) (by decide) ?_
 intro b
 refine wP I (Aa (zE (zA (zB (wP I (wP I (wP I (Aa (zE (zH ?_))))))))))
 refine A8 (X:=Nat×List UInt8) (fun x=>[(0, .int .i64 (x.1:Nat)),(3, .slice (some ⟨b,0,none⟩) 20 20),(4, .int .i64 ((20-x.2.length:Nat):Int))]) (fun x=>[⟨b,5,zrV (20-x.2.length)++byV x.2,true,none⟩])
  (fun x=>x.1<9223372036854775808∧decDigits m=decDigits x.1++x.2) (fun x=>x.1) (m,[]) ⟨hm,by simp⟩ ⟨rfl,rfl,rfl,trivial⟩ [] rfl ?_
 rintro⟨u,suf⟩ ⟨hu0,hd0⟩
 have hu:u<9223372036854775808:=hu0
 have hd:decDigits m=decDigits u++suf:=hd0
 have hs:suf.length≤18:=by
  have h1:=congrArg List.length hd
  rw[List.length_append] at h1
  have h2:(decDigits u).length≠0:=fun e=>EK u (List.length_eq_zero_iff.1 e)
  omega
 refine zH (zA (zB (wP I (wP I (wV 9 ((19-suf.length:Nat):Int) I (show w64 (((20-suf.length:Nat):Int)-1)=_ by rw[Ar (by omega) (by omega)];omega) (wP I (Aa (zE (zA (zB (wP I (wP I (wP I ?_)))))))))))))
 refine EL I I I I I (by decide) ?_
 refine wV 13 ((u%10:Nat):Int) I (show Int.tmod (u:Nat) ((10:Nat):Int)=_ from(Int.ofNat_tmod _ _).symm) (wP I (wV 14 ((48+u%10:Nat):Int) I (show w64 (48+((u%10:Nat):Int))=_ by rw[Ar (by omega) (by omega)];omega) ?_))
 refine RW Tryz.underlying3 Tryz.underlying5 I I I I ?_
 refine Ad 15 (.int .u8 ((UInt8.ofNat (48+u%10)).toNat:Int)) I (congrArg (Value.int .u8) (S0 u)) ?_
 refine wJ ?_
 refine AC 0 (zrV (20-(UInt8.ofNat (48+u%10)::suf).length)++byV (UInt8.ofNat (48+u%10)::suf)) tH I I I I I I I I I I (by show 0+(19-suf.length)*1+1≤(zrV (20-suf.length)++byV suf).length;rw[List.length_append,I5];omega) (by
  rw[List.length_cons,show 20-(suf.length+1)=19-suf.length by omega]
  show BR (zrV (20-suf.length)++byV suf) _ _=_
  rw[show 20-suf.length=19-suf.length+1 by omega]
  exact PN) ?_
 refine Aa (zE (zA (zB (wP I ?_))))
 refine Df I I I I I (by decide) ?_
 refine wV 18 ((u/10:Nat):Int) I (show w64 (Int.tdiv (u:Nat) ((10:Nat):Int))=_ by rw[←Int.ofNat_tdiv,Ar (by omega) (by omega)]) (wP I (Aa (zE (zA (zB (wP I (wP I (Aa (zE ?_)))))))))
 generalize hc:UInt8.ofNat (48+u%10)=c at*
 refine As I (fun h=> ?_) (fun h=> ?_)
 ·have h0:u<10:=by have h':(((u/10:Nat):Int)==0)=true:=h;rw[beq_iff_eq] at h';omega
  have he:decDigits m=c::suf:=by rw[hd,decDigits_one h0, ←hc,Nat.mod_eq_of_lt h0];rfl
  refine zA (zB (wP I (wP I ?_)))
  refine FP (19-suf.length) tH I I I I I I I I (by omega) (by omega) ?_
  refine Ad 23 (.slice (some ⟨b,19-suf.length,none⟩) (c::suf).length (20-(19-suf.length))) I (by
   rw[if_neg (by omega),List.length_cons,show 20-(19-suf.length)=suf.length+1 by omega,show 0+(19-suf.length)*1=19-suf.length by omega]) ?_
  refine G3 0 (c::suf) (e:=5) (by kernel_rfl) Tryz.underlying5 (by kernel_rfl) I I I I I I I (fun j hj=>by
   show(zrV (20-(c::suf).length)++byV (c::suf))[19-suf.length+j]? =_
   rw[show 20-(c::suf).length=19-suf.length by rw[List.length_cons];omega]
   exact PX hj) ?_
  exact wP I (Aa (zE (zO (zQ (zP (zQ (wR1 I I (by rw[he]))))))))
 ·have h0: ¬u<10:=by have h':(((u/10:Nat):Int)==0)=false:=h;rw[beq_eq_false_iff_ne] at h';omega
  refine zI (zN ?_)
  refine A0 (u/10,c::suf) ⟨by show u/10<9223372036854775808;omega, ?_⟩ (by show u/10<u;omega) ⟨I,I,congrArg (fun z=>some (Value.int .i64 z)) (by rw[List.length_cons,show 20-(suf.length+1)=19-suf.length by omega]),tO⟩ [] I
  show decDigits m=decDigits (u/10)++c::suf
  rw[hd,decDigits,dif_neg h0,hc,List.append_assoc];rfl
theorem Ro {z:Int} {g:Nat} (hg:0<g) (h:g∣z.natAbs):itoa (z/(g:Int))=(if z<0 then[45] else[])++decDigits (z.natAbs/g):=by
 obtain⟨k,hk⟩:=h
 by_cases hz:z<0
 ·have e:z= -((g*k:Nat):Int):=by omega
  have hk0:k≠0:=fun e=>by rw[e] at hk;omega
  have e2:z/(g:Int)= -(k:Int):=by
   rw[e,Int.natCast_mul, ←Int.mul_neg]
   exact Int.mul_ediv_cancel_left _ (by omega)
  rw[if_pos hz,e2,K8 hk0,hk,Nat.mul_div_cancel_left _ hg];rfl
 ·have e:z=((g*k:Nat):Int):=by omega
  have e2:z/(g:Int)=(k:Int):=by
   rw[e,Int.natCast_mul]
   exact Int.mul_ediv_cancel_left _ (by omega)
  rw[if_neg hz,e2,hk,Nat.mul_div_cancel_left _ hg]
  unfold itoa
  rw[if_neg (by omega)];rfl
theorem Ek (z:Int) (d:Nat) (hz:z.natAbs<9223372036854775808) (hd0:0<d) (hd:d<9223372036854775808):Bn Tryz.prog 98 [.int .i64 z, .int .i64 (d:Nat)] (str (Af (mkRat z d))):=by
 intro W
 obtain⟨n,hn⟩: ∃n,z.natAbs=n:=⟨_,rfl⟩
 obtain⟨g,hg⟩: ∃g,Nat.gcd n d=g:=⟨_,rfl⟩
 have hg0:0<g:=by rw[←hg];exact Nat.gcd_pos_of_pos_right _ hd0
 have hgn:g∣n:=by rw[←hg];exact Nat.gcd_dvd_left ..
 have hgd:g∣d:=by rw[←hg];exact Nat.gcd_dvd_right ..
 have hgle:g≤d:=Nat.le_of_dvd hd0 hgd
 rw[hn] at hz
 have hnq:n/g≤n:=Nat.div_le_self ..
 have hdq:d/g≤d:=Nat.div_le_self ..
 have hnl:(decDigits (n/g)).length≤19:=CN 19 _ (by decide) (by omega)
 have hdl:(decDigits (d/g)).length≤19:=CN 19 _ (by decide) (by omega)
 obtain⟨s,hs⟩: ∃s:List UInt8,s=if z<0 then[45] else[]:=⟨_,rfl⟩
 have hsl:s.length≤1:=by rw[hs];split<;>decide
 have hq:itoa (z/(g:Int))=s++decDigits (n/g):=by rw[hs, ←hn];exact Ro hg0 (by rw[hn];exact hgn)
 refine Ab Tryz.func98 I I I ?_
 refine zA (zB (wP I (Aa (zE (zA (zB (wP I (Aa (zE (zA (zA (zB (wP I (wP I ?_))))))))))))))
 refine Aa (AG ?_)
 try refine Ax ?_
 refine AA (X:=Unit) (fun _=>[(0, .int .i64 (n:Nat)),(1, .int .i64 (d:Nat)),(5,str s)]) (fun _=>[]) (fun _=>True) ?_ ?_
 ·refine As I (fun h=> ?_) (fun h=> ?_)
  ·have h:z<0:=by simpa using h
   exact zB (wP I (wP I (wV 10 (n:Nat) I (show w64 (0-z)=_ by rw[Ar (by omega) (by omega)];omega) (wP I (wP I (Aa (An () tO ⟨I,I,by rw[hs,if_pos h];rfl,tO⟩ [] I)))))))
  ·have h: ¬z<0:=by simpa using h
   exact zI (An () tO ⟨congrArg (fun z=>some (Value.int .i64 z)) (by omega),I,by rw[hs,if_neg h];rfl,tO⟩ [] I)
 intro _ _
 refine zA (zB (wP I (wP I (wC I I (fun W hp=>(Jb n d hz hd W).cast (v':= .int .i64 (g:Nat)) (by rw[hg])) (wP I (Aa (zE (zA (zB (wP I (wP I (wP I ?_))))))))))))
 refine Df I I I I I (by omega) ?_
 refine wV 17 ((n/g:Nat):Int) I (by rw[CX];exact B0 (by omega)) (wC I I (fun W hp=>G8 (n/g) (by omega) W) ?_)
 refine BG I I I I I (a:=s) (b:=decDigits (n/g)) (by omega) (by omega) ?_
 refine Ad 19 (str (itoa (z/(g:Int)))) I (by rw[hq]) ?_
 refine wP I (Aa (zE (zA (zA (zB (wP I (wP I ?_)))))))
 refine Df I I I I I (by omega) ?_
 refine wV 22 ((d/g:Nat):Int) I (by rw[CX];exact B0 (by omega)) (wP I ?_)
 have hql:(itoa (z/(g:Int))).length≤20:=by rw[hq,List.length_append];omega
 by_cases h1:d/g=1
 ·exact wU 23 true I (by rw[beq_iff_eq];omega) (Aa (zE (zR I (zA (zB (wP I (wP I (Aa (zE (zO (zP (wR1 I I (by rw[HP (by omega) (by rw[hn,hg];exact h1),hn,hg])))))))))))))
 ·refine wU 23 false I (by rw[beq_eq_false_iff_ne];omega) (Aa (zE (zS I (zI (zE (zA (zB (wP I ?_))))))))
  refine BG I I I I I (a:=itoa (z/(g:Int))) (b:=[47]) (by omega) (by decide) ?_
  refine wP I (wP I ?_)
  refine Df I I I I I (by omega) ?_
  refine wV 29 ((d/g:Nat):Int) I (by rw[CX];exact B0 (by omega)) (wC I I (fun W hp=>G8 (d/g) (by omega) W) ?_)
  refine BG I I I I I (by rw[List.length_append];show _+1≤_;omega) (by omega) ?_
  exact wP I (Aa (zE (zO (wR1 I I (by rw[Iw (by omega) (by rw[hn,hg];exact h1),hn,hg,BF])))))
theorem Nc {z:Int} {d:Nat} (hz:z<0):Ex z d=45::Ex (-z) d:=by
 have e:itoa z=45::itoa (-z):=by
  unfold itoa
  rw[if_pos hz,if_neg (by omega),show(-z).toNat=z.natAbs by omega]
 unfold Ex
 rw[e]
 split<;>rfl
theorem Pd (q:Rat) (hl:(Af q).length≤1000):Bn Tryz.prog 102 [str (Af q)] (str (Af (-q))):=by
 intro W
 have en:(-q).num= -q.num:=rfl
 have ed:(-q).den=q.den:=rfl
 refine Ab Tryz.func102 I I I ?_
 refine zA (zB (wP I (Aa (zE (zA (zH (zA (zB (wP I (wP I (wU 5 (decide (Af q=[48])) I (AX _ _) (wP I (Aa ?_)))))))))))))
 refine zE ?_
 refine As I (fun h=> ?_) (fun h=> ?_)
 ·have h:q.num=0:=Gb.1 (of_decide_eq_true h)
  have e0:Af (-q)=Af q:=by rw[Gb.2 h,Gb.2 (by rw[en,h];rfl)]
  exact zA (zB (wP I (wP I (Aa (zE (zO (zQ (zP (wR1 I I (by rw[e0]))))))))))
 have h: ¬q.num=0:=fun e=>of_decide_eq_false h (Gb.2 e)
 have hpre:=(Mo (z:=q.num) q.den_pos).1
 rw[Bh] at hpre
 obtain⟨c,hc⟩: ∃c,(Af q)[0]? =some c:=by
  cases e:Af q with
  |nil=>
   have:=congrArg List.length e
   unfold Af Ex at this
   have h2:itoa q.num≠[]:=by unfold itoa;split;simp;exact EK _
   split at this
   ·exact absurd (List.length_eq_zero_iff.1 this) h2
   ·rw[List.length_append] at this;simp at this
  |cons c t=>exact⟨c,rfl⟩
 have hc45:decide (c=45)=decide (q.num<0):=by
  rw[←hpre]
  show _=decide ((Af q)[0]? =some 45)
  exact decide_eq_decide.2 (by rw[hc];simp)
 refine zA (zB (wP I ?_))
 refine AQ 0 tH I I I I I I I I hc ?_
 refine wP I (wU 10 (decide (q.num<0)) I ((CL c 45).trans hc45) (wP I (Aa (zE ?_))))
 refine As I (fun hn=> ?_) (fun hn=> ?_)
 ·have hn:q.num<0:=of_decide_eq_true hn
  have e1:Af q=45::Af (-q):=by unfold Af;rw[en,ed];exact Nc hn
  have hlen:=congrArg List.length e1
  rw[List.length_cons] at hlen
  refine zA (zB (wP I ?_))
  refine Eu 1 tH I I I I I I I I (by omega) ?_
  exact wP I (Aa (zE (zO (zQ (zP (wR1 I I (by rw[e1];rfl)))))))
 ·have hn: ¬q.num<0:=of_decide_eq_false hn
  have e1:Af (-q)=45::Af q:=by
   unfold Af
   rw[en,ed,Nc (show -q.num<0 by omega),Int.neg_neg]
  refine zI (zN (zE (zA (zB (wP I ?_)))))
  refine BG I I I I I (a:=[45]) (b:=Af q) (by decide) (by omega) ?_
  exact wP I (Aa (zE (zO (wR1 I I (by rw[e1];rfl)))))
-- BOXES 5
-- CODE2
abbrev cvV (p:Ai):Value:= .agg #[str (Af p.1),str (Af p.2)]
def Cm (W:World) (c:Nat):Prop:=W.heap[c]? =some (.cells #[.int .i64 0] 83 (0,0))
theorem Cm.hp {W0 W:World} {bxs:List Bx} {c:Nat} (h:Cm W0 c) (hp:Hp W0 bxs W):Cm W c:=
 (hp.below.block c (Array.getElem?_eq_some_iff.1 h).1).trans h
theorem Cm.row {W:World} {c:Nat} (h:Cm W c):Al W c 0 [.int .i64 0]:=Al.of_block h
theorem GX (c g:Nat) (a b v:List UInt8) (W:World) (hc:Cm W c) (hE:Bl Tryz.prog g=true) (hg: ∀W1,Below W.heap.size W W1→Ah Tryz.prog g #[str a,str b] W1 (fun _:Unit=> .tuple #[str v, .int .i64 0]) (fun _=>True) (fun _=>[])):
  Ah Tryz.prog 135 #[Aj c, .func (.func g) #[] #[],str a,str b] W (fun _:Unit=>str v) (fun _=>True) (fun _=>[]):=by
 refine Ab (args:=[Aj c, .func (.func g) #[] #[],str a,str b]) Tryz.func135 I I I ?_
 refine zA (zB (wP I (Aa (zE (zA (zA (zB (wP I ?_))))))))
 refine Bj I I I I ?_
 refine wP I (wL 0 I I (fun W1 hp=>(hc.hp hp).row) I (wP I (Aa (zE (zS I (zI (zE (zA (zB (wP I (wP I (wP I ?_))))))))))))
 refine Bm (capt:=[]) I I I I I I hE (fun W1 h=>hg W1 h.below) ?_
 iterate 5 refine wP I ?_
 refine Aa (zE (zA (zA (zB (wP I (wP I ?_))))))
 refine Bj I I I I ?_
 refine wP I ?_
 refine Ih (c:=[.int .i64 0]) (ty:=83) tH I I I I I I I I I I (fun W1 hp=>hc.hp hp) ?_
 refine Aa (zE (zA (zB (wP I (wP I (Aa (zE (zS I (zI (zE (zA (zB (wP I (wP I ?_))))))))))))))
 exact Aa (zE (zO (wR1 I I I)))
theorem Ct (c:Nat) (p q:Rat) (hz:Sz2 p q) (W:World) (hc:Cm W c) (hv:Ck W) (ht:AS W):
  Ah Tryz.prog 67 #[Aj c,str (Af p),str (Af q)] W (fun _:Unit=>str (Af (p+q))) (fun _=>True) (fun _=>[]):=by
 refine Ab (args:=[Aj c,str (Af p),str (Af q)]) Tryz.func67 I I I ?_
 refine zA (zB (wP I (Aa (zE (zA (zB (wP I (wP I (wP I (wC I I (fun W hp=>GX c 30 (Af p) (Af q) (Af (p+q)) W (hc.hp hp) (by kernel_rfl) (fun W1 hb=>O3 p q hz W1 ((hv.hp hp).below hb) ((ht.hp hp).below hb))) (wP I (Aa (zE ?_)))))))))))))
 exact zO (wR1 I I I)
theorem Cq (c:Nat) (p q:Rat) (hz:Sz2 p q) (W:World) (hc:Cm W c) (hv:Ck W) (ht:AS W):
  Ah Tryz.prog 66 #[Aj c,str (Af p),str (Af q)] W (fun _:Unit=>str (Af (p-q))) (fun _=>True) (fun _=>[]):=by
 refine Ab (args:=[Aj c,str (Af p),str (Af q)]) Tryz.func66 I I I ?_
 refine zA (zB (wP I (Aa (zE (zA (zB (wP I (wP I (wP I (wC I I (fun W hp=>GX c 136 (Af p) (Af q) (Af (p-q)) W (hc.hp hp) (by kernel_rfl) (fun W1 hb=>Pu p q hz W1 ((hv.hp hp).below hb) ((ht.hp hp).below hb))) (wP I (Aa (zE ?_)))))))))))))
 exact zO (wR1 I I I)
theorem BY (c:Nat) (p q:Rat) (hz:Sz2 p q) (W:World) (hc:Cm W c) (hv:Ck W) (ht:AS W):
  Ah Tryz.prog 68 #[Aj c,str (Af p),str (Af q)] W (fun _:Unit=>str (Af (p*q))) (fun _=>True) (fun _=>[]):=by
 refine Ab (args:=[Aj c,str (Af p),str (Af q)]) Tryz.func68 I I I ?_
 refine zA (zB (wP I (Aa (zE (zA (zB (wP I (wP I (wP I (wC I I (fun W hp=>GX c 137 (Af p) (Af q) (Af (p*q)) W (hc.hp hp) (by kernel_rfl) (fun W1 hb=>Ou p q hz W1 ((hv.hp hp).below hb) ((ht.hp hp).below hb))) (wP I (Aa (zE ?_)))))))))))))
 exact zO (wR1 I I I)
theorem FS (c:Nat) (p q:Rat) (hz:Sz2 p q) (h0:q.num≠0) (W:World) (hc:Cm W c) (hv:Ck W) (ht:AS W):
  Ah Tryz.prog 75 #[Aj c,str (Af p),str (Af q)] W (fun _:Unit=>str (Af (p/q))) (fun _=>True) (fun _=>[]):=by
 refine Ab (args:=[Aj c,str (Af p),str (Af q)]) Tryz.func75 I I I ?_
 refine zA (zB (wP I (Aa (zE (zA (zB (wP I (wP I (wP I (wC I I (fun W hp=>GX c 142 (Af p) (Af q) (Af (p/q)) W (hc.hp hp) (by kernel_rfl) (fun W1 hb=>(O6 p q hz W1 ((hv.hp hp).below hb) ((ht.hp hp).below hb)).cast (by rw[Lk,if_neg h0]))) (wP I (Aa (zE ?_)))))))))))))
 exact zO (wR1 I I I)
theorem D3 (c:Nat) (p q:Rat) (hz:Sz2 p q) (W:World) (hc:Cm W c) (hv:Ck W) (ht:AS W):
  Ah Tryz.prog 81 #[Aj c,str (Af p),str (Af q)] W (fun _:Unit=> .int .i64 (DG p q)) (fun _=>True) (fun _=>[]):=by
 refine Ab (args:=[Aj c,str (Af p),str (Af q)]) Tryz.func81 I I I ?_
 refine zA (zB (wP I (Aa (zE (zA (zA (zB (wP I ?_))))))))
 refine Bj I I I I ?_
 refine wP I (wL 0 I I (fun W1 hp=>(hc.hp hp).row) I (wP I (Aa (zE (zS I (zI (zE (zA (zB (wP I (wP I (wC I I (fun W hp=>(JP p q hz W (hv.hp hp) (ht.hp hp)).cast (v':= .tuple #[.int .i64 (DG p q), .int .i64 0]) (by rw[Rm])) ?_))))))))))))
 iterate 5 refine wP I ?_
 refine Aa (zE (zA (zB (wP I (wP I ?_)))))
 refine Bj I I I I ?_
 refine wP I ?_
 refine Ih (c:=[.int .i64 0]) (ty:=83) tH I I I I I I I I I I (fun W1 hp=>hc.hp hp) ?_
 exact Aa (zE (zA (zB (wP I (wP I (Aa (zE (zO (wR1 I I I)))))))))
structure UB (p q r:Ai):Prop where
 s1:Sz2 q.1 p.1
 s2:Sz2 r.2 p.2
 s3:Sz2 q.2 p.2
 s4:Sz2 r.1 p.1
 m1:Sz2 (q.1-p.1) (r.2-p.2)
 m2:Sz2 (q.2-p.2) (r.1-p.1)
 o:Sz2 ((q.1-p.1)*(r.2-p.2)) ((q.2-p.2)*(r.1-p.1))
def Un (p q r:Ai):Int:=DG ((q.1-p.1)*(r.2-p.2)) ((q.2-p.2)*(r.1-p.1))
theorem N6 (c:Nat) (p q r:Ai) (hz:UB p q r) (W:World) (hc:Cm W c) (hv:Ck W) (ht:AS W):
  Ah Tryz.prog 83 #[Aj c,cvV p,cvV q,cvV r] W (fun _:Unit=> .int .i64 (Un p q r)) (fun _=>True) (fun _=>[]):=by
 refine Ab (args:=[Aj c,cvV p,cvV q,cvV r]) Tryz.func83 I I I ?_
 refine zA (zB ?_)
 (refine A6 rfl rfl rfl rfl ?_;intro)
 (refine A6 rfl rfl rfl rfl ?_;intro)
 (refine A6 rfl rfl rfl rfl ?_;intro)
 refine wP I (Aa (zE (zA (zU (qP I (qP I (qB 1 I I I (qP I (qB 0 I I I (qC I I (fun W hp=>Cq c q.1 p.1 hz.s1 W (hc.hp hp) (hv.hp hp) (ht.hp hp)) (qP I (qP I (qB 2 I I I ?_)))))))))))))
 refine qP I (qB 0 I I I (qC I I (fun W hp=>Cq c r.2 p.2 hz.s2 W (hc.hp hp) (hv.hp hp) (ht.hp hp)) (qP I (qP I (AR (Aa (zE (zA (zU (qP I (qP I (qB 1 I I I (qP I ?_)))))))))))))
 refine qB 0 I I I (qC I I (fun W hp=>Cq c q.2 p.2 hz.s3 W (hc.hp hp) (hv.hp hp) (ht.hp hp)) (qP I (qP I (qB 2 I I I (qP I (qB 0 I I I (qC I I (fun W hp=>Cq c r.1 p.1 hz.s4 W (hc.hp hp) (hv.hp hp) (ht.hp hp)) (qP I (qP I (AR (Aa (zE (zA ?_)))))))))))))
 refine zB (wP I (wP I (wP I (wP I (wC I I (fun W hp=>BY c (q.1-p.1) (r.2-p.2) hz.m1 W (hc.hp hp) (hv.hp hp) (ht.hp hp)) (wP I (wP I (wP I (wC I I (fun W hp=>BY c (q.2-p.2) (r.1-p.1) hz.m2 W (hc.hp hp) (hv.hp hp) (ht.hp hp)) (wC I I (fun W hp=>D3 c _ _ hz.o W (hc.hp hp) (hv.hp hp) (ht.hp hp)) (wP I (Aa (zE ?_)))))))))))))
 exact zO (wR1 I I I)
def Q2 (p q:Ai):Int:=if DG p.1 q.1=0 then DG p.2 q.2 else DG p.1 q.1
theorem HB (p q:Rat):DG p q= -1∨DG p q=0∨DG p q=1:=by
 unfold DG
 split
 ·exact Or.inl I
 ·split
  ·exact Or.inr (Or.inl I)
  ·exact Or.inr (Or.inr I)
theorem Jj (c:Nat) (p q:Ai) (h1:Sz2 p.1 q.1) (h2:Sz2 p.2 q.2) (W:World) (hc:Cm W c) (hv:Ck W) (ht:AS W):
  Ah Tryz.prog 128 #[Aj c,cvV p,cvV q] W (fun _:Unit=> .int .i64 (Q2 p q)) (fun _=>True) (fun _=>[]):=by
 refine Ab (args:=[Aj c,cvV p,cvV q]) Tryz.func128 I I I ?_
 refine zA (zB ?_)
 (refine A6 rfl rfl rfl rfl ?_;intro)
 (refine A6 rfl rfl rfl rfl ?_;intro)
 refine wP I (Aa (zE (zA (zA (zB (wP I (wP I (wB 0 I I I (wP I (wB 1 I I I ?_))))))))))
 rcases HB p.1 q.1 with e|e|e
 ·refine wC I I (fun W hp=>(D3 c p.1 q.1 h1 W (hc.hp hp) (hv.hp hp) (ht.hp hp)).cast (congrArg (Value.int .i64) e)) (wP I (Aa (zE (zA (zB (wP I (wP I (Aa (zE (zR I (zA (zB (wP I (wP I ?_))))))))))))))
  exact Aa (zE (zO (zP (wR1 I I (by rw[Q2,e,if_neg (by decide)])))))
 ·refine wC I I (fun W hp=>(D3 c p.1 q.1 h1 W (hc.hp hp) (hv.hp hp) (ht.hp hp)).cast (congrArg (Value.int .i64) e)) (wP I (Aa (zE (zA (zB (wP I (wP I (Aa (zE (zS I (zI (zE (zA ?_)))))))))))))
  exact zB (wP I (wP I (wB 0 I I I (wP I (wB 1 I I I (wC I I (fun W hp=>D3 c p.2 q.2 h2 W (hc.hp hp) (hv.hp hp) (ht.hp hp)) (wP I (Aa (zE (zO (wR1 I I (by rw[Q2,if_pos e]))))))))))))
 ·refine wC I I (fun W hp=>(D3 c p.1 q.1 h1 W (hc.hp hp) (hv.hp hp) (ht.hp hp)).cast (congrArg (Value.int .i64) e)) (wP I (Aa (zE (zA (zB (wP I (wP I (Aa (zE (zR I (zA (zB (wP I (wP I ?_))))))))))))))
  exact Aa (zE (zO (zP (wR1 I I (by rw[Q2,e,if_neg (by decide)])))))
def Ep (q:Rat):Int:=if q.num=0 then 0 else if q.num<0 then -1 else 1
theorem DV (q:Rat):Bn Tryz.prog 125 [str (Af q)] (.int .i64 (Ep q)):=by
 intro W
 refine Ab Tryz.func125 I I I ?_
 refine zA (zB (wP I (Aa (zE (zA (zH (zA (zB (wP I (wP I (wU 5 (decide (Af q=[48])) I (AX _ _) (wP I (Aa ?_)))))))))))))
 refine zE ?_
 refine As I (fun h=> ?_) (fun h=> ?_)
 ·have h:q.num=0:=Gb.1 (of_decide_eq_true h)
  exact zA (zB (wP I (Aa (zE (zO (zQ (zP (wR1 I I (by rw[Ep,if_pos h])))))))))
 have h: ¬q.num=0:=fun e=>of_decide_eq_false h (Gb.2 e)
 have hpre:=(Mo (z:=q.num) q.den_pos).1
 rw[Bh] at hpre
 obtain⟨c,hc⟩: ∃c,(Af q)[0]? =some c:=by
  cases e:Af q with
  |nil=>
   have:=congrArg List.length e
   unfold Af Ex at this
   have h2:itoa q.num≠[]:=by unfold itoa;split;simp;exact EK _
   split at this
   ·exact absurd (List.length_eq_zero_iff.1 this) h2
   ·rw[List.length_append] at this;simp at this
  |cons c t=>exact⟨c,rfl⟩
 have hc45:decide (c=45)=decide (q.num<0):=by
  rw[←hpre]
  show _=decide ((Af q)[0]? =some 45)
  exact decide_eq_decide.2 (by rw[hc];simp)
 refine zA (zB (wP I ?_))
 refine AQ 0 tH I I I I I I I I hc ?_
 refine wP I (wU 9 (decide (q.num<0)) I ((CL c 45).trans hc45) (wP I (Aa (zE ?_))))
 refine As I (fun hn=> ?_) (fun hn=> ?_)
 ·have hn:q.num<0:=of_decide_eq_true hn
  exact zA (zB (wP I (Aa (zE (zO (zQ (zP (wR1 I I (by rw[Ep,if_neg h,if_pos hn])))))))))
 ·have hn: ¬q.num<0:=of_decide_eq_false hn
  exact zI (zN (zE (zA (zB (wP I (Aa (zE (zO (wR1 I I (by rw[Ep,if_neg h,if_neg hn]))))))))))
-- BOXES 4
-- CODE2
abbrev br:Nat:=1000000
theorem br2:2≤br:=by decide
theorem Do {g cap:Nat} {junk:List Value} {l:List Nat} (h:(⟨some g,cap,junk⟩:Vec).OK 1 l.length (nI l)) (hl: ∀x∈l,x<br):
  ∃junk',(⟨some g,cap,junk'⟩:Vec).OK 1 (lbs br (lv br l)).length (nI (lbs br (lv br l)))∧nI l++junk=nI (lbs br (lv br l))++junk':=by
 obtain⟨h1,h2,h3⟩:=h.cap (by simp)
 have e:=KA br2 hl
 have hlen:=(BC br2).2 (E9 br2 hl)
 have e2:nI l=nI (lbs br (lv br l))++nI (l.drop (lbs br (lv br l)).length):=by
  conv=>lhs;rw[←List.take_append_drop (lbs br (lv br l)).length l]
  rw[H9, ←e]
 have h3':(nI l).length+junk.length=cap*1:=h3
 have h2':cap≤maxLen:=h2
 refine⟨nI (l.drop (lbs br (lv br l)).length)++junk,⟨DO _,(fun h=>by cases h),fun _=>⟨by show _≤cap;rw[By] at h3';omega,h2', ?_⟩⟩, ?_⟩
 ·show(nI (lbs br (lv br l))).length+(nI (l.drop (lbs br (lv br l)).length)++junk).length=cap*1
  rw[List.length_append,By,By,List.length_drop]
  rw[By] at h3';omega
 ·rw[←List.append_assoc, ←e2]
theorem CA (W:World) (p:Option Addr) (cap n:Nat) (l:List Nat) (i x:Nat) (h:Ap W p l) (hn:l.length=n) (hi:i<4611686018427387904) (hx:lim l i=x):Ah Tryz.prog 226 #[slv p n cap, .int .i64 (i:Nat)] W (fun _:Unit=> .int .i64 (x:Nat)) (fun _=>True) (fun _=>[]):=by
 subst hn hx
 refine Ab (args:=[slv p l.length cap, .int .i64 (i:Nat)]) Tryz.func226 I I I ?_
 refine zA (zB (wP I (Aa (zE (zA (zA (zB (wP I (wP I (wP I (wP I (Aa (zE ?_)))))))))))))
 refine As I (fun hc=> ?_) (fun hc=> ?_)
 ·have hl:i<l.length:=by simp at hc;omega
  obtain⟨b,off,rfl,hrow⟩:=h.row hl
  refine zA (zB (wP I (wP I ?_)))
  refine wJ ?_
  exact wL 0 I I (fun W hp=>(hrow i hl).hp hp) I (wP I (Aa (zE (zO (zP (wR1 I I I))))))
 ·have hl:l.length≤i:=by simp at hc;omega
  exact zI (zE (zA (zB (wP I (Aa (zE (zO (wR1 I I (by rw[ND hl];rfl)))))))))
theorem Cp (W:World) (p:Option Addr) (cap:Nat) (l:List Nat) (h:Ap W p l) (hl: ∀x∈l,x<br) (hc:l.length≤cap) (hn:l.length<4611686018427387904):
  Ah Tryz.prog 224 #[slv p l.length cap] W (fun _:Unit=>slv p (lbs br (lv br l)).length cap) (fun _=>True) (fun _=>[]):=by
 refine Ab (args:=[slv p l.length cap]) Tryz.func224 I I I ?_
 refine zA (zB (wP I (Aa (zE (zA (zB (wP I (wP I (wP I (Aa (zE (zA (zH ?_)))))))))))))
 refine A8 (X:=Nat) (fun k=>[(0,slv p l.length cap),(3, .int .i64 (k:Nat))]) (fun _=>[]) (fun k=>k≤l.length∧ ∀i,k≤i→i<l.length→l[i]? =some 0) (fun k=>k) l.length ⟨Nat.le_refl _,fun i h1 h2=>by omega⟩ ⟨I,I,tO⟩ [] I ?_
 rintro k ⟨hk,hz⟩
 have hk:k≤l.length:=hk
 have hend:(k=0∨l[k-1]? ≠some 0)→(lbs br (lv br l)).length=k:=fun h0=>by
  rw[←NU br2 hk hl hz h0,List.length_take];omega
 by_cases h0:k=0
 ·subst h0
  refine zA (zA (zB (wP I (wP I ?_))))
  refine Ad 7 (.bool false) I I ?_
  refine wP I ?_
  iterate 6 refine Ak I I ?_
  refine wP I (Aa (zE (zS I (zJ (zK (zK (zL (zE (zA (zB (wP I (wP I ?_))))))))))))
  refine Dl 0 tH I I I I I I I I (by omega) ?_
  exact wP I (Aa (zE (zO (wR1 I I (by rw[hend (.inl I)])))))
 ·refine zA (zA (zB (wP I (wP I (wU 7 true I (by simp;omega) ?_)))))
  obtain⟨b,off,rfl,hrow⟩:=h.row (show k-1<l.length by omega)
  refine wP I (wP I (wP I (wP I (wV 11 ((k-1:Nat):Int) I (by show w64 ((k:Int)-1)=_;rw[Ar (by omega) (by omega)];omega) ?_))))
  refine wJ ?_
  refine wL 0 I I (fun W hp=>(hrow (k-1) (by omega)).hp hp) I (wP I (wP I (Aa (zE ?_))))
  have e1:((lim l (k-1):Int)==0)=decide (l[k-1]? =some 0):=by
   rw[CS (show k-1<l.length by omega),Oi]
   simp
  refine As I (fun hc=> ?_) (fun hc=> ?_)
  ·have hz0:l[k-1]? =some 0:=by simpa[e1] using hc
   refine zI (zE (zH (zB (wP I (wP I (wV 17 ((k-1:Nat):Int) I (by show w64 ((k:Int)-1)=_;rw[Ar (by omega) (by omega)];omega) (wP I (Aa (zN ?_)))))))))
   refine A0 (k-1) ⟨by show k-1≤_;omega,fun i h1 h2=> ?_⟩ (by show k-1<k;omega) ⟨I,I,tO⟩ [] I
   by_cases hi:i=k-1
   ·rw[hi];exact hz0
   ·exact hz i (by have h1:k-1≤i:=h1;omega) h2
  ·have hz0:l[k-1]? ≠some 0:=by simpa[e1] using hc
   refine zJ (zK (zK (zL (zE (zA (zB (wP I (wP I ?_))))))))
   refine Dl k tH I I I I I I I I (by omega) ?_
   exact wP I (Aa (zE (zO (wR1 I I (by rw[hend (.inr hz0)])))))
theorem K5 {a b:Nat} (h:(lbs br a).length<(lbs br b).length):a<b:=by
 rcases Nat.lt_or_ge a b with h1|h1
 ·exact h1
 ·have:=(BC br2 (n:=b)).2 (Nat.lt_of_le_of_lt h1 (AE br2 a))
  omega
theorem Ub {B:Nat} (_hB:2≤B) {a b:Nat} {k:Nat} (h:a/B^(k+1)=b/B^(k+1)):(a/B^k<b/B^k↔a/B^k%B<b/B^k%B)∧(a/B^k=b/B^k↔a/B^k%B=b/B^k%B):=by
 have h1:=Nat.mod_add_div (a/B^k) B
 have h2:=Nat.mod_add_div (b/B^k) B
 rw[Nat.div_div_eq_div_mul,show B^k*B=B^(k+1) from(Nat.pow_succ ..).symm] at h1 h2
 rw[h] at h1
 constructor<;>constructor<;>intro<;>omega
theorem LL {a b c:Nat} (h:a/c<b/c):a<b:=by
 rcases Nat.lt_or_ge a b with h1|h1
 ·exact h1
 ·exact absurd (Nat.div_le_div_right (c:=c) h1) (by omega)
def Kl (a b:Nat):Int:=if a<b then -1 else if b<a then 1 else 0
theorem Jo (W:World) (p q:Option Addr) (cap cap2:Nat) (a b:Nat) (hA:Ap W p (lbs br a)) (hB:Ap W q (lbs br b)) (hna:(lbs br a).length≤1000000) (_hnb:(lbs br b).length≤1000000):
  Ah Tryz.prog 229 #[slv p (lbs br a).length cap,slv q (lbs br b).length cap2] W (fun _:Unit=> .int .i64 (Kl a b)) (fun _=>True) (fun _=>[]):=by
 have hal:=AE br2 a
 have hbl:=AE br2 b
 refine Ab (args:=[slv p (lbs br a).length cap,slv q (lbs br b).length cap2]) Tryz.func229 I I I ?_
 refine zA (zB (wP I (Aa (zE (zA (zA (zB ?_)))))))
 iterate 5 refine wP I ?_
 by_cases hl:(lbs br a).length=(lbs br b).length
 rotate_left
 ·refine wU 10 true I (bne_iff_ne.2 (by omega)) (Aa (zE (zR I (zA (zA (zB ?_))))))
  iterate 5 refine wP I ?_
  by_cases h:(lbs br a).length<(lbs br b).length
  ·have hlt:=K5 h
   exact wU 15 true I (dT (by omega)) (Aa (zE (zR I (zA (zB (wP I (Aa (zE (zO (zP (zP (wR1 I I (by unfold Kl;rw[if_pos hlt])))))))))))))
  ·have hlt:=K5 (a:=b) (b:=a) (by omega)
   exact wU 15 false I (dF (by omega)) (Aa (zE (zS I (zI (zE (zA (zB (wP I (Aa (zE (zO (zP (wR1 I I (by unfold Kl;rw[if_neg (by omega),if_pos hlt]))))))))))))))
 obtain⟨K,hK⟩: ∃K,(lbs br b).length=K:=⟨_,rfl⟩
 rw[hl,hK] at hal
 rw[hK] at hbl hl
 rw[hl,hK]
 refine wU 10 false I (by simp) (Aa (zE (zS I (zI (zE (zA (zA (zB (wP I (wP I (wP I (wV 18 ((K:Int)-1) I (Ar (by omega) (by omega)) (wP I ?_)))))))))))))
 refine Aa (zE (zH ?_))
 refine A8 (X:=Nat) (fun k=>[(0,slv p K cap),(1,slv q K cap2),(5, .int .i64 ((k:Nat)-1:Int))]) (fun _=>[]) (fun k=>k≤K∧a/br^k=b/br^k) (fun k=>k) K ⟨Nat.le_refl _,by rw[Nat.div_eq_of_lt hal,Nat.div_eq_of_lt hbl]⟩ ⟨I,I,I,tO⟩ [] I ?_
 rintro k ⟨hk,hq⟩
 have hk:k≤K:=hk
 refine zA (zA (zB (wP I (wP I ?_))))
 cases k with
 |zero=>
  have e:a=b:=by have hq:a/br^0=b/br^0:=hq;simpa using hq
  refine wU 20 false I (dF (by show¬(((0:Nat):Int)-1≥0);omega)) (Aa (zE (zS I (zJ (zK (zK (zL (zE (zA (zB (wP I (Aa (zE ?_)))))))))))))
  exact zO (wR1 I I (by unfold Kl;rw[e,if_neg (Nat.lt_irrefl _),if_neg (Nat.lt_irrefl _)]))
 |succ k=>
  have hq:a/br^(k+1)=b/br^(k+1):=hq
  obtain⟨h1,h2⟩:=Ub br2 hq
  obtain⟨b1,o1,rfl,r1⟩:=hA.row (show k<(lbs br a).length by omega)
  obtain⟨b2,o2,rfl,r2⟩:=hB.row (show k<(lbs br b).length by omega)
  have r1:=r1 k (by omega)
  have r2:=r2 k (by omega)
  obtain⟨x,hx⟩: ∃x,lim (lbs br a) k=x:=⟨_,rfl⟩
  obtain⟨y,hy⟩: ∃y,lim (lbs br b) k=y:=⟨_,rfl⟩
  rw[hx] at r1
  rw[hy] at r2
  rw[Ba br2] at hx hy
  rw[hx,hy] at h1 h2
  have hxb:x<br:=by rw[←hx];exact Nat.mod_lt _ (by decide)
  have hyb:y<br:=by rw[←hy];exact Nat.mod_lt _ (by decide)
  have hxb:x<1000000:=hxb
  have hyb:y<1000000:=hyb
  refine wU 20 true I (dT (by show(((k+1:Nat):Int)-1≥0);omega)) (Aa (zE (zR I (zI (zE (zA (zH (zA (zA (zU (qP I (qP I (qV 24 (k:Nat) I (by show((k+1:Nat):Int)-1=_;omega) ?_)))))))))))))
  refine qJ ?_
  refine qL 0 I I (fun W hp=>r1.hp hp) I (qP I (qP I (qV 28 (k:Nat) I (by show((k+1:Nat):Int)-1=_;omega) ?_)))
  refine qJ ?_
  refine qL 0 I I (fun W hp=>r2.hp hp) I (qP I ?_)
  by_cases hlt:x<y
  ·have:=LL (h1.2 hlt)
   refine qU 31 true I (dT (by omega)) (AR (Aa (zE (zR I (zA (zB (wP I (Aa (zE (zO (zP (zQ (zP (zP ?_))))))))))))))
   exact zQ (zP (wR1 I I (by unfold Kl;rw[if_pos this])))
  refine qU 31 false I (dF (by omega)) (AR (Aa (zE (zS I (zI (zE (zA (zU (qP I (qP I (qV 33 (k:Nat) I (by show((k+1:Nat):Int)-1=_;omega) ?_)))))))))))
  refine qJ ?_
  refine qL 0 I I (fun W hp=>r1.hp hp) I (qP I (qP I (qV 37 (k:Nat) I (by show((k+1:Nat):Int)-1=_;omega) ?_)))
  refine qJ ?_
  refine qL 0 I I (fun W hp=>r2.hp hp) I (qP I ?_)
  by_cases hgt:y<x
  ·have h3: ¬a/br^k<b/br^k:=fun h=>hlt (h1.1 h)
   have h4: ¬a/br^k=b/br^k:=fun h=>by have:=h2.1 h;omega
   have:=LL (a:=b) (b:=a) (c:=br^k) (by omega)
   refine qU 40 true I (dT (by show((x:Nat):Int)>(y:Nat);omega)) (AR (Aa (zE (zR I (zA (zB (wP I (Aa (zE (zO (zQ (zP (zP ?_)))))))))))))
   exact zQ (zP (wR1 I I (by unfold Kl;rw[if_neg (by omega),if_pos this])))
  refine qU 40 false I (dF (by show¬((x:Nat):Int)>(y:Nat);omega)) (AR (Aa (zE (zS I (zI (zN (zE (zB (wP I (wV 21 (k:Nat) I (by show((k+1:Nat):Int)-1=_;omega) (wP I (wV 22 ((k:Nat)-1:Int) I (Ar (by omega) (by omega)) (wP I ?_)))))))))))))
  exact Aa (A0 k ⟨by show k≤K;omega,h2.2 (by omega)⟩ (by show k<k+1;omega) ⟨I,I,I,tO⟩ [] I)
def Fv (a b:List Nat):Nat→List Nat×Nat
 |0=>([],0)
 |i+1=>((Fv a b i).1++[(lim a i+lim b i+(Fv a b i).2)%br],(lim a i+lim b i+(Fv a b i).2)/br)
theorem Ky (a b:List Nat): ∀i,(Fv a b i).1.length=i
 |0=>rfl
 |i+1=>by show(_++[_]).length=_;rw[List.length_append,Ky a b i];rfl
theorem P6 {a b:List Nat} (ha: ∀x∈a,x<br) (hb: ∀x∈b,x<br): ∀i,(∀x∈(Fv a b i).1,x<br)∧(Fv a b i).2≤1
 |0=>⟨fun x h=>(by cases h),Nat.zero_le _⟩
 |i+1=>by
  obtain⟨h1,h2⟩:=P6 ha hb i
  have l1:lim a i<1000000:=AY br2 ha i
  have l2:lim b i<1000000:=AY br2 hb i
  refine⟨fun x hx=> ?_, ?_⟩
  ·rcases List.mem_append.1 hx with hx|hx
   ·exact h1 x hx
   ·obtain rfl:=List.mem_singleton.1 hx;exact Nat.mod_lt _ (by decide)
  ·show _/1000000≤1;omega
theorem KR (a b:Nat): ∀i,lv br (Fv (lbs br a) (lbs br b) i).1+br^i*(Fv (lbs br a) (lbs br b) i).2=a%br^i+b%br^i
 |0=>by show 0+br^0*0=_;rw[Nat.pow_zero,Nat.mod_one,Nat.mod_one]
 |i+1=>Ly (Ky _ _ i) (KR a b i) (by rw[Ba br2,Ba br2])
theorem Ny (W:World) (p q:Option Addr) (cap cap2:Nat) (a b:Nat) (hA:Ap W p (lbs br a)) (hB:Ap W q (lbs br b)) (hna:(lbs br a).length≤1000000) (hnb:(lbs br b).length≤1000000):
  Ah Tryz.prog 256 #[slv p (lbs br a).length cap,slv q (lbs br b).length cap2] W (fun x:NV=>Bo x (lbs br (a+b)).length) (fun x=>BW x (lbs br (a+b))) (fun x=>[B3 x (lbs br (a+b))]):=by
 have hla:=Bd br2 a
 have hlb:=Bd br2 b
 have hal:=AE br2 a
 have hbl:=AE br2 b
 obtain⟨na,hna'⟩: ∃n,(lbs br a).length=n:=⟨_,rfl⟩
 obtain⟨nb,hnb'⟩: ∃n,(lbs br b).length=n:=⟨_,rfl⟩
 rw[hna'] at hna hal
 rw[hnb'] at hnb hbl
 obtain⟨M,hM⟩: ∃M,M=max na nb:=⟨_,rfl⟩
 have ham:a<br^M:=Nat.lt_of_lt_of_le hal (Nat.pow_le_pow_right (by decide) (by omega))
 have hbm:b<br^M:=Nat.lt_of_lt_of_le hbl (Nat.pow_le_pow_right (by decide) (by omega))
 refine Ab (args:=[slv p (lbs br a).length cap,slv q (lbs br b).length cap2]) Tryz.func256 I I I ?_
 rw[hna',hnb']
 refine zA (zB (wP I (Aa (zE (zA (zB ?_))))))
 refine Fm tH I I I I I ?_
 intro g
 refine wP I (Aa (zE (zA (zB (wP I (Aa (zE (zA (zA (zB (wP I (Aa (zE ?_)))))))))))))
 refine zH ?_
 refine A8 (X:=Nat×NV) (fun x=>[(0,slv p na cap),(1,slv q nb cap2),(5,Bo x.2 x.1),(6, .int .i64 ((Fv (lbs br a) (lbs br b) x.1).2:Nat)),(7, .int .i64 (x.1:Nat))]) (fun x=>[B3 x.2 (Fv (lbs br a) (lbs br b) x.1).1])
  (fun x=>x.1≤M+1∧BW x.2 (Fv (lbs br a) (lbs br b) x.1).1∧(x.1=M+1→(Fv (lbs br a) (lbs br b) (M+1)).2=0)) (fun x=>M+1-x.1) (0,g,0,[]) ⟨Nat.zero_le _,⟨rfl,(fun h=>by cases h),fun _=>⟨Nat.le_refl _,Nat.zero_le _,rfl⟩⟩,fun h=>by have h:0=M+1:=h;omega⟩ ⟨rfl,rfl,rfl,rfl,rfl,trivial⟩ [] rfl ?_
 rintro⟨i,x⟩ ⟨hi,hx,hend⟩
 have hi:i≤M+1:=hi
 have hx:BW x (Fv (lbs br a) (lbs br b) i).1:=hx
 have hlen:=Ky (lbs br a) (lbs br b) i
 obtain⟨hob,hc1⟩:=P6 hla hlb i
 have hval:=KR a b i
 obtain⟨out,hout⟩: ∃out,(Fv (lbs br a) (lbs br b) i).1=out:=⟨_,rfl⟩
 obtain⟨c,hc⟩: ∃c,(Fv (lbs br a) (lbs br b) i).2=c:=⟨_,rfl⟩
 rw[hout] at hx hlen hob hval
 rw[hc] at hc1 hval
 have eout:B3 x (Fv (lbs br a) (lbs br b) i).1=B3 x out:=by rw[hout]
 simp only[hc,hout]
 refine Ax (Ax ?_)
 refine AA (X:=Unit) (fun _=>[(0,slv p na cap),(1,slv q nb cap2),(5,Bo x i),(6, .int .i64 (c:Nat)),(7, .int .i64 (i:Nat)),(23, .bool (decide (i<na∨i<nb∨0<c)))]) (fun _=>[B3 x out]) (fun _=>True) ?_ ?_
 ·refine zB (wP I (wP I (wP I (wP I ?_))))
  by_cases h1:i<na
  ·refine wU 13 true I (dT (by omega)) (wP I ?_)
   iterate 4 refine Ak I I ?_
   refine wP I (wP I ?_)
   iterate 2 refine Ak I I ?_
   exact wP I (Aa (An () tO ⟨I,I,I,I,I,by rw[dT (Or.inl h1)];rfl,tO⟩ [] I))
  refine wU 13 false I (dF (by omega)) ?_
  iterate 5 refine wP I ?_
  by_cases h2:i<nb
  ·refine wU 18 true I (dT (by omega)) (wP I (wP I ?_))
   iterate 2 refine Ak I I ?_
   exact wP I (Aa (An () tO ⟨I,I,I,I,I,by rw[dT (Or.inr (Or.inl h2))];rfl,tO⟩ [] I))
  exact wU 18 false I (dF (by omega)) (wP I (wP I (wP I (wP I (wU 22 (decide (i<na∨i<nb∨0<c)) I (decide_eq_decide.2 (by omega)) (wP I (Aa (An () tO ⟨I,I,I,I,I,I,tO⟩ [] I))))))))
 intro _ _
 refine As I (fun hcd=> ?_) (fun hcd=> ?_)
 ·have hcd:i<na∨i<nb∨0<c:=of_decide_eq_true hcd
  have hiM:i≤M:=by
   rcases Nat.lt_or_ge M i with h|h
   ·have h1:i=M+1:=by omega
    have h2:=hend h1
    rw[←h1,hc] at h2
    omega
   ·exact h
  obtain⟨u,hu⟩: ∃u,lim (lbs br a) i=u:=⟨_,rfl⟩
  obtain⟨v,hv⟩: ∃v,lim (lbs br b) i=v:=⟨_,rfl⟩
  have hub:u<1000000:=by rw[←hu];exact AY br2 hla i
  have hvb:v<1000000:=by rw[←hv];exact AY br2 hlb i
  have e1:(Fv (lbs br a) (lbs br b) (i+1)).1=out++[(u+v+c)%br]:=by show _++[_]=_;rw[hout,hu,hv,hc]
  have e2:(Fv (lbs br a) (lbs br b) (i+1)).2=(u+v+c)/br:=by show _/_=_;rw[hu,hv,hc]
  refine zI (zE (zA (zH (zA (zB (wP I (wP I (wC I I (fun W' hp=>CA W' p cap na (lbs br a) i u (hA.hp hp) hna' (by omega) hu) (wP I (wP I (wC I I (fun W' hp=>CA W' q cap2 nb (lbs br b) i v (hB.hp hp) hnb' (by omega) hv) (wP I (wP I (wP I ?_))))))))))))))
  refine wV 34 ((u+v+c:Nat):Int) I (by show w64 (w64 ((u:Int)+v)+c)=_;rw[AL (by omega),AL (by omega)]) (wP I (Aa (zE (zA (zB (wP I (wP I ?_)))))))
  refine EL I I I I I (by decide) ?_
  refine AD Tryz.hZ tH I I I I I I I I I I I fun bN=> ?_
  refine BN (V:=nvV x) (len:=i) (xs:=nI out) 0 1 Tryz.vec170 (i+1) (nI (out++[(u+v+c)%br])) I I I I I I I I I I I (by rw[←hlen];exact hx) I I I (by rw[H9];rfl) (by simp only[maxLen];omega) (by omega) I ?_
  intro g1 c1 j1 hV1
  refine wP I (Aa (zE (zB (wP I ?_))))
  refine Df I I I I I (by decide) ?_
  refine wV 41 (((u+v+c)/br:Nat):Int) I (B0 (show(u+v+c)/1000000<9223372036854775808 by omega)) (wP I (Aa (zN (zE (zB (wP I (wP I (wV 25 ((i+1:Nat):Int) I (Az (by omega)) (wP I (Aa ?_))))))))))
  refine A0 (i+1,g1,c1,j1) ⟨by show i+1≤M+1;omega, ?_,fun h=> ?_⟩ (by show M+1-(i+1)<M+1-i;omega) ⟨I,I,I,by rw[e2];rfl,I,tO⟩ _ (by show _=[B3 _ (Fv _ _ (i+1)).1]++_;rw[e1];rfl)
  ·show BW _ (Fv (lbs br a) (lbs br b) (i+1)).1
   rw[e1]
   show Vec.OK _ 1 (out++[_]).length _
   rw[List.length_append,hlen]
   exact hV1
  ·have h:i+1=M+1:=h
   have h9:=KR a b (M+1)
   have hp1:br^(M+1)=br^M*br:=Nat.pow_succ ..
   have hp2:br^M*2≤br^M*br:=Nat.mul_le_mul_left _ br2
   rw[Nat.mod_eq_of_lt (by omega),Nat.mod_eq_of_lt (by omega)] at h9
   rcases Nat.eq_zero_or_pos (Fv (lbs br a) (lbs br b) (M+1)).2 with h0|h0
   ·exact h0
   ·have:=Nat.mul_le_mul_left (br^(M+1)) h0
    omega
 ·have hcd: ¬(i<na∨i<nb∨0<c):=of_decide_eq_false hcd
  have ev:lv br out=a+b:=by
   have hc0:c=0:=by omega
   rw[hc0,Nat.mul_zero,Nat.add_zero] at hval
   have h3:br^M≤br^i:=Nat.pow_le_pow_right (by decide) (by omega)
   rw[Nat.mod_eq_of_lt (by omega),Nat.mod_eq_of_lt (by omega)] at hval
   exact hval
  obtain⟨j2,hj1,hj2⟩:=Do hx hob
  rw[ev] at hj1 hj2
  refine zJ (zK (zK (zL (zE (zA (zB (wP I ?_)))))))
  refine Ad 42 (slv (some ⟨x.1,0,none⟩) out.length x.2.1) I (by rw[hlen]) ?_
  exact wC I I (fun W' hp=>Cp W' (some ⟨x.1,0,none⟩) x.2.1 out (Ap.of_bx hp 0 I) hob (by have:=(hx.cap (by simp)).1;exact this) (by omega)) (wP I (Aa (zE (zO (Aw tH I (.tmp I) ((x.1,x.2.1,j2):NV) (by rw[ev]) hj1 fun W hp=>Ao.of_hp1 hp 0 (by show some (⟨x.1,3,nI out++x.2.2,true,none⟩:Bx)=some ⟨x.1,3,nI (lbs br (a+b))++j2,true,none⟩;rw[hj2]))))))
-- BOXES 4
-- CODE2
def GS (x y c:Nat):Nat×Nat:=if y+c≤x then(x-y-c,0) else(x+br-y-c,1)
theorem PT {x y c:Nat} (hx:x<br) (hy:y<br) (hc:c≤1):(GS x y c).1<br∧(GS x y c).2≤1∧(GS x y c).1+y+c=x+br*(GS x y c).2:=by
 have hx:x<1000000:=hx
 have hy:y<1000000:=hy
 unfold GS
 split
 ·exact⟨by show x-y-c<1000000;omega,Nat.zero_le _,by show x-y-c+y+c=x+1000000*0;omega⟩
 ·exact⟨by show x+1000000-y-c<1000000;omega,Nat.le_refl _,by show x+1000000-y-c+y+c=x+1000000*1;omega⟩
def Gr (a b:List Nat):Nat→List Nat×Nat
 |0=>([],0)
 |i+1=>((Gr a b i).1++[(GS (lim a i) (lim b i) (Gr a b i).2).1],(GS (lim a i) (lim b i) (Gr a b i).2).2)
theorem K2 (a b:List Nat): ∀i,(Gr a b i).1.length=i
 |0=>rfl
 |i+1=>by show(_++[_]).length=_;rw[List.length_append,K2 a b i];rfl
theorem Mz {a b:List Nat} (ha: ∀x∈a,x<br) (hb: ∀x∈b,x<br): ∀i,(∀x∈(Gr a b i).1,x<br)∧(Gr a b i).2≤1
 |0=>⟨fun x h=>(by cases h),Nat.zero_le _⟩
 |i+1=>by
  obtain⟨h1,h2⟩:=Mz ha hb i
  obtain⟨h3,h4,_⟩:=PT (AY br2 ha i) (AY br2 hb i) h2
  refine⟨fun x hx=> ?_,h4⟩
  rcases List.mem_append.1 hx with hx|hx
  ·exact h1 x hx
  ·obtain rfl:=List.mem_singleton.1 hx;exact h3
theorem NC (a b:Nat): ∀i,lv br (Gr (lbs br a) (lbs br b) i).1+b%br^i=a%br^i+br^i*(Gr (lbs br a) (lbs br b) i).2
 |0=>by show 0+_=_+br^0*0;rw[Nat.pow_zero,Nat.mod_one,Nat.mod_one]
 |i+1=>by
  have hc:=(Mz (Bd br2 a) (Bd br2 b) i).2
  exact Kg (K2 _ _ i) (NC a b i) (by rw[←Ba br2 b i, ←Ba br2 a i];exact(PT (AY br2 (Bd br2 a) i) (AY br2 (Bd br2 b) i) hc).2.2)
theorem Eo (W:World) (p q:Option Addr) (cap cap2:Nat) (a b:Nat) (hba:b≤a) (hA:Ap W p (lbs br a)) (hB:Ap W q (lbs br b)) (hna:(lbs br a).length≤1000000):
  Ah Tryz.prog 227 #[slv p (lbs br a).length cap,slv q (lbs br b).length cap2] W (fun x:NV=>Bo x (lbs br (a-b)).length) (fun x=>BW x (lbs br (a-b))) (fun x=>[B3 x (lbs br (a-b))]):=by
 have hla:=Bd br2 a
 have hlb:=Bd br2 b
 have hal:=AE br2 a
 obtain⟨na,hna'⟩: ∃n,(lbs br a).length=n:=⟨_,rfl⟩
 obtain⟨nb,hnb'⟩: ∃n,(lbs br b).length=n:=⟨_,rfl⟩
 rw[hna'] at hna hal
 refine Ab (args:=[slv p (lbs br a).length cap,slv q (lbs br b).length cap2]) Tryz.func227 I I I ?_
 rw[hna',hnb']
 refine zA (zB (wP I (Aa (zE (zA (zB ?_))))))
 refine Fm tH I I I I I ?_
 intro g
 refine wP I (Aa (zE (zA (zB (wP I (Aa (zE (zA (zA (zB (wP I (Aa (zE ?_)))))))))))))
 refine zH ?_
 refine A8 (X:=Nat×NV) (fun x=>[(0,slv p na cap),(1,slv q nb cap2),(5,Bo x.2 x.1),(6, .int .i64 ((Gr (lbs br a) (lbs br b) x.1).2:Nat)),(7, .int .i64 (x.1:Nat))]) (fun x=>[B3 x.2 (Gr (lbs br a) (lbs br b) x.1).1])
  (fun x=>x.1≤na∧BW x.2 (Gr (lbs br a) (lbs br b) x.1).1) (fun x=>na-x.1) (0,g,0,[]) ⟨Nat.zero_le _,⟨rfl,(fun h=>by cases h),fun _=>⟨Nat.le_refl _,Nat.zero_le _,rfl⟩⟩⟩ ⟨rfl,rfl,rfl,rfl,rfl,trivial⟩ [] rfl ?_
 rintro⟨i,x⟩ ⟨hi,hx⟩
 have hi:i≤na:=hi
 have hx:BW x (Gr (lbs br a) (lbs br b) i).1:=hx
 have hlen:=K2 (lbs br a) (lbs br b) i
 obtain⟨hob,hc1⟩:=Mz hla hlb i
 have hval:=NC a b i
 obtain⟨out,hout⟩: ∃out,(Gr (lbs br a) (lbs br b) i).1=out:=⟨_,rfl⟩
 obtain⟨c,hc⟩: ∃c,(Gr (lbs br a) (lbs br b) i).2=c:=⟨_,rfl⟩
 rw[hout] at hx hlen hob hval
 rw[hc] at hc1 hval
 simp only[hc,hout]
 refine zA (zA (zB (wP I (wP I (wP I (wP I ?_))))))
 by_cases h1:i<na
 ·refine wU 13 true I (dT (by omega)) (Aa (zE (zR I (zI (zE (zA (zH (zA (zU ?_)))))))))
  obtain⟨u,hu⟩: ∃u,lim (lbs br a) i=u:=⟨_,rfl⟩
  obtain⟨v,hv⟩: ∃v,lim (lbs br b) i=v:=⟨_,rfl⟩
  have hub:u<1000000:=by rw[←hu];exact AY br2 hla i
  have hvb:v<1000000:=by rw[←hv];exact AY br2 hlb i
  obtain⟨b1,o1,rfl,r1⟩:=hA.row (show i<(lbs br a).length by omega)
  have r1:=r1 i (by omega)
  rw[hu] at r1
  have e1:(Gr (lbs br a) (lbs br b) (i+1)).1=out++[(GS u v c).1]:=by show _++[_]=_;rw[hout,hu,hv,hc]
  have e2:(Gr (lbs br a) (lbs br b) (i+1)).2=(GS u v c).2:=by show(GS _ _ _).2=_;rw[hu,hv,hc]
  refine qP I (qP I ?_)
  refine qJ ?_
  refine qL 0 I I (fun W hp=>r1.hp hp) I (qP I (qP I (qC I I (fun W' hp=>CA W' q cap2 nb (lbs br b) i v (hB.hp hp) hnb' (by omega) hv) (qP I (qP I (qP I (qV 25 ((u:Int)-v-c) I (by show w64 (w64 ((u:Int)-v)-c)=_;rw[Ar (x:=(u:Int)-v) (by omega) (by omega),Ar (by omega) (by omega)]) (qP I (AR (Aa (zE (zA (zB ?_)))))))))))))
  refine wP I (Aa (AG (Ax (Ax (zB (wP I (wP I ?_)))))))
  refine Ad 27 (.bool (decide ((u:Int)-v-c<0))) I I ?_
  refine Aa (AG ?_)
  try refine Ax ?_
  refine AA (X:=Unit) (fun _=>[(0,slv (some ⟨b1,o1,none⟩) na cap),(1,slv q nb cap2),(5,Bo x i),(6, .int .i64 ((GS u v c).2:Nat)),(7, .int .i64 (i:Nat)),(8, .int .i64 ((GS u v c).1:Nat))]) (fun _=>[B3 x out]) (fun _=>True) ?_ ?_
  ·refine As I (fun hn=> ?_) (fun hn=> ?_)
   ·have hn:(u:Int)-v-c<0:=of_decide_eq_true hn
    have em:GS u v c=(u+br-v-c,1):=by unfold GS;rw[if_neg (by omega)]
    exact zA (zB (wP I (wP I (wV 29 ((u+br-v-c:Nat):Int) I (by show w64 (((u:Int)-v-c)+((1000000:Nat):Int))=_;rw[Ar (by omega) (by omega)];show _=((u+1000000-v-c:Nat):Int);omega) (wP I (Aa (zE (zB (wP I (Aa (An () tO ⟨I,I,I,by rw[em];rfl,I,by rw[em];rfl,tO⟩ [] I)))))))))))
   ·have hn: ¬(u:Int)-v-c<0:=of_decide_eq_false hn
    have em:GS u v c=(u-v-c,0):=by unfold GS;rw[if_pos (by omega)]
    exact zI (An () tO ⟨I,I,I,by rw[em];rfl,I,by rw[em];exact congrArg (fun z=>some (Value.int .i64 z)) (by show(u:Int)-v-c=((u-v-c:Nat):Int);omega),tO⟩ [] I)
  intro _ _
  refine zB (wP I (wP I ?_))
  refine AD Tryz.hZ tH I I I I I I I I I I I fun bN=> ?_
  refine BN (V:=nvV x) (len:=i) (xs:=nI out) 0 1 Tryz.vec170 (i+1) (nI (out++[(GS u v c).1])) I I I I I I I I I I I (by rw[←hlen];exact hx) I I I (by rw[H9];rfl) (by simp only[maxLen];omega) (by omega) I ?_
  intro g1 c1 j1 hV1
  refine wP I (Aa (zN (zE (zB (wP I (wP I (wV 15 ((i+1:Nat):Int) I (Az (by omega)) (wP I (Aa ?_)))))))))
  refine A0 (i+1,g1,c1,j1) ⟨h1, ?_⟩ (by show na-(i+1)<na-i;omega) ⟨I,I,I,by rw[e2];rfl,I,tO⟩ _ (by show _=[B3 _ (Gr _ _ (i+1)).1]++_;rw[e1];rfl)
  show BW _ (Gr (lbs br a) (lbs br b) (i+1)).1
  rw[e1]
  show Vec.OK _ 1 (out++[_]).length _
  rw[List.length_append,hlen]
  exact hV1
 ·have e:i=na:=by omega
  subst e
  have ev:lv br out=a-b:=L4 br2 hlen hob hval hal hba
  obtain⟨j2,hj1,hj2⟩:=Do hx hob
  rw[ev] at hj1 hj2
  refine wU 13 false I (dF (by omega)) (Aa (zE (zS I (zJ (zK (zK (zL (zE (zA (zB (wP I ?_)))))))))))
  refine Ad 34 (slv (some ⟨x.1,0,none⟩) out.length x.2.1) I (by rw[hlen]) ?_
  exact wC I I (fun W' hp=>Cp W' (some ⟨x.1,0,none⟩) x.2.1 out (Ap.of_bx hp 0 I) hob (by have:=(hx.cap (by simp)).1;exact this) (by omega)) (wP I (Aa (zE (zO (Aw tH I (.tmp I) ((x.1,x.2.1,j2):NV) (by rw[ev]) hj1 fun W hp=>Ao.of_hp1 hp 0 (by show some (⟨x.1,3,nI out++x.2.2,true,none⟩:Bx)=some ⟨x.1,3,nI (lbs br (a-b))++j2,true,none⟩;rw[hj2]))))))
-- BOXES 4
-- CODE2
theorem Rj {x y:Nat} (hx:x<br) (hy:y<br):x*y≤999998000001:=(Nat.mul_le_mul (Nat.le_of_lt_succ hx) (Nat.le_of_lt_succ hy):x*y≤999999*999999)
theorem Hs (W:World) (p q:Option Addr) (cap cap2:Nat) (a:Nat) (lb:List Nat) (hlb: ∀x∈lb,x<br) (hA:Ap W p (lbs br a)) (hB:Ap W q lb) (hna:(lbs br a).length≤1000000) (hnb:lb.length≤1000000):
  Ah Tryz.prog 228 #[slv p (lbs br a).length cap,slv q lb.length cap2] W (fun x:NV=>Bo x (lbs br (a*lv br lb)).length) (fun x=>BW x (lbs br (a*lv br lb))) (fun x=>[B3 x (lbs br (a*lv br lb))]):=by
 have hla:=Bd br2 a
 have hal:=AE br2 a
 have hbl:=E9 br2 hlb
 obtain⟨b,hbv⟩: ∃b,lv br lb=b:=⟨_,rfl⟩
 rw[hbv] at hbl⊢
 obtain⟨na,hna'⟩: ∃n,(lbs br a).length=n:=⟨_,rfl⟩
 obtain⟨nb,hnb'⟩: ∃n,lb.length=n:=⟨_,rfl⟩
 obtain⟨M,hM⟩: ∃M,M=na+nb+1:=⟨_,rfl⟩
 rw[hna'] at hna hal
 rw[hnb'] at hnb hbl
 refine Ab (args:=[slv p (lbs br a).length cap,slv q lb.length cap2]) Tryz.func228 I I I ?_
 rw[hna',hnb']
 refine zA (zB (wP I (Aa (zE (zA (zB ?_))))))
 iterate 6 refine wP I ?_
 refine wV 15 (M:Nat) I (by show w64 (w64 ((na:Int)+nb)+1)=_;rw[AL (by omega),Az (by omega),hM]) ?_
 refine BK Tryz.vec170 M I I I I I I I (by simp only[maxLen];omega) (by omega) ?_
 intro g
 have ez:Cu (Value.cells (.int .i64 0)).toList M=nI (List.replicate M 0)++[]:=by rw[List.append_nil];exact EQ M
 rw[ez]
 refine wP I (Aa (zE (zA (zA (zB (wP I (Aa (zE (zH ?_)))))))))
 refine A8 (X:=Nat×List Nat) (fun x=>[(0,slv p na cap),(1,slv q nb cap2),(5,slv (some ⟨g,0,none⟩) M M),(6, .int .i64 (x.1:Nat))]) (fun x=>[⟨g,3,nI x.2++[],true,none⟩])
  (fun x=>x.1≤na∧x.2.length=M∧(∀y∈x.2,y<br)∧lv br x.2=a%br^x.1*b) (fun x=>na-x.1) (0,List.replicate M 0) ⟨Nat.zero_le _,List.length_replicate,fun y hy=>by rw[List.eq_of_mem_replicate hy];decide,by rw[DT];show 0=a%br^0*b;rw[Nat.pow_zero,Nat.mod_one,Nat.zero_mul]⟩ ⟨rfl,rfl,rfl,rfl,trivial⟩ [] rfl ?_
 rintro⟨i,out⟩ ⟨hi,hlen,hob,hov⟩
 have hi:i≤na:=hi
 have hlen:out.length=M:=hlen
 refine zA (zA (zB (wP I (wP I (wP I (wP I ?_))))))
 by_cases hi':i<na
 ·refine wU 20 true I (dT (by omega)) (Aa (zE (zR I (zI (zE (zA (zH (zA (zB ?_)))))))))
  obtain⟨pb,po,rfl,hrow⟩:=hA.row (show i<(lbs br a).length by omega)
  obtain⟨x,hx⟩: ∃x,lim (lbs br a) i=x:=⟨_,rfl⟩
  have hrx: ∀W' bx,Hp W bx W'→Al W' pb (po+i*1) [.int .i64 (x:Nat)]:=fun W' bx hp=>by
   have:=(hrow i (by omega)).hp hp
   rwa [hx] at this
  have hxb:x<br:=by rw[←hx];exact AY br2 hla i
  have hxe:x=a/br^i%br:=by rw[←hx];exact Ba br2 a i
  refine wP I (Aa (zE (zA (zB (wP I (Aa (zE (zH ?_))))))))
  refine A8 (X:=Nat×List Nat×Nat) (fun x'=>[(0,slv (some ⟨pb,po,none⟩) na cap),(1,slv q nb cap2),(5,slv (some ⟨g,0,none⟩) M M),(6, .int .i64 (i:Nat)),(7, .int .i64 (x'.2.2:Nat)),(8, .int .i64 (x'.1:Nat))]) (fun x'=>[⟨g,3,nI x'.2.1++[],true,none⟩])
   (fun x'=>x'.1≤nb+1∧x'.2.1.length=M∧(∀y∈x'.2.1,y<br)∧x'.2.2<br∧lv br x'.2.1+br^(i+x'.1)*x'.2.2=lv br out+br^i*(x*(b%br^x'.1))) (fun x'=>nb+1-x'.1) (0,out,0) ⟨Nat.zero_le _,hlen,hob,show 0<br by decide,by show lv br out+br^(i+0)*0=lv br out+br^i*(x*(b%br^0));rw[Nat.pow_zero,Nat.mod_one];simp⟩ ⟨rfl,rfl,rfl,rfl,rfl,rfl,trivial⟩ [] rfl ?_
  rintro⟨k,u,c⟩ ⟨hk,hul,hub,hcb,huv⟩
  have hk:k≤nb+1:=hk
  have hul:u.length=M:=hul
  have hcb:c<1000000:=hcb
  have huv:lv br u+br^(i+k)*c=lv br out+br^i*(x*(b%br^k)):=huv
  have hlast:k=nb+1→c=0:=fun e=>by
   subst e
   exact(L9 br2 huv hbl hxb (by rw[hov];exact Jn br2 hbl)).2
  refine Ax (Ax ?_)
  refine AA (X:=Unit) (fun _=>[(0,slv (some ⟨pb,po,none⟩) na cap),(1,slv q nb cap2),(5,slv (some ⟨g,0,none⟩) M M),(6, .int .i64 (i:Nat)),(7, .int .i64 (c:Nat)),(8, .int .i64 (k:Nat)),(30, .bool (decide (k<nb∨0<c)))]) (fun _=>[⟨g,3,nI u++[],true,none⟩]) (fun _=>True) ?_ ?_
  ·refine zB (wP I (wP I (wP I (wP I ?_))))
   by_cases h1:k<nb
   ·refine wU 26 true I (dT (by omega)) (wP I ?_)
    iterate 2 refine Ak I I ?_
    exact wP I (Aa (An () tO ⟨I,I,I,I,I,I,by rw[dT (Or.inl h1)];rfl,tO⟩ [] I))
   ·exact wU 26 false I (dF (by omega)) (wP I (wP I (wP I (wU 29 (decide (k<nb∨0<c)) I (decide_eq_decide.2 (by show((c:Nat):Int)>0↔(k<nb∨0<c);omega)) (wP I (Aa (An () tO ⟨I,I,I,I,I,I,I,tO⟩ [] I)))))))
  intro _ _
  refine As I (fun hc=> ?_) (fun hc=> ?_)
  ·have hc:k<nb∨0<c:=of_decide_eq_true hc
   have hk':k<nb+1:=by
    rcases Nat.lt_or_ge k (nb+1) with h|h
    ·exact h
    ·have:=hlast (by omega);omega
   have hik:i+k<u.length:=by rw[hul];omega
   obtain⟨o,ho⟩: ∃o,lim u (i+k)=o:=⟨_,rfl⟩
   obtain⟨y,hy⟩: ∃y,lim lb k=y:=⟨_,rfl⟩
   have hob':o<br:=by rw[←ho];exact AY br2 hub _
   have hyb:y<br:=by rw[←hy];exact AY br2 hlb _
   have hou:u[i+k]? =some o:=by rw[CS hik,ho]
   obtain⟨n,hn⟩: ∃n,n=o+x*y+c:=⟨_,rfl⟩
   have hnb2:=Jc hxb hyb hob' hcb hn
   have hn63:n<1000000000000:=hnb2.2
   have hxy:=Rj hxb hyb
   have hyy:=hy
   rw[Cf br2 k hlb,hbv] at hyy
   have hstep:=H4 (n:=n) hou huv (by rw[hn,hyy])
   have hrx':=hrx
   refine zI (zE (zA (zH (zA (zU (qP I (qP I (qP I (qP I (qV 36 ((i+k:Nat):Int) I (AL (by omega)) ?_))))))))))
   refine qJ ?_
   refine qL 0 I I (fun W' hp=>Al.of_intsX hp 0 I hik ho) I (qP I (qP I ?_))
   refine qJ ?_
   refine qL 0 I I (fun W' hp=>hrx W' _ hp) I (qP I (qP I (qC I I (fun W' hp=>CA W' q cap2 nb lb k y (hB.hp hp) hnb' (by omega) hy) (qP I (qP I (qP I (qP I (qV 49 (n:Nat) I (by show w64 (w64 ((o:Int)+w64 ((x:Int)*y))+c)=_;rw[BU (by omega),AL (by omega),AL (by omega),hn]) (qP I (AR (Aa (zE (zA ?_)))))))))))))
   refine zB (wP I (wP I (wP I (wP I (wV 53 ((i+k:Nat):Int) I (AL (by omega)) (wP I ?_))))))
   refine EL I I I I I (by decide) ?_
   refine wJ ?_
   refine AC 0 (nI (u.set (i+k) (n%br))++[]) tH I I I I I I I I I I (by show 0+(i+k)*1+1≤(nI u++[]).length;rw[List.append_nil,By];omega) (Ce hik (n%br)) ?_
   refine Aa (zE (zB (wP I ?_)))
   refine Df I I I I I (by decide) ?_
   exact wV 58 ((n/br:Nat):Int) I (B0 (show n/1000000<9223372036854775808 by omega)) (wP I (Aa (zN (zE (zB (wP I (wP I (wV 32 ((k+1:Nat):Int) I (Az (by omega)) (wP I (Aa (A0 (k+1,u.set (i+k) (n%br),n/br) ⟨hk',by rw[List.length_set];exact hul,Cr hub (Nat.mod_lt _ (by decide)),hnb2.1,hstep⟩ (by show nb+1-(k+1)<nb+1-k;omega) ⟨I,I,I,I,I,I,tO⟩ [] I)))))))))))
  ·have hc: ¬(k<nb∨0<c):=of_decide_eq_false hc
   have hc0:c=0:=by omega
   have h1:lv br u=lv br out+br^i*(x*b):=by
    rw[hc0,Nat.mul_zero,Nat.add_zero] at huv
    have h3:br^nb≤br^k:=Nat.pow_le_pow_right (by decide) (by omega)
    rw[Nat.mod_eq_of_lt (show b<br^k by omega)] at huv
    exact huv
   have h2:=Kw (a:=a) (b:=b) (i:=i) hov
   rw[←hxe, ←h1] at h2
   exact zJ (zK (zK (zL (zN (zE (zB (wP I (wP I (wV 22 ((i+1:Nat):Int) I (Az (by omega)) (wP I (Aa (A0 (i+1,u) ⟨hi',hul,hub,h2⟩ (by show na-(i+1)<na-i;omega) ⟨I,I,I,I,tO⟩ [] I))))))))))))
 ·have hi':i=na:=by omega
  subst hi'
  rw[Nat.mod_eq_of_lt hal] at hov
  refine wU 20 false I (dF (by omega)) (Aa (zE (zS I (zJ (zK (zK (zL (zE (zA (zB ?_))))))))))
  have hV0:(⟨some g,M,[]⟩:Vec).OK 1 out.length (nI out):=⟨DO _,(fun h=>by cases h),fun _=>⟨by show _≤M;omega,by show M≤maxLen;simp only[maxLen];omega,by show(nI out).length+0=M*1;rw[By];omega⟩⟩
  obtain⟨j',hV2,he⟩:=Do hV0 hob
  refine wP I ?_
  refine Ad 59 (slv (some ⟨g,0,none⟩) out.length M) I (by rw[hlen]) ?_
  refine wC I I (fun W hp=>Cp W _ M _ (Ap.of_bx hp 0 I) hob (by omega) (by omega)) (wP I (Aa (zE (zO ?_))))
  rw[hov] at hV2 he
  exact Aw tH I (.tmp I) ((g,M,j'):NV) (by rw[hov]) hV2 fun W hp=>Ao.of_hp1 hp 0 (by show some (⟨g,3,nI out++[],true,none⟩:Bx)=some ⟨g,3,nI (lbs br (a*b))++j',true,none⟩;rw[he])
theorem Iz (W:World) (p q:Option Addr) (cap cap2:Nat) (a b:Nat) (hA:Ap W p (lbs br a)) (hB:Ap W q (lbs br b)) (hna:(lbs br a).length≤1000000) (hnb:(lbs br b).length≤1000000):
  Ah Tryz.prog 228 #[slv p (lbs br a).length cap,slv q (lbs br b).length cap2] W (fun x:NV=>Bo x (lbs br (a*b)).length) (fun x=>BW x (lbs br (a*b))) (fun x=>[B3 x (lbs br (a*b))]):=by
 have h:=Hs W p q cap cap2 a (lbs br b) (Bd br2 b) hA hB hna hnb
 rwa [II br2] at h
-- BOXES 2
-- CODE2
def FK (z:Int):List UInt8:=if z<0 then[45] else[]
theorem BD (z:Int):itoa z=FK z++decDigits z.natAbs:=by
 unfold itoa FK
 split
 ·rfl
 ·rw[show z.toNat=z.natAbs by omega];rfl
theorem J8 (z:Int):(FK z).length≤1:=by unfold FK;split<;>decide
theorem DR (z:Int): ∃c,(itoa z)[0]? =some c∧decide (c=45)=decide (z<0):=by
 have h:=IZ z
 rw[Bh] at h
 cases e:itoa z with
 |nil=>
  rw[BD] at e
  exact absurd (List.append_eq_nil_iff.1 e).2 (EK _)
 |cons c t=>
  rw[e] at h
  exact⟨c,I,by rw[←h];exact decide_eq_decide.2 (by simp)⟩
theorem Pi {n:Nat} (h:(decDigits n)[0]? =some 48):n=0:=by
 rcases Nat.eq_zero_or_pos n with h0|h0
 ·exact h0
 ·obtain⟨b,r,h1,h2⟩:=J1 n (by omega)
  rw[h1] at h
  have h:b=48:=by simpa using h
  rw[h] at h2;exact absurd rfl h2
theorem Eg (z:Int) (hl:(decDigits z.natAbs).length≤300):Bn Tryz.prog 222 [str (itoa z)] (.int .i64 0):=by
 intro W
 obtain⟨s,hs⟩: ∃s,s=itoa z:=⟨_,rfl⟩
 obtain⟨dd,hdd⟩: ∃dd,dd=decDigits z.natAbs:=⟨_,rfl⟩
 obtain⟨f,hf⟩: ∃f,f=(FK z).length:=⟨_,rfl⟩
 have hss:s=FK z++dd:=by rw[hs,hdd];exact BD z
 have hf1:f≤1:=hf▸J8 z
 have hsl:s.length=f+dd.length:=by rw[hss,List.length_append,hf]
 have hd0:0<dd.length:=by rw[hdd];exact List.length_pos_iff.2 (EK _)
 have hget: ∀i,f≤i→s[i]? =dd[i-f]? :=fun i hi=>by rw[hss,List.getElem?_append_right (by omega),hf]
 obtain⟨c0,hc0,hc45⟩:=DR z
 rw[←hs] at hc0⊢
 rw[←hdd] at hl
 have hdg: ∀b∈dd,De b=true:=by rw[hdd];exact(Ef _).all
 refine Ab Tryz.func222 I I I ?_
 refine zA (zB (wP I (Aa (zE (zA (zB (wP I (Aa (zE (zA (zA (zB (wP I (wP I ?_))))))))))))))
 refine Ad 6 (.int .i64 (s.length:Nat)) I (congrArg (fun n:Nat=>Value.int .i64 (n:Int)) (At s)) ?_
 refine wP I (wU 7 true I (dT (by omega)) (wP I (wP I ?_)))
 refine AQ 0 tH I I I I I I I I hc0 ?_
 refine wP I (wU 11 (decide (z<0)) I ((CL c0 45).trans hc45) (wP I (Aa (AG ?_))))
 try refine Ax ?_
 refine AA (X:=Unit) (fun _=>[(0,str s),(3, .int .i64 (f:Nat))]) (fun _=>[]) (fun _=>True) ?_ ?_
 ·refine As I (fun h=> ?_) (fun h=> ?_)
  ·have h:z<0:=of_decide_eq_true h
   exact zB (wP I (Aa (An () tO ⟨I,by rw[hf];unfold FK;rw[if_pos h];rfl,tO⟩ [] I)))
  ·have h: ¬z<0:=of_decide_eq_false h
   exact zI (An () tO ⟨I,by rw[hf];unfold FK;rw[if_neg h];rfl,tO⟩ [] I)
 intro _ _
 refine Ax (Ax ?_)
 refine AA (X:=Unit) (fun _=>[(0,str s),(3, .int .i64 (f:Nat)),(27, .bool false)]) (fun _=>[]) (fun _=>True) ?_ ?_
 ·refine zB (wP I (wP I (wP I ?_)))
  refine Ad 15 (.int .i64 (s.length:Nat)) I (congrArg (fun n:Nat=>Value.int .i64 (n:Int)) (At s)) ?_
  refine wP I (wU 16 false I (by rw[beq_eq_false_iff_ne];omega) ?_)
  obtain⟨b,hb⟩: ∃b,dd[0]? =some b:=⟨dd[0],List.getElem?_eq_getElem hd0⟩
  have hsb:s[f]? =some b:=by rw[hget f (Nat.le_refl _),Nat.sub_self];exact hb
  refine wP I (wP I (wP I ?_))
  refine AQ f tH I I I I I I I I hsb ?_
  refine wP I ?_
  by_cases h48:b=48
  ·rw[h48,hdd] at hb
   have h0:=Pi hb
   have hz:z=0:=by omega
   have hs1:s.length=1:=by rw[hs,hz,BP];rfl
   refine wU 21 true I ((CL b 48).trans (dT h48)) (wP I (wP I (wP I ?_)))
   refine Ad 24 (.int .i64 (s.length:Nat)) I (congrArg (fun n:Nat=>Value.int .i64 (n:Int)) (At s)) ?_
   exact wP I (wU 25 false I (dF (by omega)) (wP I (wP I (Aa (An () tO ⟨I,I,I,tO⟩ [] I)))))
  ·refine wU 21 false I ((CL b 48).trans (dF h48)) (wP I ?_)
   iterate 3 refine Ak I I ?_
   exact wP I (wP I (Aa (An () tO ⟨I,I,I,tO⟩ [] I)))
 intro _ _
 refine zS I (zI (zE (zA (zA (zB (wP I (wP I (Aa (zE (zH ?_))))))))))
 refine A8 (X:=Nat) (fun i=>[(0,str s),(3, .int .i64 (f:Nat)),(4, .int .i64 (i:Nat))]) (fun _=>[]) (fun i=>i≤s.length∧f≤i) (fun i=>s.length-i) f ⟨by omega,Nat.le_refl _⟩ ⟨I,I,I,tO⟩ [] I ?_
 rintro i ⟨hi,hfi⟩
 have hi:i≤s.length:=hi
 have hfi:f≤i:=hfi
 refine zA (zA (zB (wP I (wP I (wP I ?_)))))
 refine Ad 31 (.int .i64 (s.length:Nat)) I (congrArg (fun n:Nat=>Value.int .i64 (n:Int)) (At s)) ?_
 refine wP I ?_
 by_cases hlt:i<s.length
 ·refine wU 32 true I (dT (by omega)) (Aa (zE (zR I (zI (zE (zA (zH (zA (zB ?_)))))))))
  obtain⟨b,hb⟩: ∃b,dd[i-f]? =some b:=⟨dd[i-f]'(by omega),List.getElem?_eq_getElem (by omega)⟩
  have hsb:s[i]? =some b:=by rw[hget i hfi];exact hb
  have hbd:=Ch.1 (hdg b (List.mem_of_getElem? hb))
  refine wP I (wP I ?_)
  refine AQ i tH I I I I I I I I hsb ?_
  refine wP I (wU 38 false I ((PP b).trans (dF (by omega))) (wP I (wP I (wP I ?_))))
  refine AQ i tH I I I I I I I I hsb ?_
  refine wP I (wU 43 false I ((Qb b).trans (dF (by omega))) (wP I (Aa (zE (zS I (zI (zN (zE (zB (wP I (wP I (wV 34 ((i+1:Nat):Int) I (Az (by omega)) (wP I ?_)))))))))))))
  exact Aa (A0 (i+1) ⟨hlt,by show f≤i+1;omega⟩ (by show s.length-(i+1)<s.length-i;omega) ⟨I,I,I,tO⟩ [] I)
 ·refine wU 32 false I (dF (by omega)) (Aa (zE (zS I (zJ (zK (zK (zL (zE (zA (zA (zB (wP I (wP I ?_)))))))))))))
  refine Ad 46 (.int .i64 (s.length:Nat)) I (congrArg (fun n:Nat=>Value.int .i64 (n:Int)) (At s)) ?_
  refine wP I (wP I (wV 48 (dd.length:Nat) I (by show w64 ((s.length:Int)-f)=_;rw[Ar (by omega) (by omega)];omega) (wP I (wU 49 false I (dF (by omega)) (Aa (zE (zS I (zI (zE (zA (zB (wP I (Aa ?_)))))))))))))
  exact zE (zO (wR1 I I I))
theorem C8 (a b:Int) (ha:(decDigits a.natAbs).length≤300) (hb:(decDigits b.natAbs).length≤300):Bn Tryz.prog 169 [str (itoa a),str (itoa b)] (.int .i64 0):=by
 intro W
 refine Ab Tryz.func169 I I I ?_
 refine zA (zB (wP I (Aa (zE (zA (zA (zB (wP I (wC I I (fun W _=>Eg a ha W) (wP I (Aa (zE (zA ?_)))))))))))))
 refine zB (wP I (wP I (Aa (zE (zS I (zI (zE (zA (zB (wP I (wC I I (fun W _=>Eg b hb W) (wP I (Aa ?_)))))))))))))
 exact zE (zO (wR1 I I I))
def smI (z:Int):Bool:=decide ((itoa z).length≤17)
theorem Gz {z:Int} (h:smI z=true):z.natAbs<100000000000000000:=by
 have h:(itoa z).length≤17:=of_decide_eq_true h
 rw[BD,List.length_append] at h
 exact Nat.lt_of_lt_of_le (CM _) (show _≤10^17 from Nat.pow_le_pow_right (by decide) (by omega))
theorem Ic (z:Int) (hl:(itoa z).length<4611686018427387904):Bn Tryz.prog 223 [str (itoa z)] (.tuple #[.int .i64 (if smI z=true then z else 0), .bool (smI z)]):=by
 intro W
 obtain⟨s,hs⟩: ∃s,s=itoa z:=⟨_,rfl⟩
 obtain⟨dd,hdd⟩: ∃dd,dd=decDigits z.natAbs:=⟨_,rfl⟩
 obtain⟨f,hf⟩: ∃f,f=(FK z).length:=⟨_,rfl⟩
 have hss:s=FK z++dd:=by rw[hs,hdd];exact BD z
 have hf1:f≤1:=hf▸J8 z
 have hsl:s.length=f+dd.length:=by rw[hss,List.length_append,hf]
 have hd0:0<dd.length:=by rw[hdd];exact List.length_pos_iff.2 (EK _)
 have hget: ∀i,f≤i→s[i]? =dd[i-f]? :=fun i hi=>by rw[hss,List.getElem?_append_right (by omega),hf]
 have hneg: ∀i,i<f→s[i]? =some 45:=fun i hi=>by
  have h0:i=0:=by omega
  subst h0
  rw[hss]
  unfold FK at hf⊢
  split
  ·rfl
  ·rename_i h;rw[if_neg h] at hf;simp at hf;omega
 obtain⟨c0,hc0,hc45⟩:=DR z
 have hsm:smI z=decide (s.length≤17):=by rw[hs];rfl
 rw[←hs] at hc0 hl⊢
 have hdg: ∀b∈dd,De b=true:=by rw[hdd];exact(Ef _).all
 refine Ab Tryz.func223 I I I ?_
 refine zA (zB (wP I (wP I (Aa (zE (zA (zA (zB (wP I (wP I ?_))))))))))
 refine Ad 7 (.int .i64 (s.length:Nat)) I (congrArg (fun n:Nat=>Value.int .i64 (n:Int)) (At s)) ?_
 refine wP I ?_
 by_cases h17:s.length≤17
 rotate_left
 ·exact wU 8 true I (dT (by show((s.length:Nat):Int)>17;omega)) (Aa (zE (zR I (zA (zB (wP I (wP I (Aa (zE (zO (zP (wR2 I I (by rw[hsm,dF h17];rfl)))))))))))))
 have hlt: ∀i,AI (dd.take i)<100000000000000000:=fun i=>by
  have h1:=EZ (dd.take i).length (s:=dd.take i) rfl fun b hb=>hdg b (List.mem_of_mem_take hb)
  have h2:(dd.take i).length≤17:=by rw[List.length_take];omega
  exact Nat.lt_of_lt_of_le h1 (show _≤10^17 from Nat.pow_le_pow_right (by decide) h2)
 refine wU 8 false I (dF (by show¬((s.length:Nat):Int)>17;omega)) (Aa (zE (zS I (zI (zE (zA (zB (wP I (Aa (zE (zA (zA (zB ?_)))))))))))))
 refine wP I (Aa (zE (zH ?_)))
 refine A8 (X:=Nat) (fun i=>[(0,str s),(4, .int .i64 (AI (dd.take (i-f)):Nat)),(5, .int .i64 (i:Nat))]) (fun _=>[]) (fun i=>i≤s.length) (fun i=>s.length-i) 0 (Nat.zero_le _) ⟨I,by show some _=some (Value.int .i64 (AI (dd.take (0-f)):Nat));rw[Nat.zero_sub,List.take_zero];rfl,I,tO⟩ [] I ?_
 intro i hi
 have hi:i≤s.length:=hi
 refine zA (zA (zB (wP I (wP I (wP I ?_)))))
 refine Ad 11 (.int .i64 (s.length:Nat)) I (congrArg (fun n:Nat=>Value.int .i64 (n:Int)) (At s)) ?_
 refine wP I ?_
 by_cases hlt':i<s.length
 ·refine wU 12 true I (dT (by omega)) (Aa (zE (zR I (zI (zE ?_)))))
  try refine Ax ?_
  refine AA (X:=Unit) (fun _=>[(0,str s),(4, .int .i64 (AI (dd.take (i+1-f)):Nat)),(5, .int .i64 (i:Nat))]) (fun _=>[]) (fun _=>True) ?_ ?_
  ·refine zH (zA (zB (wP I (wP I ?_))))
   by_cases hif:i<f
   ·refine AQ i tH I I I I I I I I (hneg i hif) ?_
    exact wP I (Aa (zE (zS I (zI (zN (An () tO ⟨I,by rw[show i+1-f=0 by omega,show i-f=0 by omega];rfl,I,tO⟩ [] I))))))
   obtain⟨b,hb⟩: ∃b,dd[i-f]? =some b:=⟨dd[i-f]'(by omega),List.getElem?_eq_getElem (by omega)⟩
   have hsb:s[i]? =some b:=by rw[hget i (by omega)];exact hb
   have hbd:=Ch.1 (hdg b (List.mem_of_getElem? hb))
   have e1:AI (dd.take (i+1-f))=10*AI (dd.take (i-f))+(b.toNat-48):=by
    rw[show i+1-f=i-f+1 by omega,List.take_add_one,hb];exact CB _ _
   have l1:=hlt (i-f)
   have l2:=hlt (i+1-f)
   refine AQ i tH I I I I I I I I hsb ?_
   refine wP I ?_
   refine Ad 18 (.bool true) I (congrArg Value.bool (by
    show(!((((b.toNat:Nat):Int))==(45:Int)))=true
    rw[Bool.not_eq_true',beq_eq_false_iff_ne];omega)) ?_
   refine Aa (zE (zR I (zB (wP I (wP I (wV 20 ((10*AI (dd.take (i-f)):Nat):Int) I (show w64 (10*(AI (dd.take (i-f)):Nat))=_ by rw[Ar (by omega) (by omega)];omega) (wP I (wP I ?_))))))))
   refine AQ i tH I I I I I I I I hsb ?_
   refine wP I ?_
   refine Ad 24 (.int .u8 ((b.toNat-48:Nat):Int)) I (congrArg (Value.int .u8) (by show IntKind.u8.wrap (((b.toNat:Nat):Int)-48)=_;rw[show((b.toNat:Nat):Int)-48=((b.toNat-48:Nat):Int) by omega,N1 (by omega) (by omega)])) ?_
   refine IT Tryz.underlying5 Tryz.underlying3 I I I I ?_
   exact wV 25 ((b.toNat-48:Nat):Int) I (B0 (by omega)) (wP I (wV 26 ((AI (dd.take (i+1-f)):Nat):Int) I (show w64 (((10*AI (dd.take (i-f)):Nat):Int)+((b.toNat-48:Nat):Int))=_ by rw[Ar (by omega) (by omega),e1];omega) (wP I (Aa (zN (An () tO ⟨I,I,I,tO⟩ [] I))))))
  intro _ _
  exact zB (wP I (wP I (wV 14 ((i+1:Nat):Int) I (Az (by omega)) (wP I (Aa (A0 (i+1) hlt' (by show s.length-(i+1)<s.length-i;omega) ⟨I,I,I,tO⟩ [] I))))))
 ·refine wU 12 false I (dF (by omega)) (Aa (zE (zS I (zJ (zK (zK (zL (zE (zA (zA (zB ?_)))))))))))
  have hv:AI (dd.take (i-f))=z.natAbs:=by rw[List.take_of_length_le (by omega),hdd,BA]
  have hzl:z.natAbs<100000000000000000:=by rw[←hv];exact hlt _
  refine wP I ?_
  refine AQ 0 tH I I I I I I I I hc0 ?_
  refine wP I (wU 29 (decide (z<0)) I ((CL c0 45).trans hc45) (Aa (AG ?_)))
  try refine Ax ?_
  refine AA (X:=Unit) (fun _=>[(4, .int .i64 z)]) (fun _=>[]) (fun _=>True) ?_ ?_
  ·refine As I (fun h=> ?_) (fun h=> ?_)
   ·have h:z<0:=of_decide_eq_true h
    exact zB (wP I (wP I (wV 31 z I (by rw[hv];show w64 (0-((z.natAbs:Nat):Int))=_;rw[Ar (by omega) (by omega)];omega) (wP I (Aa (An () tO ⟨I,tO⟩ [] I))))))
   ·have h: ¬z<0:=of_decide_eq_false h
    exact zI (An () tO ⟨congrArg (fun z=>some (Value.int .i64 z)) (by rw[hv];omega),tO⟩ [] I)
  intro _ _
  exact zA (zB (wP I (wP I (wP I (Aa (zE (zO (wR2 I I (by rw[hsm,dT h17,if_pos I])))))))))
theorem KK (a b:Int) (ha:(itoa a).length<4611686018427387904) (hb:(itoa b).length<4611686018427387904):Bn Tryz.prog 170 [str (itoa a),str (itoa b)] (.tuple #[.int .i64 (if smI a=true then a else 0), .int .i64 (if smI a=true then(if smI b=true then b else 0) else 0), .bool (smI a&&smI b)]):=by
 intro W
 refine Ab Tryz.func170 I I I ?_
 refine zA (zB (wP I (wP I (wP I (Aa (zE (zA (zB (wP I (wC I I (fun W _=>Ic a ha W) ?_))))))))))
 iterate 5 refine wP I ?_
 refine Aa ?_
 cases hsa:smI a with
 |false=>
  refine zE (zA (zA (zB (wP I (wP I (Aa (zE (zR I (zA (zB (wP I (wP I (wP I ?_)))))))))))))
  exact Aa (zE (zO (zP (wR3 I I I))))
 |true=>
  refine zE (zA (zA (zB (wP I (wP I (Aa (zE (zS I (zI (zE (zA (zB (wP I ?_)))))))))))))
  refine wC I I (fun W _=>Ic b hb W) ?_
  iterate 5 refine wP I ?_
  refine Aa (zE (zA (zB ?_)))
  iterate 6 refine wP I ?_
  exact Aa (zE (zO (wR3 I I I)))
-- BOXES 4
-- CODE2
theorem LO (a:List UInt8): ∀(n:Nat) (b:List UInt8),b.length=n→AI (a++b)=AI a*10^n+AI b
 |0,b,h=>by
  rw[List.length_eq_zero_iff.1 h,List.append_nil,Nat.pow_zero,Nat.mul_one];rfl
 |n+1,b,h=>by
  obtain⟨c,d,rfl⟩: ∃c d,b=c++[d]:=⟨b.dropLast,b.getLast (fun e=>by rw[e] at h;cases h),(List.dropLast_concat_getLast _).symm⟩
  have hc:c.length=n:=by rw[List.length_append] at h;exact Nat.succ.inj h
  rw[←List.append_assoc,CB,LO a n c hc,CB,Nat.pow_succ]
  grind
theorem N2 (a b:List UInt8):AI (a++b)=AI a*10^b.length+AI b:=LO a b.length b rfl
theorem Rp {m lo e:Nat} (_h1:lo≤e) (h2:e≤(decDigits m).length):AI (((decDigits m).take e).drop lo)=m/10^((decDigits m).length-e)%10^(e-lo):=by
 obtain⟨dd,hdd⟩: ∃dd,dd=decDigits m:=⟨_,rfl⟩
 have hdg: ∀b∈dd,De b=true:=by rw[hdd];exact(Ef m).all
 have hv:AI dd=m:=by rw[hdd];exact BA m
 rw[←hdd] at h2⊢
 have a1:=N2 (dd.take e) (dd.drop e)
 rw[List.take_append_drop,hv,List.length_drop] at a1
 have b1:=EZ (dd.drop e).length (s:=dd.drop e) rfl fun b hb=>hdg b (List.mem_of_mem_drop hb)
 rw[List.length_drop] at b1
 have c1:m/10^(dd.length-e)=AI (dd.take e):=by
  rw[a1,Nat.mul_comm,Nat.mul_add_div (Nat.pow_pos (by decide)),Nat.div_eq_of_lt b1,Nat.add_zero]
 rw[c1]
 have a2:=N2 ((dd.take e).take lo) ((dd.take e).drop lo)
 have b2:=EZ ((dd.take e).drop lo).length (s:=(dd.take e).drop lo) rfl fun b hb=>hdg b (List.mem_of_mem_take (List.mem_of_mem_drop hb))
 rw[List.take_append_drop] at a2
 have hl:((dd.take e).drop lo).length=e-lo:=by rw[List.length_drop,List.length_take,Nat.min_eq_left h2]
 rw[hl] at a2 b2
 rw[a2,Nat.mul_comm,Nat.mul_add_mod,Nat.mod_eq_of_lt b2]
def rdL (m:Nat) (j:Nat):List Nat:=(List.range j).map fun i=>m/br^i%br
theorem NM (m j:Nat):rdL m (j+1)=rdL m j++[m/br^j%br]:=by unfold rdL;rw[List.range_succ,List.map_append];rfl
theorem JE (m j:Nat):(rdL m j).length=j:=by unfold rdL;rw[List.length_map,List.length_range]
theorem Sn (m j:Nat): ∀x∈rdL m j,x<br:=fun x hx=>by
 obtain⟨i,_,rfl⟩:=List.mem_map.1 hx
 exact Nat.mod_lt _ (by decide)
theorem PF (m:Nat): ∀j,lv br (rdL m j)=m%br^j
 |0=>by show 0=_;rw[Nat.pow_zero,Nat.mod_one]
 |j+1=>by rw[NM,Md (JE m j),PF m j, ←Dz]
theorem IB (j:Nat):br^j=10^(6*j):=by rw[Nat.pow_mul]
theorem Si {m k:Nat} (h:m<10^(6*k)):(lbs br m).length≤k:=(BC br2).2 (by rw[IB];exact h)
theorem Up {m e k:Nat} (h:(decDigits m).length≤e) (he:e=6*k):(lbs br m).length≤k:=by
 subst he
 exact Si (Nat.lt_of_lt_of_le (CM m) (Nat.pow_le_pow_right (by decide) h))
theorem BT {m:Nat} (h:(decDigits m).length≤606):(lbs br m).length≤101:=Up h rfl
abbrev Tt (z:Int) (x:NV):Value:= .agg #[.bool (decide (z<0)),Bo x (lbs br z.natAbs).length]
theorem Ti (y:Int):(if y>0 then y else 0)=max 0 y:=by omega
theorem AU (z:Int) (hl:(decDigits z.natAbs).length≤1000) (W:World):
  Ah Tryz.prog 171 #[str (itoa z)] W (fun x:NV=>Tt z x) (fun x=>BW x (lbs br z.natAbs)) (fun x=>[B3 x (lbs br z.natAbs)]):=by
 obtain⟨m,hm⟩: ∃m,m=z.natAbs:=⟨_,rfl⟩
 obtain⟨c0,hc0,hc45⟩:=DR z
 have hzl:=BD z
 refine Ab (args:=[str (itoa z)]) Tryz.func171 I I I ?_
 refine zA (zB ?_)
 (refine Ag Tryz.hZ rfl rfl rfl rfl ?_;intro)
 refine Aa ?_
 rename_i b2
 refine zE (zA (zB ?_))
 refine Au Tryz.hZ tH I I I I I I I I ?_
 (refine Ag Tryz.hZ rfl rfl rfl rfl ?_;intro)
 refine wS 1 I I I (Aa ?_)
 rename_i b3
 refine zE (zA (zA (zB (wP I ?_))))
 refine AQ 0 tH I I I I I I I I hc0 ?_
 refine wP I (wU 10 (decide (z<0)) I ((CL c0 45).trans hc45) (Aa (AG ?_)))
 try refine Ax ?_
 refine AA (X:=Unit) (fun _=>[(0,str (decDigits m)),(2,Aj b2),(3,Aj b3)]) (fun _=>[⟨b2,187,[.bool false, .slice none 0 0],true,none⟩,⟨b3,187,[.bool (decide (z<0)), .slice none 0 0],true,none⟩]) (fun _=>True) ?_ ?_
 ·refine As I (fun h=> ?_) (fun h=> ?_)
  ·have h:z<0:=of_decide_eq_true h
   have e:itoa z=45::decDigits m:=by rw[hzl,hm];unfold FK;rw[if_pos h];rfl
   refine zA (zB (wP I (wS 1 I I I (Aa (zE (zB (wP I ?_)))))))
   refine Eu 1 tH I I I I I I I I (by rw[e,List.length_cons];omega) ?_
   exact wP I (Aa (An () tO ⟨by rw[e];rfl,I,I,tO⟩ [] (by rw[dT h];rfl)))
  ·have h: ¬z<0:=of_decide_eq_false h
   have e:itoa z=decDigits m:=by rw[hzl,hm];unfold FK;rw[if_neg h];rfl
   exact zI (An () tO ⟨by rw[e];rfl,I,I,tO⟩ [] (by rw[dF h];rfl))
 intro _ _
 rw[←hm] at hl⊢
 obtain⟨dd,hdd⟩: ∃dd,dd=decDigits m:=⟨_,rfl⟩
 have hdg: ∀b∈dd,De b=true:=by rw[hdd];exact(Ef m).all
 have hd0:0<dd.length:=by rw[hdd];exact List.length_pos_iff.2 (EK _)
 have hmid: ∀lo e,lo≤e→e≤dd.length→AI ((dd.take e).drop lo)=m/10^(dd.length-e)%10^(e-lo):=fun lo e h1 h2=>by
  rw[hdd] at h2⊢;exact Rp h1 h2
 have hmlt:m<10^dd.length:=by rw[hdd];exact CM m
 rw[←hdd] at hl⊢
 refine zA (zA (zB (wP I (wP I ?_))))
 refine Ad 15 (.int .i64 (dd.length:Nat)) I (congrArg (fun n:Nat=>Value.int .i64 (n:Int)) (At dd)) ?_
 refine wP I (Aa (zE (zH ?_)))
 refine FZ ?_
 refine A8 (X:=Nat×Vec) (fun x=>[(0,str dd),(2,Aj b2),(3,Aj b3),(4, .int .i64 ((dd.length:Int)-6*(x.1:Nat)))])
  (fun x=>[⟨b2,187,[.bool false, .slice none 0 0],true,none⟩,⟨b3,187,[.bool (decide (z<0)),x.2.val x.1],true,none⟩,x.2.bx 3 (nI (rdL m x.1))])
  (fun x=>x.2.OK 1 x.1 (nI (rdL m x.1))∧6*x.1<dd.length+6) (fun x=>dd.length+6-6*x.1) (0,Vec.empty) ⟨Vec.OK.empty 1,by show 6*0<_;omega⟩ ⟨rfl,rfl,rfl,congrArg (fun z=>some (Value.int .i64 z)) (by show((dd.length:Nat):Int)=(dd.length:Int)-6*((0:Nat):Int);omega),trivial⟩ [] rfl ?_
 rintro⟨j,V⟩ ⟨hV,hj⟩
 have hV:V.OK 1 j (nI (rdL m j)):=hV
 have hj:6*j<dd.length+6:=hj
 refine zA (zA (zB (wP I (wP I ?_))))
 by_cases hlt:6*j<dd.length
 ·refine wU 17 true I (dT (by show(dd.length:Int)-6*(j:Nat)>0;omega)) (Aa (zE (zR I (zI (zE (zA (zH (zA (zB ?_)))))))))
  obtain⟨e,he⟩: ∃e,e=dd.length-6*j:=⟨_,rfl⟩
  have hev:(dd.length:Int)-6*(j:Nat)=(e:Nat):=by omega
  obtain⟨lo,hlo⟩: ∃lo,lo=e-6:=⟨_,rfl⟩
  have hlim:AI ((dd.take e).drop lo)=m/br^j%br:=by
   rw[hmid lo e (by omega) (by omega),IB,show dd.length-e=6*j by omega]
   by_cases h6:6≤e
   ·rw[show e-lo=6 by omega]
   ·have hl0:lo=0:=by omega
    have h1:m/10^(6*j)<10^e:=by
     apply Nat.div_lt_of_lt_mul
     rw[←Nat.pow_add,show 6*j+e=dd.length by omega];exact hmlt
    have h2:(10:Nat)^e≤10^6:=Nat.pow_le_pow_right (by decide) (by omega)
    rw[hl0,Nat.sub_zero,Nat.mod_eq_of_lt h1,Nat.mod_eq_of_lt (show m/10^(6*j)<br by show _<10^6;omega)]
  refine wP I (Aa (zE (zA (zA (zB (wP I (wP I (wV 21 ((e:Int)-6) I (by show w64 ((dd.length:Int)-6*(j:Nat)-6)=_;rw[hev,Ar (by omega) (by omega)]) (wP I (wV 22 (lo:Nat) I (by show(if (e:Int)-6>0 then(e:Int)-6 else 0)=_;rw[Ti];omega) (wP I (Aa (zE ?_)))))))))))))
  refine zH ?_
  refine A8 (X:=Nat) (fun i=>[(0,str dd),(2,Aj b2),(3,Aj b3),(4, .int .i64 (e:Nat)),(5, .int .i64 (AI ((dd.take i).drop lo):Nat)),(6, .int .i64 (i:Nat))])
   (fun _=>[⟨b2,187,[.bool false, .slice none 0 0],true,none⟩,⟨b3,187,[.bool (decide (z<0)),V.val j],true,none⟩,V.bx 3 (nI (rdL m j))])
   (fun i=>lo≤i∧i≤e) (fun i=>e-i) lo ⟨Nat.le_refl _,by omega⟩ ⟨rfl,rfl,rfl,(by rw[hev];rfl),by show some _=some (Value.int .i64 (AI ((dd.take lo).drop lo):Nat));rw[List.drop_of_length_le (by rw[List.length_take];omega)];rfl,rfl,trivial⟩ [] rfl ?_
  rintro i ⟨hi1,hi2⟩
  have hi1:lo≤i:=hi1
  have hi2:i≤e:=hi2
  refine zA (zA (zB (wP I (wP I (wP I ?_)))))
  by_cases hie:i<e
  ·refine wU 25 true I (dT (by omega)) (Aa (zE (zR I (zI (zE (zA (zH (zB ?_))))))))
   obtain⟨b,hb⟩: ∃b,dd[i]? =some b:=⟨dd[i]'(by omega),List.getElem?_eq_getElem (by omega)⟩
   have hbd:=Ch.1 (hdg b (List.mem_of_getElem? hb))
   have e1:AI ((dd.take (i+1)).drop lo)=10*AI ((dd.take i).drop lo)+(b.toNat-48):=by
    rw[List.take_add_one,hb,List.drop_append_of_le_length (by rw[List.length_take];omega)]
    exact CB _ _
   have hbnd: ∀k,k≤e→AI ((dd.take k).drop lo)<1000000:=fun k hk=>by
    have h1:=EZ ((dd.take k).drop lo).length (s:=(dd.take k).drop lo) rfl fun b hb=>hdg b (List.mem_of_mem_take (List.mem_of_mem_drop hb))
    have h2:((dd.take k).drop lo).length≤6:=by rw[List.length_drop,List.length_take];omega
    exact Nat.lt_of_lt_of_le h1 (show _≤10^6 from Nat.pow_le_pow_right (by decide) h2)
   have l1:=hbnd i hi2
   have l2:=hbnd (i+1) hie
   refine wP I (wP I (wV 29 ((10*AI ((dd.take i).drop lo):Nat):Int) I (show w64 (10*(AI ((dd.take i).drop lo):Nat))=_ by rw[Ar (by omega) (by omega)];omega) (wP I (wP I ?_))))
   refine AQ i tH I I I I I I I I hb ?_
   refine wP I ?_
   refine Ad 33 (.int .u8 ((b.toNat-48:Nat):Int)) I (congrArg (Value.int .u8) (by show IntKind.u8.wrap (((b.toNat:Nat):Int)-48)=_;rw[show((b.toNat:Nat):Int)-48=((b.toNat-48:Nat):Int) by omega,N1 (by omega) (by omega)])) ?_
   refine IT Tryz.underlying5 Tryz.underlying3 I I I I ?_
   exact wV 34 ((b.toNat-48:Nat):Int) I (B0 (by omega)) (wP I (wV 35 ((AI ((dd.take (i+1)).drop lo):Nat):Int) I (show w64 (((10*AI ((dd.take i).drop lo):Nat):Int)+((b.toNat-48:Nat):Int))=_ by rw[Ar (by omega) (by omega),e1];omega) (wP I (Aa (zN (zE (zB (wP I (wP I (wV 27 ((i+1:Nat):Int) I (Az (by omega)) (wP I (Aa (A0 (i+1) ⟨by show lo≤i+1;omega,hie⟩ (by show e-(i+1)<e-i;omega) ⟨I,I,I,I,I,I,tO⟩ [] I)))))))))))))
  ·have hie:i=e:=by omega
   subst hie
   refine wU 25 false I (dF (by omega)) (Aa (zE (zS I (zJ (zK (zK (zL (zE (zB ?_)))))))))
   rw[hlim]
   refine wP I (wB 1 I I I (wP I ?_))
   refine AD Tryz.hZ tH I I I I I I I I I I I fun bN=> ?_
   refine BN (V:=V) (len:=j) (xs:=nI (rdL m j)) 2 3 Tryz.vec170 (j+1) (nI (rdL m (j+1))) I I I I I I I I I I I hV I I I (by rw[NM,H9];rfl) (by simp only[maxLen];omega) (by omega) I ?_
   intro g1 c1 j1 hV1
   exact wP I (wS 1 I I I (Aa (zN (zE (zB (wP I (wP I (wV 19 ((dd.length:Int)-6*((j+1:Nat):Int)) I (by show w64 (((i:Nat):Int)-6)=_;rw[Ar (by omega) (by omega)];omega) (wP I (Aa (A0 (j+1,⟨some g1,c1,j1⟩) ⟨hV1,by show 6*(j+1)<_;omega⟩ (by show dd.length+6-6*(j+1)<dd.length+6-6*j;omega) ⟨I,I,I,I,tO⟩ _ I)))))))))))
 ·refine wU 17 false I (dF (by show¬(dd.length:Int)-6*(j:Nat)>0;omega)) (Aa (zE (zS I (zJ (zK (zK (zL (zE (zA (zB ?_))))))))))
  obtain⟨pV,cV,jV⟩:=V
  cases pV with
  |none=>have:=hV.nil rfl;omega
  |some g=>
  have hval:lv br (rdL m j)=m:=by
   rw[PF,IB]
   exact Nat.mod_eq_of_lt (Nat.lt_of_lt_of_le hmlt (Nat.pow_le_pow_right (by decide) (by omega)))
  have hV2:(⟨some g,cV,jV⟩:Vec).OK 1 (rdL m j).length (nI (rdL m j)):=by rw[JE];exact hV
  obtain⟨j2,hj1,hj2⟩:=Do hV2 (Sn m j)
  rw[hval] at hj1 hj2
  refine wP I (wB 1 I I I ?_)
  refine Ad 43 (slv (some ⟨g,0,none⟩) (rdL m j).length cV) I (by rw[JE];rfl) ?_
  refine wC I I (fun W' hp=>(Cp W' (some ⟨g,0,none⟩) cV (rdL m j) (Ap.of_bx hp 2 I) (Sn m j) (by have:=(hV2.cap (by simp)).1;exact this) (by rw[JE];omega)).cast (v':=slv (some ⟨g,0,none⟩) (lbs br m).length cV) (by rw[hval])) (wP I (wS 1 I I I (Aa (zE (zA (zB (wB 1 I I I (wS 0 I I I (Aa (zE (zO ?_)))))))))))
  subst hm
  exact Aw tH I (.cell 0 I I I I I) ((g,cV,j2):NV) I hj1 fun W hp=>Ao.of_hp1 hp 2 (by
   show some (⟨g,3,nI (rdL z.natAbs j)++jV,true,none⟩:Bx)=some (⟨g,3,nI (lbs br z.natAbs)++j2,true,none⟩:Bx)
   rw[hj2])
def Fp (m:Nat):Nat→List UInt8
 |0=>[]
 |d+1=>UInt8.ofNat (48+m/10^d%10)::Fp m d
theorem Io (m:Nat): ∀d,(Fp m d).length=d
 |0=>rfl
 |d+1=>by show(Fp m d).length+1=_;rw[Io m d]
theorem NQ (m:Nat): ∀(d i:Nat),i<d→(Fp m d)[d-1-i]? =some (UInt8.ofNat (48+m/10^i%10))
 |0,_,h=>absurd h (Nat.not_lt_zero _)
 |d+1,i,h=>by
  by_cases e:i=d
  ·subst e
   rw[show i+1-1-i=0 by omega];rfl
  ·rw[show d+1-1-i=(d-1-i)+1 by omega]
   show(_::Fp m d)[_+1]? =_
   rw[List.getElem?_cons_succ]
   exact NQ m d i (by omega)
theorem Td {m d:Nat} (h:(decDigits m).length≤d):Fp m d=List.replicate (d-(decDigits m).length) 48++decDigits m:=by
 apply List.ext_getElem?
 intro t
 by_cases ht:t<d
 ·have h1:=NQ m d (d-1-t) (by omega)
  rw[show d-1-(d-1-t)=t by omega] at h1
  rw[h1]
  by_cases h2:t<d-(decDigits m).length
  ·rw[List.getElem?_append_left (by rw[List.length_replicate];exact h2),List.getElem?_replicate_of_lt h2]
   have h3:m/10^(d-1-t)=0:=Nat.div_eq_of_lt (Nat.lt_of_lt_of_le (CM m) (Nat.pow_le_pow_right (by decide) (by omega)))
   rw[h3];rfl
  ·rw[List.getElem?_append_right (by rw[List.length_replicate];omega),List.length_replicate]
   have h3:=Rv (n:=m) (i:=d-1-t) (by omega)
   rw[←h3]
   congr 1;omega
 ·rw[List.getElem?_eq_none (by rw[Io];omega),List.getElem?_eq_none (by rw[List.length_append,List.length_replicate];omega)]
theorem SB {m i k:Nat} (hk:k<6):m/br^i%br/10^k%10=m/10^(6*i+k)%10:=by
 rw[Nat.pow_add, ←IB, ←Nat.div_div_eq_div_mul]
 generalize m/br^i=x
 have h:k=0∨k=1∨k=2∨k=3∨k=4∨k=5:=by omega
 show x%1000000/10^k%10=x/10^k%10
 rcases h with rfl|rfl|rfl|rfl|rfl|rfl<;>simp only[Nat.reducePow,Nat.div_one]<;>omega
theorem Es (z:Int) (hl:(decDigits z.natAbs).length≤606) (W:World) (p:Option Addr) (cap:Nat) (hA:Ap W p (lbs br z.natAbs)):
  Ah Tryz.prog 173 #[.agg #[.bool (decide (z<0)),slv p (lbs br z.natAbs).length cap]] W (fun _:Unit=>str (itoa z)) (fun _=>True) (fun _=>[]):=by
 obtain⟨m,hm⟩: ∃m,z.natAbs=m:=⟨_,rfl⟩
 rw[hm] at hl hA⊢
 obtain⟨L,hL⟩: ∃L,(lbs br m).length=L:=⟨_,rfl⟩
 have hL101:L≤101:=by rw[←hL];exact BT hl
 have hml:m<br^L:=by rw[←hL];exact AE br2 m
 refine Ab (args:=[.agg #[.bool (decide (z<0)),slv p (lbs br m).length cap]]) Tryz.func173 I I I ?_
 rw[hL]
 refine zA (zB ?_)
 (refine A6 rfl rfl rfl rfl ?_;intro)
 refine wP I (Aa ?_)
 rename_i b1
 refine zE (zA (zA (zB (wP I (wB 0 I I I (wP I (wP I ?_)))))))
 by_cases hm0:m=0
 ·have hL0:L=0:=by rw[←hL,hm0,AT];rfl
  have hz:z=0:=by omega
  exact wU 10 true I (by rw[beq_iff_eq,hL0];rfl) (Aa (zE (zR I (zA (zB (wP I (Aa (zE (zO (zP (wR1 I I (by rw[hz,BP]))))))))))))
 have hL0:L≠0:=fun e=>hm0 ((CJ br2).1 (List.length_eq_zero_iff.1 (hL.trans e)))
 refine wU 10 false I (by rw[beq_eq_false_iff_ne];omega) (Aa (zE (zS I (zI (zE (zA (zB ?_)))))))
 obtain⟨K,hK⟩: ∃K,K=6*L:=⟨_,rfl⟩
 refine wP I (wB 0 I I I (wP I (wP I (wV 14 (K:Nat) I (by show w64 (6*(L:Int))=_;rw[Ar (by omega) (by omega)];omega) ?_))))
 refine BK Tryz.vec233 K I I I I I I I (by simp only[maxLen];omega) (by omega) ?_
 intro g
 refine wP I (Aa (zE (zA (zA (zB (wP I (Aa (AG ?_))))))))
 try refine Ax ?_
 refine AA (X:=Unit) (fun _=>[(1,Aj b1),(3, .slice (some ⟨g,0,none⟩) K K)]) (fun _=>[⟨b1,187,[.bool (decide (z<0)),slv p L cap],true,none⟩,⟨g,5,zrV 0++byV (Fp m K),true,none⟩]) (fun _=>True) ?_ ?_
 ·refine zH ?_
  refine A8 (X:=Nat) (fun i=>[(1,Aj b1),(3, .slice (some ⟨g,0,none⟩) K K),(4, .int .i64 (i:Nat))]) (fun i=>[⟨b1,187,[.bool (decide (z<0)),slv p L cap],true,none⟩,⟨g,5,zrV (K-6*i)++byV (Fp m (6*i)),true,none⟩]) (fun i=>i≤L) (fun i=>L-i) 0 (Nat.zero_le _) ⟨I,I,I,tO⟩ [] (by show _=[_,(⟨g,5,zrV (K-0)++[],true,none⟩:Bx)]++[];simp only[List.append_nil,Nat.sub_zero];rfl) ?_
  intro i hi
  have hi:i≤L:=hi
  refine zA (zA (zB (wP I (wP I (wB 0 I I I (wP I (wP I ?_)))))))
  by_cases hiL:i<L
  ·refine wU 20 true I (dT (by omega)) (Aa (zE (zR I (zI (zE (zA (zH (zA (zB ?_)))))))))
   obtain⟨bA,oA,rfl,rA⟩:=hA.row (show i<(lbs br m).length by omega)
   have rA:=rA i (by omega)
   rw[Ba br2] at rA
   obtain⟨v,hv⟩: ∃v,v=m/br^i%br:=⟨_,rfl⟩
   rw[←hv] at rA
   have hvb:v<1000000:=by rw[hv];exact Nat.mod_lt _ (by decide)
   refine wP I (wB 0 I I I (wP I ?_))
   refine wJ ?_
   refine wL 0 I I (fun W hp=>rA.hp hp) I (wP I (Aa (zE (zA (zB (wP I (Aa (zE (zH ?_)))))))))
   refine A8 (X:=Nat) (fun k=>[(1,Aj b1),(3, .slice (some ⟨g,0,none⟩) K K),(4, .int .i64 (i:Nat)),(5, .int .i64 ((v/10^k:Nat):Int)),(6, .int .i64 ((k+1:Nat):Int))]) (fun k=>[⟨b1,187,[.bool (decide (z<0)),slv (some ⟨bA,oA,none⟩) L cap],true,none⟩,⟨g,5,zrV (K-(6*i+k))++byV (Fp m (6*i+k)),true,none⟩]) (fun k=>k≤6) (fun k=>6-k) 0 (by decide) ⟨I,I,I,by show some _=some (Value.int .i64 ((v/1:Nat):Int));rw[Nat.div_one],I,tO⟩ [] I ?_
   intro k hk
   have hk:k≤6:=hk
   refine zA (zA (zB (wP I (wP I ?_))))
   by_cases hk6:k<6
   ·refine wU 29 true I (dT (by show((k+1:Nat):Int)≤6;omega)) (Aa (zE (zR I (zI (zE (zA (zH (zA (zB ?_)))))))))
    obtain⟨u,hu⟩: ∃u,u=v/10^k:=⟨_,rfl⟩
    have hub:u<1000000:=by rw[hu];exact Nat.lt_of_le_of_lt (Nat.div_le_self ..) hvb
    have hdig:u%10=m/10^(6*i+k)%10:=by rw[hu,hv];exact SB hk6
    have hu2:v/10^(k+1)=u/10:=by rw[hu,Nat.pow_succ,Nat.div_div_eq_div_mul]
    obtain⟨d,hd⟩: ∃d,d=6*i+k:=⟨_,rfl⟩
    have hdK:d<K:=by omega
    rw[←hu, ←hd]
    rw[←hd] at hdig
    iterate 5 refine wP I ?_
    refine wV 36 ((6*i:Nat):Int) I (by show w64 (6*(i:Int))=_;rw[Ar (by omega) (by omega)];omega) (wP I (wV 37 ((K-6*i:Nat):Int) I (by show w64 ((K:Int)-((6*i:Nat):Int))=_;rw[Ar (by omega) (by omega)];omega) (wP I (wP I (wV 39 ((K-d-1:Nat):Int) I (by show w64 (((K-6*i:Nat):Int)-((k+1:Nat):Int))=_;rw[Ar (by omega) (by omega)];omega) (wP I ?_))))))
    refine EL I I I I I (by decide) ?_
    refine wV 41 ((u%10:Nat):Int) I (show Int.tmod (u:Nat) ((10:Nat):Int)=_ from(Int.ofNat_tmod _ _).symm) (wP I (wV 42 ((48+u%10:Nat):Int) I (show w64 (48+((u%10:Nat):Int))=_ by rw[Ar (by omega) (by omega)];omega) ?_))
    refine RW Tryz.underlying3 Tryz.underlying5 I I I I ?_
    refine Ad 43 (.int .u8 ((UInt8.ofNat (48+m/10^d%10)).toNat:Int)) I (congrArg (Value.int .u8) (by rw[S0 u,hdig])) ?_
    refine wJ ?_
    refine AC 1 (zrV (K-d-1)++byV (Fp m (d+1))) tH I I I I I I I I I I (by show 0+(K-d-1)*1+1≤(zrV (K-d)++byV (Fp m d)).length;rw[List.length_append,I5];omega) (by
     show BR (zrV (K-d)++byV (Fp m d)) _ _=_
     rw[show K-d=K-d-1+1 by omega]
     exact PN) ?_
    refine Aa (zE (zB (wP I ?_)))
    refine Df I I I I I (by decide) ?_
    exact wV 46 ((u/10:Nat):Int) I (show w64 (Int.tdiv (u:Nat) ((10:Nat):Int))=_ by rw[←Int.ofNat_tdiv,Ar (by omega) (by omega)]) (wP I (Aa (zN (zE (zB (wP I (wP I (wV 31 ((k+1+1:Nat):Int) I (Az (by omega)) (wP I (Aa (A0 (k+1) hk6 (by show 6-(k+1)<6-k;omega) ⟨I,I,I,by show some _=some (Value.int .i64 ((v/10^(k+1):Nat):Int));rw[hu2],I,tO⟩ [] (by show _=[_,(⟨g,5,zrV (K-(6*i+(k+1)))++byV (Fp m (6*i+(k+1))),true,none⟩:Bx)]++[];rw[show 6*i+(k+1)=d+1 by omega,show K-(d+1)=K-d-1 by omega];rfl))))))))))))
   ·have hk6:k=6:=by omega
    subst hk6
    refine wU 29 false I (dF (by decide)) (Aa (zE (zS I (zJ (zK (zK (zL (zN (zE (zB (wP I (wP I (wV 22 ((i+1:Nat):Int) I (Az (by omega)) ?_)))))))))))))
    exact wP I (Aa (A0 (i+1) hiL (by show L-(i+1)<L-i;omega) ⟨I,I,I,tO⟩ [] (by show _=[_,(⟨g,5,zrV (K-6*(i+1))++byV (Fp m (6*(i+1))),true,none⟩:Bx)]++[];rw[show 6*(i+1)=6*i+6 by omega];rfl)))
  ·have hiL:i=L:=by omega
   subst hiL
   exact wU 20 false I (dF (by omega)) (Aa (zE (zS I (zJ (zK (zK (zL (An () tO ⟨I,I,tO⟩ [] (by rw[←hK,Nat.sub_self];rfl)))))))))
 intro _ _
 obtain⟨nd,hnd⟩: ∃nd,(decDigits m).length=nd:=⟨_,rfl⟩
 have hndK:nd≤K:=by
  rw[←hnd]
  refine CN K m (by omega) ?_
  rw[hK, ←IB];exact hml
 have hnd0:0<nd:=by rw[←hnd];exact List.length_pos_iff.2 (EK _)
 have hlow:=Td (m:=m) (d:=K) (by rw[hnd];exact hndK)
 rw[hnd] at hlow
 have hgetB: ∀j,j<K→ ∃b,(Fp m K)[j]? =some b∧(zrV 0++byV (Fp m K))[0+j]? =some (.int .u8 (b.toNat:Int)):=fun j hj=>by
  refine⟨(Fp m K)[j]'(by rw[Io];exact hj),List.getElem?_eq_getElem _, ?_⟩
  exact PX (k:=0) (by rw[Io];exact hj)
 try refine AG ?_
 try refine Ax ?_
 refine AA (X:=Unit) (fun _=>[(1,Aj b1),(3, .slice (some ⟨g,K-nd,none⟩) nd nd)]) (fun _=>[⟨b1,187,[.bool (decide (z<0)),slv p L cap],true,none⟩,⟨g,5,zrV 0++byV (Fp m K),true,none⟩]) (fun _=>True) ?_ ?_
 ·refine zH ?_
  refine A8 (X:=Nat) (fun j=>[(1,Aj b1),(3, .slice (some ⟨g,j,none⟩) (K-j) (K-j))]) (fun _=>[⟨b1,187,[.bool (decide (z<0)),slv p L cap],true,none⟩,⟨g,5,zrV 0++byV (Fp m K),true,none⟩]) (fun j=>j≤K-nd) (fun j=>K-nd-j) 0 (Nat.zero_le _) ⟨I,I,tO⟩ [] I ?_
  intro j hj
  have hj:j≤K-nd:=hj
  obtain⟨b,hb,hbc⟩:=hgetB j (by omega)
  rw[Nat.zero_add] at hbc
  have hrow: ∀W1 bxs,Hp W bxs W1→nth bxs 1=some (⟨g,5,zrV 0++byV (Fp m K),true,none⟩:Bx)→Al W1 g j [.int .u8 (b.toNat:Int)]:=fun W1 bxs hp h1=>by
   have h:=Al.of_bx hp 1 h1 rfl
   exact⟨h.lt,fun t u hu=>by
    have ht:t=0:=by have:=(List.getElem?_eq_some_iff.1 hu).1;simpa using this
    subst ht
    have hu:u= .int .u8 (b.toNat:Int):=by simpa using hu.symm
    rw[hu]
    have:=h.get j _ hbc
    rwa [Nat.zero_add] at this⟩
  refine zA (zA (zB (wP I (wI I I (by decide) (by show(0:Int)<((K-j:Nat):Int);omega) ?_))))
  refine Ad 48 (.pointer (some ⟨g,j,none⟩)) I I ?_
  refine wL 0 I I (fun W1 hp=>hrow W1 _ hp I) I (wP I (wU 50 (decide (b=48)) I (CL b 48) (Aa (zE ?_))))
  refine As I (fun h48=> ?_) (fun h48=> ?_)
  ·have h48:b=48:=of_decide_eq_true h48
   have hjl:j<K-nd:=by
    rcases Nat.lt_or_ge j (K-nd) with h|h
    ·exact h
    ·have e:j=K-nd:=by omega
     rw[hlow,List.getElem?_append_right (by rw[List.length_replicate];omega),List.length_replicate,e,Nat.sub_self,h48] at hb
     exact absurd (Pi hb) hm0
   refine zI (zE (zH (zB (wP I ?_))))
   refine FP 1 tH I I I I I I I I (by show 1≤K-j;omega) (Nat.le_refl _) ?_
   refine Ad 52 (.slice (some ⟨g,j+1,none⟩) (K-(j+1)) (K-(j+1))) I (by rw[if_neg (show¬K-j=1 by omega)];show Value.slice (some ⟨g,j+1*1,none⟩) (K-j-1) (K-j-1)=_;rw[show K-(j+1)=K-j-1 by omega]) ?_
   exact wP I (Aa (zN (A0 (j+1) hjl (by show K-nd-(j+1)<K-nd-j;omega) ⟨I,I,tO⟩ [] I)))
  ·have h48: ¬b=48:=of_decide_eq_false h48
   have e:j=K-nd:=by
    rcases Nat.lt_or_ge j (K-nd) with h|h
    ·rw[hlow,List.getElem?_append_left (by rw[List.length_replicate];exact h),List.getElem?_replicate_of_lt h] at hb
     exact absurd (Option.some.inj hb).symm h48
    ·omega
   exact zJ (zK (zK (zL (An () tO ⟨I,by rw[e,show K-(K-nd)=nd by omega];rfl,tO⟩ [] I))))
 intro _ _
 have hbytes: ∀j (hj:j<(decDigits m).length),(zrV 0++byV (Fp m K))[K-nd+j]? =some (.int .u8 ((decDigits m)[j].toNat:Int)):=fun j hj=>by
  obtain⟨b,hb,hbc⟩:=hgetB (K-nd+j) (by omega)
  rw[Nat.zero_add] at hbc
  rw[hbc]
  rw[hlow,List.getElem?_append_right (by rw[List.length_replicate];omega),List.length_replicate,Nat.add_sub_cancel_left,List.getElem?_eq_getElem hj] at hb
  rw[Option.some.inj hb]
 refine zA (zA (zB (wP I (wB 0 I I I (Aa (zE ?_))))))
 refine As I (fun hn=> ?_) (fun hn=> ?_)
 ·have hn:z<0:=of_decide_eq_true hn
  refine zA (zB (wP I ?_))
  refine G3 1 (decDigits m) (e:=5) (by kernel_rfl) Tryz.underlying5 (by kernel_rfl) I I I I I I hnd.symm hbytes ?_
  refine BG I I I I I (a:=[45]) (b:=decDigits m) (by decide) (by omega) ?_
  exact wP I (Aa (zE (zO (zP (wR1 I I (by rw[BD,hm];unfold FK;rw[if_pos hn]))))))
 ·have hn: ¬z<0:=of_decide_eq_false hn
  refine zI (zE (zA (zB (wP I ?_))))
  refine G3 1 (decDigits m) (e:=5) (by kernel_rfl) Tryz.underlying5 (by kernel_rfl) I I I I I I hnd.symm hbytes ?_
  exact wP I (Aa (zE (zO (wR1 I I (by rw[BD,hm];unfold FK;rw[if_neg hn];rfl)))))
theorem DM (z:Int) (hl:(decDigits z.natAbs).length≤300) (W:World) (p:Option Addr) (cap:Nat) (hA:Ap W p (lbs br z.natAbs)):
  Ah Tryz.prog 219 #[.agg #[.bool (decide (z<0)),slv p (lbs br z.natAbs).length cap]] W (fun _:Unit=> .tuple #[str (itoa z), .int .i64 0]) (fun _=>True) (fun _=>[]):=by
 refine Ab (args:=[.agg #[.bool (decide (z<0)),slv p (lbs br z.natAbs).length cap]]) Tryz.func219 I I I ?_
 refine zA (zB ?_)
 (refine A6 rfl rfl rfl rfl ?_;intro)
 refine wP I (wP I (Aa (zE (zA (zB (wB 0 I I I (wC I I (fun W hp=>Es z (by omega) W p cap (hA.hp hp)) (wP I (Aa (zE (zA (zA (zB ?_)))))))))))))
 refine wP I (wC I I (fun W _=>Eg z hl W) (wP I (Aa (zE (zS I (zI (zE (zA (zB (wP I (wP I (wP I (Aa ?_)))))))))))))
 exact zE (zO (wR2 I I I))
-- BOXES 6
-- CODE2
abbrev HO (z:Int) (p:Option Addr) (cap:Nat):Value:= .agg #[.bool (decide (z<0)),slv p (lbs br z.natAbs).length cap]
abbrev KY (b:Nat) (z:Int) (p:Option Addr) (cap:Nat):Bx:=⟨b,187,[.bool (decide (z<0)),slv p (lbs br z.natAbs).length cap],true,none⟩
theorem OY (z:Int) (W:World) (p:Option Addr) (cap:Nat):Ah Tryz.prog 207 #[HO z p cap] W (fun _:Unit=>HO (-z) p cap) (fun _=>True) (fun _=>[]):=by
 obtain⟨n,hn⟩: ∃n,z.natAbs=n:=⟨_,rfl⟩
 refine Ab (args:=[HO z p cap]) Tryz.func207 I I I ?_
 unfold HO
 rw[Int.natAbs_neg,hn]
 refine zA (zB ?_)
 (refine A6 rfl rfl rfl rfl ?_;intro)
 (refine Ag Tryz.hZ rfl rfl rfl rfl ?_;intro)
 refine Aa (zE (zA (zA (zB (wP I (wB 0 I I I (wP I (wP I ?_))))))))
 by_cases h0:n=0
 ·have hz:z=0:=by omega
  exact wU 6 true I (by rw[h0,AT];rfl) (Aa (zE (zR I (zA (zB (wB 0 I I I (wS 1 I I I (Aa (zE (zO (zP (Aw tH I (.cell 1 I I I I I) () (by rw[hz];rfl) tO fun W _=>Ao.nil _ _))))))))))))
 ·have hL:(lbs br n).length≠0:=fun e=>h0 ((CJ br2).1 (List.length_eq_zero_iff.1 e))
  refine wU 6 false I (by rw[beq_eq_false_iff_ne];omega) (Aa (zE (zS I (zI (zE (zA (zB (wP I (wB 0 I I I (wP I (wP I (wB 0 I I I ?_))))))))))))
  refine Au Tryz.hZ tH I I I I I I I I ?_
  refine wS 1 I I I (Aa (zE (zO ?_)))
  exact Aw tH I (.cell 1 I I I I I) () (by
   show Value.agg #[.bool (!decide (z<0)),_]=_
   have e:(!decide (z<0))=decide (-z<0):=by
    by_cases h:z<0
    ·rw[dT h,dF (by omega)];rfl
    ·rw[dF h,dT (by omega)];rfl
   rw[e]) trivial fun W _=>Ao.nil _ _
theorem HK (a b:Int) (W:World) (p q:Option Addr) (cap cap2:Nat) (hA:Ap W p (lbs br a.natAbs)) (hB:Ap W q (lbs br b.natAbs)) (hna:(lbs br a.natAbs).length≤1000) (hnb:(lbs br b.natAbs).length≤1000):
  Ah Tryz.prog 206 #[HO a p cap,HO b q cap2] W (fun x:NV=>Tt (a+b) x) (fun x=>BW x (lbs br (a+b).natAbs)) (fun x=>[B3 x (lbs br (a+b).natAbs)]):=by
 refine Ab (args:=[HO a p cap,HO b q cap2]) Tryz.func206 I I I ?_
 refine zA (zB ?_)
 (refine A6 rfl rfl rfl rfl ?_;intro)
 (refine A6 rfl rfl rfl rfl ?_;intro)
 (refine Ag Tryz.hZ rfl rfl rfl rfl ?_;intro)
 refine Aa ?_
 rename_i b2 b3 b4
 refine zE (zA (zA (zB (wP I (wB 0 I I I (wP I (wB 1 I I I ?_)))))))
 by_cases hs:decide (a<0)=decide (b<0)
 ·refine GC (c:=true) Tryz.underlying4 I I I I I (congrArg some (by rw[hs];exact beq_self_eq_true _)) ?_
  refine Aa ?_
  have en:(a+b).natAbs=a.natAbs+b.natAbs:=by
   by_cases h1:a<0<;>by_cases h2:b<0<;>simp[h1,h2] at hs<;>omega
  have es:decide (a<0)=decide (a+b<0):=by
   by_cases h1:a<0<;>by_cases h2:b<0<;>simp[h1,h2] at hs⊢ <;>omega
  refine zE (zR I (Ax ?_))
  refine Bg (X:= { x:NV//BW x (lbs br (a+b).natAbs) }) [true,true,true,true,true,true,false,false,false] (fun _=>[(4,Aj b4)]) (fun x=>[KY b2 a p cap,KY b3 b q cap2,⟨b4,187,[.bool (decide (a+b<0)),Bo x.1 (lbs br (a+b).natAbs).length],true,none⟩,B3 x.1 (lbs br (a+b).natAbs)])
   3 [KY b2 a p cap,KY b3 b q cap2,⟨b4,187,[.bool false, .slice none 0 0],true,none⟩] Tryz.mixed (by kernel_rfl) ?_ ?_
  ·refine qP I (qB 0 I I I (qP I (qB 0 I I I (qP I (qB 1 I I I (Cw (wX (wZ ?_))))))))
   refine wD (X:=NV) rfl rfl (fun W' hp=>Ny W' p q cap cap2 a.natAbs b.natAbs (hA.hp hp) (hB.hp hp) (by omega) (by omega)) ?_;intro x hx
   refine Aa (Ac (wX (wZ ?_)))
   refine Au Tryz.hZ tH I I I I I I I I ?_
   refine Aa (Ac (wX (wZ (wS 2 I I I (Aa (Ac ?_))))))
   rw[←en] at hx⊢;first|refine A5 rfl (by((repeat (first|refine A9.same ?_|refine A9.off rfl ?_));exact trivial)) ?_|refine AV rfl (by kernel_rfl) ?_
   exact Av ⟨x,hx⟩ ⟨I,tO⟩ [0,1,2,3] (by decide) (by rw[es];rfl)
  rintro⟨x,hx⟩
  exact zE (zO (zP (Aw tH I (.cell 2 I I I I I) x I hx fun W hp=>Ao.of_hp1 hp 3 I)))
 refine GC (c:=false) Tryz.underlying4 I I I I I (congrArg some (beq_eq_false_iff_ne.2 hs)) ?_
 refine Aa (zE (zS I (zI (zE (zA (zA (zB (wP I (wB 0 I I I (wP I (wB 1 I I I (wC I I (fun W' hp=>Jo W' p q cap cap2 a.natAbs b.natAbs (hA.hp hp) (hB.hp hp) (by omega) (by omega)) (wP I ?_)))))))))))))
 refine wU 24 (decide (a.natAbs<b.natAbs)) I (decide_eq_decide.2 (by unfold Kl;split<;>(try split)<;>omega)) (Aa (AG ?_))
 try refine Ax ?_
 refine AA (X:=(Int×Option Addr×Nat)×(Int×Option Addr×Nat)) (fun _=>[(2,Aj b2),(3,Aj b3),(4,Aj b4)]) (fun x=>[KY b2 x.1.1 x.1.2.1 x.1.2.2,KY b3 x.2.1 x.2.2.1 x.2.2.2,⟨b4,187,[.bool false, .slice none 0 0],true,none⟩])
  (fun x=>Ap W x.1.2.1 (lbs br x.1.1.natAbs)∧Ap W x.2.2.1 (lbs br x.2.1.natAbs)∧x.2.1.natAbs≤x.1.1.natAbs∧x.1.1+x.2.1=a+b∧(decide (x.1.1<0)≠decide (x.2.1<0))∧(lbs br x.1.1.natAbs).length≤1000) ?_ ?_
 ·refine As I (fun h=> ?_) (fun h=> ?_)
  ·have h:a.natAbs<b.natAbs:=of_decide_eq_true h
   exact zB (wB 1 I I I (wB 0 I I I (wS 0 I I I (wS 1 I I I (Aa (An ((b,q,cap2),(a,p,cap)) ⟨hB,hA,Nat.le_of_lt h,Int.add_comm ..,Ne.symm hs,hnb⟩ ⟨I,I,I,tO⟩ [] I))))))
  ·have h: ¬a.natAbs<b.natAbs:=of_decide_eq_false h
   exact zI (An ((a,p,cap),(b,q,cap2)) ⟨hA,hB,by show b.natAbs≤a.natAbs;omega,I,hs,hna⟩ ⟨I,I,I,tO⟩ [] I)
 rintro⟨⟨u,pu,cu⟩,⟨v,pv,cv⟩⟩ ⟨hU,hV,hle,hsum,hsg,hul⟩
 have hU:Ap W pu (lbs br u.natAbs):=hU
 have hV:Ap W pv (lbs br v.natAbs):=hV
 have hle:v.natAbs≤u.natAbs:=hle
 have hsum:u+v=a+b:=hsum
 have hsg:decide (u<0)≠decide (v<0):=hsg
 have hul:(lbs br u.natAbs).length≤1000:=hul
 have en:(a+b).natAbs=u.natAbs-v.natAbs:=by
  rw[←hsum]
  by_cases h1:u<0<;>by_cases h2:v<0<;>simp[h1,h2] at hsg<;>omega
 have es:(a+b).natAbs≠0→decide (u<0)=decide (a+b<0):=fun h0=>by
  rw[←hsum] at h0⊢
  by_cases h1:u<0<;>by_cases h2:v<0<;>simp[h1,h2] at hsg⊢ <;>omega
 refine Ax ?_
 refine Bg (X:= { y:Nat×NV//BW y.2 (lbs br (a+b).natAbs) }) [true,true,true,true,true,true,false,false,false,false] (fun y=>[(4,Aj b4),(5,Aj y.1.1)]) (fun y=>[⟨b4,187,[.bool false, .slice none 0 0],true,none⟩,⟨y.1.1,187,[.bool (decide (u<0)),Bo y.1.2 (lbs br (a+b).natAbs).length],true,none⟩,B3 y.1.2 (lbs br (a+b).natAbs)])
  4 [KY b2 u pu cu,KY b3 v pv cv,⟨b4,187,[.bool false, .slice none 0 0],true,none⟩] Tryz.mixed (by kernel_rfl) ?_ ?_
 ·refine qP I (qB 0 I I I (qP I (qB 0 I I I (qP I (qB 1 I I I (Cw (wX ?_)))))))
  refine RS.cons ?_ (RS.cons ?_ (RS.nil))
  ·refine wD (X:=NV) rfl rfl (fun W' hp=>Eo W' pu pv cu cv u.natAbs v.natAbs hle (hU.hp hp) (hV.hp hp) (by omega)) ?_;intro x hx
   refine Aa (Ac (wX ?_))
   refine RS.cons ?_ (RS.cons ?_ (RS.nil))
   ·refine Au Tryz.hZ tH I I I I I I I I ?_
    refine Aa (Ac (wX (wZ ?_)))
    refine Ag Tryz.hZ rfl rfl rfl rfl ?_;intro b5
    refine Aa (Ac (wX (wZ (wS 4 I I I (Aa (Ac ?_))))))
    rw[←en] at hx⊢;first|refine A5 rfl (by((repeat (first|refine A9.same ?_|refine A9.off rfl ?_));exact trivial)) ?_|refine AV rfl (by kernel_rfl) ?_
    exact Av ⟨(b5,x),hx⟩ ⟨I,I,tO⟩ [2,4,3] (by decide) I
   ·refine Ag Tryz.hZ rfl rfl rfl rfl ?_;intro b5
    refine Aa (Ac (wX (wZ ?_)))
    refine Au Tryz.hZ tH I I I I I I I I ?_
    refine Aa (Ac (wX (wZ (wS 4 I I I (Aa (Ac ?_))))))
    rw[←en] at hx⊢;first|refine A5 rfl (by((repeat (first|refine A9.same ?_|refine A9.off rfl ?_));exact trivial)) ?_|refine AV rfl (by kernel_rfl) ?_
    exact Av ⟨(b5,x),hx⟩ ⟨I,I,tO⟩ [2,4,3] (by decide) I
  ·refine Ag Tryz.hZ rfl rfl rfl rfl ?_;intro b5
   refine Aa (Ac (wX (wZ ?_)))
   refine wD (X:=NV) rfl rfl (fun W' hp=>Eo W' pu pv cu cv u.natAbs v.natAbs hle (hU.hp hp) (hV.hp hp) (by omega)) ?_;intro x hx
   refine Aa (Ac (wX (wZ ?_)))
   refine Au Tryz.hZ tH I I I I I I I I ?_
   refine Aa (Ac (wX (wZ (wS 3 I I I (Aa (Ac ?_))))))
   rw[←en] at hx⊢;first|refine A5 rfl (by((repeat (first|refine A9.same ?_|refine A9.off rfl ?_));exact trivial)) ?_|refine AV rfl (by kernel_rfl) ?_
   exact Av ⟨(b5,x),hx⟩ ⟨I,I,tO⟩ [2,3,4] (by decide) I
 rintro⟨⟨b5,x⟩,hx⟩
 have hx:BW x (lbs br (a+b).natAbs):=hx
 refine zE (zA (zA (zB (wP I (wB 1 I I I (wP I (wP I ?_)))))))
 refine Ad 38 (.bool (decide ((a+b).natAbs=0))) I (congrArg Value.bool (by
  by_cases h0:(a+b).natAbs=0
  ·rw[dT h0,h0,AT];rfl
  ·have hL:(lbs br (a+b).natAbs).length≠0:=fun e=>h0 ((CJ br2).1 (List.length_eq_zero_iff.1 e))
   rw[dF h0,beq_eq_false_iff_ne];omega)) ?_
 refine Aa (AG ?_)
 try refine Ax ?_
 refine AA (X:=Unit) (fun _=>[(4,Aj b4),(5,Aj b5)]) (fun _=>[⟨b4,187,[.bool false, .slice none 0 0],true,none⟩,⟨b5,187,[.bool (decide (a+b<0)),Bo x (lbs br (a+b).natAbs).length],true,none⟩,B3 x (lbs br (a+b).natAbs)]) (fun _=>True) ?_ ?_
 ·refine As I (fun h=> ?_) (fun h=> ?_)
  ·have h:(a+b).natAbs=0:=of_decide_eq_true h
   exact zB (wP I (wS 1 I I I (Aa (An () tO ⟨I,I,tO⟩ [] (by rw[dF (show¬a+b<0 by omega)];rfl)))))
  ·have h: ¬(a+b).natAbs=0:=of_decide_eq_false h
   exact zI (An () tO ⟨I,I,tO⟩ [] (by rw[←es h];rfl))
 intro _ _
 exact zA (zB (wB 1 I I I (wS 0 I I I (Aa (zE (zO (Aw tH I (.cell 0 I I I I I) x I hx fun W hp=>Ao.of_hp1 hp 2 I)))))))
theorem Gh (a b:Int) (W:World) (p q:Option Addr) (cap cap2:Nat) (hA:Ap W p (lbs br a.natAbs)) (hB:Ap W q (lbs br b.natAbs)) (hna:(lbs br a.natAbs).length≤1000) (hnb:(lbs br b.natAbs).length≤1000):
  Ah Tryz.prog 255 #[HO a p cap,HO b q cap2] W (fun x:NV=>Tt (a*b) x) (fun x=>BW x (lbs br (a*b).natAbs)) (fun x=>[B3 x (lbs br (a*b).natAbs)]):=by
 have en:(a*b).natAbs=a.natAbs*b.natAbs:=Int.natAbs_mul a b
 have es:(a*b).natAbs≠0→(decide (a<0) !=decide (b<0))=decide (a*b<0):=fun h0=>by
  rw[en] at h0
  have ha:a≠0:=fun e=>h0 (by rw[e];simp)
  have hb:b≠0:=fun e=>h0 (by rw[e];simp)
  by_cases h1:a<0<;>by_cases h2:b<0
  ·rw[dT h1,dT h2,dF (by have:=Int.mul_pos_of_neg_of_neg h1 h2;omega)];rfl
  ·rw[dT h1,dF h2,dT (Int.mul_neg_of_neg_of_pos h1 (by omega))];rfl
  ·rw[dF h1,dT h2,dT (Int.mul_neg_of_pos_of_neg (by omega) h2)];rfl
  ·rw[dF h1,dF h2,dF (by have:=Int.mul_pos (show 0<a by omega) (show 0<b by omega);omega)];rfl
 refine Ab (args:=[HO a p cap,HO b q cap2]) Tryz.func255 I I I ?_
 refine zA (zB ?_)
 (refine A6 rfl rfl rfl rfl ?_;intro)
 (refine A6 rfl rfl rfl rfl ?_;intro)
 (refine Ag Tryz.hZ rfl rfl rfl rfl ?_;intro)
 refine Aa ?_
 rename_i b2 b3 b4
 refine zE (Ax ?_)
 refine Bg (X:= { y:Nat×NV//BW y.2 (lbs br (a*b).natAbs) }) [true,true,true,true,true,true,true,true,true,false,false,false,false] (fun y=>[(4,Aj b4),(5,Aj y.1.1)]) (fun y=>[⟨b4,187,[.bool false, .slice none 0 0],true,none⟩,⟨y.1.1,187,[.bool (decide (a<0) !=decide (b<0)),Bo y.1.2 (lbs br (a*b).natAbs).length],true,none⟩,B3 y.1.2 (lbs br (a*b).natAbs)])
  4 [KY b2 a p cap,KY b3 b q cap2,⟨b4,187,[.bool false, .slice none 0 0],true,none⟩] Tryz.mixed (by kernel_rfl) ?_ ?_
 ·refine qP I (qB 0 I I I (qP I (qB 1 I I I ?_)))
  refine Rf Tryz.underlying4 I I I I I I ?_
  refine qP I (qB 0 I I I (qP I (qB 1 I I I (Cw (wX ?_)))))
  refine RS.cons ?_ (RS.cons ?_ (RS.nil))
  ·refine wD (X:=NV) rfl rfl (fun W' hp=>Iz W' p q cap cap2 a.natAbs b.natAbs (hA.hp hp) (hB.hp hp) (by omega) (by omega)) ?_;intro x hx
   refine Aa (Ac (wX ?_))
   refine RS.cons ?_ (RS.cons ?_ (RS.nil))
   ·refine Au Tryz.hZ tH I I I I I I I I ?_
    refine Aa (Ac (wX (wZ ?_)))
    refine Ag Tryz.hZ rfl rfl rfl rfl ?_;intro b5
    refine Aa (Ac (wX (wZ (wS 4 I I I (Aa (Ac ?_))))))
    rw[←en] at hx⊢;first|refine A5 rfl (by((repeat (first|refine A9.same ?_|refine A9.off rfl ?_));exact trivial)) ?_|refine AV rfl (by kernel_rfl) ?_
    exact Av ⟨(b5,x),hx⟩ ⟨I,I,tO⟩ [2,4,3] (by decide) I
   ·refine Ag Tryz.hZ rfl rfl rfl rfl ?_;intro b5
    refine Aa (Ac (wX (wZ ?_)))
    refine Au Tryz.hZ tH I I I I I I I I ?_
    refine Aa (Ac (wX (wZ (wS 4 I I I (Aa (Ac ?_))))))
    rw[←en] at hx⊢;first|refine A5 rfl (by((repeat (first|refine A9.same ?_|refine A9.off rfl ?_));exact trivial)) ?_|refine AV rfl (by kernel_rfl) ?_
    exact Av ⟨(b5,x),hx⟩ ⟨I,I,tO⟩ [2,4,3] (by decide) I
  ·refine Ag Tryz.hZ rfl rfl rfl rfl ?_;intro b5
   refine Aa (Ac (wX (wZ ?_)))
   refine wD (X:=NV) rfl rfl (fun W' hp=>Iz W' p q cap cap2 a.natAbs b.natAbs (hA.hp hp) (hB.hp hp) (by omega) (by omega)) ?_;intro x hx
   refine Aa (Ac (wX (wZ ?_)))
   refine Au Tryz.hZ tH I I I I I I I I ?_
   refine Aa (Ac (wX (wZ (wS 3 I I I (Aa (Ac ?_))))))
   rw[←en] at hx⊢;first|refine A5 rfl (by((repeat (first|refine A9.same ?_|refine A9.off rfl ?_));exact trivial)) ?_|refine AV rfl (by kernel_rfl) ?_
   exact Av ⟨(b5,x),hx⟩ ⟨I,I,tO⟩ [2,3,4] (by decide) I
 rintro⟨⟨b5,x⟩,hx⟩
 have hx:BW x (lbs br (a*b).natAbs):=hx
 refine zE (zA (zA (zB (wP I (wB 1 I I I (wP I (wP I ?_)))))))
 refine Ad 20 (.bool (decide ((a*b).natAbs=0))) I (congrArg Value.bool (by
  by_cases h0:(a*b).natAbs=0
  ·rw[dT h0,h0,AT];rfl
  ·have hL:(lbs br (a*b).natAbs).length≠0:=fun e=>h0 ((CJ br2).1 (List.length_eq_zero_iff.1 e))
   rw[dF h0,beq_eq_false_iff_ne];omega)) ?_
 refine Aa (AG ?_)
 try refine Ax ?_
 refine AA (X:=Unit) (fun _=>[(4,Aj b4),(5,Aj b5)]) (fun _=>[⟨b4,187,[.bool false, .slice none 0 0],true,none⟩,⟨b5,187,[.bool (decide (a*b<0)),Bo x (lbs br (a*b).natAbs).length],true,none⟩,B3 x (lbs br (a*b).natAbs)]) (fun _=>True) ?_ ?_
 ·refine As I (fun h=> ?_) (fun h=> ?_)
  ·have h:(a*b).natAbs=0:=of_decide_eq_true h
   exact zB (wP I (wS 1 I I I (Aa (An () tO ⟨I,I,tO⟩ [] (by rw[dF (show¬a*b<0 by omega)];rfl)))))
  ·have h: ¬(a*b).natAbs=0:=of_decide_eq_false h
   exact zI (An () tO ⟨I,I,tO⟩ [] (by rw[←es h];rfl))
 intro _ _
 exact zA (zB (wB 1 I I I (wS 0 I I I (Aa (zE (zO (Aw tH I (.cell 0 I I I I I) x I hx fun W hp=>Ao.of_hp1 hp 2 I)))))))
-- BOXES 6
-- CODE2
theorem EM {z:Int} (h:(decDigits z.natAbs).length≤300):(itoa z).length≤301:=by
 rw[BD,List.length_append]
 have:=J8 z
 omega
theorem FO {a b:Int} (h:(smI a&&smI b)=true):Bn Tryz.prog 170 [str (itoa a),str (itoa b)] (.tuple #[.int .i64 a, .int .i64 b, .bool true]):=fun W=>by
 obtain⟨h1,h2⟩:=Bool.and_eq_true_iff.1 h
 have l1:(itoa a).length≤17:=of_decide_eq_true h1
 have l2:(itoa b).length≤17:=of_decide_eq_true h2
 have:=KK a b (by omega) (by omega) W
 rw[h1,h2] at this
 exact this
theorem Gk {a b:Int} (h:(smI a&&smI b)=false) (ha:(decDigits a.natAbs).length≤300) (hb:(decDigits b.natAbs).length≤300): ∃x y:Int,Bn Tryz.prog 170 [str (itoa a),str (itoa b)] (.tuple #[.int .i64 x, .int .i64 y, .bool false]):=
 ⟨_,_,fun W=>by
  have l1:=EM ha
  have l2:=EM hb
  have:=KK a b (by omega) (by omega) W
  rw[h] at this
  exact this⟩
theorem H2 (a b:Int) (ha:(decDigits a.natAbs).length≤300) (hb:(decDigits b.natAbs).length≤300) (hab:(decDigits (a*b).natAbs).length≤300) (W:World) (ht:AS W):
  Ah Tryz.prog 205 #[str (itoa a),str (itoa b)] W (fun _:Unit=> .tuple #[str (itoa (a*b)), .int .i64 0]) (fun _=>True) (fun _=>[]):=by
 have la:=BT (m:=a.natAbs) (by omega)
 have lb:=BT (m:=b.natAbs) (by omega)
 have l1:=EM ha
 have l2:=EM hb
 refine Ab (args:=[str (itoa a),str (itoa b)]) Tryz.func205 I I I ?_
 refine zA (zB (wP I (wP I (Aa (zE (zA (zA (zB (wP I (wP I (wC I I (fun W _=>C8 a b ha hb W) (wP I (Aa ?_)))))))))))))
 refine zE (zA (zB (wP I (wP I (Aa (zE (zS I (zI (zE (zA (zA (zB ?_))))))))))))
 cases hs:smI a&&smI b with
 |true=>
  refine wP I (wP I (wC I I (fun W _=>FO hs W) ?_))
  iterate 7 refine wP I ?_
  refine Aa (zE (zA (zB (wP I (wP I (wP I (wP I ?_)))))))
  refine Ad 26 (.int .i64 ((itoa a).length:Nat)) I (congrArg (fun n:Nat=>Value.int .i64 (n:Int)) (At _)) ?_
  refine wP I (wP I ?_)
  refine Ad 28 (.int .i64 ((itoa b).length:Nat)) I (congrArg (fun n:Nat=>Value.int .i64 (n:Int)) (At _)) ?_
  refine wP I (wV 29 (((itoa a).length+(itoa b).length:Nat):Int) I (AL (by omega)) (wP I (wU 30 (decide ((itoa a).length+(itoa b).length≤18)) I (decide_eq_decide.2 (by omega)) (wP I (Aa (zE ?_))))))
  refine As I (fun h18=> ?_) (fun h18=> ?_)
  ·have h18:(itoa a).length+(itoa b).length≤18:=of_decide_eq_true h18
   have hm:(a*b).natAbs<1000000000000000000:=by
    have p1:=CM a.natAbs
    have p2:=CM b.natAbs
    have q1:(decDigits a.natAbs).length≤(itoa a).length:=by rw[BD,List.length_append];omega
    have q2:(decDigits b.natAbs).length≤(itoa b).length:=by rw[BD,List.length_append];omega
    rw[Int.natAbs_mul]
    have r1:=Nat.mul_lt_mul'' p1 p2
    rw[←Nat.pow_add] at r1
    exact Nat.lt_of_lt_of_le r1 (show _≤10^18 from Nat.pow_le_pow_right (by decide) (by omega))
   exact zA (zB (wP I (wP I (wP I (wV 34 (a*b) I (Ar (by omega) (by omega)) (wC I I (fun W hp=>Bi (a*b) (by omega) (by omega) W (ht.hp hp)) (wP I (wP I (Aa (zE (zO (zP (wR2 I I I)))))))))))))
  ·refine zI (zE (zA (zB (wP I ?_))))
   refine wD (X:=NV) I I (fun W' _=>AU a (by omega) W') ?_
   intro x hx
   refine wP I ?_
   refine wD (X:=NV) I I (fun W' _=>AU b (by omega) W') ?_
   intro y hy
   refine wD (X:=NV) I I (fun W' hp=>Gh a b W' (some ⟨x.1,0,none⟩) (some ⟨y.1,0,none⟩) x.2.1 y.2.1 (Ap.of_bx hp 0 I) (Ap.of_bx hp 1 I) (by omega) (by omega)) ?_
   intro w hw
   exact wC I I (fun W' hp=>DM (a*b) hab W' (some ⟨w.1,0,none⟩) w.2.1 (Ap.of_bx hp 2 I)) (wP I (wP I (wP I (wP I (Aa (zE (zO (wR2 I I I))))))))
 |false=>
  obtain⟨x0,y0,h2⟩:=Gk hs ha hb
  refine wP I (wP I (wC I I (fun W _=>h2 W) ?_))
  iterate 7 refine wP I ?_
  refine Aa (zE (zA (zB (wP I (wP I ?_)))))
  iterate 6 refine Ak I I ?_
  refine wP I (Aa (zE (zS I (zI (zE (zA (zB (wP I ?_))))))))
  refine wD (X:=NV) I I (fun W' _=>AU a (by omega) W') ?_
  intro x hx
  refine wP I ?_
  refine wD (X:=NV) I I (fun W' _=>AU b (by omega) W') ?_
  intro y hy
  refine wD (X:=NV) I I (fun W' hp=>Gh a b W' (some ⟨x.1,0,none⟩) (some ⟨y.1,0,none⟩) x.2.1 y.2.1 (Ap.of_bx hp 0 I) (Ap.of_bx hp 1 I) (by omega) (by omega)) ?_
  intro w hw
  exact wC I I (fun W' hp=>DM (a*b) hab W' (some ⟨w.1,0,none⟩) w.2.1 (Ap.of_bx hp 2 I)) (wP I (wP I (wP I (wP I (Aa (zE (zO (wR2 I I I))))))))
theorem Pa (a b:Int) (ha:(decDigits a.natAbs).length≤300) (hb:(decDigits b.natAbs).length≤300) (W:World):
  Ah Tryz.prog 157 #[str (itoa a),str (itoa b)] W (fun _:Unit=> .tuple #[.int .i64 (F0 a b), .int .i64 0]) (fun _=>True) (fun _=>[]):=by
 have la:=BT (m:=a.natAbs) (by omega)
 have lb:=BT (m:=b.natAbs) (by omega)
 refine Ab (args:=[str (itoa a),str (itoa b)]) Tryz.func157 I I I ?_
 refine zA (zB (wP I (wP I (Aa (zE (zA (zA (zB (wP I (wP I (wC I I (fun W _=>C8 a b ha hb W) (wP I (Aa ?_)))))))))))))
 refine zE (zA (zB (wP I (wP I (Aa (zE (zS I (zI (zE (zA (zA (zB ?_))))))))))))
 cases hs:smI a&&smI b with
 |true=>
  refine wP I (wP I (wC I I (fun W _=>FO hs W) ?_))
  iterate 7 refine wP I ?_
  refine Aa (zE (zA (zB (wP I (Aa (zE (zR I (zA (zA (zB (wP I (wP I (wP I ?_)))))))))))))
  by_cases h1:a<b
  ·exact wU 27 true I (dT h1) (Aa (zE (zR I (zA (zB (wP I (wP I (Aa (zE (zO (zP (zP (wR2 I I (by rw[F0,if_pos h1]))))))))))))))
  refine wU 27 false I (dF h1) (Aa (zE (zS I (zI (zE (zA (zA (zB (wP I (wP I (wP I ?_)))))))))))
  by_cases h2:b<a
  ·exact wU 30 true I (dT h2) (Aa (zE (zR I (zA (zB (wP I (wP I (Aa (zE (zO (zP (zP (wR2 I I (by rw[F0,if_neg h1,if_neg (by omega)]))))))))))))))
  exact wU 30 false I (dF h2) (Aa (zE (zS I (zI (zE (zA (zB (wP I (wP I (Aa (zE (zO (zP (wR2 I I (by rw[F0,if_neg h1,if_pos (by omega)])))))))))))))))
 |false=>
  obtain⟨x0,y0,h2⟩:=Gk hs ha hb
  refine wP I (wP I (wC I I (fun W _=>h2 W) ?_))
  iterate 7 refine wP I ?_
  refine Aa (zE (zA (zB (wP I (Aa (zE (zS I (zI (zE (zA (zB (wP I ?_))))))))))))
  refine wD (X:=NV) I I (fun W' _=>AU a (by omega) W') ?_
  intro x hx
  refine wP I ?_
  refine wD (X:=NV) I I (fun W' _=>AU b (by omega) W') ?_
  intro y hy
  refine wC I I (fun W' hp=>OY b W' (some ⟨y.1,0,none⟩) y.2.1) ?_
  refine wD (X:=NV) I I (fun W' hp=>HK a (-b) W' (some ⟨x.1,0,none⟩) (some ⟨y.1,0,none⟩) x.2.1 y.2.1 (Ap.of_bx hp 0 I) (by rw[Int.natAbs_neg];exact Ap.of_bx hp 1 I) (by omega) (by rw[Int.natAbs_neg];omega)) ?_
  intro w hw
  (refine Ag Tryz.hZ rfl rfl rfl rfl ?_;intro)
  refine wS 3 I I I (Aa ?_)
  rename_i b10
  refine zE (zA (zA (zB (wP I (wB 3 I I I (wP I (wP I ?_)))))))
  refine Ad 40 (.bool (decide (a=b))) I (congrArg Value.bool (by
   by_cases h0:a=b
   ·rw[dT h0,show(a+ -b).natAbs=0 by omega,AT];rfl
   ·have hL:(lbs br (a+ -b).natAbs).length≠0:=fun e=>by have:=(CJ br2).1 (List.length_eq_zero_iff.1 e);omega
    rw[dF h0,beq_eq_false_iff_ne];omega)) ?_
  refine Aa (zE ?_)
  refine As I (fun h0=> ?_) (fun h0=> ?_)
  ·have h0:a=b:=of_decide_eq_true h0
   exact zA (zB (wP I (wP I (Aa (zE (zO (zP (wR2 I I (by rw[F0,if_neg (by omega),if_pos h0])))))))))
  have h0: ¬a=b:=of_decide_eq_false h0
  refine zI (zE (zA (zA (zB (wP I (wB 3 I I I (Aa (zE ?_))))))))
  refine As I (fun h1=> ?_) (fun h1=> ?_)
  ·have h1:a+ -b<0:=of_decide_eq_true h1
   exact zA (zB (wP I (wP I (Aa (zE (zO (zP (wR2 I I (by rw[F0,if_pos (by omega)])))))))))
  ·have h1: ¬a+ -b<0:=of_decide_eq_false h1
   exact zI (zE (zA (zB (wP I (wP I (Aa (zE (zO (wR2 I I (by rw[F0,if_neg (by omega),if_neg h0]))))))))))
-- BOXES 6
-- CODE2
theorem Pk (a b:Int) (ha:(decDigits a.natAbs).length≤300) (hb:(decDigits b.natAbs).length≤300) (hab:(decDigits (a+b).natAbs).length≤300) (W:World) (ht:AS W):
  Ah Tryz.prog 165 #[str (itoa a),str (itoa b)] W (fun _:Unit=> .tuple #[str (itoa (a+b)), .int .i64 0]) (fun _=>True) (fun _=>[]):=by
 have la:=BT (m:=a.natAbs) (by omega)
 have lb:=BT (m:=b.natAbs) (by omega)
 refine Ab (args:=[str (itoa a),str (itoa b)]) Tryz.func165 I I I ?_
 refine zA (zB (wP I (wP I (Aa (zE (zA (zA (zB (wP I (wP I (wC I I (fun W _=>C8 a b ha hb W) (wP I (Aa ?_)))))))))))))
 refine zE (zA (zB (wP I (wP I (Aa (zE (zS I (zI (zE (zA (zA (zB ?_))))))))))))
 cases hs:smI a&&smI b with
 |true=>
  obtain⟨h1,h2⟩:=Bool.and_eq_true_iff.1 hs
  have b1:=Gz h1
  have b2:=Gz h2
  refine wP I (wP I (wC I I (fun W _=>FO hs W) ?_))
  iterate 7 refine wP I ?_
  refine Aa (zE (zA (zB (wP I (Aa (zE (zR I (zA (zB (wP I (wP I (wP I (wV 26 (a+b) I (Ar (by omega) (by omega)) ?_)))))))))))))
  exact wC I I (fun W hp=>Bi (a+b) (by omega) (by omega) W (ht.hp hp)) (wP I (wP I (Aa (zE (zO (zP (wR2 I I I)))))))
 |false=>
  obtain⟨x0,y0,h2⟩:=Gk hs ha hb
  refine wP I (wP I (wC I I (fun W _=>h2 W) ?_))
  iterate 7 refine wP I ?_
  refine Aa (zE (zA (zB (wP I (Aa (zE (zS I (zI (zE (zA (zB (wP I ?_))))))))))))
  refine wD (X:=NV) I I (fun W' _=>AU a (by omega) W') ?_
  intro x hx
  refine wP I ?_
  refine wD (X:=NV) I I (fun W' _=>AU b (by omega) W') ?_
  intro y hy
  refine wD (X:=NV) I I (fun W' hp=>HK a b W' (some ⟨x.1,0,none⟩) (some ⟨y.1,0,none⟩) x.2.1 y.2.1 (Ap.of_bx hp 0 I) (Ap.of_bx hp 1 I) (by omega) (by omega)) ?_
  intro w hw
  exact wC I I (fun W' hp=>DM (a+b) hab W' (some ⟨w.1,0,none⟩) w.2.1 (Ap.of_bx hp 2 I)) (wP I (wP I (wP I (wP I (Aa (zE (zO (wR2 I I I))))))))
-- BOXES 6
-- CODE2
theorem J9 {z:Int} (h: ¬okN z):H6 z= .tuple #[str [], .int .i64 4]:=if_neg h
theorem TQ {a b:Int} (ha:(decDigits a.natAbs).length≤300) (hb:(decDigits b.natAbs).length≤300):(decDigits (a*b).natAbs).length≤606:=by
 obtain⟨e,he⟩: ∃e:Nat,e=300:=⟨_,rfl⟩
 obtain⟨k,hk⟩: ∃k:Nat,k=606:=⟨_,rfl⟩
 rw[←he] at ha hb
 rw[←hk]
 have h1:=Nat.lt_of_lt_of_le (CM a.natAbs) (Nat.pow_le_pow_right (by decide) ha)
 have h2:=Nat.lt_of_lt_of_le (CM b.natAbs) (Nat.pow_le_pow_right (by decide) hb)
 have h3:=Nat.mul_lt_mul'' h1 h2
 rw[←Nat.pow_add] at h3
 rw[Int.natAbs_mul]
 exact CN k _ (by omega) (Nat.lt_of_lt_of_le h3 (Nat.pow_le_pow_right (by decide) (by omega)))
theorem Ua {a b:Int} (ha:(decDigits a.natAbs).length≤300) (hb:(decDigits b.natAbs).length≤300):(decDigits (a+b).natAbs).length≤606:=by
 obtain⟨e,he⟩: ∃e:Nat,e=300:=⟨_,rfl⟩
 obtain⟨k,hk⟩: ∃k:Nat,k=606:=⟨_,rfl⟩
 rw[←he] at ha hb
 rw[←hk]
 have h1:=Nat.lt_of_lt_of_le (CM a.natAbs) (Nat.pow_le_pow_right (by decide) ha)
 have h2:=Nat.lt_of_lt_of_le (CM b.natAbs) (Nat.pow_le_pow_right (by decide) hb)
 have h3:10^(e+1)=10*10^e:=by rw[Nat.pow_succ,Nat.mul_comm]
 have h4:(a+b).natAbs<10^(e+1):=by omega
 exact CN k _ (by omega) (Nat.lt_of_lt_of_le h4 (Nat.pow_le_pow_right (by decide) (by omega)))
theorem Mw (z:Int) (hg:300<(decDigits z.natAbs).length) (hl:(decDigits z.natAbs).length≤606):Bn Tryz.prog 222 [str (itoa z)] (.int .i64 4):=by
 intro W
 obtain⟨s,hs⟩: ∃s,s=itoa z:=⟨_,rfl⟩
 obtain⟨dd,hdd⟩: ∃dd,dd=decDigits z.natAbs:=⟨_,rfl⟩
 obtain⟨f,hf⟩: ∃f,f=(FK z).length:=⟨_,rfl⟩
 have hss:s=FK z++dd:=by rw[hs,hdd];exact BD z
 have hf1:f≤1:=hf▸J8 z
 have hsl:s.length=f+dd.length:=by rw[hss,List.length_append,hf]
 have hd0:0<dd.length:=by rw[hdd];exact List.length_pos_iff.2 (EK _)
 have hget: ∀i,f≤i→s[i]? =dd[i-f]? :=fun i hi=>by rw[hss,List.getElem?_append_right (by omega),hf]
 obtain⟨c0,hc0,hc45⟩:=DR z
 rw[←hs] at hc0⊢
 rw[←hdd] at hl hg
 have hdg: ∀b∈dd,De b=true:=by rw[hdd];exact(Ef _).all
 refine Ab Tryz.func222 I I I ?_
 refine zA (zB (wP I (Aa (zE (zA (zB (wP I (Aa (zE (zA (zA (zB (wP I (wP I ?_))))))))))))))
 refine Ad 6 (.int .i64 (s.length:Nat)) I (congrArg (fun n:Nat=>Value.int .i64 (n:Int)) (At s)) ?_
 refine wP I (wU 7 true I (dT (by omega)) (wP I (wP I ?_)))
 refine AQ 0 tH I I I I I I I I hc0 ?_
 refine wP I (wU 11 (decide (z<0)) I ((CL c0 45).trans hc45) (wP I (Aa (AG ?_))))
 try refine Ax ?_
 refine AA (X:=Unit) (fun _=>[(0,str s),(3, .int .i64 (f:Nat))]) (fun _=>[]) (fun _=>True) ?_ ?_
 ·refine As I (fun h=> ?_) (fun h=> ?_)
  ·have h:z<0:=of_decide_eq_true h
   exact zB (wP I (Aa (An () tO ⟨I,by rw[hf];unfold FK;rw[if_pos h];rfl,tO⟩ [] I)))
  ·have h: ¬z<0:=of_decide_eq_false h
   exact zI (An () tO ⟨I,by rw[hf];unfold FK;rw[if_neg h];rfl,tO⟩ [] I)
 intro _ _
 refine Ax (Ax ?_)
 refine AA (X:=Unit) (fun _=>[(0,str s),(3, .int .i64 (f:Nat)),(27, .bool false)]) (fun _=>[]) (fun _=>True) ?_ ?_
 ·refine zB (wP I (wP I (wP I ?_)))
  refine Ad 15 (.int .i64 (s.length:Nat)) I (congrArg (fun n:Nat=>Value.int .i64 (n:Int)) (At s)) ?_
  refine wP I (wU 16 false I (by rw[beq_eq_false_iff_ne];omega) ?_)
  obtain⟨b,hb⟩: ∃b,dd[0]? =some b:=⟨dd[0],List.getElem?_eq_getElem hd0⟩
  have hsb:s[f]? =some b:=by rw[hget f (Nat.le_refl _),Nat.sub_self];exact hb
  refine wP I (wP I (wP I ?_))
  refine AQ f tH I I I I I I I I hsb ?_
  refine wP I ?_
  by_cases h48:b=48
  ·rw[h48,hdd] at hb
   have h0:=Pi hb
   have hz:z=0:=by omega
   have hs1:s.length=1:=by rw[hs,hz,BP];rfl
   refine wU 21 true I ((CL b 48).trans (dT h48)) (wP I (wP I (wP I ?_)))
   refine Ad 24 (.int .i64 (s.length:Nat)) I (congrArg (fun n:Nat=>Value.int .i64 (n:Int)) (At s)) ?_
   exact wP I (wU 25 false I (dF (by omega)) (wP I (wP I (Aa (An () tO ⟨I,I,I,tO⟩ [] I)))))
  ·refine wU 21 false I ((CL b 48).trans (dF h48)) (wP I ?_)
   iterate 3 refine Ak I I ?_
   exact wP I (wP I (Aa (An () tO ⟨I,I,I,tO⟩ [] I)))
 intro _ _
 refine zS I (zI (zE (zA (zA (zB (wP I (wP I (Aa (zE (zH ?_))))))))))
 refine A8 (X:=Nat) (fun i=>[(0,str s),(3, .int .i64 (f:Nat)),(4, .int .i64 (i:Nat))]) (fun _=>[]) (fun i=>i≤s.length∧f≤i) (fun i=>s.length-i) f ⟨by omega,Nat.le_refl _⟩ ⟨I,I,I,tO⟩ [] I ?_
 rintro i ⟨hi,hfi⟩
 have hi:i≤s.length:=hi
 have hfi:f≤i:=hfi
 refine zA (zA (zB (wP I (wP I (wP I ?_)))))
 refine Ad 31 (.int .i64 (s.length:Nat)) I (congrArg (fun n:Nat=>Value.int .i64 (n:Int)) (At s)) ?_
 refine wP I ?_
 by_cases hlt:i<s.length
 ·refine wU 32 true I (dT (by omega)) (Aa (zE (zR I (zI (zE (zA (zH (zA (zB ?_)))))))))
  obtain⟨b,hb⟩: ∃b,dd[i-f]? =some b:=⟨dd[i-f]'(by omega),List.getElem?_eq_getElem (by omega)⟩
  have hsb:s[i]? =some b:=by rw[hget i hfi];exact hb
  have hbd:=Ch.1 (hdg b (List.mem_of_getElem? hb))
  refine wP I (wP I ?_)
  refine AQ i tH I I I I I I I I hsb ?_
  refine wP I (wU 38 false I ((PP b).trans (dF (by omega))) (wP I (wP I (wP I ?_))))
  refine AQ i tH I I I I I I I I hsb ?_
  refine wP I (wU 43 false I ((Qb b).trans (dF (by omega))) (wP I (Aa (zE (zS I (zI (zN (zE (zB (wP I (wP I (wV 34 ((i+1:Nat):Int) I (Az (by omega)) (wP I ?_)))))))))))))
  exact Aa (A0 (i+1) ⟨hlt,by show f≤i+1;omega⟩ (by show s.length-(i+1)<s.length-i;omega) ⟨I,I,I,tO⟩ [] I)
 ·refine wU 32 false I (dF (by omega)) (Aa (zE (zS I (zJ (zK (zK (zL (zE (zA (zA (zB (wP I (wP I ?_)))))))))))))
  refine Ad 46 (.int .i64 (s.length:Nat)) I (congrArg (fun n:Nat=>Value.int .i64 (n:Int)) (At s)) ?_
  refine wP I (wP I (wV 48 (dd.length:Nat) I (by show w64 ((s.length:Int)-f)=_;rw[Ar (by omega) (by omega)];omega) (wP I (wU 49 true I (dT (by omega)) (Aa (zE (zR I (zA (zB (wP I (Aa (zE (zO ?_)))))))))))))
  exact zP (wR1 I I I)
theorem Fs (z:Int) (hl:(decDigits z.natAbs).length≤606) (W:World) (p:Option Addr) (cap:Nat) (hA:Ap W p (lbs br z.natAbs)):
  Ah Tryz.prog 219 #[.agg #[.bool (decide (z<0)),slv p (lbs br z.natAbs).length cap]] W (fun _:Unit=>H6 z) (fun _=>True) (fun _=>[]):=by
 refine Ab (args:=[.agg #[.bool (decide (z<0)),slv p (lbs br z.natAbs).length cap]]) Tryz.func219 I I I ?_
 refine zA (zB ?_)
 (refine A6 rfl rfl rfl rfl ?_;intro)
 refine wP I (wP I (Aa (zE (zA (zB (wB 0 I I I (wC I I (fun W hp=>Es z (by omega) W p cap (hA.hp hp)) (wP I (Aa ?_)))))))))
 by_cases h:okN z
 ·refine zE (zA (zA (zB (wP I (wC I I (fun W _=>Eg z h.dd W) (wP I (Aa (zE (zS I (zI (zE (zA (zB ?_)))))))))))))
  exact wP I (wP I (wP I (Aa (zE (zO (AH tH I (.tmp I) (.tmp I) () (D4 h).symm tO fun W _=>Ao.nil _ _))))))
 ·have hgt:300<(decDigits z.natAbs).length:=by
   rcases Nat.lt_or_ge 300 (decDigits z.natAbs).length with q|q
   ·exact q
   ·exact absurd (Fy.1 q) h
  refine zE (zA (zA (zB (wP I (wC I I (fun W _=>Mw z hgt hl W) (wP I (Aa (zE (zR I (zA (zB (wP I (wP I ?_)))))))))))))
  exact Aa (zE (zO (zP (AH tH I (.tmp I) (.tmp I) () (J9 h).symm tO fun W _=>Ao.nil _ _))))
theorem JZ (a b:Int) (ha:(decDigits a.natAbs).length≤300) (hb:(decDigits b.natAbs).length≤300) (W:World) (ht:AS W):
  Ah Tryz.prog 205 #[str (itoa a),str (itoa b)] W (fun _:Unit=>H6 (a*b)) (fun _=>True) (fun _=>[]):=by
 have hab:(decDigits (a*b).natAbs).length≤606:=TQ ha hb
 obtain⟨rs,re,hres⟩:=F5 (a*b)
 have la:=BT (m:=a.natAbs) (by omega)
 have lb:=BT (m:=b.natAbs) (by omega)
 have l1:=EM ha
 have l2:=EM hb
 refine Ab (args:=[str (itoa a),str (itoa b)]) Tryz.func205 I I I ?_
 refine zA (zB (wP I (wP I (Aa (zE (zA (zA (zB (wP I (wP I (wC I I (fun W _=>C8 a b ha hb W) (wP I (Aa ?_)))))))))))))
 refine zE (zA (zB (wP I (wP I (Aa (zE (zS I (zI (zE (zA (zA (zB ?_))))))))))))
 cases hs:smI a&&smI b with
 |true=>
  refine wP I (wP I (wC I I (fun W _=>FO hs W) ?_))
  iterate 7 refine wP I ?_
  refine Aa (zE (zA (zB (wP I (wP I (wP I (wP I ?_)))))))
  refine Ad 26 (.int .i64 ((itoa a).length:Nat)) I (congrArg (fun n:Nat=>Value.int .i64 (n:Int)) (At _)) ?_
  refine wP I (wP I ?_)
  refine Ad 28 (.int .i64 ((itoa b).length:Nat)) I (congrArg (fun n:Nat=>Value.int .i64 (n:Int)) (At _)) ?_
  refine wP I (wV 29 (((itoa a).length+(itoa b).length:Nat):Int) I (AL (by omega)) (wP I (wU 30 (decide ((itoa a).length+(itoa b).length≤18)) I (decide_eq_decide.2 (by omega)) (wP I (Aa (zE ?_))))))
  refine As I (fun h18=> ?_) (fun h18=> ?_)
  ·have h18:(itoa a).length+(itoa b).length≤18:=of_decide_eq_true h18
   have hm:(a*b).natAbs<1000000000000000000:=by
    have p1:=CM a.natAbs
    have p2:=CM b.natAbs
    have q1:(decDigits a.natAbs).length≤(itoa a).length:=by rw[BD,List.length_append];omega
    have q2:(decDigits b.natAbs).length≤(itoa b).length:=by rw[BD,List.length_append];omega
    rw[Int.natAbs_mul]
    have r1:=Nat.mul_lt_mul'' p1 p2
    rw[←Nat.pow_add] at r1
    exact Nat.lt_of_lt_of_le r1 (show _≤10^18 from Nat.pow_le_pow_right (by decide) (by omega))
   exact zA (zB (wP I (wP I (wP I (wV 34 (a*b) I (Ar (by omega) (by omega)) (wC I I (fun W hp=>Bi (a*b) (by omega) (by omega) W (ht.hp hp)) (wP I (wP I (Aa (zE (zO (zP (AH tH I (.tmp I) (.tmp I) () (D4 (CR (by omega))).symm tO fun W _=>Ao.nil _ _)))))))))))))
  ·refine zI (zE (zA (zB (wP I ?_))))
   refine wD (X:=NV) I I (fun W' _=>AU a (by omega) W') ?_
   intro x hx
   refine wP I ?_
   refine wD (X:=NV) I I (fun W' _=>AU b (by omega) W') ?_
   intro y hy
   refine wD (X:=NV) I I (fun W' hp=>Gh a b W' (some ⟨x.1,0,none⟩) (some ⟨y.1,0,none⟩) x.2.1 y.2.1 (Ap.of_bx hp 0 I) (Ap.of_bx hp 1 I) (by omega) (by omega)) ?_
   intro w hw
   exact wC I I (fun W' hp=>(Fs (a*b) hab W' (some ⟨w.1,0,none⟩) w.2.1 (Ap.of_bx hp 2 I)).cast hres) (wP I (wP I (wP I (wP I (Aa (zE (zO (wR2 I I hres.symm))))))))
 |false=>
  obtain⟨x0,y0,h2⟩:=Gk hs ha hb
  refine wP I (wP I (wC I I (fun W _=>h2 W) ?_))
  iterate 7 refine wP I ?_
  refine Aa (zE (zA (zB (wP I (wP I ?_)))))
  iterate 6 refine Ak I I ?_
  refine wP I (Aa (zE (zS I (zI (zE (zA (zB (wP I ?_))))))))
  refine wD (X:=NV) I I (fun W' _=>AU a (by omega) W') ?_
  intro x hx
  refine wP I ?_
  refine wD (X:=NV) I I (fun W' _=>AU b (by omega) W') ?_
  intro y hy
  refine wD (X:=NV) I I (fun W' hp=>Gh a b W' (some ⟨x.1,0,none⟩) (some ⟨y.1,0,none⟩) x.2.1 y.2.1 (Ap.of_bx hp 0 I) (Ap.of_bx hp 1 I) (by omega) (by omega)) ?_
  intro w hw
  exact wC I I (fun W' hp=>(Fs (a*b) hab W' (some ⟨w.1,0,none⟩) w.2.1 (Ap.of_bx hp 2 I)).cast hres) (wP I (wP I (wP I (wP I (Aa (zE (zO (wR2 I I hres.symm))))))))
theorem Ox (a b:Int) (ha:(decDigits a.natAbs).length≤300) (hb:(decDigits b.natAbs).length≤300) (W:World) (ht:AS W):
  Ah Tryz.prog 165 #[str (itoa a),str (itoa b)] W (fun _:Unit=>H6 (a+b)) (fun _=>True) (fun _=>[]):=by
 have hab:(decDigits (a+b).natAbs).length≤606:=Ua ha hb
 obtain⟨rs,re,hres⟩:=F5 (a+b)
 have la:=BT (m:=a.natAbs) (by omega)
 have lb:=BT (m:=b.natAbs) (by omega)
 refine Ab (args:=[str (itoa a),str (itoa b)]) Tryz.func165 I I I ?_
 refine zA (zB (wP I (wP I (Aa (zE (zA (zA (zB (wP I (wP I (wC I I (fun W _=>C8 a b ha hb W) (wP I (Aa ?_)))))))))))))
 refine zE (zA (zB (wP I (wP I (Aa (zE (zS I (zI (zE (zA (zA (zB ?_))))))))))))
 cases hs:smI a&&smI b with
 |true=>
  obtain⟨h1,h2⟩:=Bool.and_eq_true_iff.1 hs
  have b1:=Gz h1
  have b2:=Gz h2
  refine wP I (wP I (wC I I (fun W _=>FO hs W) ?_))
  iterate 7 refine wP I ?_
  refine Aa (zE (zA (zB (wP I (Aa (zE (zR I (zA (zB (wP I (wP I (wP I (wV 26 (a+b) I (Ar (by omega) (by omega)) ?_)))))))))))))
  exact wC I I (fun W hp=>Bi (a+b) (by omega) (by omega) W (ht.hp hp)) (wP I (wP I (Aa (zE (zO (zP (AH tH I (.tmp I) (.tmp I) () (D4 (CR (by omega))).symm tO fun W _=>Ao.nil _ _)))))))
 |false=>
  obtain⟨x0,y0,h2⟩:=Gk hs ha hb
  refine wP I (wP I (wC I I (fun W _=>h2 W) ?_))
  iterate 7 refine wP I ?_
  refine Aa (zE (zA (zB (wP I (Aa (zE (zS I (zI (zE (zA (zB (wP I ?_))))))))))))
  refine wD (X:=NV) I I (fun W' _=>AU a (by omega) W') ?_
  intro x hx
  refine wP I ?_
  refine wD (X:=NV) I I (fun W' _=>AU b (by omega) W') ?_
  intro y hy
  refine wD (X:=NV) I I (fun W' hp=>HK a b W' (some ⟨x.1,0,none⟩) (some ⟨y.1,0,none⟩) x.2.1 y.2.1 (Ap.of_bx hp 0 I) (Ap.of_bx hp 1 I) (by omega) (by omega)) ?_
  intro w hw
  exact wC I I (fun W' hp=>(Fs (a+b) hab W' (some ⟨w.1,0,none⟩) w.2.1 (Ap.of_bx hp 2 I)).cast hres) (wP I (wP I (wP I (wP I (Aa (zE (zO (wR2 I I hres.symm))))))))
-- BOXES 4
-- CODE2
theorem LX (r:Nat):lv br [r]=r:=by show r+br*0=r;rw[Nat.mul_zero,Nat.add_zero]
theorem MK (W:World) (p:Option Addr) (cap a dv:Nat) (hA:Ap W p (lbs br a)) (hna:(lbs br a).length≤1000000) (hd0:0<dv) (hd1:dv<br):
  Ah Tryz.prog 225 #[slv p (lbs br a).length cap, .int .i64 (dv:Nat)] W (fun x:NV×NV=> .tuple #[Bo x.1 (lbs br (a/dv)).length,Bo x.2 (lbs br (a%dv)).length]) (fun x=>BW x.1 (lbs br (a/dv))∧BW x.2 (lbs br (a%dv))) (fun x=>[B3 x.1 (lbs br (a/dv)),B3 x.2 (lbs br (a%dv))]):=by
 obtain⟨K,hK⟩: ∃K,(lbs br a).length=K:=⟨_,rfl⟩
 have hd1':dv<1000000:=hd1
 have hal:=AE br2 a
 rw[hK] at hna hal
 refine Ab (args:=[slv p (lbs br a).length cap, .int .i64 (dv:Nat)]) Tryz.func225 I I I ?_
 rw[hK]
 refine zA (zB (wP I (wP I (Aa (zE (zA (zB (wP I (wP I ?_)))))))))
 refine BK Tryz.vec170 K I I I I I I I (by simp only[maxLen];omega) (by omega) ?_
 intro g
 have ez:Cu (Value.cells (.int .i64 0)).toList K=nI (List.replicate K 0)++[]:=by rw[List.append_nil];exact EQ K
 rw[ez]
 refine wP I (Aa (zE (zA (zB (wP I (Aa (zE (zA (zA (zB (wP I (wP I (wP I ?_)))))))))))))
 refine wV 14 ((K:Int)-1) I (Ar (by omega) (by omega)) (wP I (Aa (zE (zH ?_))))
 refine A8 (X:=Nat×List Nat×Nat×Nat) (fun x=>[(0,slv p K cap),(1, .int .i64 (dv:Nat)),(6,slv (some ⟨g,0,none⟩) K K),(7, .int .i64 (x.2.2.2:Nat)),(8, .int .i64 ((x.1:Nat)-1:Int))]) (fun x=>[⟨g,3,nI x.2.1++[],true,none⟩])
  (fun x=>x.1≤K∧x.2.1.length=K∧(∀y∈x.2.1,y<br)∧lv br x.2.1=br^x.1*x.2.2.1∧a/br^x.1=x.2.2.1*dv+x.2.2.2∧x.2.2.2<dv) (fun x=>x.1) (K,List.replicate K 0,0,0) ⟨Nat.le_refl _,List.length_replicate,GF (by decide) K,by rw[DT];show 0=br^K*0;rw[Nat.mul_zero],by show a/br^K=0*dv+0;rw[Nat.div_eq_of_lt hal];omega,hd0⟩ ⟨rfl,rfl,rfl,rfl,rfl,trivial⟩ [] rfl ?_
 rintro⟨k,l,qh,rs⟩ ⟨hk,hl,hlb,hlv,hq,hr⟩
 have hk:k≤K:=hk
 have hl:l.length=K:=hl
 have hlv:lv br l=br^k*qh:=hlv
 have hq:a/br^k=qh*dv+rs:=hq
 have hr:rs<dv:=hr
 refine zA (zA (zB (wP I (wP I ?_))))
 cases k with
 |zero=>
  have hq:a=qh*dv+rs:=by simpa using hq
  have hlv:lv br l=qh:=by rw[hlv];simp
  have eq1:a/dv=qh:=by rw[hq,Nat.mul_comm,Nat.mul_add_div hd0,Nat.div_eq_of_lt hr,Nat.add_zero]
  have eq2:a%dv=rs:=by rw[hq,Nat.mul_comm,Nat.mul_add_mod,Nat.mod_eq_of_lt hr]
  refine wU 16 false I (dF (by show¬(((0:Nat):Int)-1≥0);omega)) (Aa (zE (zS I (zJ (zK (zK (zL (zE (zA (zB ?_))))))))))
  have hV0:(⟨some g,K,[]⟩:Vec).OK 1 l.length (nI l):=⟨DO _,(fun h=>by cases h),fun _=>⟨by show _≤K;omega,by show K≤maxLen;simp only[maxLen];omega,by show(nI l).length+0=K*1;rw[By];omega⟩⟩
  obtain⟨j1,hV1,he1⟩:=Do hV0 hlb
  have hrb: ∀x∈[rs],x<br:=fun x hx=>by obtain rfl:=List.mem_singleton.1 hx;show x<1000000;omega
  refine wP I ?_
  refine Ad 35 (slv (some ⟨g,0,none⟩) l.length K) I (by rw[hl]) ?_
  refine wC I I (fun W hp=>Cp W _ K _ (Ap.of_bx hp 0 I) hlb (by omega) (by omega)) (wP I ?_)
  refine AD Tryz.hZ tH I I I I I I I I I I I fun bN=> ?_
  have hV2:(⟨some bN,1,[]⟩:Vec).OK 1 [rs].length (nI [rs]):=⟨rfl,(fun h=>by cases h),fun _=>⟨Nat.le_refl _,(by show 1≤maxLen;decide),rfl⟩⟩
  obtain⟨j2,hV3,he2⟩:=Do hV2 hrb
  refine wC I I (fun W hp=>Cp W (some ⟨bN,0,none⟩) 1 [rs] (Ap.of_bx (junk:=[]) hp 1 I) hrb (by show 1≤1;omega) (by show 1<_;decide)) (wP I (wP I (Aa (zE (zO ?_)))))
  rw[hlv, ←eq1] at hV1 he1
  rw[LX, ←eq2] at hV3 he2
  exact AH tH I (.tmp I) (.tmp I) (((g,K,j1):NV),((bN,1,j2):NV)) (by rw[hlv, ←eq1,LX, ←eq2]) ⟨hV1,hV3⟩ fun W hp=>Ao.of_hp (hp.pick (l:=[B3 (g,K,j1) (lbs br (a/dv)),B3 (bN,1,j2) (lbs br (a%dv))]) [0,1] (by decide) (by
   show some [(⟨g,3,nI l++[],true,none⟩:Bx),⟨bN,3,nI [rs]++[],true,none⟩]=some [⟨g,3,nI (lbs br (a/dv))++j1,true,none⟩,⟨bN,3,nI (lbs br (a%dv))++j2,true,none⟩]
   rw[he1, ←eq2,he2]))
 |succ k=>
  have hq:a/br^(k+1)=qh*dv+rs:=hq
  have hi:k<l.length:=by rw[hl];omega
  obtain⟨b1,o1,rfl,r1⟩:=hA.row (show k<(lbs br a).length by omega)
  have r1:=r1 k (by omega)
  obtain⟨v,hv⟩: ∃v,lim (lbs br a) k=v:=⟨_,rfl⟩
  rw[hv] at r1
  have hvb:v<br:=by rw[←hv];exact AY br2 (Bd br2 a) _
  have hvb':v<1000000:=hvb
  have hve:v=a/br^k%br:=by rw[←hv];exact Ba br2 a _
  obtain⟨n,hn⟩: ∃n,n=v+rs*br:=⟨_,rfl⟩
  have hn':n=v+rs*1000000:=hn
  have hn63:n<1000000000000:=by omega
  have hnq:=Nn (B:=br) (d:=dv) hvb hr hn
  have hnq':n/dv<1000000:=hnq
  have hs:=H7 (B:=br) (d:=dv) (q:=qh) (r:=rs) (i:=k) hq (n:=n) (by rw[hn,hve])
  have hzero:l[k]? =some 0:=by
   rw[CS hi,Cf br2 _ hlb,hlv,Nat.pow_succ,Nat.mul_assoc,Nat.mul_div_cancel_left _ (Nat.pow_pos (by decide)),Nat.mul_mod_right]
  have hset:=GD (B:=br) (n/dv) hzero
  rw[Nat.mul_zero,Nat.add_zero,hlv,Nat.pow_succ,Nat.mul_assoc, ←Nat.mul_add] at hset
  have hrm:n%dv<dv:=Nat.mod_lt _ hd0
  refine wU 16 true I (dT (by show(((k+1:Nat):Int)-1≥0);omega)) (Aa (zE (zR I (zI (zE (zA (zH (zA (zB (wP I (wP I (wP I (wP I ?_)))))))))))))
  refine wV 22 (k:Nat) I (by show((k+1:Nat):Int)-1=_;omega) ?_
  refine wJ ?_
  refine wL 0 I I (fun W hp=>r1.hp hp) I (wP I (wV 25 (n:Nat) I (by show w64 (w64 ((rs:Int)*((1000000:Nat):Int))+v)=_;rw[BU (by omega),AL (by omega),hn',Nat.add_comm]) (wP I (Aa (zE (zA (zB (wP I (wP I (wV 27 (k:Nat) I (by show((k+1:Nat):Int)-1=_;omega) (wP I (wP I ?_))))))))))))
  refine Df I I I I I (by omega) ?_
  refine wV 30 ((n/dv:Nat):Int) I (B0 (by omega)) ?_
  refine wJ ?_
  refine AC 0 (nI (l.set k (n/dv))++[]) tH I I I I I I I I I I (by show 0+k*1+1≤(nI l++[]).length;rw[List.append_nil,By];omega) (Ce hi (n/dv)) ?_
  refine Aa (zE (zB (wP I (wP I ?_))))
  refine EL I I I I I (by omega) ?_
  refine Ad 34 (.int .i64 ((n%dv:Nat):Int)) I I ?_
  exact wP I (Aa (zN (zE (zB (wP I (wV 17 (k:Nat) I (by show((k+1:Nat):Int)-1=_;omega) (wP I (wV 18 ((k:Nat)-1:Int) I (Ar (by omega) (by omega)) (wP I (Aa (A0 (k,l.set k (n/dv),qh*br+n/dv,n%dv) ⟨by show k≤K;omega,by rw[List.length_set];exact hl,Cr hlb hnq,by show lv br (l.set k (n/dv))=br^k*(qh*br+n/dv);rw[hset,Nat.mul_comm qh],by show a/br^k=_;exact hs,hrm⟩ (by show k<k+1;omega) ⟨I,I,I,I,I,tO⟩ [] I)))))))))))
end
end Go.Proofs.YtemghkmmcomalaaGreatDoor
