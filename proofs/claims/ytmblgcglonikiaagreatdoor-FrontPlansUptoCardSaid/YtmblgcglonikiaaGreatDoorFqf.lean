/-
  Lemmas that the theorem frontPlans_upto_card needs (part 6 of 7).
-/
import Derived.Test.YtmblgcglonikiaaGreatDoorFqe
import Derived.Lib.SlicesCompact
import Derived.Shelf.Lays
import Derived.Shelf.SlLaysN
import Derived.Shelf.Small.Bits
import Derived.Shelf.SlicesG.CompactS
import Derived.Lib.Overlaps
import Derived.Laws.StructEq
set_option maxHeartbeats 64000000
namespace Go.Proofs.YtmblgcglonikiaaGreatDoor
section
open Go Go.RowKit Go.Am
theorem Cl {f:Nat→Int}: ∀n,(∀i,i<n→f i=0)→AC f n=0
 |0,_=>rfl
 |n+1,h=>by
  show AC f n+f n=0
  rw[Cl n (fun i hi=>h i (by omega)),h n (by omega)];rfl
theorem Jw {f:Nat→Int} {j:Nat}: ∀n,j<n→(∀i,i<n→i≠j→f i=0)→AC f n=f j
 |0,hj,_=>absurd hj (Nat.not_lt_zero _)
 |n+1,hj,h=>by
  show AC f n+f n=f j
  by_cases e:j=n
  ·subst e
   rw[Cl j (fun i hi=>h i (by omega) (by omega))];omega
  ·rw[Jw n (by omega) (fun i hi=>h i (by omega)),h n (by omega) (fun x=>e x.symm)];omega
theorem CR (f g:Nat→Int): ∀n,AC (fun i=>f i-g i) n=AC f n-AC g n
 |0=>rfl
 |n+1=>by
  show AC _ n+(f n-g n)=AC f n+f n-(AC g n+g n)
  rw[CR f g n];omega
theorem HH (f:Nat→Nat→Int) (m:Nat): ∀n,AC (fun i=>AC (fun j=>f i j) m) n=AC (fun j=>AC (fun i=>f i j) n) m
 |0=>(Cl m (fun _ _=>rfl)).symm
 |n+1=>by
  show AC _ n+AC (fun j=>f n j) m=AC (fun j=>AC (fun i=>f i j) n+f n j) m
  rw[HH f m n,MG]
theorem Gu {f:Nat→Int}: ∀n,(∀i,i<n→0≤f i)→0≤AC f n
 |0,_=>Int.le_refl _
 |n+1,h=>by
  have h1:=Gu n (fun i hi=>h i (by omega))
  have h2:=h n (by omega)
  show 0≤AC f n+f n
  omega
theorem J4 {f:Nat→Int} {j:Nat}: ∀n,(∀i,i<n→0≤f i)→j<n→0<f j→0<AC f n
 |0,_,hj,_=>absurd hj (Nat.not_lt_zero _)
 |n+1,h,hj,h0=>by
  have h1:=Gu n (fun i hi=>h i (by omega))
  have h2:=h n (by omega)
  show 0<AC f n+f n
  by_cases e:j=n
  ·subst e;omega
  ·have:=J4 n (fun i hi=>h i (by omega)) (show j<n by omega) h0
   omega
def ind (a b:Int):Int:=if a>b then 1 else 0
theorem CQ (a b:Int):(ind a b=1∧a>b)∨(ind a b=0∧a≤b):=by
 unfold ind
 by_cases h:a>b
 ·rw[if_pos h];exact .inl ⟨rfl,h⟩
 ·rw[if_neg h];exact .inr ⟨rfl,by omega⟩
theorem EN {a b:Int} (h:a>b):ind a b=1:=if_pos h
theorem EU {a b:Int} (h:a≤b):ind a b=0:=if_neg (by omega)
theorem R3 {a:Int} (h:0≤a): ∀m:Nat,AC (fun x=>ind a x) m=if a≤m then a else m
 |0=>by
  show(0:Int)=_
  split<;>omega
 |m+1=>by
  show AC (fun x=>ind a x) m+ind a m=_
  rw[R3 h m]
  rcases CQ a m with⟨e,h1⟩|⟨e,h1⟩<;>rw[e]<;>split<;>split<;>omega
theorem J2 {a:Int} {m:Nat} (h:0≤a) (h2:a≤m):AC (fun x=>ind a x) m=a:=by rw[R3 h,if_pos h2]
def On (σ:Nat→Nat) (X Y:Nat→Int) (k:Nat) (px py:Int):Prop:=
 (X k≤px∨X (σ k)≤px)∧(px≤X k∨px≤X (σ k))∧(Y k≤py∨Y (σ k)≤py)∧(py≤Y k∨py≤Y (σ k))
structure Net (T:Nat) (σ:Nat→Nat) (X Y:Nat→Int):Prop where
 lt: ∀k,k<T→σ k<T
 sum: ∀f:Nat→Int,AC (fun k=>f (σ k)) T=AC f T
 side: ∀k,k<T→(X (σ k)=X k∧Y (σ k)≠Y k)∨(Y (σ k)=Y k∧X (σ k)≠X k)
 alt: ∀k,k<T→(X (σ k)=X k↔Y (σ (σ k))=Y (σ k))
 free: ∀j k,j<T→k<T→ ∀px py,On σ X Y j px py→On σ X Y k px py→j=k∨j=σ k∨k=σ j
def Wn (T:Nat) (σ:Nat→Nat) (X Y:Nat→Int) (x y:Int):Int:=AC (fun k=>ind (X k) x*(ind (Y (σ k)) y-ind (Y k) y)) T
def Vd (σ:Nat→Nat) (X Y:Nat→Int) (x y:Int) (k:Nat):Int:=(ind (X k) (x-1)-ind (X k) x)*(ind (Y (σ k)) y-ind (Y k) y)
def Hd (σ:Nat→Nat) (X Y:Nat→Int) (x y:Int) (k:Nat):Int:=(ind (X (σ k)) x-ind (X k) x)*(ind (Y (σ k)) (y-1)-ind (Y (σ k)) y)
def LC (σ:Nat→Nat) (X Y:Nat→Int) (k:Nat) (x y:Int):Prop:=
 (Y k<Y (σ k)∧x=X k-1∧Y k≤y∧y<Y (σ k))∨(Y (σ k)<Y k∧x=X k∧Y (σ k)≤y∧y<Y k)∨
 (X k<X (σ k)∧y=Y k∧X k≤x∧x<X (σ k))∨(X (σ k)<X k∧y=Y k-1∧X (σ k)≤x∧x<X k)
def RC (σ:Nat→Nat) (X Y:Nat→Int) (k:Nat) (x y:Int):Prop:=
 (Y k<Y (σ k)∧x=X k∧Y k≤y∧y<Y (σ k))∨(Y (σ k)<Y k∧x=X k-1∧Y (σ k)≤y∧y<Y k)∨
 (X k<X (σ k)∧y=Y k-1∧X k≤x∧x<X (σ k))∨(X (σ k)<X k∧y=Y k∧X (σ k)≤x∧x<X k)
def Lv (T:Nat) (σ:Nat→Nat) (X Y:Nat→Int) (k:Nat) (L:Int):Prop:=
 (∀x y,LC σ X Y k x y→Wn T σ X Y x y=L)∧ ∀x y,RC σ X Y k x y→Wn T σ X Y x y=L-1
section
variable {T:Nat} {σ:Nat→Nat} {X Y:Nat→Int}
theorem UQ (x y:Int):Wn T σ X Y (x-1) y-Wn T σ X Y x y=AC (Vd σ X Y x y) T:=by
 unfold Wn
 rw[←CR]
 exact BE T fun k _=>by unfold Vd;rw[Int.sub_mul]
theorem Wq (N:Net T σ X Y) (x y:Int):Wn T σ X Y x y-Wn T σ X Y x (y-1)=AC (Hd σ X Y x y) T:=by
 have h1:=N.sum fun k=>ind (X k) x*(ind (Y k) (y-1)-ind (Y k) y)
 unfold Wn
 rw[←CR]
 have h2:AC (fun i=>ind (X i) x*(ind (Y (σ i)) y-ind (Y i) y)-ind (X i) x*(ind (Y (σ i)) (y-1)-ind (Y i) (y-1))) T=
   AC (fun k=>ind (X k) x*(ind (Y k) (y-1)-ind (Y k) y)-ind (X k) x*(ind (Y (σ k)) (y-1)-ind (Y (σ k)) y)) T:=
  BE T fun k _=>by simp only[Int.mul_sub];omega
 rw[h2,CR, ←h1, ←CR]
 exact BE T fun k _=>by unfold Hd;rw[Int.sub_mul]
theorem TP {x y:Int} {k:Nat} (h:Vd σ X Y x y k≠0):X k=x∧((Y k≤y∧y<Y (σ k))∨(Y (σ k)≤y∧y<Y k)):=by
 unfold Vd at h
 rcases CQ (X k) (x-1) with⟨e1,h1⟩|⟨e1,h1⟩<;>rcases CQ (X k) x with⟨e2,h2⟩|⟨e2,h2⟩<;>rcases CQ (Y (σ k)) y with⟨e3,h3⟩|⟨e3,h3⟩<;>rcases CQ (Y k) y with⟨e4,h4⟩|⟨e4,h4⟩<;>
  rw[e1,e2,e3,e4] at h<;>first|exact absurd rfl h|omega
theorem Ve {x y:Int} {k:Nat} (h:Hd σ X Y x y k≠0):Y (σ k)=y∧((X k≤x∧x<X (σ k))∨(X (σ k)≤x∧x<X k)):=by
 unfold Hd at h
 rcases CQ (X (σ k)) x with⟨e1,h1⟩|⟨e1,h1⟩<;>rcases CQ (X k) x with⟨e2,h2⟩|⟨e2,h2⟩<;>rcases CQ (Y (σ k)) (y-1) with⟨e3,h3⟩|⟨e3,h3⟩<;>rcases CQ (Y (σ k)) y with⟨e4,h4⟩|⟨e4,h4⟩<;>
  rw[e1,e2,e3,e4] at h<;>first|exact absurd rfl h|omega
theorem VS {y:Int} {k:Nat} (h:Y k≤y∧y<Y (σ k)):Vd σ X Y (X k) y k=1:=by
 unfold Vd
 rw[EN (show X k>X k-1 by omega),EU (Int.le_refl _),EN h.2,EU h.1];rfl
theorem UW {y:Int} {k:Nat} (h:Y (σ k)≤y∧y<Y k):Vd σ X Y (X k) y k= -1:=by
 unfold Vd
 rw[EN (show X k>X k-1 by omega),EU (Int.le_refl _),EN h.2,EU h.1];rfl
theorem TY {x:Int} {k:Nat} (e:Y (σ k)=Y k) (h:X k≤x∧x<X (σ k)):Hd σ X Y x (Y k) k=1:=by
 unfold Hd
 rw[e,EN (show Y k>Y k-1 by omega),EU (Int.le_refl (Y k)),EN h.2,EU h.1];rfl
theorem UV {x:Int} {k:Nat} (e:Y (σ k)=Y k) (h:X (σ k)≤x∧x<X k):Hd σ X Y x (Y k) k= -1:=by
 unfold Hd
 rw[e,EN (show Y k>Y k-1 by omega),EU (Int.le_refl (Y k)),EN h.2,EU h.1];rfl
theorem Net.up_eq (N:Net T σ X Y) {k:Nat} (hk:k<T) (hv:X (σ k)=X k) {c y:Int} (hc:c=X k-1∨c=X k) (h1:(Y k≤y∧y+1<Y (σ k))∨(Y (σ k)≤y∧y+1<Y k)):Wn T σ X Y c (y+1)=Wn T σ X Y c y:=by
 have h2:=Wq N c (y+1)
 rw[show y+1-1=y by omega] at h2
 rw[Cl (f:=Hd σ X Y c (y+1)) T (fun j hj=> ?_)] at h2
 ·omega
 ·refine Classical.byContradiction fun h=> ?_
  obtain⟨e,hx⟩:=Ve h
  have e2:Y j=y+1:=by rcases N.side j hj with h|h<;>omega
  rcases N.free j k hj hk (X k) (y+1) ⟨by omega,by omega,by omega,by omega⟩ ⟨by omega,by omega,by omega,by omega⟩ with h|h|h
  ·subst h;omega
  ·subst h;omega
  ·rw[h] at h1 hv hc;rw[h] at*;omega
theorem Net.flat_eq (N:Net T σ X Y) {k:Nat} (hk:k<T) (hh:Y (σ k)=Y k) {c x:Int} (hc:c=Y k-1∨c=Y k) (h1:(X k≤x-1∧x<X (σ k))∨(X (σ k)≤x-1∧x<X k)):Wn T σ X Y (x-1) c=Wn T σ X Y x c:=by
 have h2:=UQ (T:=T) (σ:=σ) (X:=X) (Y:=Y) x c
 rw[Cl (f:=Vd σ X Y x c) T (fun j hj=> ?_)] at h2
 ·omega
 ·refine Classical.byContradiction fun h=> ?_
  obtain⟨e,hx⟩:=TP h
  have e2:X (σ j)=x:=by rcases N.side j hj with h|h<;>omega
  rcases N.free j k hj hk x (Y k) ⟨by omega,by omega,by omega,by omega⟩ ⟨by omega,by omega,by omega,by omega⟩ with h|h|h
  ·subst h;omega
  ·subst h;omega
  ·rw[h] at h1;omega
theorem Net.up_const (N:Net T σ X Y) {k:Nat} (hk:k<T) (hv:X (σ k)=X k) {c lo:Int} (hc:c=X k-1∨c=X k) (hlo:lo=Y k∨lo=Y (σ k)) (hm:lo≤Y k∧lo≤Y (σ k)): ∀d:Nat,(lo+d<Y k∨lo+d<Y (σ k))→Wn T σ X Y c (lo+d)=Wn T σ X Y c lo
 |0,_=>by rw[show lo+((0:Nat):Int)=lo by omega]
 |d+1,h=>by
  rw[show lo+((d+1:Nat):Int)=lo+d+1 by omega,N.up_eq hk hv hc (by omega)]
  exact N.up_const hk hv hc hlo hm d (by omega)
theorem Net.flat_const (N:Net T σ X Y) {k:Nat} (hk:k<T) (hh:Y (σ k)=Y k) {c lo:Int} (hc:c=Y k-1∨c=Y k) (hlo:lo=X k∨lo=X (σ k)) (hm:lo≤X k∧lo≤X (σ k)): ∀d:Nat,(lo+d<X k∨lo+d<X (σ k))→Wn T σ X Y (lo+d) c=Wn T σ X Y lo c
 |0,_=>by rw[show lo+((0:Nat):Int)=lo by omega]
 |d+1,h=>by
  have h1:=N.flat_eq hk hh hc (x:=lo+((d+1:Nat):Int)) (by omega)
  rw[←h1,show lo+((d+1:Nat):Int)-1=lo+d by omega]
  exact N.flat_const hk hh hc hlo hm d (by omega)
theorem Net.over_up (N:Net T σ X Y) {k:Nat} (hk:k<T) (hv:X (σ k)=X k) {y:Int} (h1:(Y k≤y∧y<Y (σ k))∨(Y (σ k)≤y∧y<Y k)):Wn T σ X Y (X k-1) y-Wn T σ X Y (X k) y=Vd σ X Y (X k) y k:=by
 rw[UQ]
 refine Jw T hk fun j hj hne=> ?_
 refine Classical.byContradiction fun h=> ?_
 obtain⟨e,hx⟩:=TP h
 have e2:X (σ j)=X j:=by rcases N.side j hj with h|h<;>omega
 rcases N.free j k hj hk (X k) y ⟨by omega,by omega,by omega,by omega⟩ ⟨by omega,by omega,by omega,by omega⟩ with h|h|h
 ·exact hne h
 ·have:=(N.alt k hk).1 hv
  rw[←h] at this;omega
 ·have:=(N.alt j hj).1 e2
  rw[←h] at this;omega
theorem Net.over_flat (N:Net T σ X Y) {k:Nat} (hk:k<T) (hh:Y (σ k)=Y k) {x:Int} (h1:(X k≤x∧x<X (σ k))∨(X (σ k)≤x∧x<X k)):Wn T σ X Y x (Y k)-Wn T σ X Y x (Y k-1)=Hd σ X Y x (Y k) k:=by
 rw[Wq N]
 refine Jw T hk fun j hj hne=> ?_
 refine Classical.byContradiction fun h=> ?_
 obtain⟨e,hx⟩:=Ve h
 have e2:Y (σ j)=Y j:=by rcases N.side j hj with h|h<;>omega
 rcases N.free j k hj hk x (Y k) ⟨by omega,by omega,by omega,by omega⟩ ⟨by omega,by omega,by omega,by omega⟩ with h|h|h
 ·exact hne h
 ·have:=N.alt k hk
  rw[←h] at this h1
  have h9:=this.2 e2
  omega
 ·have:=N.alt j hj
  rw[←h] at this hx
  have h9:=this.2 hh
  omega
theorem Net.lv_ex (N:Net T σ X Y) {k:Nat} (hk:k<T): ∃L,Lv T σ X Y k L:=by
 rcases N.side k hk with⟨hv,hd⟩|⟨hh,hd⟩
 ·have con: ∀c,(c=X k-1∨c=X k)→ ∀lo,(lo=Y k∨lo=Y (σ k))→lo≤Y k→lo≤Y (σ k)→ ∀y,lo≤y→(y<Y k∨y<Y (σ k))→Wn T σ X Y c y=Wn T σ X Y c lo:=fun c hc lo hlo m1 m2 y h1 h2=>by
   have:=N.up_const hk hv hc hlo ⟨m1,m2⟩ (y-lo).toNat (by omega)
   rw[show lo+((y-lo).toNat:Int)=y by omega] at this
   exact this
  by_cases hu:Y k<Y (σ k)
  ·refine⟨Wn T σ X Y (X k-1) (Y k),fun x y h=> ?_,fun x y h=> ?_⟩
   ·unfold LC at h
    obtain⟨rfl,h1,h2⟩:x=X k-1∧Y k≤y∧y<Y (σ k):=by omega
    exact con _ (.inl I) _ (.inl I) (Int.le_refl _) (by omega) y h1 (.inr h2)
   ·unfold RC at h
    obtain⟨rfl,h1,h2⟩:x=X k∧Y k≤y∧y<Y (σ k):=by omega
    have e1:=con _ (.inl rfl) _ (.inl rfl) (Int.le_refl _) (by omega) y h1 (.inr h2)
    have e2:=N.over_up hk hv (.inl ⟨h1,h2⟩)
    rw[VS ⟨h1,h2⟩] at e2
    omega
  ·refine⟨Wn T σ X Y (X k) (Y (σ k)),fun x y h=> ?_,fun x y h=> ?_⟩
   ·unfold LC at h
    obtain⟨rfl,h1,h2⟩:x=X k∧Y (σ k)≤y∧y<Y k:=by omega
    exact con _ (.inr I) _ (.inr I) (by omega) (Int.le_refl _) y h1 (.inl h2)
   ·unfold RC at h
    obtain⟨rfl,h1,h2⟩:x=X k-1∧Y (σ k)≤y∧y<Y k:=by omega
    have e1:=con _ (.inr rfl) _ (.inr rfl) (by omega) (Int.le_refl _) y h1 (.inl h2)
    have e2:=N.over_up hk hv (.inr ⟨h1,h2⟩)
    rw[UW ⟨h1,h2⟩] at e2
    omega
 ·have con: ∀c,(c=Y k-1∨c=Y k)→ ∀lo,(lo=X k∨lo=X (σ k))→lo≤X k→lo≤X (σ k)→ ∀x,lo≤x→(x<X k∨x<X (σ k))→Wn T σ X Y x c=Wn T σ X Y lo c:=fun c hc lo hlo m1 m2 x h1 h2=>by
   have:=N.flat_const hk hh hc hlo ⟨m1,m2⟩ (x-lo).toNat (by omega)
   rw[show lo+((x-lo).toNat:Int)=x by omega] at this
   exact this
  by_cases hu:X k<X (σ k)
  ·refine⟨Wn T σ X Y (X k) (Y k),fun x y h=> ?_,fun x y h=> ?_⟩
   ·unfold LC at h
    obtain⟨rfl,h1,h2⟩:y=Y k∧X k≤x∧x<X (σ k):=by omega
    exact con _ (.inr I) _ (.inl I) (Int.le_refl _) (by omega) x h1 (.inr h2)
   ·unfold RC at h
    obtain⟨rfl,h1,h2⟩:y=Y k-1∧X k≤x∧x<X (σ k):=by omega
    have e1:=con _ (.inr rfl) _ (.inl rfl) (Int.le_refl _) (by omega) x h1 (.inr h2)
    have e2:=N.over_flat hk hh (.inl ⟨h1,h2⟩)
    rw[TY hh ⟨h1,h2⟩] at e2
    omega
  ·refine⟨Wn T σ X Y (X (σ k)) (Y k-1),fun x y h=> ?_,fun x y h=> ?_⟩
   ·unfold LC at h
    obtain⟨rfl,h1,h2⟩:y=Y k-1∧X (σ k)≤x∧x<X k:=by omega
    exact con _ (.inl I) _ (.inr I) (by omega) (Int.le_refl _) x h1 (.inl h2)
   ·unfold RC at h
    obtain⟨rfl,h1,h2⟩:y=Y k∧X (σ k)≤x∧x<X k:=by omega
    have e1:=con _ (.inl rfl) _ (.inr rfl) (by omega) (Int.le_refl _) x h1 (.inl h2)
    have e2:=N.over_flat hk hh (.inr ⟨h1,h2⟩)
    rw[UV hh ⟨h1,h2⟩] at e2
    omega
theorem Net.share (N:Net T σ X Y) {k:Nat} (hk:k<T): ∃x y,(LC σ X Y k x y∧LC σ X Y (σ k) x y)∨(RC σ X Y k x y∧RC σ X Y (σ k) x y):=by
 have h1:=N.side k hk
 have h2:=N.side (σ k) (N.lt k hk)
 have h3:=N.alt k hk
 unfold LC RC
 generalize σ (σ k)=k2 at*
 generalize σ k=k1 at*
 by_cases a:Y k<Y k1
 ·by_cases b:X k1<X k2
  ·exact⟨X k1,Y k1-1, .inr ⟨by omega,by omega⟩⟩
  ·exact⟨X k1-1,Y k1-1, .inl ⟨by omega,by omega⟩⟩
 by_cases a2:Y k1<Y k
 ·by_cases b:X k1<X k2
  ·exact⟨X k1,Y k1, .inl ⟨by omega,by omega⟩⟩
  ·exact⟨X k1-1,Y k1, .inr ⟨by omega,by omega⟩⟩
 by_cases a3:X k<X k1
 ·by_cases b:Y k1<Y k2
  ·exact⟨X k1-1,Y k1, .inl ⟨by omega,by omega⟩⟩
  ·exact⟨X k1-1,Y k1-1, .inr ⟨by omega,by omega⟩⟩
 ·by_cases b:Y k1<Y k2
  ·exact⟨X k1,Y k1, .inr ⟨by omega,by omega⟩⟩
  ·exact⟨X k1,Y k1-1, .inl ⟨by omega,by omega⟩⟩
theorem Net.lv_next (N:Net T σ X Y) {k:Nat} (hk:k<T) {L:Int} (h:Lv T σ X Y k L):Lv T σ X Y (σ k) L:=by
 obtain⟨L',h'⟩:=N.lv_ex (N.lt k hk)
 obtain⟨x,y,⟨h1,h2⟩|⟨h1,h2⟩⟩:=N.share hk
 ·have e1:=h.1 x y h1
  have e2:=h'.1 x y h2
  rw[show L=L' by omega];exact h'
 ·have e1:=h.2 x y h1
  have e2:=h'.2 x y h2
  rw[show L=L' by omega];exact h'
theorem GI {x:Int} (h: ∀k,k<T→X k≤x) (y:Int):Wn T σ X Y x y=0:=Cl T fun k hk=>by rw[EU (h k hk),Int.zero_mul]
theorem Rn {x y:Int} {j:Nat} (h:Vd σ X Y x y j≠0):(LC σ X Y j (x-1) y∧RC σ X Y j x y)∨(RC σ X Y j (x-1) y∧LC σ X Y j x y):=by
 obtain⟨e,hx⟩:=TP h
 rcases hx with⟨h1,h2⟩|⟨h1,h2⟩
 ·exact .inl ⟨.inl ⟨by omega,by omega,h1,h2⟩, .inl ⟨by omega,by omega,h1,h2⟩⟩
 ·exact .inr ⟨.inr (.inl ⟨by omega,by omega,h1,h2⟩), .inr (.inl ⟨by omega,by omega,h1,h2⟩)⟩
theorem Net.ray (N:Net T σ X Y) {M:Int} (hM: ∀k,k<T→X k≤M) (y:Int): ∀d:Nat,Wn T σ X Y (M-d) y=0∨ ∃k L,k<T∧Lv T σ X Y k L∧(Wn T σ X Y (M-d) y=L∨Wn T σ X Y (M-d) y=L-1)
 |0=> .inl (GI (fun k hk=>by have:=hM k hk;omega) y)
 |d+1=>by
  have h1:=UQ (T:=T) (σ:=σ) (X:=X) (Y:=Y) (M-d) y
  rw[show M-((d+1:Nat):Int)=M-d-1 by omega]
  by_cases h: ∃j,j<T∧Vd σ X Y (M-d) y j≠0
  ·obtain⟨j,hj,h⟩:=h
   obtain⟨L,hL⟩:=N.lv_ex hj
   refine .inr ⟨j,L,hj,hL, ?_⟩
   rcases Rn h with⟨h,_⟩|⟨h,_⟩
   ·exact .inl (hL.1 _ _ h)
   ·exact .inr (hL.2 _ _ h)
  ·rw[Cl (f:=Vd σ X Y (M-d) y) T (fun j hj=>Classical.byContradiction fun e=>h ⟨j,hj,e⟩)] at h1
   rw[show Wn T σ X Y (M-d-1) y=Wn T σ X Y (M-d) y by omega]
   exact N.ray hM y d
theorem Net.values (N:Net T σ X Y) (x y:Int):Wn T σ X Y x y=0∨ ∃k L,k<T∧Lv T σ X Y k L∧(Wn T σ X Y x y=L∨Wn T σ X Y x y=L-1):=by
 have bound: ∀n, ∃M:Int, ∀k,k<n→X k≤M:=fun n=>by
  induction n with
  |zero=>exact⟨0,fun k hk=>absurd hk (Nat.not_lt_zero _)⟩
  |succ n ih=>
   obtain⟨M,hM⟩:=ih
   refine⟨if M<X n then X n else M,fun k hk=> ?_⟩
   by_cases e:k=n
   ·subst e;split<;>omega
   ·have:=hM k (by omega);split<;>omega
 obtain⟨M,hM⟩:=bound T
 by_cases h:x≤M
 ·have:=N.ray hM y (M-x).toNat
  rw[show M-((M-x).toNat:Int)=x by omega] at this
  exact this
 ·exact .inl (GI (fun k hk=>by have:=hM k hk;omega) y)
theorem Net.first (N:Net T σ X Y) {M:Int} (hM: ∀k,k<T→X k≤M) (y:Int): ∀d:Nat,(∀x,M-d≤x→Wn T σ X Y x y=0)∨ ∃k x,k<T∧(∀x',x≤x'→Wn T σ X Y x' y=0)∧((LC σ X Y k (x-1) y∧RC σ X Y k x y)∨(RC σ X Y k (x-1) y∧LC σ X Y k x y))
 |0=> .inl fun x hx=>GI (fun k hk=>by have:=hM k hk;omega) y
 |d+1=>by
  rcases N.first hM y d with h0|h0
  ·by_cases h: ∃j,j<T∧Vd σ X Y (M-d) y j≠0
   ·obtain⟨j,hj,h⟩:=h
    exact .inr ⟨j,M-d,hj,h0,Rn h⟩
   ·left
    intro x hx
    have h1:=UQ (T:=T) (σ:=σ) (X:=X) (Y:=Y) (M-d) y
    rw[Cl (f:=Vd σ X Y (M-d) y) T (fun j hj=>Classical.byContradiction fun e=>h ⟨j,hj,e⟩)] at h1
    have h2:=h0 (M-d) (Int.le_refl _)
    by_cases e:x=M-d-1
    ·subst e;omega
    ·exact h0 x (by omega)
  ·exact .inr h0
theorem Net.range (N:Net T σ X Y) {M:Int} (hX: ∀k,k<T→0≤X k∧X k≤M) (hY: ∀k,k<T→0≤Y k∧Y k≤M) {x y:Int} (h:Wn T σ X Y x y≠0):(0≤x∧x<M)∧0≤y∧y<M:=by
 refine Classical.byContradiction fun hn=>h ?_
 by_cases h1:M≤x
 ·exact GI (fun k hk=>by have:=hX k hk;omega) y
 by_cases h2:x<0
 ·unfold Wn
  rw[BE (g:=fun k=>ind (Y (σ k)) y-ind (Y k) y) T (fun k hk=>by rw[EN (show X k>x by have:=hX k hk;omega),Int.one_mul]),CR,N.sum (fun k=>ind (Y k) y)];omega
 by_cases h3:M≤y
 ·exact Cl T fun k hk=>by rw[EU (show Y k≤y by have:=hY k hk;omega),EU (show Y (σ k)≤y by have:=hY _ (N.lt k hk);omega)];simp
 by_cases h4:y<0
 ·exact Cl T fun k hk=>by rw[EN (show Y k>y by have:=hY k hk;omega),EN (show Y (σ k)>y by have:=hY _ (N.lt k hk);omega)];simp
 omega
theorem Net.area (N:Net T σ X Y) {M:Nat} (hX: ∀k,k<T→0≤X k∧X k≤M) (hY: ∀k,k<T→0≤Y k∧Y k≤M):
  AC (fun k=>X k*Y (σ k)-Y k*X (σ k)) T=2*AC (fun x=>AC (fun y=>Wn T σ X Y x y) M) M:=by
 have h1:AC (fun k=>X k*(Y (σ k)-Y k)) T=AC (fun x=>AC (fun y=>Wn T σ X Y x y) M) M:=by
  unfold Wn
  rw[BE (g:=fun k=>AC (fun x:Nat=>AC (fun y:Nat=>ind (X k) x*(ind (Y (σ k)) y-ind (Y k) y)) M) M) T fun k hk=> ?_]
  ·rw[HH]
   refine BE M fun x _=> ?_
   rw[HH]
  ·have e1:=J2 (hX k hk).1 (hX k hk).2
   have e2:=J2 (hY k hk).1 (hY k hk).2
   have e3:=J2 (hY _ (N.lt k hk)).1 (hY _ (N.lt k hk)).2
   rw[BE (g:=fun x:Nat=>(Y (σ k)-Y k)*ind (X k) x) M fun x _=> ?_]
   ·rw[EE,e1,Int.mul_comm]
   ·show AC (fun y:Nat=>ind (X k) x*(ind (Y (σ k)) y-ind (Y k) y)) M=_
    rw[EE,CR,e2,e3,Int.mul_comm]
 rw[←h1, ←EE]
 have h2:=N.sum fun k=>X k*Y k
 have h3:AC (fun k=>X k*Y (σ k)-Y k*X (σ k)-2*(X k*(Y (σ k)-Y k))) T=AC (fun k=>X k*Y k-X (σ k)*Y (σ k)) T:=BE T fun k hk=>by
  rcases N.side k hk with⟨e,_⟩|⟨e,_⟩
  ·rw[e,Int.mul_sub,Int.mul_comm (Y k) (X k)];omega
  ·rw[e,Int.mul_sub,Int.mul_comm (Y k) (X (σ k))];omega
 rw[CR,CR (fun k=>X k*Y k),h2] at h3
 omega
end
theorem Pa {n:Nat} {P:Nat→Prop} (h0:0<n→P 0) (h: ∀k,k<n→P k→P (nxt n k)): ∀k,k<n→P k
 |0,hk=>h0 hk
 |k+1,hk=>by
  have:=h k (by omega) (Pa h0 h k (by omega))
  rw[show nxt n k=k+1 from Nat.mod_eq_of_lt hk] at this
  exact this
section
variable {n:Nat} {X Y:Nat→Int}
theorem Net.one (N:Net n (nxt n) X Y) (h0:0<n): ∃L:Int,(L=0∨L=1)∧(∀k,k<n→Lv n (nxt n) X Y k L)∧ ∀x y,Wn n (nxt n) X Y x y=0∨Wn n (nxt n) X Y x y=2*L-1:=by
 obtain⟨L,hL⟩:=N.lv_ex h0
 have all: ∀k,k<n→Lv n (nxt n) X Y k L:=Pa (fun _=>hL) fun k hk h=>N.lv_next hk h
 have hb: ∀m, ∃M:Int, ∀k,k<m→X k≤M:=fun m=>by
  induction m with
  |zero=>exact⟨0,fun k hk=>absurd hk (Nat.not_lt_zero _)⟩
  |succ m ih=>
   obtain⟨M,hM⟩:=ih
   refine⟨if M<X m then X m else M,fun k hk=> ?_⟩
   by_cases e:k=m
   ·subst e;split<;>omega
   ·have:=hM k (by omega);split<;>omega
 obtain⟨M,hM⟩:=hb n
 have cell: ∃x y,LC (nxt n) X Y 0 x y∧ ∃x' y',RC (nxt n) X Y 0 x' y':=by
  have:=N.side 0 h0
  unfold LC RC
  by_cases a:Y 0<Y (nxt n 0)
  ·exact⟨X 0-1,Y 0,by omega,X 0,Y 0,by omega⟩
  by_cases a2:Y (nxt n 0)<Y 0
  ·exact⟨X 0,Y (nxt n 0),by omega,X 0-1,Y (nxt n 0),by omega⟩
  by_cases a3:X 0<X (nxt n 0)
  ·exact⟨X 0,Y 0,by omega,X 0,Y 0-1,by omega⟩
  ·exact⟨X (nxt n 0),Y 0-1,by omega,X (nxt n 0),Y 0,by omega⟩
 obtain⟨x1,y1,c1,x2,y2,c2⟩:=cell
 have e1:=hL.1 _ _ c1
 have e2:=hL.2 _ _ c2
 have try1: ∀x y,Wn n (nxt n) X Y x y≠0→L=0∨L=1:=fun x y h=>by
  have hx:x<M:=Classical.byContradiction fun e=>h (GI (fun k hk=>by have:=hM k hk;omega) y)
  rcases N.first hM y (M-x).toNat with h1|⟨k,x',hk,h1,h2⟩
  ·exact absurd (h1 x (by omega)) h
  ·have z:=h1 x' (Int.le_refl _)
   rcases h2 with⟨_,h2⟩|⟨_,h2⟩
   ·have:=(all k hk).2 _ _ h2;omega
   ·have:=(all k hk).1 _ _ h2;omega
 have h01:L=0∨L=1:=by
  by_cases e:L=0
  ·exact .inl e
  ·exact try1 x1 y1 (by rw[e1];exact e)
 refine⟨L,h01,all,fun x y=> ?_⟩
 rcases N.values x y with h|⟨k,L',hk,h1,h2⟩
 ·exact .inl h
 ·have e:L'=L:=by
   have a:=all k hk
   have hc: ∃x y,LC (nxt n) X Y k x y:=by
    have:=N.side k hk
    unfold LC
    by_cases a:Y k<Y (nxt n k)
    ·exact⟨X k-1,Y k,by omega⟩
    by_cases a2:Y (nxt n k)<Y k
    ·exact⟨X k,Y (nxt n k),by omega⟩
    by_cases a3:X k<X (nxt n k)
    ·exact⟨X k,Y k,by omega⟩
    ·exact⟨X (nxt n k),Y k-1,by omega⟩
   obtain⟨x,y,hc⟩:=hc
   rw[←h1.1 _ _ hc,a.1 _ _ hc]
  omega
theorem Net.area_one (N:Net n (nxt n) X Y) (h0:0<n) {M:Nat} (hX: ∀k,k<n→0≤X k∧X k≤M) (hY: ∀k,k<n→0≤Y k∧Y k≤M) {L:Int} (h01:L=0∨L=1) (hL: ∀k,k<n→Lv n (nxt n) X Y k L) (hv: ∀x y,Wn n (nxt n) X Y x y=0∨Wn n (nxt n) X Y x y=2*L-1):
  0<(2*L-1)*AC (fun k=>X k*Y (nxt n k)-Y k*X (nxt n k)) n:=by
 rw[N.area hX hY]
 have hsome: ∃x y,Wn n (nxt n) X Y x y=2*L-1:=by
  have:=N.side 0 h0
  have h:=hL 0 h0
  have cell:(∃x y,LC (nxt n) X Y 0 x y)∧ ∃x' y',RC (nxt n) X Y 0 x' y':=by
   unfold LC RC
   by_cases a:Y 0<Y (nxt n 0)
   ·exact⟨⟨X 0-1,Y 0,by omega⟩,X 0,Y 0,by omega⟩
   by_cases a2:Y (nxt n 0)<Y 0
   ·exact⟨⟨X 0,Y (nxt n 0),by omega⟩,X 0-1,Y (nxt n 0),by omega⟩
   by_cases a3:X 0<X (nxt n 0)
   ·exact⟨⟨X 0,Y 0,by omega⟩,X 0,Y 0-1,by omega⟩
   ·exact⟨⟨X (nxt n 0),Y 0-1,by omega⟩,X (nxt n 0),Y 0,by omega⟩
  obtain⟨⟨x1,y1,c1⟩,x2,y2,c2⟩:=cell
  have e1:=h.1 _ _ c1
  have e2:=h.2 _ _ c2
  rcases h01 with e|e
  ·exact⟨x2,y2,by omega⟩
  ·exact⟨x1,y1,by omega⟩
 obtain⟨x,y,hxy⟩:=hsome
 obtain⟨⟨r1,r2⟩,r3,r4⟩:=N.range hX hY (x:=x) (y:=y) (by rw[hxy];omega)
 have sq: ∀x y,0≤(2*L-1)*Wn n (nxt n) X Y x y:=fun x y=>by
  rcases hv x y with h|h<;>rw[h]
  ·simp
  ·rcases h01 with e|e<;>subst e<;>decide
 have pos:0<(2*L-1)*Wn n (nxt n) X Y x y:=by
  rw[hxy]
  rcases h01 with e|e<;>subst e<;>decide
 have hp:0<AC (fun i=>AC (fun j=>(2*L-1)*Wn n (nxt n) X Y i j) M) M:=by
  refine J4 (j:=x.toNat) M (fun i _=>Gu M fun j _=>sq i j) (by omega) ?_
  refine J4 (j:=y.toNat) M (fun j _=>sq _ j) (by omega) ?_
  show 0<(2*L-1)*Wn n (nxt n) X Y (x.toNat:Nat) (y.toNat:Nat)
  rw[show((x.toNat:Nat):Int)=x by omega,show((y.toNat:Nat):Int)=y by omega]
  exact pos
 have e:AC (fun i:Nat=>AC (fun j:Nat=>(2*L-1)*Wn n (nxt n) X Y i j) M) M=(2*L-1)*AC (fun i:Nat=>AC (fun j:Nat=>Wn n (nxt n) X Y i j) M) M:=by
  rw[←EE]
  exact BE M fun i _=>EE _ _ M
 rw[e] at hp
 rcases h01 with e|e<;>subst e<;>omega
end
theorem Pr {rs:List (List Sd)} {m:Nat}: ∀k,k≤rs.length→m<tot (rs.take k)→ ∃r i,r<k∧i<(rg rs r).length∧m=tot (rs.take r)+i
 |0,_,h=>by simp[tot] at h
 |k+1,hk,h=>by
  rw[Bg (by omega)] at h
  by_cases e:m<tot (rs.take k)
  ·obtain⟨r,i,h1,h2,h3⟩:=Pr k (by omega) e
   exact⟨r,i,by omega,h2,h3⟩
  ·exact⟨k,m-tot (rs.take k),by omega,by omega,by omega⟩
theorem Vc {rs:List (List Sd)} {m:Nat} (h:m<tot rs): ∃r i,r<rs.length∧i<(rg rs r).length∧m=tot (rs.take r)+i:=Pr rs.length (Nat.le_refl _) (by rw[List.take_length];exact h)
theorem Gv {n k:Nat} (h:k<n):nxt n k=if k+1=n then 0 else k+1:=by
 unfold nxt
 split
 ·rename_i e;rw[e,Nat.mod_self]
 ·exact Nat.mod_eq_of_lt (by omega)
theorem UL {n k:Nat} (h:k<n):prv n k=if k=0 then n-1 else k-1:=by
 unfold prv
 split
 ·rename_i e;subst e;rw[Nat.zero_add];exact Nat.mod_eq_of_lt (by omega)
 ·rw[show k+n-1=k-1+n by omega,Nat.add_mod_right];exact Nat.mod_eq_of_lt (by omega)
theorem UB {n k:Nat} (h:k<n):prv n (nxt n k)=k:=by
 rw[UL (Dq h),Gv h];split<;>split<;>omega
theorem Sv {n r a b:Nat} (hb:b<a) (ha:a<n):nbB n (r,a) (r,b)=true↔(a=nxt n b∨b=nxt n a):=by
 unfold nbB
 rw[Gv ha,Gv (show b<n by omega)]
 simp only[beq_self_eq_true,Bool.true_and,Bool.or_eq_true,beq_iff_eq]
 split<;>split<;>omega
def near (rs:List (List Sd)) (r i s k:Nat):Prop:=r=s∧(i=k∨i=nxt (rg rs r).length k∨k=nxt (rg rs r).length i)
theorem N5 (rs:List (List Sd)):crs rs=false↔ ∀r i s k,r<rs.length→i<(rg rs r).length→s<rs.length→k<(rg rs s).length→ ¬near rs r i s k→DS (bsd rs (r,i)) (esd rs (r,i)) (bsd rs (s,k)) (esd rs (s,k))=false:=by
 constructor
 ·intro h r i s k hr hi hs hk hn
  by_cases e:r=s
  rotate_left
  ·exact RU h hr hi hs hk e
  subst e
  have one: ∀ {a b:Nat},a<(rg rs r).length→b<a→ ¬(a=nxt (rg rs r).length b∨b=nxt (rg rs r).length a)→DS (bsd rs (r,a)) (esd rs (r,a)) (bsd rs (r,b)) (esd rs (r,b))=false:=by
   intro a b ha hb hab
   have hj:=Qx hr ha
   have h2:C7 rs (pl rs (tot (rs.take r)+a)) (pl rs (tot (rs.take r)+b))=false:=by
    cases he:C7 rs (pl rs (tot (rs.take r)+a)) (pl rs (tot (rs.take r)+b)) with
    |false=>rfl
    |true=>
     have:crs rs=true:=List.any_eq_true.2 ⟨_,List.mem_range.2 hj,List.any_eq_true.2 ⟨_,List.mem_range.2 (by omega),he⟩⟩
     rw[h] at this;cases this
   rw[HE hr ha,HE hr (by omega)] at h2
   unfold C7 at h2
   have h3:nbB (rg rs r).length (r,a) (r,b)=false:=Bool.eq_false_iff.2 fun e=>hab ((Sv hb ha).1 e)
   rw[h3] at h2
   simpa using h2
  rcases Nat.lt_trichotomy i k with hlt|heq|hgt
  ·rw[Jj]
   exact one hk hlt fun h=>hn ⟨I,by omega⟩
  ·exact absurd ⟨I, .inl heq⟩ hn
  ·exact one hi hgt fun h=>hn ⟨I,by omega⟩
 ·intro h
  unfold crs
  refine Dm fun m hm=>Dm fun j hj=> ?_
  obtain⟨r,i,hr,hi,rfl⟩:=Vc hm
  obtain⟨s,k,hs,hk,rfl⟩:=Vc (show j<tot rs by omega)
  rw[HE hr hi,HE hs hk]
  unfold C7
  cases hb:nbB (rg rs r).length (r,i) (s,k) with
  |true=>rfl
  |false=>
   simp only[Bool.not_false,Bool.true_and]
   refine h r i s k hr hi hs hk fun hn=> ?_
   obtain⟨rfl,hn⟩:=hn
   have hik:k<i:=by omega
   have:=(Sv (r:=r) hik hi).2 (by omega)
   rw[hb] at this;cases this
theorem UU {t u t' u':Sd} {px py:Int} (h:DS t u t' u'=false) (h1:(t.x≤px∨u.x≤px)∧(px≤t.x∨px≤u.x)∧(t.y≤py∨u.y≤py)∧(py≤t.y∨py≤u.y))
  (h2:(t'.x≤px∨u'.x≤px)∧(px≤t'.x∨px≤u'.x)∧(t'.y≤py∨u'.y≤py)∧(py≤t'.y∨py≤u'.y)):False:=by
 have e:DS t u t' u'=true:=by
  unfold DS lox hix loy hiy
  simp only[Bool.and_eq_true,decide_eq_true_eq]
  refine⟨⟨⟨?_, ?_⟩, ?_⟩, ?_⟩<;>split<;>split<;>omega
 rw[h] at e;cases e
theorem T8 {rs:List (List Sd)} (hin:RX rs) (hs: ∀l∈rs,shp l=true) (hc:crs rs=false) {r:Nat} (hr:r<rs.length):Net (rg rs r).length (nxt (rg rs r).length) (fun k=>(sd (rg rs r) k).x) (fun k=>(sd (rg rs r) k).y):=by
 have hm:rg rs r∈rs:=List.mem_of_getElem? (Bf hr)
 refine⟨fun k hk=>Dq hk,fun f=>RL f _,fun k hk=> ?_,fun k hk=> ?_,fun j k hj hk px py h1 h2=> ?_⟩
 ·have:=(Ew (hin _ hm) (hs _ hm) hk).1
  omega
 ·have h1:=(Ew (hin _ hm) (hs _ hm) hk).1
  have h2:=(Ew (hin _ hm) (hs _ hm) (Dq hk))
  rw[UB hk] at h2
  omega
 ·refine Classical.byContradiction fun hn=> ?_
  have h:=(N5 rs).1 hc r j r k hr hj hr hk fun h=>hn (by obtain⟨_,h⟩:=h;omega)
  exact UU h h1 h2
theorem Tn {rs:List (List Sd)} (hin:RX rs) (hs: ∀l∈rs,shp l=true) (hc:crs rs=false) {r:Nat} (hr:r<rs.length):
  ∃L:Int,(L=0∨L=1)∧(∀k,k<(rg rs r).length→Lv (rg rs r).length (nxt (rg rs r).length) (fun k=>(sd (rg rs r) k).x) (fun k=>(sd (rg rs r) k).y) k L)∧
   (∀x y,Wn (rg rs r).length (nxt (rg rs r).length) (fun k=>(sd (rg rs r) k).x) (fun k=>(sd (rg rs r) k).y) x y=0∨Wn (rg rs r).length (nxt (rg rs r).length) (fun k=>(sd (rg rs r) k).x) (fun k=>(sd (rg rs r) k).y) x y=2*L-1)∧
   0<(2*L-1)*AC (Ee (rg rs r)) (rg rs r).length:=by
 have hm:rg rs r∈rs:=List.mem_of_getElem? (Bf hr)
 have N:=T8 hin hs hc hr
 have h4:=Ra (hs _ hm)
 obtain⟨L,h01,hL,hv⟩:=N.one (by omega)
 refine⟨L,h01,hL,hv, ?_⟩
 have hi: ∀k,k<(rg rs r).length→inR (sd (rg rs r) k):=fun k hk=>C8 (hin _ hm) hk
 exact N.area_one (M:=65536) (by omega) (fun k hk=>⟨(hi k hk).1,(hi k hk).2.1⟩) (fun k hk=>⟨(hi k hk).2.2.1,(hi k hk).2.2.2⟩) h01 hL hv
theorem Ub {rs:List (List Sd)} (hin:RX rs) (hs: ∀l∈rs,shp l=true) (hc:crs rs=false) {r:Nat} (hr:r<rs.length):AC (Ee (rg rs r)) (rg rs r).length≠0:=by
 obtain⟨L,_,_,_,h⟩:=Tn hin hs hc hr
 intro e
 rw[e,Int.mul_zero] at h
 exact absurd h (by decide)
end
section
open Go Go.RowKit Go.Am
set_option maxRecDepth 10000
-- BOXES 2
def Iw (rs:List (List Sd)) (r i s k:Nat):Bool:=
 !((r==s)&&(decide (k≤i)||(k==i+1)||((i==0)&&(k+1==(rg rs r).length))))&&DS (sd (rg rs r) i) (sd (rg rs r) (nxt (rg rs r).length i)) (sd (rg rs s) k) (sd (rg rs s) (nxt (rg rs s).length k))
theorem Le {rs:List (List Sd)} {r i s k:Nat} (hr:r<rs.length) (hi:i<(rg rs r).length) (hs:s<rs.length) (hk:k<(rg rs s).length) (h:Iw rs r i s k=true):crs rs=true:=by
 unfold Iw at h
 obtain⟨h1,h2⟩:=Bool.and_eq_true_iff.1 h
 cases hc:crs rs with
 |true=>rfl
 |false=>
  have:=(N5 rs).1 hc r i s k hr hi hs hk (fun hn=>by
   obtain⟨rfl,hn⟩:=hn
   rw[Gv hi,Gv hk] at hn
   have:((r==r)&&(decide (k≤i)||(k==i+1)||((i==0)&&(k+1==(rg rs r).length))))=true:=by
    simp only[beq_self_eq_true,Bool.true_and,Bool.or_eq_true,Bool.and_eq_true,decide_eq_true_eq,beq_iff_eq]
    revert hn
    split<;>split<;>intro hn<;>omega
   rw[this] at h1;cases h1)
  rw[show DS (bsd rs (r,i)) (esd rs (r,i)) (bsd rs (s,k)) (esd rs (s,k))=true from h2] at this
  cases this
theorem RY {rs:List (List Sd)} (h: ∀r i s k,r<rs.length→i<(rg rs r).length→s<rs.length→k<(rg rs s).length→r≤s→Iw rs r i s k=false):crs rs=false:=by
 have one: ∀r i s k,r<rs.length→i<(rg rs r).length→s<rs.length→k<(rg rs s).length→(r<s∨(r=s∧i<k))→ ¬near rs r i s k→DS (bsd rs (r,i)) (esd rs (r,i)) (bsd rs (s,k)) (esd rs (s,k))=false:=fun r i s k hr hi hs hk ho hn=>by
  have hb:=h r i s k hr hi hs hk (by omega)
  unfold Iw at hb
  have:((r==s)&&(decide (k≤i)||(k==i+1)||((i==0)&&(k+1==(rg rs r).length))))=false:=by
   by_cases e:r=s
   ·subst e
    have hik:i<k:=by omega
    rw[beq_self_eq_true,Bool.true_and,Bool.eq_false_iff]
    intro h2
    refine hn ⟨I, ?_⟩
    rw[Gv hi,Gv hk]
    simp only[Bool.or_eq_true,Bool.and_eq_true,decide_eq_true_eq,beq_iff_eq] at h2
    split<;>split<;>omega
   ·rw[beq_eq_false_iff_ne.2 e];rfl
  rw[this,Bool.not_false,Bool.true_and] at hb
  exact hb
 refine(N5 rs).2 fun r i s k hr hi hs hk hn=> ?_
 by_cases ho:r<s∨(r=s∧i<k)
 ·exact one r i s k hr hi hs hk ho hn
 ·rw[Jj]
  have hne: ¬(r=s∧i=k):=fun⟨e1,e2⟩=>hn ⟨e1, .inl e2⟩
  refine one s k r i hs hk hr hi (by omega) fun hn2=>hn ?_
  obtain⟨rfl,hn2⟩:=hn2
  exact⟨I,by omega⟩
theorem LZ (W:World) (p:Option Addr) (cap:Nat) (rs:List (List Sd)) (hn:rs.length<4611686018427387904) (hl: ∀l∈rs,l.length<4611686018427387904) (hR:Bv W p rs):
  Ae Tryz.prog 105 #[slv p rs.length cap] W (fun _:Unit=> .bool (crs rs)) (fun _=>True) (fun _=>[]):=by
 refine Ab (args:=[slv p rs.length cap]) Tryz.func105 I I I ?_
 refine zA (zB (wP I (Aa (zE (zA (zA (zB (wP I (Aa (zE (zH ?_)))))))))))
 refine Ar (X:=Nat) (fun r=>[(0,slv p rs.length cap),(3, .int .i64 (r:Nat))]) (fun _=>[])
  (fun r=>r≤rs.length∧ ∀r' i s k,r'<r→r'<rs.length→i<(rg rs r').length→s<rs.length→k<(rg rs s).length→r'≤s→Iw rs r' i s k=false) (fun r=>rs.length-r) 0 ⟨Nat.zero_le _,fun r' i s k h=>absurd h (Nat.not_lt_zero _)⟩ ⟨rfl,rfl,trivial⟩ [] rfl ?_
 rintro r ⟨hr,P1⟩
 refine zA (zA (zB (wP I (wP I (wP I (wP I (Aa (zE ?_))))))))
 refine Af I (fun h=> ?_) (fun h=> ?_)
 rotate_left
 ·have e:r=rs.length:=by simp at h;omega
  subst e
  refine zJ (zK (zK (zL (zE (zA (zB (wP I (Aa (zE (zO ?_))))))))))
  have hc:crs rs=false:=RY fun r' i s k h1 h2 h3 h4 h5=>P1 r' i s k h1 h1 h2 h3 h4 h5
  exact wR1 I I (by rw[hc])
 have hr:r<rs.length:=by simp at h;omega
 clear h
 obtain⟨b,off,rfl,hrow⟩:=hR.row hr
 obtain⟨q,cap2,hq1,hq2⟩:=hrow r hr
 have hlr:=hl _ (List.mem_of_getElem? (Bf hr))
 refine zI (zE (zA (zH (zA (zB (wP I (Aa (zE (zH ?_)))))))))
 refine Ar (X:=Nat) (fun i=>[(0,slv (some ⟨b,off,none⟩) rs.length cap),(3, .int .i64 (r:Nat)),(4, .int .i64 (i:Nat))]) (fun _=>[])
  (fun i=>i≤(rg rs r).length∧ ∀i' s k,i'<i→i'<(rg rs r).length→s<rs.length→k<(rg rs s).length→r≤s→Iw rs r i' s k=false) (fun i=>(rg rs r).length-i) 0 ⟨Nat.zero_le _,fun i' s k h=>absurd h (Nat.not_lt_zero _)⟩ ⟨rfl,rfl,rfl,trivial⟩ [] rfl ?_
 rintro i ⟨hi,P2⟩
 refine zA (zA (zB (wP I (wP I (wP I ?_)))))
 refine wJ ?_
 refine wL 0 I I (fun W hp=>hq1.hp hp) I (wP I (wP I (Aa (zE ?_))))
 refine Af I (fun h=> ?_) (fun h=> ?_)
 rotate_left
 ·have e:i=(rg rs r).length:=by simp at h;omega
  subst e
  refine zJ (zK (zK (zL (zN (zE (zB (wP I (wP I (wP I (Aa ?_))))))))))
  refine Ak (r+1) ⟨hr,fun r' i' s k h0 h1 h2 h3 h4 h5=> ?_⟩ (by omega) ⟨I,congrArg (fun z=>some (Value.int .i64 z)) (AA (x:=(r:Int)+1) (by omega) (by omega)),O⟩ [] I
  by_cases e:r'=r
  ·subst e;exact P2 i' s k h2 h2 h3 h4 h5
  ·exact P1 r' i' s k (by omega) h1 h2 h3 h4 h5
 have hi:i<(rg rs r).length:=by simp at h;omega
 clear h
 refine zI (zE (zA (zH (zA (zB (wP I (wP I (Aa (zE (zH ?_))))))))))
 refine Ar (X:=Nat) (fun s=>[(0,slv (some ⟨b,off,none⟩) rs.length cap),(3, .int .i64 (r:Nat)),(4, .int .i64 (i:Nat)),(5, .int .i64 (s:Nat))]) (fun _=>[])
  (fun s=>s≤rs.length∧r≤s∧ ∀s' k,s'<s→s'<rs.length→k<(rg rs s').length→r≤s'→Iw rs r i s' k=false) (fun s=>rs.length-s) r ⟨by omega,Nat.le_refl _,fun s' k h0 _ _ h5=>absurd h0 (by omega)⟩ ⟨rfl,rfl,rfl,rfl,trivial⟩ [] rfl ?_
 rintro s ⟨hs,hrs,P3⟩
 refine zA (zA (zB (wP I (wP I (wP I (wP I (Aa (zE ?_))))))))
 refine Af I (fun h=> ?_) (fun h=> ?_)
 rotate_left
 ·have e:s=rs.length:=by simp at h;omega
  subst e
  refine zJ (zK (zK (zL (zN (zE (zB (wP I (wP I (wP I (Aa ?_))))))))))
  refine Ak (i+1) ⟨hi,fun i' s k h0 h2 h3 h4 h5=> ?_⟩ (by omega) ⟨I,I,congrArg (fun z=>some (Value.int .i64 z)) (AA (x:=(i:Int)+1) (by omega) (by omega)),O⟩ [] I
  by_cases e:i'=i
  ·subst e;exact P3 s k h3 h3 h4 h5
  ·exact P2 i' s k (by omega) h2 h3 h4 h5
 have hs:s<rs.length:=by simp at h;omega
 clear h
 obtain⟨q',cap3,hq3,hq4⟩:=hrow s hs
 have hls:=hl _ (List.mem_of_getElem? (Bf hs))
 refine zI (zE (zA (zH (zA (zB (wP I (Aa (zE (zH ?_)))))))))
 refine Ar (X:=Nat) (fun k=>[(0,slv (some ⟨b,off,none⟩) rs.length cap),(3, .int .i64 (r:Nat)),(4, .int .i64 (i:Nat)),(5, .int .i64 (s:Nat)),(6, .int .i64 (k:Nat))]) (fun _=>[])
  (fun k=>k≤(rg rs s).length∧ ∀k',k'<k→Iw rs r i s k'=false) (fun k=>(rg rs s).length-k) 0 ⟨Nat.zero_le _,fun k' h=>absurd h (Nat.not_lt_zero _)⟩ ⟨rfl,rfl,rfl,rfl,rfl,trivial⟩ [] rfl ?_
 rintro k ⟨hk,P4⟩
 refine zA (zA (zB (wP I (wP I (wP I ?_)))))
 refine wJ ?_
 refine wL 0 I I (fun W hp=>hq3.hp hp) I (wP I (wP I (Aa (zE ?_))))
 refine Af I (fun h=> ?_) (fun h=> ?_)
 rotate_left
 ·have e:k=(rg rs s).length:=by simp at h;omega
  subst e
  refine zJ (zK (zK (zL (zN (zE (zB (wP I (wP I (wP I (Aa ?_))))))))))
  refine Ak (s+1) ⟨hs,by omega,fun s' k h0 h3 h4 h5=> ?_⟩ (by omega) ⟨I,I,I,congrArg (fun z=>some (Value.int .i64 z)) (AA (x:=(s:Int)+1) (by omega) (by omega)),O⟩ [] I
  by_cases e:s'=s
  ·subst e;exact P4 k h4
  ·exact P3 s' k (by omega) h3 h4 h5
 have hk:k<(rg rs s).length:=by simp at h;omega
 clear h
 have fin:Iw rs r i s k=false→ ∀k',k'<k+1→Iw rs r i s k'=false:=fun h k' hk'=>by
  by_cases e:k'=k
  ·subst e;exact h
  ·exact P4 k' (by omega)
 have e1: ∀z:Int,z=(k:Int)+1→w64 z=((k+1:Nat):Int):=fun z h=>by rw[h,Ai (by omega) (by omega)];omega
 -- the side is left out
 have skip:((r==s)&&(decide (k≤i)||(k==i+1)||((i==0)&&(k+1==(rg rs r).length))))=true→Iw rs r i s k=false:=fun h=>by unfold Iw;rw[h];rfl
 have test:((r==s)&&(decide (k≤i)||(k==i+1)||((i==0)&&(k+1==(rg rs r).length))))=false→Iw rs r i s k=DS (sd (rg rs r) i) (sd (rg rs r) (nxt (rg rs r).length i)) (sd (rg rs s) k) (sd (rg rs s) (nxt (rg rs s).length k)):=fun h=>by unfold Iw;rw[h];rfl
 obtain⟨C1,c1⟩: ∃b,((r:Int)==(s:Int))=b:=⟨_,rfl⟩
 obtain⟨C2,c2⟩: ∃b,decide ((k:Int)≤(i:Int))=b:=⟨_,rfl⟩
 obtain⟨C3,c3⟩: ∃b,((k:Int)==w64 ((i:Int)+1))=b:=⟨_,rfl⟩
 obtain⟨C4,c4⟩: ∃b,((i:Int)==0)=b:=⟨_,rfl⟩
 obtain⟨C5,c5⟩: ∃b,((k:Int)==w64 (((rg rs r).length:Nat)-1))=b:=⟨_,rfl⟩
 have hC:((r==s)&&(decide (k≤i)||(k==i+1)||((i==0)&&(k+1==(rg rs r).length))))=(C1&&(C2||C3||(C4&&C5))):=by
  rw[Ai (by omega) (by omega)] at c3 c5
  rw[←c1, ←c2, ←c3, ←c4, ←c5,Cj]
  have a2:decide (k≤i)=decide ((k:Int)≤(i:Int)):=by by_cases h:k≤i;rw[dT h,dT (by omega)];rw[dF h,dF (by omega)]
  have a3:(k==i+1)=((k:Int)==(i:Int)+1):=by rw[Bool.eq_iff_iff,beq_iff_eq,beq_iff_eq];omega
  have a4:(i==0)=((i:Int)==0):=by rw[Bool.eq_iff_iff,beq_iff_eq,beq_iff_eq];omega
  have a5:(k+1==(rg rs r).length)=((k:Int)==((rg rs r).length:Nat)-1):=by rw[Bool.eq_iff_iff,beq_iff_eq,beq_iff_eq];omega
  rw[a2,a3,a4,a5]
 refine zI (zE (zA (zH (zA (zB (wP I (wP I ?_)))))))
 refine wJ ?_
 refine wL 0 I I (fun W hp=>hq1.hp hp) I (wP I (wP I (Aa (zE (zA (zA (zB (wP I (wP I (wP I (wP I ?_)))))))))))
 refine A6 47 I (fun h47=> ?_) (fun h47=> ?_)
 ·refine wP I (wP I (wP I (wP I ?_)))
  refine A6 51 I (fun h51=> ?_) (fun h51=> ?_)
  ·refine Ad I I ?_
   iterate 3 refine Ad I I ?_
   refine wP I (wP I ?_)
   iterate 8 refine Ad I I ?_
   refine wP I (wP I (Aa ?_))
   have e:(C1&&(C2||C3||(C4&&C5)))=true:=by first|(rw[show C1=true from c1.symm.trans h47,show C2=true from c2.symm.trans h51];rfl)|(rw[show C1=true from c1.symm.trans h47,show C3=true from c3.symm.trans h57];cases C2<;>rfl)
   exact zE (zR I (zJ (zK (zL (zE (zB (wP I (wP I (wP I (Aa (Ak (k+1) ⟨hk,fin (skip (hC.trans e))⟩ (by omega) ⟨I,I,I,I,congrArg (fun z=>some (Value.int .i64 z)) (AA (x:=(k:Int)+1) (by omega) (by omega)),O⟩ [] I)))))))))))
  ·refine wP I ?_
   iterate 5 refine wP I ?_
   refine A6 57 I (fun h57=> ?_) (fun h57=> ?_)
   ·refine Ad I I ?_
    iterate 7 refine Ad I I ?_
    refine wP I (wP I (Aa ?_))
    have e:(C1&&(C2||C3||(C4&&C5)))=true:=by first|(rw[show C1=true from c1.symm.trans h47,show C2=true from c2.symm.trans h51];rfl)|(rw[show C1=true from c1.symm.trans h47,show C3=true from c3.symm.trans h57];cases C2<;>rfl)
    exact zE (zR I (zJ (zK (zL (zE (zB (wP I (wP I (wP I (Aa (Ak (k+1) ⟨hk,fin (skip (hC.trans e))⟩ (by omega) ⟨I,I,I,I,congrArg (fun z=>some (Value.int .i64 z)) (AA (x:=(k:Int)+1) (by omega) (by omega)),O⟩ [] I)))))))))))
   ·refine wP I (wP I (wP I ?_))
    refine A6 60 I (fun h60=> ?_) (fun h60=> ?_)
    ·refine wP I ?_
     iterate 6 refine wP I ?_
     refine Aa (zE ?_)
     refine Af I (fun hx=> ?_) (fun hx=> ?_)
     ·have e:(C1&&(C2||C3||(C4&&C5)))=true:=by first|(rw[show C1=true from c1.symm.trans h47,show C3=true from c3.symm.trans h57];cases C2<;>rfl)|(rw[show C1=true from c1.symm.trans h47,show C4=true from c4.symm.trans h60,show C5=true from c5.symm.trans hx];cases C2<;>cases C3<;>rfl)|(rw[show C1=true from c1.symm.trans h47,show C3=true from c3.symm.trans hx];cases C2<;>rfl)
      exact zJ (zK (zL (zE (zB (wP I (wP I (wP I (Aa (Ak (k+1) ⟨hk,fin (skip (hC.trans e))⟩ (by omega) ⟨I,I,I,I,congrArg (fun z=>some (Value.int .i64 z)) (AA (x:=(k:Int)+1) (by omega) (by omega)),O⟩ [] I)))))))))
     ·have e:(C1&&(C2||C3||(C4&&C5)))=false:=by first|(rw[show C2=false from c2.symm.trans h51,show C3=false from c3.symm.trans h57,show C5=false from c5.symm.trans hx,Bool.and_false];cases C1<;>rfl)
      refine zI (zE (zA (zU (qP I (qP I ?_)))))
      refine qJ ?_
      refine qL 0 I I (fun W hp=>hq1.hp hp) I (qP I (qP I (qP I ?_)))
      refine qJ ?_
      refine qL 0 I I (fun W hp=>hq3.hp hp) I (qP I (qC I I (fun W hp=>GJ W q q' cap2 cap3 (rg rs r) (rg rs s) i k hlr hls (hq2.hp hp) (hq4.hp hp) hi hk) (A0 (Aa (zE ?_)))))
      refine Af I (fun h=> ?_) (fun h=> ?_)
      ·refine zA (zB (wP I (Aa (zE (zO (zQ (zP (zP (zQ (zQ (zP (zP (zQ (zQ ?_))))))))))))))
       refine zP (zP (zQ (zQ (zP (zP (zQ (zP ?_)))))))
       have hc:crs rs=true:=Le hr hi hs hk ((test (hC.trans e)).trans h)
       exact wR1 I I (by rw[hc])
      ·exact zI (zN (zE (zB (wP I (wP I (wP I (Aa (Ak (k+1) ⟨hk,fin ((test (hC.trans e)).trans h)⟩ (by omega) ⟨I,I,I,I,congrArg (fun z=>some (Value.int .i64 z)) (AA (x:=(k:Int)+1) (by omega) (by omega)),O⟩ [] I))))))))
    ·refine Ad I I ?_
     iterate 3 refine Ad I I ?_
     refine wP I (wP I (wP I (Aa ?_)))
     have e:(C1&&(C2||C3||(C4&&C5)))=false:=by first|(rw[show C1=false from c1.symm.trans h47];rfl)|(rw[show C2=false from c2.symm.trans h51,show C3=false from c3.symm.trans h57,show C4=false from c4.symm.trans h60,Bool.false_and];cases C1<;>rfl)
     refine zE (zS I (zI (zE (zA (zU (qP I (qP I ?_)))))))
     refine qJ ?_
     refine qL 0 I I (fun W hp=>hq1.hp hp) I (qP I (qP I (qP I ?_)))
     refine qJ ?_
     refine qL 0 I I (fun W hp=>hq3.hp hp) I (qP I (qC I I (fun W hp=>GJ W q q' cap2 cap3 (rg rs r) (rg rs s) i k hlr hls (hq2.hp hp) (hq4.hp hp) hi hk) (A0 (Aa (zE ?_)))))
     refine Af I (fun h=> ?_) (fun h=> ?_)
     ·refine zA (zB (wP I (Aa (zE (zO (zQ (zP (zP (zQ (zQ (zP (zP (zQ (zQ ?_))))))))))))))
      refine zP (zP (zQ (zQ (zP (zP (zQ (zP ?_)))))))
      have hc:crs rs=true:=Le hr hi hs hk ((test (hC.trans e)).trans h)
      exact wR1 I I (by rw[hc])
     ·exact zI (zN (zE (zB (wP I (wP I (wP I (Aa (Ak (k+1) ⟨hk,fin ((test (hC.trans e)).trans h)⟩ (by omega) ⟨I,I,I,I,congrArg (fun z=>some (Value.int .i64 z)) (AA (x:=(k:Int)+1) (by omega) (by omega)),O⟩ [] I))))))))
 ·refine Ad I I ?_
  iterate 18 refine Ad I I ?_
  refine wP I (Aa ?_)
  have e:(C1&&(C2||C3||(C4&&C5)))=false:=by first|(rw[show C1=false from c1.symm.trans h47];rfl)|(rw[show C2=false from c2.symm.trans h51,show C3=false from c3.symm.trans h57,show C4=false from c4.symm.trans h60,Bool.false_and];cases C1<;>rfl)
  refine zE (zS I (zI (zE (zA (zU (qP I (qP I ?_)))))))
  refine qJ ?_
  refine qL 0 I I (fun W hp=>hq1.hp hp) I (qP I (qP I (qP I ?_)))
  refine qJ ?_
  refine qL 0 I I (fun W hp=>hq3.hp hp) I (qP I (qC I I (fun W hp=>GJ W q q' cap2 cap3 (rg rs r) (rg rs s) i k hlr hls (hq2.hp hp) (hq4.hp hp) hi hk) (A0 (Aa (zE ?_)))))
  refine Af I (fun h=> ?_) (fun h=> ?_)
  ·refine zA (zB (wP I (Aa (zE (zO (zQ (zP (zP (zQ (zQ (zP (zP (zQ (zQ ?_))))))))))))))
   refine zP (zP (zQ (zQ (zP (zP (zQ (zP ?_)))))))
   have hc:crs rs=true:=Le hr hi hs hk ((test (hC.trans e)).trans h)
   exact wR1 I I (by rw[hc])
  ·exact zI (zN (zE (zB (wP I (wP I (wP I (Aa (Ak (k+1) ⟨hk,fin ((test (hC.trans e)).trans h)⟩ (by omega) ⟨I,I,I,I,congrArg (fun z=>some (Value.int .i64 z)) (AA (x:=(k:Int)+1) (by omega) (by omega)),O⟩ [] I))))))))
-- BOXES 2
def Mo (rs:List (List Sd)) (r s:Nat):Bool:=(s==r)||(FL (rg rs s) (sd (rg rs r) 0).x (sd (rg rs r) 0).y (rg rs s).length==(s==0))
def Qw (rs:List (List Sd)) (r:Nat):Bool:=(r==0)||(!decide (twR (rg rs r) (rg rs r).length≥0)&&(List.range rs.length).all (Mo rs r))
def GA (rs:List (List Sd)):Bool:= !decide (twR (rg rs 0) (rg rs 0).length≤0)&&(List.range rs.length).all (Qw rs)
theorem Ml (W:World) (p:Option Addr) (cap:Nat) (rs:List (List Sd)) (hn:rs.length<4611686018427387904) (hl: ∀l∈rs,l.length<4611686018427387904) (hne: ∀l∈rs,l≠[]) (h0:0<rs.length) (hR:Bv W p rs):
  Ae Tryz.prog 106 #[slv p rs.length cap] W (fun _:Unit=> .bool (GA rs)) (fun _=>True) (fun _=>[]):=by
 obtain⟨b,off,rfl,hrow⟩:=hR.row h0
 obtain⟨q0,cap0,hq1,hq2⟩:=hrow 0 h0
 refine Ab (args:=[slv (some ⟨b,off,none⟩) rs.length cap]) Tryz.func106 I I I ?_
 refine zA (zB (wP I (Aa (zE (zA (zA (zB (wP I ?_))))))))
 refine wJ ?_
 refine wL 0 I I (fun W hp=>hq1.hp hp) I (wC I I (fun W hp=>JP W q0 cap0 (rg rs 0) (hl _ (List.mem_of_getElem? (Bf h0))) (hq2.hp hp)) (wP I (Aa (zE ?_))))
 refine Af I (fun h=> ?_) (fun h=> ?_)
 ·refine zA (zB (wP I (Aa (zE (zO (zP ?_))))))
  have hf:GA rs=false:=by unfold GA;rw[show decide (twR (rg rs 0) (rg rs 0).length≤0)=true from h];rfl
  exact wR1 I I (by rw[hf])
 have hA:decide (twR (rg rs 0) (rg rs 0).length≤0)=false:=h
 clear h
 refine zI (zE (zA (zA (zB (wP I (Aa (zE (zH ?_))))))))
 refine Ar (X:=Nat) (fun r=>[(0,slv (some ⟨b,off,none⟩) rs.length cap),(3, .int .i64 (r:Nat))]) (fun _=>[]) (fun r=>1≤r∧r≤rs.length∧ ∀j,j<r→Qw rs j=true) (fun r=>rs.length-r) 1
  ⟨Nat.le_refl _,h0,fun j hj=>by rw[show j=0 by omega];rfl⟩ ⟨rfl,rfl,trivial⟩ [] rfl ?_
 rintro r ⟨hr1,hr,hok⟩
 refine zA (zA (zB (wP I (wP I (wP I (wP I (Aa (zE ?_))))))))
 refine Af I (fun h=> ?_) (fun h=> ?_)
 rotate_left
 ·have e:r=rs.length:=by simp at h;omega
  subst e
  refine zJ (zK (zK (zL (zE (zA (zB (wP I (Aa (zE (zO ?_))))))))))
  have ht:GA rs=true:=by unfold GA;rw[hA,List.all_eq_true.2 fun j hj=>hok j (List.mem_range.1 hj)];rfl
  exact wR1 I I (by rw[ht])
 have hr:r<rs.length:=by simp at h;omega
 clear h
 obtain⟨q,cap2,hq3,hq4⟩:=hrow r hr
 have hlr:=hl _ (List.mem_of_getElem? (Bf hr))
 have hner:0<(rg rs r).length:=List.length_pos_iff.2 (hne _ (List.mem_of_getElem? (Bf hr)))
 have hr0:(r==0)=false:=beq_eq_false_iff_ne.2 (by omega)
 refine zI (zE (zA (zH (zA (zA (zB (wP I (wP I ?_))))))))
 refine wJ ?_
 refine wL 0 I I (fun W hp=>hq3.hp hp) I (wC I I (fun W hp=>JP W q cap2 (rg rs r) hlr (hq4.hp hp)) (wP I (Aa (zE ?_))))
 refine Af I (fun h=> ?_) (fun h=> ?_)
 ·refine zA (zB (wP I (Aa (zE (zO (zP (zQ (zP (zP (zQ (zP ?_)))))))))))
  have hf:GA rs=false:=by unfold GA;rw[B5 hr (by unfold Qw;rw[hr0,show decide (twR (rg rs r) (rg rs r).length≥0)=true from h];rfl),Bool.and_false]
  exact wR1 I I (by rw[hf])
 have hB:decide (twR (rg rs r) (rg rs r).length≥0)=false:=h
 clear h
 refine zI (zE (zA (zB (wP I (Aa (zE (zH ?_)))))))
 refine Ar (X:=Nat) (fun s=>[(0,slv (some ⟨b,off,none⟩) rs.length cap),(3, .int .i64 (r:Nat)),(4, .int .i64 (s:Nat))]) (fun _=>[]) (fun s=>s≤rs.length∧ ∀j,j<s→Mo rs r j=true) (fun s=>rs.length-s) 0
  ⟨Nat.zero_le _,fun j hj=>absurd hj (Nat.not_lt_zero _)⟩ ⟨rfl,rfl,rfl,trivial⟩ [] rfl ?_
 rintro s ⟨hs,hoks⟩
 refine zA (zA (zB (wP I (wP I (wP I (wP I (Aa (zE ?_))))))))
 refine Af I (fun h=> ?_) (fun h=> ?_)
 rotate_left
 ·have e:s=rs.length:=by simp at h;omega
  subst e
  refine zJ (zK (zK (zL (zN (zE (zB (wP I (wP I (wP I (Aa ?_))))))))))
  refine Ak (r+1) ⟨by omega,hr,fun j hj=> ?_⟩ (by omega) ⟨I,congrArg (fun z=>some (Value.int .i64 z)) (AA (x:=(r:Int)+1) (by omega) (by omega)),O⟩ [] I
  by_cases e:j=r
  ·subst e
   unfold Qw
   rw[hB,List.all_eq_true.2 fun m hm=>hoks m (List.mem_range.1 hm),hr0];rfl
  ·exact hok j (by omega)
 have hs:s<rs.length:=by simp at h;omega
 clear h
 obtain⟨q',cap3,hq5,hq6⟩:=hrow s hs
 have hls:=hl _ (List.mem_of_getElem? (Bf hs))
 have next:Mo rs r s=true→ ∀j,j<s+1→Mo rs r j=true:=fun h j hj=>by
  by_cases e:j=s
  ·subst e;exact h
  ·exact hoks j (by omega)
 obtain⟨b3,off3,rfl,hrow3⟩:=hq4.row hner
 refine zI (zE (zA (zH (zA (zU (qP I (qP I (qP I (qP I ?_)))))))))
 refine Gz 31 I (fun h31=> ?_) (fun h31=> ?_)
 ·refine qP I (qP I ?_)
  refine qJ ?_
  refine qL 0 I I (fun W hp=>hq5.hp hp) I (qP I (qP I ?_))
  refine qJ ?_
  refine qL 0 I I (fun W hp=>hq3.hp hp) I ?_
  refine qJ ?_
  refine qP I (qL 0 I I (fun W hp=>(hrow3 0 hner).hp hp) I (qP I (qP I ?_)))
  refine qJ ?_
  refine qL 0 I I (fun W hp=>hq3.hp hp) I ?_
  refine qJ ?_
  refine qP I (qL 1 I I (fun W hp=>(hrow3 0 hner).hp hp) I (qC I I (fun W hp=>Mk W q' cap3 (rg rs s) _ _ hls (hq6.hp hp)) (qP I (qP I ?_))))
  refine Qb Tryz.underlying4 I I I I I I ?_
  refine qP I (A0 (Aa ?_))
  have e:(s==r)=false:=by have h':((s:Int) !=(r:Int))=true:=h31;rw[bne_iff_ne] at h';rw[beq_eq_false_iff_ne];omega
  refine zE ?_
  refine Af I (fun h=> ?_) (fun h=> ?_)
  ·refine zA (zB (wP I (Aa (zE (zO (zQ (zP (zP (zQ (zQ (zP (zP (zQ ?_)))))))))))))
   refine zP ?_
   have h':(FL (rg rs s) (sd (rg rs r) 0).x (sd (rg rs r) 0).y (rg rs s).length==(s==0))=false:=by
    rw[←Cj s 0]
    have h2:(!(FL (rg rs s) (sd (rg rs r) 0).x (sd (rg rs r) 0).y (rg rs s).length==((s:Int)==0)))=true:=h
    simpa using h2
   have hf:GA rs=false:=by unfold GA;rw[B5 hr (by unfold Qw;rw[hr0,B5 hs (by unfold Mo;rw[e,h'];rfl),Bool.and_false];rfl),Bool.and_false]
   exact wR1 I I (by rw[hf])
  ·have h':(FL (rg rs s) (sd (rg rs r) 0).x (sd (rg rs r) 0).y (rg rs s).length==(s==0))=true:=by
    rw[←Cj s 0]
    have h2:(!(FL (rg rs s) (sd (rg rs r) 0).x (sd (rg rs r) 0).y (rg rs s).length==((s:Int)==0)))=false:=h
    simpa using h2
   exact zI (zN (zE (zB (wP I (wP I (wP I (Aa (Ak (s+1) ⟨hs,next (by unfold Mo;rw[h',Bool.or_true])⟩ (by omega) ⟨I,I,congrArg (fun z=>some (Value.int .i64 z)) (AA (x:=(s:Int)+1) (by omega) (by omega)),O⟩ [] I))))))))
 ·refine B8 I I ?_
  iterate 21 refine B8 I I ?_
  refine qP I (A0 (Aa ?_))
  have e:(s==r)=true:=by have h':((s:Int) !=(r:Int))=false:=h31;rw[bne_eq_false_iff_eq] at h';rw[beq_iff_eq];omega
  exact zE (zS I (zI (zN (zE (zB (wP I (wP I (wP I (Aa (Ak (s+1) ⟨hs,next (by unfold Mo;rw[e];rfl)⟩ (by omega) ⟨I,I,congrArg (fun z=>some (Value.int .i64 z)) (AA (x:=(s:Int)+1) (by omega) (by omega)),O⟩ [] I))))))))))
def GX (l:List Sd) (k:Nat):Bool:= !(decide (Jv l k<0)&&((sd l (prv l.length k)).gable||(sd l k).gable||((sd l (prv l.length k)).plate !=(sd l k).plate)))
def Jo (rs:List (List Sd)):Bool:=rs.all (fun l=>(List.range l.length).all (GX l))&&Ba rs rs.length
theorem Nm (W:World) (p:Option Addr) (cap:Nat) (rs:List (List Sd)) (hn:rs.length<4611686018427387904) (hl: ∀l∈rs,l.length<4611686018427387904) (hR:Bv W p rs):
  Ae Tryz.prog 107 #[slv p rs.length cap] W (fun _:Unit=> .bool (Jo rs)) (fun _=>True) (fun _=>[]):=by
 refine Ab (args:=[slv p rs.length cap]) Tryz.func107 I I I ?_
 refine zA (zB (wP I (Aa (zE (zA (zB (wP I (Aa (zE (zA (zA (zB (wP I ?_)))))))))))))
 refine Aa (zE (zH ?_))
 refine Ar (X:=Nat) (fun r=>[(0,slv p rs.length cap),(3, .bool (Ba rs r)),(4, .int .i64 (r:Nat))]) (fun _=>[]) (fun r=>r≤rs.length∧ ∀j,j<r→(List.range (rg rs j).length).all (GX (rg rs j))=true) (fun r=>rs.length-r) 0
  ⟨Nat.zero_le _,fun j hj=>absurd hj (Nat.not_lt_zero _)⟩ ⟨rfl,rfl,rfl,trivial⟩ [] rfl ?_
 rintro r ⟨hr,hok⟩
 refine zA (zA (zB (wP I (wP I (wP I (wP I (Aa (zE ?_))))))))
 refine Af I (fun h=> ?_) (fun h=> ?_)
 rotate_left
 ·have e:r=rs.length:=by simp at h;omega
  subst e
  refine zJ (zK (zK (zL (zE (zA (zB (wP I (wP I (Aa (zE (zO ?_)))))))))))
  have ht:Jo rs=Ba rs rs.length:=by
   unfold Jo
   rw[List.all_eq_true.2 fun l hl=> ?_,Bool.true_and]
   obtain⟨j,hj,e⟩:=List.getElem_of_mem hl
   have:=hok j hj
   rw[show rg rs j=l by simp[rg,hj,e]] at this
   exact this
  exact wR1 I I (by rw[ht])
 have hr:r<rs.length:=by simp at h;omega
 clear h
 obtain⟨b,off,rfl,hrow⟩:=hR.row hr
 obtain⟨q,cap2,hq1,hq2⟩:=hrow r hr
 have hlr:=hl _ (List.mem_of_getElem? (Bf hr))
 refine zI (zE (zA (zH (zA (zB (wP I (wP I ?_)))))))
 refine wJ ?_
 refine wL 0 I I (fun W hp=>hq1.hp hp) I (wP I (Aa (zE (zA (zB (wP I (Aa (zE (zH ?_)))))))))
 refine Ar (X:=Nat) (fun i=>[(0,slv (some ⟨b,off,none⟩) rs.length cap),(3, .bool (Bm (rg rs r) (Ba rs r) i)),(4, .int .i64 (r:Nat)),(5,slv q (rg rs r).length cap2),(6, .int .i64 (i:Nat))]) (fun _=>[]) (fun i=>i≤(rg rs r).length∧ ∀j,j<i→GX (rg rs r) j=true) (fun i=>(rg rs r).length-i) 0
  ⟨Nat.zero_le _,fun j hj=>absurd hj (Nat.not_lt_zero _)⟩ ⟨rfl,rfl,rfl,rfl,rfl,trivial⟩ [] rfl ?_
 rintro i ⟨hi,hoki⟩
 refine zA (zA (zB (wP I (wP I (wP I (wP I (Aa (zE ?_))))))))
 refine Af I (fun h=> ?_) (fun h=> ?_)
 rotate_left
 ·have e:i=(rg rs r).length:=by simp at h;omega
  subst e
  refine zJ (zK (zK (zL (zN (zE (zB (wP I (wP I (wP I (Aa ?_))))))))))
  refine Ak (r+1) ⟨hr,fun j hj=> ?_⟩ (by omega) ⟨I,I,congrArg (fun z=>some (Value.int .i64 z)) (AA (x:=(r:Int)+1) (by omega) (by omega)),O⟩ [] I
  by_cases e:j=r
  ·subst e;exact List.all_eq_true.2 fun m hm=>hoki m (List.mem_range.1 hm)
  ·exact hok j (by omega)
 have hi:i<(rg rs r).length:=by simp at h;omega
 clear h
 have hi2:=F9 hi
 obtain⟨b3,off3,rfl,hrow3⟩:=hq2.row hi
 have bad:GX (rg rs r) i=false→Jo rs=false:=fun h=>by
  unfold Jo
  have:rs.all (fun l=>(List.range l.length).all (GX l))=false:=Bool.eq_false_iff.2 fun e=>by
   have:=List.all_eq_true.1 e _ (List.mem_of_getElem? (Bf hr))
   rw[B5 hi h] at this;cases this
  rw[this];rfl
 have good:GX (rg rs r) i=true→ ∀j,j<i+1→GX (rg rs r) j=true:=fun h j hj=>by
  by_cases e:j=i
  ·subst e;exact h
  ·exact hoki j (by omega)
 refine zI (zE (An (BQ ?_)))
 repeat refine An ?_
 refine Mc (X:=Nat×Nat) (fun y=>[(0,slv (some ⟨b,off,none⟩) rs.length cap),(3, .bool (Bm (rg rs r) (Ba rs r) i)),(4, .int .i64 (r:Nat)),(5,slv (some ⟨b3,off3,none⟩) (rg rs r).length cap2),(6, .int .i64 (i:Nat)),(7, .pointer (some ⟨y.1,0,none⟩)),(8, .pointer (some ⟨y.2,0,none⟩))])
  (fun y=>[⟨y.1,80,(sd (rg rs r) (prv (rg rs r).length i)).cells,true,none⟩,⟨y.2,80,(sd (rg rs r) i).cells,true,none⟩]) 4 Tryz.mixed (by kernel_rfl) ?_ ?_
 ·refine qP I ?_
  iterate 5 refine qP I ?_
  refine qV 30 ((i+(rg rs r).length-1:Nat):Int) I (show w64 (w64 ((i:Nat)+((rg rs r).length:Nat))-1)=((i+(rg rs r).length-1:Nat):Int) by rw[Ai (x:=(i:Nat)+((rg rs r).length:Nat)) (by omega) (by omega),Ai (by omega) (by omega)];omega) (qP I (qP I ?_))
  refine DU I I I I I (by omega) ?_
  refine qV 33 (prv (rg rs r).length i:Nat) I (show Int.tmod ((i+(rg rs r).length-1:Nat):Int) ((rg rs r).length:Nat)=(prv (rg rs r).length i:Nat) from(Int.ofNat_tmod _ _).symm) ?_
  refine qJ ?_
  refine qL 0 I I (fun W hp=>(hrow3 _ hi2).hp hp) I (qP I (qP I ?_))
  refine qJ ?_
  refine qL 0 I I (fun W hp=>(hrow3 i hi).hp hp) I (DL (wX ?_))
  refine RS.cons ?_ (RS.cons ?_ (RS.nil))
  ·refine Ah Tryz.hZ rfl rfl rfl rfl ?_;intro b7
   refine Aa (Al (wX (wZ ?_)))
   refine Ah Tryz.hZ rfl rfl rfl rfl ?_;intro b8
   refine Aa (Al (wX (wZ (wS 0 I I I (Aa (Al (wX (wZ (wS 1 I I I (Aa (Al ?_)))))))))))
   (first|refine Bo rfl (by((repeat (first|refine Bk.same ?_|refine Bk.off rfl ?_));exact trivial)) ?_|refine AR rfl (by kernel_rfl) ?_);(first|exact AE (b7,b8) ⟨rfl,rfl,rfl,rfl,rfl,rfl,rfl,trivial⟩ [0,1] (by decide) rfl|exact AE (b7,b8) ⟨rfl,rfl,rfl,rfl,rfl,rfl,rfl,trivial⟩ [1,0] (by decide) rfl)
  ·refine Ah Tryz.hZ rfl rfl rfl rfl ?_;intro b8
   refine Aa (Al (wX (wZ ?_)))
   refine Ah Tryz.hZ rfl rfl rfl rfl ?_;intro b7
   refine Aa (Al (wX (wZ (wS 1 I I I (Aa (Al (wX (wZ (wS 0 I I I (Aa (Al ?_)))))))))))
   (first|refine Bo rfl (by((repeat (first|refine Bk.same ?_|refine Bk.off rfl ?_));exact trivial)) ?_|refine AR rfl (by kernel_rfl) ?_);(first|exact AE (b7,b8) ⟨rfl,rfl,rfl,rfl,rfl,rfl,rfl,trivial⟩ [0,1] (by decide) rfl|exact AE (b7,b8) ⟨rfl,rfl,rfl,rfl,rfl,rfl,rfl,trivial⟩ [1,0] (by decide) rfl)
 rintro⟨b7,b8⟩
 obtain⟨C1,c1⟩: ∃b,decide (Jv (rg rs r) i<0)=b:=⟨_,rfl⟩
 obtain⟨C4,c4⟩: ∃b,((sd (rg rs r) (prv (rg rs r).length i)).plate !=(sd (rg rs r) i).plate)=b:=⟨_,rfl⟩
 have hC:GX (rg rs r) i= !(C1&&((sd (rg rs r) (prv (rg rs r).length i)).gable||(sd (rg rs r) i).gable||C4)):=by unfold GX;rw[c1,c4]
 refine zE (zA (zA (zB (wP I (wP I (wC I I (fun W hp=>K9 W _ cap2 (rg rs r) i hlr (hq2.hp hp) hi) (wP I (wP I ?_))))))))
 refine A6 44 I (fun h44=> ?_) (fun h44=> ?_)
 ·refine wP I (wB 0 I I I (wP I ?_))
  refine A6 47 I (fun h47=> ?_) (fun h47=> ?_)
  ·refine Ad I I ?_
   refine Ad I I ?_
   refine wP I (wP I ?_)
   iterate 5 refine Ad I I ?_
   refine wP I (wP I (Aa ?_))
   have e:GX (rg rs r) i=false:=by
    rw[hC,show C1=true from c1.symm.trans h44]
    first
    |(rw[show(sd (rg rs r) (prv (rg rs r).length i)).gable=true from h47];rfl)
    |(rw[show(sd (rg rs r) i).gable=true from h51];cases(sd (rg rs r) (prv (rg rs r).length i)).gable<;>rfl)
   refine zE (zR I (zA (zB (wP I (Aa (zE (zO (zP (zQ (zP (zP (zQ (zQ ?_)))))))))))))
   exact zP (zP (zQ (zP (wR1 I I (by rw[bad e])))))
  ·refine wP I (wB 1 I I I (wP I (wP I ?_)))
   refine A6 51 I (fun h51=> ?_) (fun h51=> ?_)
   ·refine Ad I I ?_
    iterate 4 refine Ad I I ?_
    refine wP I (wP I (Aa ?_))
    have e:GX (rg rs r) i=false:=by
     rw[hC,show C1=true from c1.symm.trans h44]
     first
     |(rw[show(sd (rg rs r) (prv (rg rs r).length i)).gable=true from h47];rfl)
     |(rw[show(sd (rg rs r) i).gable=true from h51];cases(sd (rg rs r) (prv (rg rs r).length i)).gable<;>rfl)
    refine zE (zR I (zA (zB (wP I (Aa (zE (zO (zP (zQ (zP (zP (zQ (zQ ?_)))))))))))))
    exact zP (zP (zQ (zP (wR1 I I (by rw[bad e])))))
   ·refine wP I (wB 0 I I I (wP I (wB 1 I I I (wP I (wP I (wP I (Aa (zE ?_))))))))
    refine Af I (fun hx=> ?_) (fun hx=> ?_)
    ·have e:GX (rg rs r) i=false:=by
      rw[hC,show C1=true from c1.symm.trans h44,show C4=true from c4.symm.trans hx]
      cases(sd (rg rs r) (prv (rg rs r).length i)).gable<;>cases(sd (rg rs r) i).gable<;>rfl
     refine zA (zB (wP I (Aa (zE (zO (zP (zQ (zP (zP (zQ (zQ (zP (zP ?_)))))))))))))
     exact zQ (zP (wR1 I I (by rw[bad e])))
    ·have e:GX (rg rs r) i=true:=by
      rw[hC,show(sd (rg rs r) (prv (rg rs r).length i)).gable=false from h47]
      rw[show(sd (rg rs r) i).gable=false from h51,show C4=false from c4.symm.trans hx]
      cases C1<;>rfl
     refine zI (zE (zB (wP I (wP I ?_))))
     refine A6 60 I (fun h60=> ?_) (fun h60=> ?_)
     ·refine Ad I I ?_
      iterate 2 refine Ad I I ?_
      exact wP I (wP I (Aa (zN (zE (zB (wP I (wP I (wP I (Aa (Ak (i+1) ⟨hi,good e⟩ (by omega) ⟨I,congrArg (fun z=>some (Value.bool z)) (show _=(Bm (rg rs r) (Ba rs r) i|| !(sd (rg rs r) i).gable) by first|(rw[show Bm (rg rs r) (Ba rs r) i=true from h60];rfl)|(rw[show Bm (rg rs r) (Ba rs r) i=false from h60];rfl)),I,I,congrArg (fun z=>some (Value.int .i64 z)) (AA (x:=(i:Int)+1) (by omega) (by omega)),O⟩ [_,_] I))))))))))
     ·exact wP I (wB 1 I I I (wP I (wP I (wP I (Aa (zN (zE (zB (wP I (wP I (wP I (Aa (Ak (i+1) ⟨hi,good e⟩ (by omega) ⟨I,congrArg (fun z=>some (Value.bool z)) (show _=(Bm (rg rs r) (Ba rs r) i|| !(sd (rg rs r) i).gable) by first|(rw[show Bm (rg rs r) (Ba rs r) i=true from h60];rfl)|(rw[show Bm (rg rs r) (Ba rs r) i=false from h60];rfl)),I,I,congrArg (fun z=>some (Value.int .i64 z)) (AA (x:=(i:Int)+1) (by omega) (by omega)),O⟩ [_,_] I)))))))))))))
 ·refine Ad I I ?_
  iterate 12 refine Ad I I ?_
  refine wP I (Aa ?_)
  have e:GX (rg rs r) i=true:=by rw[hC,show C1=false from c1.symm.trans h44];rfl
  refine zE (zS I (zI (zE (zB (wP I (wP I ?_))))))
  refine A6 60 I (fun h60=> ?_) (fun h60=> ?_)
  ·refine Ad I I ?_
   iterate 2 refine Ad I I ?_
   exact wP I (wP I (Aa (zN (zE (zB (wP I (wP I (wP I (Aa (Ak (i+1) ⟨hi,good e⟩ (by omega) ⟨I,congrArg (fun z=>some (Value.bool z)) (show _=(Bm (rg rs r) (Ba rs r) i|| !(sd (rg rs r) i).gable) by first|(rw[show Bm (rg rs r) (Ba rs r) i=true from h60];rfl)|(rw[show Bm (rg rs r) (Ba rs r) i=false from h60];rfl)),I,I,congrArg (fun z=>some (Value.int .i64 z)) (AA (x:=(i:Int)+1) (by omega) (by omega)),O⟩ [_,_] I))))))))))
  ·exact wP I (wB 1 I I I (wP I (wP I (wP I (Aa (zN (zE (zB (wP I (wP I (wP I (Aa (Ak (i+1) ⟨hi,good e⟩ (by omega) ⟨I,congrArg (fun z=>some (Value.bool z)) (show _=(Bm (rg rs r) (Ba rs r) i|| !(sd (rg rs r) i).gable) by first|(rw[show Bm (rg rs r) (Ba rs r) i=true from h60];rfl)|(rw[show Bm (rg rs r) (Ba rs r) i=false from h60];rfl)),I,I,congrArg (fun z=>some (Value.int .i64 z)) (AA (x:=(i:Int)+1) (by omega) (by omega)),O⟩ [_,_] I)))))))))))))
-- BOXES 1
def Ls (rs:List (List Sd)):Int:=
 if rs.any (fun l=>l.length==0)=true then 5
 else if tot rs=0 then 5
 else if tot rs>24 then 4
 else if rs.flatten.any (fun s=> !rgd s)=true then 2
 else if rs.any (fun l=> !Ic l)=true then 14
 else if crs rs=true then 15
 else if (!GA rs|| !Jo rs)=true then 14
 else 0
theorem N8 (W:World) (p:Option Addr) (cap:Nat) (rs:List (List Sd)) (hn:rs.length<4611686018427387904) (hT:tot rs<1099511627776) (hR:Bv W p rs):
  Ae Tryz.prog 49 #[D8 p rs.length cap] W (fun _:Unit=> .int .i64 (Ls rs)) (fun _=>True) (fun _=>[]):=by
 have hl: ∀l∈rs,l.length<4611686018427387904:=fun l h=>by have:=Ge h;omega
 refine Ab (args:=[D8 p rs.length cap]) Tryz.func49 I I I ?_
 refine zA (zB ?_)
 (refine Ay rfl rfl rfl rfl ?_;intro)
 refine wP I (Aa ?_)
 rename_i b1
 refine zE (zA (zA (zB (wP I (wB 0 I I I (wP I (wP I (Aa (zE ?_)))))))))
 refine Af I (fun h=> ?_) (fun h=> ?_)
 ·refine zA (zB (wP I (Aa (zE (zO (zP ?_))))))
  have h0:rs=[]:=by have h':(((rs.length:Nat):Int)==0)=true:=h;rw[beq_iff_eq] at h';exact List.length_eq_zero_iff.1 (by omega)
  exact wR1 rfl rfl (by subst h0;rfl)
 have hpos:0<rs.length:=by have h':(((rs.length:Nat):Int)==0)=false:=h;rw[beq_eq_false_iff_ne] at h';omega
 clear h
 obtain⟨b,off,rfl,hrow⟩:=hR.row hpos
 refine zI (zE (zA (zB (wP I (Aa (zE (zA (zA (zB (wP I (Aa (zE (zH ?_)))))))))))))
 refine Ar (X:=Nat) (fun k=>[(1, .pointer (some ⟨b1,0,none⟩)),(3, .int .i64 (tot (rs.take k):Nat)),(4, .int .i64 (k:Nat))]) (fun _=>[⟨b1,24,[slv (some ⟨b,off,none⟩) rs.length cap],true,none⟩])
  (fun k=>k≤rs.length∧ ∀j,j<k→(rg rs j).length≠0) (fun k=>rs.length-k) 0 ⟨Nat.zero_le _,fun j hj=>absurd hj (Nat.not_lt_zero _)⟩ ⟨rfl,rfl,rfl,trivial⟩ [] rfl ?_
 rintro k ⟨hk,hok⟩
 refine zA (zA (zB (wP I (wP I (wB 0 I I I (wP I (wP I (Aa (zE ?_)))))))))
 refine Af I (fun h=> ?_) (fun h=> ?_)
 ·have hk:k<rs.length:=by simp at h;omega
  clear h
  obtain⟨q,cap2,hq1,hq2⟩:=hrow k hk
  refine zI (zE (zA (zH (zA (zA (zB (wP I (wB 0 I I I (wP I ?_)))))))))
  refine wJ ?_
  refine wL 0 I I (fun W hp=>hq1.hp hp) I (wP I (wP I (Aa (zE ?_))))
  refine Af I (fun h=> ?_) (fun h=> ?_)
  ·refine zA (zB (wP I (Aa (zE (zO (zP (zQ (zP (zP (zQ (zP ?_)))))))))))
   have he:rs.any (fun l=>l.length==0)=true:=List.any_eq_true.2 ⟨_,List.mem_of_getElem? (Bf hk),by have h':((((rg rs k).length:Nat):Int)==0)=true:=h;rw[beq_iff_eq] at h'⊢;omega⟩
   exact wR1 I I (by unfold Ls;rw[if_pos he])
  have hz:(rg rs k).length≠0:=by
   have h':((((rg rs k).length:Nat):Int)==0)=false:=h
   rw[beq_eq_false_iff_ne] at h';omega
  clear h
  refine zI (zE (zB (wP I (wP I (wB 0 I I I (wP I ?_))))))
  refine wJ ?_
  refine wL 0 I I (fun W hp=>hq1.hp hp) I (wP I (wP I (wP I (Aa ?_))))
  have hs:w64 ((tot (rs.take k):Nat)+((rg rs k).length:Nat))=(tot (rs.take (k+1)):Nat):=by
   have h1:=Bg hk
   have h2:=Ci rs (k+1)
   rw[Ai (by omega) (by omega)];omega
  refine zN (zE (zB ?_))
  refine Aj 3 _ I (congrArg (Value.int .i64) hs) ?_
  refine wP I (wP I (wP I (Aa ?_)))
  refine Ak (k+1) ⟨hk,fun j hj=> ?_⟩ (by omega) ⟨I,I,congrArg (fun z=>some (Value.int .i64 z)) (AA (x:=(k:Int)+1) (by omega) (by omega)),O⟩ [] I
  by_cases e:j=k
  ·subst e;exact hz
  ·exact hok j (by omega)
 have e:k=rs.length:=by simp at h;omega
 subst e
 clear h
 rw[List.take_length]
 have hne: ∀l∈rs,l≠[]:=fun l hl e=>by
  obtain⟨i,hi,e2⟩:=List.getElem_of_mem hl
  have:=hok i hi
  rw[show rg rs i=rs[i] by simp[rg,hi],e2,e] at this
  exact this I
 have he:rs.any (fun l=>l.length==0)=false:=Bool.eq_false_iff.2 fun h2=>by
  obtain⟨l,h3,h4⟩:=List.any_eq_true.1 h2
  rw[beq_iff_eq] at h4
  exact hne l h3 (List.length_eq_zero_iff.1 h4)
 have hN: ¬(rs.any (fun l=>l.length==0)=true):=by rw[he];decide
 have h0: ¬tot rs=0:=by
  have h1:=Ge (List.mem_of_getElem? (Bf hpos))
  have h2:=hok 0 hpos
  omega
 refine zJ (zK (zK (zL (zE (zA (zA (zB (wP I (wP I (Aa (zE ?_)))))))))))
 refine Af I (fun h=> ?_) (fun h=> ?_)
 ·refine zA (zB (wP I (Aa (zE (zO (zP ?_))))))
  have h1:tot rs>24:=by have h':decide (((tot rs:Nat):Int)>24)=true:=h;rw[decide_eq_true_iff] at h';omega
  exact wR1 I I (by unfold Ls;rw[if_neg hN,if_neg h0,if_pos h1])
 have h1: ¬tot rs>24:=by have h':decide (((tot rs:Nat):Int)>24)=false:=h;rw[decide_eq_false_iff_not] at h';omega
 clear h
 refine zI (zE (zA (zA (zB (wP I (Aa (zE (zH ?_))))))))
 refine Ar (X:=Nat) (fun k=>[(1, .pointer (some ⟨b1,0,none⟩)),(5, .int .i64 (k:Nat))]) (fun _=>[⟨b1,24,[slv (some ⟨b,off,none⟩) rs.length cap],true,none⟩])
  (fun k=>k≤rs.length∧ ∀j,j<k→ ∀s∈rg rs j,rgd s=true) (fun k=>rs.length-k) 0 ⟨Nat.zero_le _,fun j hj=>absurd hj (Nat.not_lt_zero _)⟩ ⟨rfl,rfl,trivial⟩ [] rfl ?_
 rintro k ⟨hk,hok2⟩
 refine zA (zA (zB (wP I (wP I (wB 0 I I I (wP I (wP I (Aa (zE ?_)))))))))
 refine Af I (fun h=> ?_) (fun h=> ?_)
 ·have hk:k<rs.length:=by simp at h;omega
  clear h
  obtain⟨q,cap2,hq1,hq2⟩:=hrow k hk
  have hlk:=hl _ (List.mem_of_getElem? (Bf hk))
  refine zI (zE (zA (zH (zA (zB (wP I (Aa (zE (zH ?_)))))))))
  refine Ar (X:=Nat) (fun i=>[(1, .pointer (some ⟨b1,0,none⟩)),(5, .int .i64 (k:Nat)),(6, .int .i64 (i:Nat))]) (fun _=>[⟨b1,24,[slv (some ⟨b,off,none⟩) rs.length cap],true,none⟩])
   (fun i=>i≤(rg rs k).length∧ ∀j,j<i→rgd (sd (rg rs k) j)=true) (fun i=>(rg rs k).length-i) 0 ⟨Nat.zero_le _,fun j hj=>absurd hj (Nat.not_lt_zero _)⟩ ⟨rfl,rfl,rfl,trivial⟩ [] rfl ?_
  rintro i ⟨hi,hoki⟩
  refine zA (zA (zB (wP I (wP I (wB 0 I I I (wP I ?_))))))
  refine wJ ?_
  refine wL 0 I I (fun W hp=>hq1.hp hp) I (wP I (wP I (Aa (zE ?_))))
  refine Af I (fun h=> ?_) (fun h=> ?_)
  ·have hi:i<(rg rs k).length:=by simp at h;omega
   clear h
   obtain⟨b4,off4,rfl,hrow4⟩:=hq2.row hi
   refine zI (zE (zA (zH (zA (zB (wP I (wB 0 I I I (wP I ?_))))))))
   refine wJ ?_
   refine wL 0 I I (fun W hp=>hq1.hp hp) I (wP I ?_)
   refine wJ ?_
   refine wL 0 I I (fun W hp=>(hrow4 i hi).hp hp) I (wC I I (fun W _=>Md (sd (rg rs k) i) W) (wP I (Aa (zE ?_))))
   refine Af I (fun h=> ?_) (fun h=> ?_)
   ·refine zA (zB (wP I (Aa (zE (zO (zQ (zP (zP (zQ (zQ (zP (zP (zQ ?_)))))))))))))
    refine zP ?_
    have h2:rs.flatten.any (fun s=> !rgd s)=true:=List.any_eq_true.2 ⟨sd (rg rs k) i,List.mem_flatten.2 ⟨rg rs k,List.mem_of_getElem? (Bf hk),List.mem_of_getElem? (Lr hi)⟩,h⟩
    exact wR1 I I (by unfold Ls;rw[if_neg hN,if_neg h0,if_neg h1,if_pos h2])
   ·have hg:rgd (sd (rg rs k) i)=true:=by have h':(!rgd (sd (rg rs k) i))=false:=h;simpa using h'
    refine zI (zN (zE (zB (wP I (wP I (wP I (Aa ?_)))))))
    refine Ak (i+1) ⟨hi,fun j hj=> ?_⟩ (by omega) ⟨I,I,congrArg (fun z=>some (Value.int .i64 z)) (AA (x:=(i:Int)+1) (by omega) (by omega)),O⟩ [] I
    by_cases e:j=i
    ·subst e;exact hg
    ·exact hoki j (by omega)
  ·have e:i=(rg rs k).length:=by simp at h;omega
   subst e
   refine zJ (zK (zK (zL (zN (zE (zB (wP I (wP I (wP I (Aa ?_))))))))))
   refine Ak (k+1) ⟨hk,fun j hj s hs=> ?_⟩ (by omega) ⟨I,congrArg (fun z=>some (Value.int .i64 z)) (AA (x:=(k:Int)+1) (by omega) (by omega)),O⟩ [] I
   by_cases e:j=k
   ·subst e
    obtain⟨m,hm,e⟩:=List.getElem_of_mem hs
    have:=hoki m hm
    rw[show sd (rg rs j) m=s by simp[sd,hm,e]] at this
    exact this
   ·exact hok2 j (by omega) s hs
 have e:k=rs.length:=by simp at h;omega
 subst e
 clear h
 have hrg: ∀l∈rs, ∀s∈l,rgd s=true:=fun l hl s hs=>by
  obtain⟨i,hi,e2⟩:=List.getElem_of_mem hl
  have:=hok2 i hi
  rw[show rg rs i=l by simp[rg,hi,e2]] at this
  exact this s hs
 have h2: ¬(rs.flatten.any (fun s=> !rgd s)=true):=fun h=>by
  obtain⟨s,hs,h⟩:=List.any_eq_true.1 h
  obtain⟨l,hl,hs⟩:=List.mem_flatten.1 hs
  rw[hrg l hl s hs] at h;cases h
 refine zJ (zK (zK (zL (zE (zA (zA (zB (wP I (Aa (zE (zH ?_)))))))))))
 refine Ar (X:=Nat) (fun k=>[(1, .pointer (some ⟨b1,0,none⟩)),(7, .int .i64 (k:Nat))]) (fun _=>[⟨b1,24,[slv (some ⟨b,off,none⟩) rs.length cap],true,none⟩])
  (fun k=>k≤rs.length∧ ∀j,j<k→Ic (rg rs j)=true) (fun k=>rs.length-k) 0 ⟨Nat.zero_le _,fun j hj=>absurd hj (Nat.not_lt_zero _)⟩ ⟨rfl,rfl,trivial⟩ [] rfl ?_
 rintro k ⟨hk,hok3⟩
 refine zA (zA (zB (wP I (wP I (wB 0 I I I (wP I (wP I (Aa (zE ?_)))))))))
 refine Af I (fun h=> ?_) (fun h=> ?_)
 ·have hk:k<rs.length:=by simp at h;omega
  clear h
  obtain⟨q,cap2,hq1,hq2⟩:=hrow k hk
  have hlk:=hl _ (List.mem_of_getElem? (Bf hk))
  refine zI (zE (zA (zH (zA (zB (wP I (wB 0 I I I (wP I ?_))))))))
  refine wJ ?_
  refine wL 0 I I (fun W hp=>hq1.hp hp) I (wC I I (fun W hp=>Mp W q cap2 (rg rs k) hlk (hq2.hp hp)) (wP I (Aa (zE ?_))))
  refine Af I (fun h=> ?_) (fun h=> ?_)
  ·refine zA (zB (wP I (Aa (zE (zO (zQ (zP (zP (zQ (zP ?_))))))))))
   have h3:rs.any (fun l=> !Ic l)=true:=List.any_eq_true.2 ⟨_,List.mem_of_getElem? (Bf hk),h⟩
   exact wR1 I I (by unfold Ls;rw[if_neg hN,if_neg h0,if_neg h1,if_neg h2,if_pos h3])
  ·have hg:Ic (rg rs k)=true:=by have h':(!Ic (rg rs k))=false:=h;simpa using h'
   refine zI (zN (zE (zB (wP I (wP I (wP I (Aa ?_)))))))
   refine Ak (k+1) ⟨hk,fun j hj=> ?_⟩ (by omega) ⟨I,congrArg (fun z=>some (Value.int .i64 z)) (AA (x:=(k:Int)+1) (by omega) (by omega)),O⟩ [] I
   by_cases e:j=k
   ·subst e;exact hg
   ·exact hok3 j (by omega)
 have e:k=rs.length:=by simp at h;omega
 subst e
 clear h
 have h3: ¬(rs.any (fun l=> !Ic l)=true):=fun h=>by
  obtain⟨l,hl,h⟩:=List.any_eq_true.1 h
  obtain⟨i,hi,e2⟩:=List.getElem_of_mem hl
  have:=hok3 i hi
  rw[show rg rs i=l by simp[rg,hi,e2]] at this
  rw[this] at h;cases h
 refine zJ (zK (zK (zL (zE (zA (zA (zB (wP I (wB 0 I I I (wC I I (fun W hp=>LZ W _ cap rs hn hl (hR.below (Nat.le_refl _) hp.below)) (Aa (zE ?_))))))))))))
 refine Af I (fun h=> ?_) (fun h=> ?_)
 ·exact zA (zB (wP I (Aa (zE (zO (zP (wR1 I I (by unfold Ls;rw[if_neg hN,if_neg h0,if_neg h1,if_neg h2,if_neg h3,if_pos h]))))))))
 have h4: ¬(crs rs=true):=by rw[h];decide
 clear h
 refine zI (zE (zA (zA (zB (wP I (wB 0 I I I (wC I I (fun W hp=>Ml W _ cap rs hn hl hne hpos (hR.below (Nat.le_refl _) hp.below)) (wP I (wP I ?_)))))))))
 refine A6 84 I (fun h84=> ?_) (fun h84=> ?_)
 ·refine Ad I I ?_
  iterate 3 refine Ad I I ?_
  refine wP I (Aa ?_)
  have h5:(!GA rs|| !Jo rs)=true:=by rw[show(!GA rs)=true from h84];rfl
  exact zE (zR I (zA (zB (wP I (Aa (zE (zO (zP (wR1 I I (by unfold Ls;rw[if_neg hN,if_neg h0,if_neg h1,if_neg h2,if_neg h3,if_neg h4,if_pos h5]))))))))))
 ·refine wP I (wB 0 I I I (wC I I (fun W hp=>Nm W _ cap rs hn hl (hR.below (Nat.le_refl _) hp.below)) (wP I (wP I (Aa ?_)))))
  have h':(!GA rs)=false:=h84
  refine zE ?_
  refine Af I (fun h=> ?_) (fun h=> ?_)
  ·refine zA (zB (wP I (Aa (zE (zO (zP ?_))))))
   have h5:(!GA rs|| !Jo rs)=true:=by rw[h',show(!Jo rs)=true from h];rfl
   exact wR1 I I (by unfold Ls;rw[if_neg hN,if_neg h0,if_neg h1,if_neg h2,if_neg h3,if_neg h4,if_pos h5])
  ·refine zI (zE (zA (zB (wP I (Aa (zE (zO ?_)))))))
   have h5: ¬((!GA rs|| !Jo rs)=true):=by rw[h',show(!Jo rs)=false from h];decide
   exact wR1 I I (by unfold Ls;rw[if_neg hN,if_neg h0,if_neg h1,if_neg h2,if_neg h3,if_neg h4,if_neg h5])
end
section
open Go Go.RowKit Go.Am
theorem ED (a:Int):(sgI a= -1∧a<0)∨(sgI a=0∧a=0)∨(sgI a=1∧a>0):=by
 unfold sgI
 rcases Int.lt_trichotomy a 0 with h|h|h
 ·rw[if_pos h];exact .inl ⟨rfl,h⟩
 ·rw[if_neg (by omega),if_neg (by omega)];exact .inr (.inl ⟨rfl,h⟩)
 ·rw[if_neg (by omega),if_pos h];exact .inr (.inr ⟨rfl,h⟩)
theorem Qk {l:List Sd} (hr: ∀s∈l,inR s) {i:Nat} (hi:i<l.length):KF l i=sgI ((sd l (nxt l.length i)).x-(sd l i).x)∧LM l i=sgI ((sd l (nxt l.length i)).y-(sd l i).y):=by
 obtain⟨s1,s2,s3,s4⟩:=C8 hr hi
 obtain⟨n1,n2,n3,n4⟩:=C8 hr (Dq hi)
 unfold KF LM
 rw[d64 ⟨n1,n2⟩ ⟨s1,s2⟩,d64 ⟨n3,n4⟩ ⟨s3,s4⟩]
 exact⟨I,I⟩
theorem Lb {l:List Sd} (hr: ∀s∈l,inR s) {i:Nat} (hi:i<l.length):axR l i=true↔ ¬(((sd l (nxt l.length i)).x-(sd l i).x=0)↔((sd l (nxt l.length i)).y-(sd l i).y=0)):=by
 obtain⟨e1,e2⟩:=Qk hr hi
 unfold axR
 rw[e1,e2]
 generalize (sd l (nxt l.length i)).x-(sd l i).x=a
 generalize (sd l (nxt l.length i)).y-(sd l i).y=b
 rcases ED a with⟨ea,ha⟩|⟨ea,ha⟩|⟨ea,ha⟩<;>rcases ED b with⟨eb,hb⟩|⟨eb,hb⟩|⟨eb,hb⟩<;>rw[ea,eb]
 ·rw[show(w64 (w64 (-1* -1)+w64 (-1* -1))==1)=false by decide];constructor<;>intro h;cases h;omega
 ·rw[show(w64 (w64 (-1* -1)+w64 (0*0))==1)=true by decide];constructor<;>intro h;omega;rfl
 ·rw[show(w64 (w64 (-1* -1)+w64 (1*1))==1)=false by decide];constructor<;>intro h;cases h;omega
 ·rw[show(w64 (w64 (0*0)+w64 (-1* -1))==1)=true by decide];constructor<;>intro h;omega;rfl
 ·rw[show(w64 (w64 (0*0)+w64 (0*0))==1)=false by decide];constructor<;>intro h;cases h;omega
 ·rw[show(w64 (w64 (0*0)+w64 (1*1))==1)=true by decide];constructor<;>intro h;omega;rfl
 ·rw[show(w64 (w64 (1*1)+w64 (-1* -1))==1)=false by decide];constructor<;>intro h;cases h;omega
 ·rw[show(w64 (w64 (1*1)+w64 (0*0))==1)=true by decide];constructor<;>intro h;omega;rfl
 ·rw[show(w64 (w64 (1*1)+w64 (1*1))==1)=false by decide];constructor<;>intro h;cases h;omega
theorem J1 {l:List Sd} (hr: ∀s∈l,inR s) {i:Nat} (hi:i<l.length) (h1:axR l i=true) (h2:axR l (prv l.length i)=true):
  (Jv l i≠0↔ ¬(((sd l i).x-(sd l (prv l.length i)).x=0)↔((sd l (nxt l.length i)).x-(sd l i).x=0)))∧(Jv l i≠0→(Jv l i<0↔Hh (sd l (prv l.length i)) (sd l i) (sd l (nxt l.length i))=false)):=by
 have a1:=(Lb hr hi).1 h1
 have a2:=(Lb hr (F9 hi)).1 h2
 obtain⟨e1,e2⟩:=Qk hr hi
 obtain⟨e3,e4⟩:=Qk hr (F9 hi)
 rw[UE hi] at a2 e3 e4
 have i1:=C8 hr hi
 have i2:=C8 hr (Dq hi)
 have i3:=C8 hr (F9 hi)
 rw[Tw i3 i1 i2,decide_eq_false_iff_not]
 unfold Jv
 rw[e1,e2,e3,e4]
 generalize (sd l (nxt l.length i)).x-(sd l i).x=c at*
 generalize (sd l (nxt l.length i)).y-(sd l i).y=d at*
 generalize (sd l i).x-(sd l (prv l.length i)).x=a at*
 generalize (sd l i).y-(sd l (prv l.length i)).y=b at*
 have pp: ∀x y:Int,x>0→y>0→x*y>0:=fun x y h h'=>Int.mul_pos h h'
 have pn: ∀x y:Int,x>0→y<0→x*y<0:=fun x y h h'=>Int.mul_neg_of_pos_of_neg h h'
 have np: ∀x y:Int,x<0→y>0→x*y<0:=fun x y h h'=>Int.mul_neg_of_neg_of_pos h h'
 have nn: ∀x y:Int,x<0→y<0→x*y>0:=fun x y h h'=>Int.mul_pos_of_neg_of_neg h h'
 by_cases ha:a=0
 ·subst ha
  have hb:b≠0:=by omega
  rw[show sgI 0=0 from rfl,Int.zero_mul,Int.zero_mul]
  by_cases hd:d=0
  ·subst hd
   have hc:c≠0:=by omega
   rcases ED b with⟨eb,hb'⟩|⟨eb,hb'⟩|⟨eb,hb'⟩<;>rcases ED c with⟨ec,hc'⟩|⟨ec,hc'⟩|⟨ec,hc'⟩<;>first|omega|skip
   ·rw[eb,ec,show w64 (w64 0-w64 (-1* -1))= -1 by decide];have:=nn b c hb' hc';omega
   ·rw[eb,ec,show w64 (w64 0-w64 (-1*1))=1 by decide];have:=np b c hb' hc';omega
   ·rw[eb,ec,show w64 (w64 0-w64 (1* -1))=1 by decide];have:=pn b c hb' hc';omega
   ·rw[eb,ec,show w64 (w64 0-w64 (1*1))= -1 by decide];have:=pp b c hb' hc';omega
  ·have hc:c=0:=by omega
   subst hc
   rw[show sgI 0=0 from rfl,Int.mul_zero,show w64 (w64 0-w64 0)=0 by decide]
   omega
 ·have hb:b=0:=by omega
  subst hb
  rw[show sgI 0=0 from rfl,Int.zero_mul,Int.zero_mul]
  by_cases hc:c=0
  ·subst hc
   have hd:d≠0:=by omega
   rcases ED a with⟨eb,hb'⟩|⟨eb,hb'⟩|⟨eb,hb'⟩<;>rcases ED d with⟨ec,hc'⟩|⟨ec,hc'⟩|⟨ec,hc'⟩<;>first|omega|skip
   ·rw[eb,ec,show w64 (w64 (-1* -1)-w64 0)=1 by decide];have:=nn a d hb' hc';omega
   ·rw[eb,ec,show w64 (w64 (-1*1)-w64 0)= -1 by decide];have:=np a d hb' hc';omega
   ·rw[eb,ec,show w64 (w64 (1* -1)-w64 0)= -1 by decide];have:=pn a d hb' hc';omega
   ·rw[eb,ec,show w64 (w64 (1*1)-w64 0)=1 by decide];have:=pp a d hb' hc';omega
  ·have hd:d=0:=by omega
   subst hd
   rw[show sgI 0=0 from rfl,Int.mul_zero,show w64 (w64 0-w64 0)=0 by decide]
   omega
theorem S7 {l:List Sd} (hr: ∀s∈l,inR s):Ic l=shp l:=by
 rw[Bool.eq_iff_iff]
 constructor
 ·intro h
  unfold Ic at h
  obtain⟨h1,h2⟩:=Bool.and_eq_true_iff.1 h
  have ok: ∀i,i<l.length→axR l i=true∧Jv l i≠0:=fun i hi=>by
   have:=List.all_eq_true.1 h1 i (List.mem_range.2 hi)
   unfold okR at this
   obtain⟨a,b⟩:=Bool.and_eq_true_iff.1 this
   exact⟨a,by simpa using b⟩
  exact VC hr (of_decide_eq_true h2) fun i hi=>⟨(Lb hr hi).1 (ok i hi).1,(J1 hr hi (ok i hi).1 (ok _ (F9 hi)).1).1.1 (ok i hi).2⟩
 ·intro h
  have ax: ∀i,i<l.length→axR l i=true:=fun i hi=>(Lb hr hi).2 (Ew hr h hi).1
  unfold Ic
  rw[dT (Ra h),Bool.and_true]
  refine List.all_eq_true.2 fun i hi=> ?_
  have hi:=List.mem_range.1 hi
  have:=(J1 hr hi (ax i hi) (ax _ (F9 hi))).1.2 (Ew hr h hi).2
  unfold okR
  rw[ax i hi,beq_eq_false_iff_ne.2 this];rfl
theorem Th {l:List Sd} (hr: ∀s∈l,inR s) (h:shp l=true) {i:Nat} (hi:i<l.length):Jv l i≠0∧(Jv l i<0↔Hh (sd l (prv l.length i)) (sd l i) (sd l (nxt l.length i))=false):=by
 have ax: ∀i,i<l.length→axR l i=true:=fun i hi=>(Lb hr hi).2 (Ew hr h hi).1
 have t:=J1 hr hi (ax i hi) (ax _ (F9 hi))
 have hne:=t.1.2 (Ew hr h hi).2
 exact⟨hne,t.2 hne⟩
theorem VE {l:List Sd} (hr: ∀s∈l,inR s) (h:shp l=true) {i:Nat} (hi:i<l.length):GX l i=Cv l i:=by
 have t:=(Th hr h hi).2
 unfold GX Cv LN
 cases hl:Hh (sd l (prv l.length i)) (sd l i) (sd l (nxt l.length i)) with
 |true=>rw[dF (fun e=>by rw[t.1 e] at hl;cases hl)];rfl
 |false=>
  rw[dT (t.2 hl),Bool.true_and,Bool.false_or]
  have e: ∀a b:Int,(!(false||false||(a !=b)))=(!false&& !false&&(b==a)):=fun a b=>by
   by_cases h:a=b
   ·subst h;simp
   ·rw[bne_iff_ne.2 h,beq_eq_false_iff_ne.2 (fun x=>h x.symm)];rfl
  cases(sd l i).gable<;>cases(sd l (prv l.length i)).gable<;>first|rfl|exact e _ _
theorem Vz {rs:List (List Sd)} (hin:RX rs) (hs: ∀l∈rs,shp l=true):Jo rs=jnd rs:=by
 unfold Jo jnd
 congr 1
 rw[Bool.eq_iff_iff,List.all_eq_true,List.all_eq_true]
 have e: ∀l∈rs,((List.range l.length).all (GX l))=FT l:=fun l hl=>Nc fun i hi=>VE (hin l hl) (hs l hl) hi
 constructor<;>intro h l hl
 ·rw[←e l hl];exact h l hl
 ·rw[e l hl];exact h l hl
theorem Vg {l:List Sd} (h: ∀s∈l,inR s): ∀k,k≤l.length→k≤1000000→twR l k=AC (Ee l) k∧ -(k*4294967296:Int)≤twR l k∧twR l k≤k*4294967296
 |0,_,_=>⟨rfl,by simp[twR],by simp[twR]⟩
 |k+1,hk,hm=>by
  obtain⟨h1,h2,h3⟩:=Vg h k (by omega) (by omega)
  have hs:=C8 h (show k<l.length by omega)
  have hn:=C8 h (Dq (show k<l.length by omega))
  obtain⟨a1,a2⟩:=Hz hs.1 hs.2.1 hn.2.2.1 hn.2.2.2
  obtain⟨b1,b2⟩:=Hz hs.2.2.1 hs.2.2.2 hn.1 hn.2.1
  have e:twR l (k+1)=twR l k+Ee l k:=by
   show w64 (w64 (twR l k+w64 ((sd l k).x*(sd l (nxt l.length k)).y))-w64 ((sd l (nxt l.length k)).x*(sd l k).y))=_
   unfold Ee
   rw[Int.mul_comm (sd l (nxt l.length k)).x,Ai (x:=(sd l k).x*_) (by omega) (by omega),Ai (x:=(sd l k).y*_) (by omega) (by omega),Ai (x:=twR l k+_) (by omega) (by omega)]
   rw[Ai (by omega) (by omega)];omega
  have ec:Ee l k=(sd l k).x*(sd l (nxt l.length k)).y-(sd l k).y*(sd l (nxt l.length k)).x:=rfl
  refine⟨by rw[e,h1];rfl, ?_, ?_⟩<;>rw[e,ec]<;>push_cast<;>omega
theorem S4 {l:List Sd} (h: ∀s∈l,inR s) (px py:Int): ∀k,k≤l.length→FL l px py k=Dy l px py k
 |0,_=>rfl
 |k+1,hk=>by
  have hs:=C8 h (show k<l.length by omega)
  have hn:=C8 h (Dq (show k<l.length by omega))
  have e:Kc (sd l k) (sd l (nxt l.length k)) px py=HD (sd l k) (sd l (nxt l.length k)) px py:=by
   unfold Kc HD
   rw[d64 ⟨hn.1,hn.2.1⟩ ⟨hs.1,hs.2.1⟩]
   generalize sd l k=t
   generalize sd l (nxt l.length k)=u
   by_cases hx:t.x=u.x
   ·rw[beq_iff_eq.2 hx,beq_iff_eq.2 (show u.x-t.x=0 by omega),hx]
    rw[Bool.true_and,Bool.and_assoc]
    congr 1
    unfold loy hiy
    by_cases h1:t.y>py<;>by_cases h2:u.y>py
    ·rw[dT h1,dT h2,dF (by split<;>omega)];rfl
    ·rw[dT h1,dF h2,dT (by split<;>omega),dT (by split<;>omega)];rfl
    ·rw[dF h1,dT h2,dT (by split<;>omega),dT (by split<;>omega)];rfl
    ·rw[dF h1,dF h2,dF (p:=py<_) (by split<;>omega),Bool.and_false];rfl
   ·rw[beq_eq_false_iff_ne.2 hx,beq_eq_false_iff_ne.2 (show u.x-t.x≠0 by omega)];rfl
  show(if Kc (sd l k) (sd l (nxt l.length k)) px py=true then !FL l px py k else FL l px py k)=(if HD (sd l k) (sd l (nxt l.length k)) px py=true then !Dy l px py k else Dy l px py k)
  rw[e,S4 h px py k (by omega)]
theorem Vk {rs:List (List Sd)} (hin:RX rs) (hs: ∀l∈rs,shp l=true) (hc:crs rs=false) (hT:tot rs≤24) (hpos:0<rs.length):GA rs=plc rs:=by
 have ar: ∀r,r<rs.length→twR (rg rs r) (rg rs r).length=Cu (rg rs r) (rg rs r).length∧Cu (rg rs r) (rg rs r).length≠0:=fun r hr=>by
  have hm:rg rs r∈rs:=List.mem_of_getElem? (Bf hr)
  have hlen:=Ge hm
  rw[(Vg (hin _ hm) _ (Nat.le_refl _) (by omega)).1,(MP (hin _ hm) _ (Nat.le_refl _) (by omega)).1]
  exact⟨I,Ub hin hs hc hr⟩
 have pk: ∀r s,r<rs.length→s<rs.length→r≠0→Mo rs r s=EY rs r s:=fun r s hr hs' h0=>by
  unfold Mo EY
  rw[S4 (hin _ (List.mem_of_getElem? (Bf hs'))) _ _ _ (Nat.le_refl _),beq_eq_false_iff_ne.2 h0,Bool.or_false]
 have all: ∀r,r<rs.length→r≠0→((List.range rs.length).all (Mo rs r))=((List.range rs.length).all (EY rs r)):=fun r hr h0=>Nc fun s hs'=>pk r s hr hs' h0
 rw[Bool.eq_iff_iff]
 constructor
 ·intro h
  unfold GA at h
  obtain⟨h1,h2⟩:=Bool.and_eq_true_iff.1 h
  refine List.all_eq_true.2 fun r hr=> ?_
  have hr:=List.mem_range.1 hr
  have hr2:=List.all_eq_true.1 h2 r (List.mem_range.2 hr)
  obtain⟨a1,a2⟩:=ar r hr
  unfold CT
  by_cases e:r=0
  ·subst e
   rw[a1] at h1
   have h1: ¬Cu (rg rs 0) (rg rs 0).length≤0:=by simpa using h1
   rw[dT (by omega)]
   exact Bool.and_eq_true_iff.2 ⟨I,List.all_eq_true.2 fun k _=>by unfold EY;simp⟩
  ·unfold Qw at hr2
   rw[beq_eq_false_iff_ne.2 e,Bool.false_or,a1] at hr2
   obtain⟨b1,b2⟩:=Bool.and_eq_true_iff.1 hr2
   have b1: ¬Cu (rg rs r) (rg rs r).length≥0:=by simpa using b1
   rw[dF (by omega),beq_eq_false_iff_ne.2 e, ←all r hr e,b2];rfl
 ·intro h
  have pr: ∀r,r<rs.length→CT rs r=true:=fun r hr=>List.all_eq_true.1 h r (List.mem_range.2 hr)
  unfold GA
  have h0:=pr 0 hpos
  unfold CT at h0
  obtain⟨c1,_⟩:=Bool.and_eq_true_iff.1 h0
  obtain⟨a1,a2⟩:=ar 0 hpos
  have c2:Cu (rg rs 0) (rg rs 0).length>0:=by simpa using c1
  rw[a1,dF (by omega),Bool.not_false,Bool.true_and]
  refine List.all_eq_true.2 fun r hr=> ?_
  have hr:=List.mem_range.1 hr
  unfold Qw
  by_cases e:r=0
  ·subst e;rfl
  ·have h1:=pr r hr
   unfold CT at h1
   obtain⟨d1,d2⟩:=Bool.and_eq_true_iff.1 h1
   obtain⟨a1,a2⟩:=ar r hr
   rw[beq_eq_false_iff_ne.2 e,beq_iff_eq,decide_eq_false_iff_not] at d1
   rw[a1,dF (by omega),all r hr e,d2]
   simp
theorem Uu (rs:List (List Sd)):Ls rs=chk rs:=by
 unfold Ls chk
 by_cases hN:rs.any (fun l=>l.length==0)=true
 ·rw[if_pos hN,if_pos hN]
 rw[if_neg hN,if_neg hN]
 by_cases h0:tot rs=0
 ·rw[if_pos h0,if_pos h0]
 rw[if_neg h0,if_neg h0]
 by_cases h1:tot rs>24
 ·rw[if_pos h1,if_pos h1]
 rw[if_neg h1,if_neg h1]
 by_cases h2:rs.flatten.any (fun s=> !rgd s)=true
 ·rw[if_pos h2,if_pos h2]
 rw[if_neg h2,if_neg h2]
 have hg: ∀l∈rs, ∀s∈l,rgd s=true:=Us (by simpa using h2)
 have hin:RX rs:=fun l hl s hs=>Rs (hg l hl s hs)
 have e3:rs.any (fun l=> !Ic l)=rs.any (fun l=> !shp l):=by
  rw[Bool.eq_iff_iff,List.any_eq_true,List.any_eq_true]
  constructor<;>rintro⟨l,hl,h⟩
  ·exact⟨l,hl,by rw[←S7 (hin l hl)];exact h⟩
  ·exact⟨l,hl,by rw[S7 (hin l hl)];exact h⟩
 rw[e3]
 by_cases h3:rs.any (fun l=> !shp l)=true
 ·rw[if_pos h3,if_pos h3]
 rw[if_neg h3,if_neg h3]
 have hs: ∀l∈rs,shp l=true:=fun l hl=>by
  cases h:shp l with
  |true=>rfl
  |false=>exact absurd (List.any_eq_true.2 ⟨l,hl,by rw[h];rfl⟩) h3
 by_cases h4:crs rs=true
 ·rw[if_pos h4,if_pos h4]
 rw[if_neg h4,if_neg h4]
 have hpos:0<rs.length:=by
  cases rs with
  |nil=>exact absurd rfl h0
  |cons x rs=>simp
 rw[Vk hin hs (by simpa using h4) (by omega) hpos,Vz hin hs]
end
section
open Go Go.RowKit Go.Am
set_option maxRecDepth 10000
-- BOXES 1
theorem II (W:World) (p:Option Addr) (cap:Nat) (rs:List (List Sd)) (hn:rs.length<4611686018427387904) (hT:tot rs<1099511627776) (hR:Bv W p rs):
  Ae Tryz.prog 49 #[D8 p rs.length cap] W (fun _:Unit=> .int .i64 (chk rs)) (fun _=>True) (fun _=>[]):=
 (N8 W p cap rs hn hT hR).cast (by rw[Uu])
end
section
open Go Go.RowKit Go.Am Go.Lib
set_option maxRecDepth 10000
-- BOXES 5
-- CODE2
section
variable {r:Option Nat} {n:Nat} {P:Program} {N:Nat} {D:List Deferred} {ops:List Oper} {Q:Exit→Act→World→Prop} {o:Oper} {rest:List Oper} {env:Env} {A:World→Prop}
theorem Mu {ρ:Operand→Value} {t e:TypeId} {m c:Nat} {x y:Operand} {k:IntKind} {b off:Nat} {z:Int} (ht:P.underlying t=some (.array m e)) (hs: ∀W,(Go.sizeOf e).run P W= .ok c W) (ho:o.op= .indexAddr t x y)
  (hx:ρ x= .pointer (some ⟨b,off,none⟩)) (hy:ρ y= .int k z) (h0:0≤z∧z<m) (W:World):(execOp ρ o).run P W= .ok (.value (.pointer (some ⟨b,off+z.toNat*c,none⟩))) W:=by
 simp[execOp,ho,hx,hy,Instr.indexAt,Instr.sureAddr,asIntOf,run_underlying ht,hs,h0.1,h0.2,Addr.add_none]
theorem NO {d:Nat} {t e:TypeId} {m c:Nat} {x y:Operand} {k:IntKind} {b off:Nat} {z:Int} (ht:P.underlying t=some (.array m e)) (hs: ∀W,(Go.sizeOf e).run P W= .ok c W) (hg:Ax ops N env o=some true) (hd:o.dst=some d) (ho:o.op= .indexAddr t x y)
  (hx:evO N env x=some (.pointer (some ⟨b,off,none⟩))) (hy:evO N env y=some (.int k z)) (h0:0≤z∧z<m)
  (h:WL r n P N D ops Q rest ((d, .pointer (some ⟨b,off+z.toNat*c,none⟩))::env) A):WL r n P N D ops Q (o::rest) env A:=
 Du hg hd (fun c e=>by rw[ho] at e;cases e) (fun _ W hρ _=>Mu ht hs ho (hρ _ _ hx) (hρ _ _ hy) h0 W) h
end
def hdg (s t:Sd):Nat:=if s.x<t.x then 0 else if s.y<t.y then 1 else if t.x<s.x then 2 else 3
theorem VG (s t:Sd):hdg s t<4:=by
 unfold hdg
 split
 ·decide
 ·split
  ·decide
  ·split<;>decide
theorem M2 (s t:Sd) (W:World):Ae Tryz.prog 153 #[s.val,t.val] W (fun _:Unit=> .int .i64 (hdg s t:Nat)) (fun _=>True) (fun _=>[]):=by
 refine Ab (args:=[s.val,t.val]) Tryz.func153 I I I ?_
 refine zA (zB ?_)
 (refine Ay rfl rfl rfl rfl ?_;intro)
 (refine Ay rfl rfl rfl rfl ?_;intro)
 refine wP I (Aa (zE (zA (zH (zA (zB (wP I (wB 1 I I I (wP I (wB 0 I I I (wP I (wP I (Aa ?_)))))))))))))
 refine zE ?_
 refine Af I (fun h=> ?_) (fun h=> ?_)
 ·have c:s.x<t.x:=by have h:=of_decide_eq_true h;omega
  clear h
  have e:hdg s t=0:=by unfold hdg;rw[if_pos c]
  exact zA (zB (wP I (Aa (zE (zO (zQ (zP (wR1 I I (by rw[e];rfl)))))))))
 have c1: ¬s.x<t.x:=by have h:=of_decide_eq_false h;omega
 clear h
 refine zA (zB (wP I (wB 1 I I I (wP I (wB 0 I I I (wP I (wP I (Aa (zE ?_)))))))))
 refine Af I (fun h=> ?_) (fun h=> ?_)
 ·have c:s.y<t.y:=by have h:=of_decide_eq_true h;omega
  clear h
  have e:hdg s t=1:=by unfold hdg;rw[if_neg c1,if_pos c]
  exact zA (zB (wP I (Aa (zE (zO (zQ (zP (wR1 I I (by rw[e];rfl)))))))))
 have c2: ¬s.y<t.y:=by have h:=of_decide_eq_false h;omega
 clear h
 refine zA (zB (wP I (wB 1 I I I (wP I (wB 0 I I I (wP I (wP I (Aa (zE ?_)))))))))
 refine Af I (fun h=> ?_) (fun h=> ?_)
 ·have c:t.x<s.x:=by have h:=of_decide_eq_true h;omega
  clear h
  have e:hdg s t=2:=by unfold hdg;rw[if_neg c1,if_neg c2,if_pos c]
  exact zA (zB (wP I (Aa (zE (zO (zQ (zP (wR1 I I (by rw[e];rfl)))))))))
 have c3: ¬t.x<s.x:=by have h:=of_decide_eq_false h;omega
 clear h
 have e:hdg s t=3:=by unfold hdg;rw[if_neg c1,if_neg c2,if_neg c3]
 exact zI (zN (zE (zA (zB (wP I (Aa (zE (zO (wR1 I I (by rw[e];rfl))))))))))
def MU (k:Nat):Bool:=k==1||k==3
def Rb (k:Nat):Int:=if k=0∨k=3 then 1 else -1
abbrev VH:List Value:=[.bool false, .int .i64 1, .bool true, .int .i64 (-1), .bool false, .int .i64 (-1), .bool true, .int .i64 1]
def LQ (W:World):Prop:=Az W 0 0 VH
theorem LQ.hp {W0 W:World} {bxs:List Bx} (h:LQ W0) (hp:Hp W0 bxs W):LQ W:=Az.hp h hp
theorem LQ.at_ {W:World} (h:LQ W) {k:Nat} (hk:k<4):Az W 0 (0+k*2) [.bool (MU k), .int .i64 (Rb k)]:=by
 refine⟨h.lt,fun m u hu=> ?_⟩
 have hm:m=0∨m=1:=by
  have:=(List.getElem?_eq_some_iff.1 hu).1
  have:m<2:=this
  omega
 have hk:k=0∨k=1∨k=2∨k=3:=by omega
 have hg:=h.get (k*2+m) u (by
  rcases hk with rfl|rfl|rfl|rfl<;>rcases hm with rfl|rfl<;>exact hu)
 rw[Nat.zero_add] at hg
 rw[Nat.zero_add]
 exact hg
def frO (s t:Sd):FrP:=⟨MU (hdg s t),if MU (hdg s t) then s.x else s.y,Rb (hdg s t),if s.gable then 0 else nrm s.run s.rise,(s.plate:Rat)⟩
theorem M4 {s:Sd} (h:rgd s=true):(0≤s.x∧s.x≤65536)∧(0≤s.y∧s.y≤65536)∧(0≤s.plate∧s.plate≤65536)∧(s.gable=false→(1≤s.rise∧s.rise≤48)∧(1≤s.run∧s.run≤48)):=by
 unfold rgd btw at h
 simp only[Bool.and_eq_true,decide_eq_true_eq] at h
 obtain⟨h1,⟨⟨h2,h3⟩,h4⟩,h5⟩:=h
 refine⟨h2,h3,h4,fun e=> ?_⟩
 rw[e] at h1
 simpa using h1
theorem RI (s t:Sd) (h:rgd s=true) (W:World) (hd:LQ W) (ht:AH W):Ae Tryz.prog 93 #[s.val,t.val] W (fun _:Unit=>frV (frO s t)) (fun _=>True) (fun _=>[]):=by
 obtain⟨hx,hy,hp,hr⟩:=M4 h
 obtain⟨k,hk⟩: ∃k,k=hdg s t:=⟨_,rfl⟩
 have hk4:k<4:=hk▸VG s t
 obtain⟨ax,hax⟩: ∃ax,ax=MU k:=⟨_,rfl⟩
 obtain⟨dd,hdd⟩: ∃dd,dd=Rb k:=⟨_,rfl⟩
 have hrow: ∀ {W1:World} {bxs:List Bx},Hp W bxs W1→Az W1 0 (0+((k:Nat):Int).toNat*2) [.bool ax, .int .i64 dd]:=fun hp1=>by
  rw[Int.toNat_natCast,hax,hdd]
  exact(hd.hp hp1).at_ hk4
 have hf:frO s t=⟨ax,if ax then s.x else s.y,dd,if s.gable then 0 else nrm s.run s.rise,(s.plate:Rat)⟩:=by unfold frO;rw[←hk, ←hax, ←hdd]
 obtain⟨ps,hps⟩: ∃ps,ps=(if ax then s.x else s.y):=⟨_,rfl⟩
 obtain⟨sp,hsp⟩: ∃sp:Rat,sp=(if s.gable then 0 else nrm s.run s.rise):=⟨_,rfl⟩
 rw[←hps, ←hsp] at hf
 rw[hf]
 refine Ab (args:=[s.val,t.val]) Tryz.func93 I I I ?_
 refine zA (zB ?_)
 (refine Ay rfl rfl rfl rfl ?_;intro)
 (refine Ay rfl rfl rfl rfl ?_;intro)
 (refine Ah Tryz.hZ rfl rfl rfl rfl ?_;intro)
 refine Aa ?_
 rename_i b2 b3 b4
 refine zE (zA (zB (wB 0 I I I (wB 1 I I I (wC I I (fun W _=>(M2 s t W).cast (by rw[←hk])) ?_)))))
 refine NO (c:=2) Tryz.underlying150 Tryz.sizeOf149 I I I I I ⟨by omega,by omega⟩ ?_
 refine wL 0 I I (fun W1 hp=>hrow hp) I ?_
 (refine Ah Tryz.hZ rfl rfl rfl rfl ?_;intro)
 refine wS 3 I I I (Aa ?_)
 rename_i b5
 refine zE (zA (zB (wP I (wB 3 I I I (wP I (wB 0 I I I (wP I (wB 3 I I I ?_))))))))
 refine Au Tryz.hZ tH I I I I I I I I ?_
 (refine Ah Tryz.hZ rfl rfl rfl rfl ?_;intro)
 refine wS 4 I I I (Aa ?_)
 rename_i b6
 refine zE (zA (zA (zB (wP I (wB 3 I I I (Aa (As ?_)))))))
 try refine An ?_
 refine Av (X:=Unit) (fun _=>[(2,Ao b2),(4,Ao b4),(5,Ao b5),(6,Ao b6)]) (fun _=>[⟨b2,80,s.cells,true,none⟩,⟨b4,48,[.bool false, .int .i64 0, .int .i64 0,str [],str []],true,none⟩,⟨b6,48,[.bool ax, .int .i64 ps, .int .i64 dd,str (Ac 0),str []],true,none⟩]) (fun _=>True) ?_ ?_
 ·refine Af I (fun h1=> ?_) (fun h1=> ?_)
  ·have e1:ax=true:=h1
   exact zB (wP I (wB 0 I I I (wP I (wS 4 I I I (Aa (Hr () O ⟨I,I,I,I,O⟩ [0,2,4] (by decide) (by rw[hps,if_pos e1,FS];rfl)))))))
  ·have e1:ax=false:=h1
   exact zI (Hr () O ⟨I,I,I,I,O⟩ [0,2,4] (by decide) (by rw[hps,if_neg (by rw[e1];decide),FS];rfl))
 intro _ _
 refine zA (zA (zB (wP I (wB 0 I I I (wP I (Aa (As ?_)))))))
 try refine An ?_
 refine Av (X:=Unit) (fun _=>[(2,Ao b2),(4,Ao b4),(6,Ao b6)]) (fun _=>[⟨b2,80,s.cells,true,none⟩,⟨b4,48,[.bool false, .int .i64 0, .int .i64 0,str [],str []],true,none⟩,⟨b6,48,[.bool ax, .int .i64 ps, .int .i64 dd,str (Ac sp),str []],true,none⟩]) (fun _=>True) ?_ ?_
 ·refine Af I (fun h1=> ?_) (fun h1=> ?_)
  ·have e1:s.gable=false:=by simpa using h1
   obtain⟨r1,r2⟩:=hr e1
   exact zB (wP I (wB 0 I I I (wP I (wB 0 I I I (wC I I (fun W1 hp=>(Jt s.run s.rise (by omega) (by omega) W1 (ht.hp hp)).cast (by rw[ofR,if_neg (by omega)])) (wP I (wP I (wP I (wP I (wS 2 I I I (Aa (Hr () O ⟨I,I,I,O⟩ [0,1,2] (by decide) (by rw[hsp,if_neg (by rw[e1];decide)];rfl)))))))))))))
  ·have e1:s.gable=true:=by simpa using h1
   exact zI (Hr () O ⟨I,I,I,O⟩ [0,1,2] (by decide) (by rw[hsp,if_pos e1];rfl))
 intro _ _
 refine zA (zB (wP I (wB 0 I I I (wC I I (fun W1 hp=>(Jt s.plate 1 (by omega) (by decide) W1 (ht.hp hp)).cast (by rw[Rd])) (wP I (wP I (wP I (wP I (wS 2 I I I (Aa (zE (zA (zB ?_)))))))))))))
 exact wB 2 I I I (wS 1 I I I (Aa (zE (zO (AB tH I (.cell 1 I I I I I) () I O fun W _=>At.nil _ _)))))
-- BOXES 4
-- CODE2
def SZ (l:List Sd) (i:Nat):FrP:=frO (sd l i) (sd l (nxt l.length i))
def Dh (l:List Sd) (i:Nat):List FrP:=(List.range i).map (SZ l)
def AW (rs:List (List Sd)):Nat→List FrP
 |0=>[]
 |k+1=>AW rs k++Dh (rg rs k) (rg rs k).length
def KI (rs:List (List Sd)):List FrP:=AW rs rs.length
def frC (l:List FrP):List Value:=l.flatMap fun f=>(frV f).cells.toList
theorem NP (a b:List FrP):frC (a++b)=frC a++frC b:=List.flatMap_append
theorem U3 (l:List FrP):(frC l).length=l.length*5:=by
 induction l with
 |nil=>rfl
 |cons f l ih=>show((frV f).cells.toList++frC l).length=_;rw[List.length_append,ih,List.length_cons];show 5+_=_;omega
theorem Mb (l:List Sd) (i:Nat):(Dh l i).length=i:=by unfold Dh;rw[List.length_map,List.length_range]
theorem MF (l:List Sd) (i:Nat):Dh l (i+1)=Dh l i++[SZ l i]:=by unfold Dh;rw[List.range_succ,List.map_append];rfl
theorem Ih {rs:List (List Sd)}: ∀k,k≤rs.length→(AW rs k).length=tot (rs.take k)
 |0,_=>rfl
 |k+1,h=>by
  show(AW rs k++Dh _ _).length=_
  rw[List.length_append,Ih k (by omega),Mb,Bg h]
theorem Td (rs:List (List Sd)):(KI rs).length=tot rs:=by
 unfold KI
 rw[Ih _ (Nat.le_refl _),List.take_length]
theorem Q3 (W:World) (p:Option Addr) (cap:Nat) (rs:List (List Sd)) (hn:rs.length<4611686018427387904) (hR:Bv W p rs) (hc:chk rs=0) (hd:LQ W) (ht:AH W):
  Ae Tryz.prog 41 #[D8 p rs.length cap] W (fun V:Vec=> .tuple #[V.val (KI rs).length, .int .i64 0]) (fun V=>V.OK 5 (KI rs).length (frC (KI rs))) (fun V=>[V.bx 48 (frC (KI rs))]):=by
 obtain⟨hne,hT,_⟩:=PU hc
 obtain⟨hrg,_⟩:=Jp hc
 refine Ab (args:=[D8 p rs.length cap]) Tryz.func41 I I I ?_
 refine zA (zB ?_)
 (refine Ay rfl rfl rfl rfl ?_;intro)
 refine wP I (wP I (Aa ?_))
 rename_i b1
 refine zE (zA (zA (zB (wB 0 I I I (wC I I (fun W1 hp=>(JH W1 p cap rs hn (by omega) (hR.hp hp)).cast (by rw[hc])) (wP I (Aa (zE (zS I (zI (zE (zA (zB ?_)))))))))))))
 refine wP I (Aa (zE (zA (zA (zB (wP I (wB 0 I I I (wP I (wP I (Aa (zE (zH ?_))))))))))))
 refine HS ?_
 refine Ar (X:=Nat×Vec) (fun s=>[(1,Ao b1),(4,s.2.val (AW rs s.1).length),(13,slv p rs.length cap),(14, .int .i64 (rs.length:Nat)),(15, .int .i64 (s.1:Nat))]) (fun s=>[⟨b1,24,[slv p rs.length cap],true,none⟩,s.2.bx 48 (frC (AW rs s.1))])
  (fun s=>s.1≤rs.length∧s.2.OK 5 (AW rs s.1).length (frC (AW rs s.1))) (fun s=>rs.length-s.1) (0,Vec.empty) ⟨Nat.zero_le _,Vec.OK.empty 5⟩ ⟨rfl,rfl,rfl,rfl,rfl,trivial⟩ [] rfl ?_
 rintro⟨k,V⟩ ⟨hk,hV⟩
 have hk:k≤rs.length:=hk
 have hV:V.OK 5 (AW rs k).length (frC (AW rs k)):=hV
 have hl:=Ih k hk
 refine zA (zB (wP I ?_))
 by_cases hlt:k<rs.length
 ·refine wU 16 true I (dT (by omega)) (Aa (zE (zA (zR I (zI (zE (zA (zH (zA (zB ?_))))))))))
  obtain⟨l,hle⟩: ∃l,l=rg rs k:=⟨_,rfl⟩
  have hs:=Bg hlt
  have hs1:=Ci rs (k+1)
  obtain⟨gR,oR,hpe,hrows⟩:=hR.row hlt
  obtain⟨q,c,hrow,hring⟩:=hrows k hlt
  rw[←hle] at hrow hring hs
  have hrl: ∀s∈l,rgd s=true:=fun s hs=>hrg l (by rw[hle];exact List.mem_of_getElem? (Bf hlt)) s hs
  have hln:l.length≤24:=by omega
  subst hpe
  refine wJ ?_
  refine wL 0 I I (fun W1 hp=>hrow.hp hp) I (wP I (Aa (zE (zA (zB (wP I (wP I (wP I (Aa (zE (zH ?_)))))))))))
  refine Ar (X:=Nat×Vec) (fun s=>[(1,Ao b1),(4,s.2.val ((AW rs k).length+s.1)),(13,slv (some ⟨gR,oR,none⟩) rs.length cap),(14, .int .i64 (rs.length:Nat)),(15, .int .i64 (k:Nat)),(6,slv q l.length c),(19,slv q l.length c),(20, .int .i64 (l.length:Nat)),(21, .int .i64 (s.1:Nat))]) (fun s=>[⟨b1,24,[slv (some ⟨gR,oR,none⟩) rs.length cap],true,none⟩,s.2.bx 48 (frC (AW rs k++Dh l s.1))])
   (fun s=>s.1≤l.length∧s.2.OK 5 ((AW rs k).length+s.1) (frC (AW rs k++Dh l s.1))) (fun s=>l.length-s.1) (0,V) ⟨Nat.zero_le _,by show V.OK 5 _ (frC (AW rs k++[]));rw[List.append_nil];exact hV⟩ ⟨rfl,rfl,rfl,rfl,rfl,rfl,rfl,rfl,rfl,trivial⟩ [] (by show _=[_,V.bx 48 (frC (AW rs k++[]))]++[];rw[List.append_nil,List.append_nil]) ?_
  rintro⟨i,U⟩ ⟨hi,hU⟩
  have hi:i≤l.length:=hi
  have hU:U.OK 5 ((AW rs k).length+i) (frC (AW rs k++Dh l i)):=hU
  refine zA (zB (wP I ?_))
  by_cases hil:i<l.length
  ·refine wU 22 true I (dT (by omega)) (Aa (zE (zA (zR I (zI (zE (zA (zH (zA (zB ?_))))))))))
   obtain⟨gS,oS,hqe,hsd⟩:=hring.row hil
   have hs0:=hsd i hil
   have hs1:=hsd (nxt l.length i) (Dq hil)
   have hnl:=Dq hil
   have hsuc:=MF l i
   subst hqe
   refine wP I ?_
   refine wJ ?_
   refine wL 0 I I (fun W1 hp=>hs0.hp hp) I ?_
   (refine Ah Tryz.hZ rfl rfl rfl rfl ?_;intro)
   refine wP I (wS 2 I I I (Aa ?_))
   rename_i b8
   refine zE ?_
   refine Cb (X:= { V':Vec//V'.OK 5 ((AW rs k).length+(i+1)) (frC (AW rs k++Dh l (i+1))) }) [true,true,true,true,true,true,true,true,true,true,true,false,false,false] (fun V'=>[(1,Ao b1),(4,V'.1.val ((AW rs k).length+(i+1))),(13,slv (some ⟨gR,oR,none⟩) rs.length cap),(14, .int .i64 (rs.length:Nat)),(15, .int .i64 (k:Nat)),(6,slv (some ⟨gS,oS,none⟩) l.length c),(19,slv (some ⟨gS,oS,none⟩) l.length c),(20, .int .i64 (l.length:Nat)),(21, .int .i64 (i:Nat))])
    (fun V'=>[⟨b1,24,[slv (some ⟨gR,oR,none⟩) rs.length cap],true,none⟩,V'.1.bx 48 (frC (AW rs k++Dh l (i+1)))])
    3 [⟨b1,24,[slv (some ⟨gR,oR,none⟩) rs.length cap],true,none⟩,U.bx 48 (frC (AW rs k++Dh l i)),⟨b8,80,(sd l i).cells,true,none⟩] Tryz.mixed (by kernel_rfl) ?_ ?_
   ·refine qP I (qB 2 I I I (qP I (qP I (qP I (qV 30 ((i+1:Nat):Int) I (A4 (by omega)) (qP I (qP I ?_)))))))
    refine DU I I I I I (by omega) ?_
    refine qV 33 (nxt l.length i:Nat) I (by rw[Int.tmod_eq_emod_of_nonneg (by omega)];exact(Int.natCast_emod _ _).symm) ?_
    refine qJ ?_
    refine qL 0 I I (fun W1 hp=>hs1.hp hp) I (qC I I (fun W1 hp=>RI (sd l i) (sd l (nxt l.length i)) (hrl _ (List.mem_of_getElem? (Lr hil))) W1 (hd.hp hp) (ht.hp hp)) (DL (wX (wZ ?_))))
    refine A3 Tryz.hZ tH I I I I I I I I I I I fun bN=> ?_
    refine Aa (Al (wX (wZ ?_)))
    refine AK (V:=U) (len:=(AW rs k).length+i) (xs:=frC (AW rs k++Dh l i)) 1 3 Tryz.vec63 ((AW rs k).length+(i+1)) (frC (AW rs k++Dh l (i+1))) rfl rfl rfl rfl rfl rfl rfl rfl rfl rfl rfl hU rfl rfl rfl (by rw[hsuc, ←List.append_assoc,NP (AW rs k++Dh l i)];rfl) (by simp only[maxLen];omega) (by omega) rfl ?_;intro gV cV jV hV1
    refine Aa (Al (wY (wZ (wP I (Aa (Al ?_))))))
    refine AR I (by kernel_rfl) ?_
    exact AE ⟨⟨some gV,cV,jV⟩,hV1⟩ ⟨I,I,I,I,I,I,I,I,I,O⟩ [0,1] (by decide) I
   intro V'
   exact zN (zE (zB (wP I (wV 39 ((i+1:Nat):Int) I (A4 (by omega)) (wP I (Aa (Ak (i+1,V'.1) ⟨hil,V'.2⟩ (by show l.length-(i+1)<l.length-i;omega) ⟨I,I,I,I,I,I,I,I,I,O⟩ [] I)))))))
  have e:i=l.length:=by omega
  subst e
  refine wU 22 false I (dF (by omega)) (Aa (zE (zA (zS I (zJ (zK (zK (zL (zN (zE (zB ?_)))))))))))
  have hall:AW rs (k+1)=AW rs k++Dh l l.length:=by rw[hle];rfl
  have hall2:(AW rs (k+1)).length=(AW rs k).length+l.length:=by rw[hall,List.length_append,Mb]
  exact wP I (wV 40 ((k+1:Nat):Int) I (A4 (by omega)) (wP I (Aa (Ak (k+1,U) ⟨hlt,by show U.OK 5 (AW rs (k+1)).length (frC (AW rs (k+1)));rw[hall2,hall];exact hU⟩ (by show rs.length-(k+1)<rs.length-k;omega) ⟨I,by show some (U.val _)=some (U.val (AW rs (k+1)).length);rw[hall2],I,I,I,O⟩ [] (by show _=[_,U.bx 48 (frC (AW rs (k+1)))]++[];rw[hall];rfl)))))
 have e:k=rs.length:=by omega
 subst e
 refine wU 16 false I (dF (by omega)) (Aa (zE (zA (zS I (zJ (zK (zK (zL (zE (zA (zB (wP I (wP I (wP I ?_))))))))))))))
 exact Aa (zE (zO (AJ tH I (.tmp I) (.tmp I) V I hV fun W1 hp=>At.of_hp (hp.pick (l:=[V.bx 48 (frC (AW rs rs.length))]) [1] (by decide) I))))
-- BOXES 4
structure Ws (b1 b2:Nat) (f g:FrP) (W:World):Prop where
 f:Az W b1 0 (frV f).cells.toList
 g:Az W b2 0 (frV g).cells.toList
 v:B9 W
 t:AH W
structure Rk (f g:FrP):Prop where
 d1:f.vel≠0→Sz2 (Ck f g) f.vel
 a1:f.vel≠0→Sz2 f.st (Ck f g/f.vel)
 d2:g.vel≠0→Sz2 (Ck f g) g.vel
 a2:g.vel≠0→Sz2 g.st (Ck f g/g.vel)
 m1:Sz2 f.vel f.st
 m2:Sz2 g.vel g.st
 s:Sz2 (f.vel*f.st) (g.vel*g.st)
 a:Sz2 (Ck f g) (f.vel*f.st-g.vel*g.st)
 w:Sz2 f.vel g.vel
 d:f.vel≠g.vel→Sz2 (Ck f g+(f.vel*f.st-g.vel*g.st)) (f.vel-g.vel)
def mi3 (f:FrP):Nat:=if f.vel=0 then 2 else 3
def mi4 (f g:FrP):Nat:=if g.vel=0 then mi3 f else mi3 f+1
theorem VZ (f g:FrP):(AP f g).getD 0 0=f.st∧(AP f g).getD 1 0=g.st∧1<(AP f g).length:=by
 unfold AP
 by_cases h1:f.vel=0<;>by_cases h2:g.vel=0<;>by_cases h3:f.vel=g.vel<;>simp only[h1,h2,h3,if_true,if_false]<;>(try split)<;>simp
theorem Wr {f g:FrP} (h:f.vel≠0):(AP f g).getD 2 0=f.st+Ck f g/f.vel∧2<(AP f g).length:=by
 unfold AP
 by_cases h2:g.vel=0<;>by_cases h3:f.vel=g.vel<;>simp only[h,h2,h3,if_true,if_false]<;>(try split)<;>simp_all
theorem Wk {f g:FrP} (h:g.vel≠0):(AP f g).getD (mi3 f) 0=g.st-Ck f g/g.vel∧mi3 f<(AP f g).length∧mi4 f g=mi3 f+1:=by
 unfold AP mi4 mi3
 by_cases h2:f.vel=0<;>by_cases h3:f.vel=g.vel<;>simp only[h,h2,h3,if_true,if_false]<;>(try split)<;>simp_all
theorem Wm {f g:FrP} (h:f.vel≠g.vel):(AP f g).getD (mi4 f g) 0=(Ck f g+(f.vel*f.st-g.vel*g.st))/(f.vel-g.vel)∧mi4 f g<(AP f g).length∧(AP f g).length=mi4 f g+1:=by
 unfold AP mi4 mi3
 by_cases h2:f.vel=0<;>by_cases h3:g.vel=0<;>simp only[h,h2,h3,if_true,if_false]<;>(try split)<;>simp_all
theorem Wd {f g:FrP} (h:f.vel=g.vel):(AP f g).length=mi4 f g:=by
 unfold AP mi4 mi3
 by_cases h2:f.vel=0<;>by_cases h3:g.vel=0<;>simp_all
abbrev PA (l:List Rat) (k:Nat):List Value:=[str (Ac (l.getD k 0))]
theorem R8 (f g:FrP) (hf:f.OK) (hg:g.OK) (hz:Rk f g) (b1 b2:Nat):
  TJ Tryz.prog 154 [Ao b1,Ao b2] (AP f g).length (PA (AP f g)) (fun _=>Ws b1 b2 f g):=by
 refine⟨fun y J Jx hN hB hY W hJ=> ?_⟩
 have hG: ∀k,Vh (J k):=fun k W W' h hb=>hB k W W' h hb
 have hdr: ∀k W,J k W→J k { W with drawn:=W.drawn+1 }:=fun k W h=>hB k W _ h ⟨rfl,rfl,rfl,Nat.le_refl _,fun _ _=>rfl⟩
 obtain⟨e0,e1,l1⟩:=VZ f g
 have hY0: ∀W,J 0 W→YieldAt (Fw none) 0 Tryz.prog y [str (Ac f.st)].toArray W fun e W'=>(e= .returned (.bool true)∧J 1 W')∨(e= .returned (.bool false)∧Jx W'):=fun W h=>by
  have:=hY 0 W (by omega) h
  rwa [PA,e0] at this
 have hY1: ∀W,J 1 W→YieldAt (Fw none) 0 Tryz.prog y [str (Ac g.st)].toArray W fun e W'=>(e= .returned (.bool true)∧J 2 W')∨(e= .returned (.bool false)∧Jx W'):=fun W h=>by
  have:=hY 1 W (by omega) h
  rwa [PA,e1] at this
 refine EK (args:=[.func (.yield y) #[] #[],Ao b1,Ao b2]) (J0:=J 0) Tryz.func154 I I I hJ ?_
 refine zA (zA (zB (wP I (wP I (wL 4 I I (fun W hp=>(hN 0 W hp).f) I ?_)))))
 refine DO (A1:=J 1) (A2:=Jx) I I I I I I hY0 ?_ ?_
 rotate_left
 ·refine wP I (wP I ?_)
  iterate 5 refine Ad I I ?_
  exact wP I (zC (zE (zR I (zO (zP (Cc I (fun W h=>h)))))))
 refine wP I (wP I (wP I (wP I (wL 4 I I (fun W hp=>(hN 1 W hp).g) I ?_))))
 refine DO (A1:=J 2) (A2:=Jx) I I I I I I hY1 ?_ ?_
 rotate_left
 ·exact wP I (wP I (zC (zE (zR I (zO (zP (Cc I (fun W h=>h))))))))
 refine wP I (wP I (Aa (zE (zS I (zI (zE (zA ?_)))))))
 refine G3 6 (hdr 2) Tryz.mixed (by kernel_rfl) I ?_
 refine qL 0 I I (fun W hp=>(hN 2 W hp).f) I ?_
 refine BO (hG 2) I I I I I I (by kernel_rfl) (fun W hp=>BZ f hf W (hN 2 W hp).v (hN 2 W hp).t) ?_
 refine qL 0 I I (fun W hp=>(hN 2 W hp).g) I ?_
 refine BO (hG 2) I I I I I I (by kernel_rfl) (fun W hp=>BZ g hg W (hN 2 W hp).v (hN 2 W hp).t) ?_
 refine qP I (qP I (A0 (Aa (zE (zA ?_)))))
 refine G3 8 (hdr 2) Tryz.mixed (by kernel_rfl) I ?_
 refine qP I (qL 1 I I (fun W hp=>(hN 2 W hp).g) I ?_)
 refine BO (hG 2) I I I I I I (by kernel_rfl) (fun W hp=>Cs g.pos hg.pos64 W (hN 2 W hp).t) ?_
 refine qP I (qL 1 I I (fun W hp=>(hN 2 W hp).f) I ?_)
 refine BO (hG 2) I I I I I I (by kernel_rfl) (fun W hp=>Cs f.pos hf.pos64 W (hN 2 W hp).t) ?_
 refine BO (hG 2) I I I I I I (by kernel_rfl) (fun W hp=>DV (g.pos:Rat) (f.pos:Rat) (sz2 hg.posz hf.posz (by decide)) W (hN 2 W hp).v (hN 2 W hp).t) ?_
 refine qP I (A0 (Aa (zE (zA (zA ?_)))))
 -- the first one's velocity
 refine QM (X:=Bool) (fun s=>[(0, .func (.yield y) #[] #[]),(1,Ao b1),(2,Ao b2),(4,str (Ac f.vel)),(5,str (Ac g.vel)),(6,str (Ac (Ck f g))),(42, .bool s)]) (fun s=>match s with|true=>Jx|false=>J (mi3 f)) (fun _=>True) ?_ ?_
 ·skip
  refine G3 10 (hdr 2) Tryz.mixed (by kernel_rfl) I ?_
  refine qP I (qP I ?_)
  by_cases h:f.vel=0
  ·refine qU 31 false I (by show(!_)=false;rw[AD,FJ,dT h];rfl) (qP I ?_)
   iterate 7 refine B8 I I ?_
   refine zD ?_
   iterate 2 refine Ad I I ?_
   exact wP I (zC (Ht false O ⟨I,I,I,I,I,I,I,O⟩ (fun W hp=>by show J (mi3 f) W;rw[mi3,if_pos h];exact hp)))
  ·refine qU 31 true I (by show(!_)=true;rw[AD,FJ,dF h];rfl) ?_
   obtain⟨e2,l2⟩:=Wr (g:=g) h
   have hY2: ∀W,J 2 W→YieldAt (Fw none) 0 Tryz.prog y [str (Ac (f.st+Ck f g/f.vel))].toArray W fun e W'=>(e= .returned (.bool true)∧J 3 W')∨(e= .returned (.bool false)∧Jx W'):=fun W h=>by
    have:=hY 2 W (by omega) h
    rwa [PA,e2] at this
   refine qP I (qP I (qP I (qL 4 I I (fun W hp=>(hN 2 W hp).f) I (qP I (qP I ?_)))))
   refine BO (hG 2) I I I I I I (by kernel_rfl) (fun W hp=>Gp (Ck f g) f.vel (hz.d1 h) (by rwa [ne_eq,Rat.num_eq_zero]) W (hN 2 W hp).v (hN 2 W hp).t) ?_
   refine BO (hG 2) I I I I I I (by kernel_rfl) (fun W hp=>Ig f.st (Ck f g/f.vel) (hz.a1 h) W (hN 2 W hp).v (hN 2 W hp).t) ?_
   refine A0 ?_
   refine DO (A1:=J 3) (A2:=Jx) I I I I I I hY2 ?_ ?_
   ·exact wP I (wP I (zC (Ht false O ⟨I,I,I,I,I,I,I,O⟩ (fun W hp=>by show J (mi3 f) W;rw[mi3,if_neg h];exact hp))))
   ·exact wP I (wP I (zC (Ht true O ⟨I,I,I,I,I,I,I,O⟩ (fun W hp=>hp))))
 rintro(_|_) _
 rotate_left
 ·exact zR I (zO (zP (Cc I (fun W h=>h))))
 -- the second one's
 refine zS I (zI (zE (zA (zA ?_))))
 refine QM (X:=Bool) (fun s=>[(0, .func (.yield y) #[] #[]),(1,Ao b1),(2,Ao b2),(4,str (Ac f.vel)),(5,str (Ac g.vel)),(6,str (Ac (Ck f g))),(55, .bool s)]) (fun s=>match s with|true=>Jx|false=>J (mi4 f g)) (fun _=>True) ?_ ?_
 ·skip
  refine G3 10 (hdr (mi3 f)) Tryz.mixed (by kernel_rfl) I ?_
  refine qP I (qP I ?_)
  by_cases h:g.vel=0
  ·refine qU 44 false I (by show(!_)=false;rw[AD,FJ,dT h];rfl) (qP I ?_)
   iterate 7 refine B8 I I ?_
   refine zD ?_
   iterate 2 refine Ad I I ?_
   exact wP I (zC (Ht false O ⟨I,I,I,I,I,I,I,O⟩ (fun W hp=>by show J (mi4 f g) W;rw[mi4,if_pos h];exact hp)))
  ·refine qU 44 true I (by show(!_)=true;rw[AD,FJ,dF h];rfl) ?_
   obtain⟨e3,l3,l3'⟩:=Wk (f:=f) h
   have hY3: ∀W,J (mi3 f) W→YieldAt (Fw none) 0 Tryz.prog y [str (Ac (g.st-Ck f g/g.vel))].toArray W fun e W'=>(e= .returned (.bool true)∧J (mi3 f+1) W')∨(e= .returned (.bool false)∧Jx W'):=fun W h=>by
    have:=hY (mi3 f) W l3 h
    rwa [PA,e3] at this
   refine qP I (qP I (qP I (qL 4 I I (fun W hp=>(hN _ W hp).g) I (qP I (qP I ?_)))))
   refine BO (hG _) I I I I I I (by kernel_rfl) (fun W hp=>Gp (Ck f g) g.vel (hz.d2 h) (by rwa [ne_eq,Rat.num_eq_zero]) W (hN _ W hp).v (hN _ W hp).t) ?_
   refine BO (hG _) I I I I I I (by kernel_rfl) (fun W hp=>DV g.st (Ck f g/g.vel) (hz.a2 h) W (hN _ W hp).v (hN _ W hp).t) ?_
   refine A0 ?_
   refine DO (A1:=J (mi3 f+1)) (A2:=Jx) I I I I I I hY3 ?_ ?_
   ·exact wP I (wP I (zC (Ht false O ⟨I,I,I,I,I,I,I,O⟩ (fun W hp=>by show J (mi4 f g) W;rw[l3'];exact hp))))
   ·exact wP I (wP I (zC (Ht true O ⟨I,I,I,I,I,I,I,O⟩ (fun W hp=>hp))))
 rintro(_|_) _
 rotate_left
 ·exact zR I (zO (zP (Cc I (fun W h=>h))))
 -- where both move
 refine zS I (zI (zE (zA (zB (wP I (wP I (wP I ?_)))))))
 by_cases h:f.vel=g.vel
 ·exact wU 58 false I (by show(!_)=false;rw[AD,dT (by rw[h])];rfl) (zC (zE (zS I (zI (Hw I fun W hp=>by rw[Wd h];exact hp)))))
 ·refine wU 58 true I (by show(!_)=true;rw[AD,dF fun e=>h (Cf.1 e)];rfl) ?_
  obtain⟨e4,l4,l5⟩:=Wm h
  have hY4: ∀W,J (mi4 f g) W→YieldAt (Fw none) 0 Tryz.prog y [str (Ac ((Ck f g+(f.vel*f.st-g.vel*g.st))/(f.vel-g.vel)))].toArray W fun e W'=>(e= .returned (.bool true)∧J (mi4 f g+1) W')∨(e= .returned (.bool false)∧Jx W'):=fun W h=>by
   have:=hY (mi4 f g) W l4 h
   rwa [PA,e4] at this
  refine zC (zE (zR I ?_))
  refine G3 16 (hdr (mi4 f g)) Tryz.mixed (by kernel_rfl) I ?_
  refine qP I (qP I (qP I (qP I (qL 4 I I (fun W hp=>(hN _ W hp).f) I ?_))))
  refine BO (hG _) I I I I I I (by kernel_rfl) (fun W hp=>Fh f.vel f.st hz.m1 W (hN _ W hp).v (hN _ W hp).t) ?_
  refine qP I (qP I (qL 4 I I (fun W hp=>(hN _ W hp).g) I ?_))
  refine BO (hG _) I I I I I I (by kernel_rfl) (fun W hp=>Fh g.vel g.st hz.m2 W (hN _ W hp).v (hN _ W hp).t) ?_
  refine BO (hG _) I I I I I I (by kernel_rfl) (fun W hp=>DV (f.vel*f.st) (g.vel*g.st) hz.s W (hN _ W hp).v (hN _ W hp).t) ?_
  refine BO (hG _) I I I I I I (by kernel_rfl) (fun W hp=>Ig (Ck f g) (f.vel*f.st-g.vel*g.st) hz.a W (hN _ W hp).v (hN _ W hp).t) ?_
  refine qP I (qP I ?_)
  refine BO (hG _) I I I I I I (by kernel_rfl) (fun W hp=>DV f.vel g.vel hz.w W (hN _ W hp).v (hN _ W hp).t) ?_
  refine BO (hG _) I I I I I I (by kernel_rfl) (fun W hp=>Gp (Ck f g+(f.vel*f.st-g.vel*g.st)) (f.vel-g.vel) (hz.d h) (by rw[ne_eq,Rat.num_eq_zero];grind) W (hN _ W hp).v (hN _ W hp).t) ?_
  refine A0 ?_
  refine DO (A1:=J (mi4 f g+1)) (A2:=Jx) I I I I I I hY4 ?_ ?_
  ·exact zC (Hw I fun W hp=>by rw[l5];exact hp)
  ·exact zC (Ms I (fun W h=>h))
end
section
theorem Lc {x:Rat}: ∀(s:List Rat) (j:Nat),j≤s.length→(∀y∈s.take j, ¬x<y)→(∀y∈s.drop j,x<y)→GD x s=s.take j++x::s.drop j
 |[],j,hj,_,_=>by
  obtain rfl:j=0:=by simpa using hj
  rfl
 |y::l,0,_,_,h2=>by
  unfold GD
  rw[if_pos (h2 y (List.mem_cons_self ..))];rfl
 |y::l,j+1,hj,h1,h2=>by
  unfold GD
  rw[if_neg (h1 y (by simp)),Lc l j (by simpa using hj) (fun z hz=>h1 z (by simp[hz])) (fun z hz=>h2 z (by simpa using hz))]
  rfl
theorem Jl (l:List Rat):(Br l).length=l.length:=by
 have: ∀(l s:List Rat),(l.foldl (fun s x=>GD x s) s).length=l.length+s.length:=by
  intro l
  induction l with
  |nil=>exact fun s=>by simp
  |cons x l ih=>exact fun s=>by rw[List.foldl_cons,ih,O9,List.length_cons];omega
 rw[Br,this];simp
theorem Qd (l:List Rat) {i:Nat} (hi:i<l.length):Br (l.take (i+1))=GD l[i] (Br (l.take i)):=by
 rw[Br,List.take_add_one,List.getElem?_eq_getElem hi,List.foldl_append];rfl
theorem Ss {x:Rat} {s:List Rat} {j:Nat} (hs:s.Pairwise (· ≤ ·)) (hj:j≤s.length) (h2: ∀y∈s.drop j,x<y) (h1: ∀(h:0<j), ¬x<s[j-1]):GD x s=s.take j++x::s.drop j:=by
 refine Lc s j hj (fun y hy=> ?_) h2
 obtain⟨k,hk,rfl⟩:=List.getElem_of_mem hy
 have hk':k<j:=by simp at hk;omega
 rw[List.getElem_take]
 have h3:=h1 (by omega)
 refine Rat.not_lt.2 (Rat.le_trans ?_ (Rat.not_lt.1 h3))
 by_cases e:k=j-1
 ·subst e;exact Rat.le_refl
 ·exact List.pairwise_iff_getElem.1 hs k (j-1) (by omega) (by omega) (by omega)
theorem Jy:AS []=[]:=by rw[AS]
theorem Jr (x:Rat):AS [x]=[x]:=by rw[AS]
theorem EJ (x y:Rat) (l:List Rat):AS (x::y::l)=if y=x then AS (x::l) else x::AS (y::l):=by rw[AS]
theorem J8 (x y:Rat):AS [x,y]=if y=x then AS [x] else AS [x]++[y]:=by
 rw[EJ]
 by_cases h:y=x
 ·rw[if_pos h,if_pos h]
 ·rw[if_neg h,if_neg h,Jr,Jr];rfl
theorem HO (l:List Rat) (x y:Rat):AS (l++[x,y])=if y=x then AS (l++[x]) else AS (l++[x])++[y]:=by
 match l with
 |[]=>exact J8 x y
 |[a]=>
  show AS (a::x::[y])=if y=x then AS (a::x::[]) else AS (a::x::[])++[y]
  rw[EJ a x [y],EJ a x []]
  by_cases h2:x=a
  ·rw[if_pos h2,if_pos h2]
   subst h2
   exact J8 x y
  ·rw[if_neg h2,if_neg h2,J8 x y]
   by_cases h:y=x
   ·rw[if_pos h,if_pos h]
   ·rw[if_neg h,if_neg h];rfl
 |a::b::l=>
  show AS (a::b::(l++[x,y]))=if y=x then AS (a::b::(l++[x])) else AS (a::b::(l++[x]))++[y]
  rw[EJ a b (l++[x,y]),EJ a b (l++[x])]
  by_cases h2:b=a
  ·rw[if_pos h2,if_pos h2]
   exact HO (a::l) x y
  ·rw[if_neg h2,if_neg h2]
   have:=HO (b::l) x y
   rw[List.cons_append,List.cons_append] at this
   rw[this]
   by_cases h:y=x
   ·rw[if_pos h,if_pos h]
   ·rw[if_neg h,if_neg h];rfl
termination_by l.length
theorem MS (l:List Rat): ∀(m:Nat),m≤l.length→Lib.compactUpTo (l.map Ac).toArray m=(AS (l.take m)).map Ac
 |0,_=>by simp[Lib.compactUpTo,AS]
 |m+1,hm=>by
  have hb: ∀i (hi:i<l.length),(l.map Ac).toArray[i]! =Ac l[i]:=fun i hi=>by simp[hi]
  rw[Lib.compactUpTo_succ,MS l m (by omega),hb m (by omega)]
  have e1:l.take (m+1)=l.take m++[l[m]]:=by rw[List.take_add_one,List.getElem?_eq_getElem hm];rfl
  cases m with
  |zero=>
   rw[e1]
   have:Lib.keeps (l.map Ac).toArray 0=true:=Lib.keeps_lt_one _ 0 (by omega)
   rw[if_pos this,List.take_zero,List.nil_append,Jy,Jr]
   rfl
  |succ k=>
   have e2:l.take (k+1)=l.take k++[l[k]]:=by rw[List.take_add_one,List.getElem?_eq_getElem (by omega)];rfl
   rw[e1,e2,List.append_assoc]
   show _=(AS (l.take k++[l[k],l[k+1]])).map Ac
   rw[HO]
   have h1:Lib.keeps (l.map Ac).toArray (k+1)=decide (¬l[k+1]=l[k]):=by
    unfold Lib.keeps
    rw[decide_eq_decide,Nat.add_sub_cancel,hb (k+1) hm,hb k (by omega)]
    constructor
    ·rintro(h|h)
     ·omega
     ·exact fun e=>h (by rw[e])
    ·exact fun h=> .inr fun e=>h (Cf.1 e)
   rw[h1]
   by_cases h:l[k+1]=l[k]
   ·rw[if_pos h,if_neg (by simp[h]),List.append_nil]
   ·rw[if_neg h,if_pos (by simp[h]),List.map_append];rfl
theorem Nu (l:List Rat):Lib.compact (l.map Ac)=(AS l).map Ac:=by
 have:=MS l l.length (Nat.le_refl _)
 rw[List.take_length] at this
 rw[←this]
 unfold Lib.compact
 simp
end
end Go.Proofs.YtmblgcglonikiaaGreatDoor
namespace Go.Proofs
open Go.Shelf
def Tryz.lays125_ren:Go.Shelf.Ren:=⟨fun|125=>124|128=>193|129=>194|n=>n,fun|3=>3|4=>4|5=>5|9=>9|46=>136|51=>192|53=>194|n=>n,fun n=>n⟩
theorem Tryz.lays125:Go.Proofs.Lays.n125 Tryz.prog Tryz.lays125_ren:= {
 mixed:=by kernel_rfl
 f125:=Tryz.func124.trans (congrArg some (by kernel_rfl))
 f128:=Tryz.func193.trans (congrArg some (by kernel_rfl))
 f129:=Tryz.func194.trans (congrArg some (by kernel_rfl))
 t3:=Tryz.underlying3
 a3:=Tryz.isAgg3
 z3:=Tryz.sizeOf3
 v3:=Tryz.zeroValue3
 t4:=Tryz.underlying4
 a4:=Tryz.isAgg4
 z4:=Tryz.sizeOf4
 v4:=Tryz.zeroValue4
 t5:=Tryz.underlying5
 a5:=Tryz.isAgg5
 z5:=Tryz.sizeOf5
 v5:=Tryz.zeroValue5
 t9:=Tryz.underlying9
 a9:=Tryz.isAgg9
 z9:=Tryz.sizeOf9
 v9:=Tryz.zeroValue9
 t46:=Tryz.underlying136
 a46:=Tryz.isAgg136
 z46:=Tryz.sizeOf136
 v46:=Tryz.zeroValue136
 t51:=Tryz.underlying192
 a51:=Tryz.isAgg192
 z51:=Tryz.sizeOf192
 v51:=Tryz.zeroValue192
 t53:=Tryz.underlying194
 a53:=Tryz.isAgg194
 z53:=Tryz.sizeOf194
 v53:=Tryz.zeroValue194 }
def Tryz.laysN44_ren:Go.Shelf.Ren:=⟨fun|44=>97|n=>n,fun|0=>0|3=>3|4=>4|25=>31|26=>25|n=>n,fun n=>n⟩
theorem Tryz.laysN44:Go.Proofs.SlLaysN.n44 Tryz.prog Tryz.laysN44_ren:= {
 mixed:=by kernel_rfl
 f44:=⟨Tryz.f97.name,by kernel_rfl,Tryz.func97.trans (congrArg some (by kernel_rfl))⟩
 t0:=Tryz.underlying0
 a0:=Tryz.isAgg0
 z0:=Tryz.sizeOf0
 v0:=Tryz.zeroValue0
 t3:=Tryz.underlying3
 a3:=Tryz.isAgg3
 z3:=Tryz.sizeOf3
 v3:=Tryz.zeroValue3
 t4:=Tryz.underlying4
 a4:=Tryz.isAgg4
 z4:=Tryz.sizeOf4
 v4:=Tryz.zeroValue4
 t25:=Tryz.underlying31
 a25:=Tryz.isAgg31
 z25:=Tryz.sizeOf31
 v25:=Tryz.zeroValue31
 t26:=Tryz.underlying25
 a26:=Tryz.isAgg25
 z26:=Tryz.sizeOf25
 v26:=Tryz.zeroValue25
 i26:=by kernel_rfl }
end Go.Proofs
namespace Go.Proofs.YtmblgcglonikiaaGreatDoor
section
open Go Go.RowKit Go.Am Go.Lib
set_option maxRecDepth 10000
-- BOXES 3
abbrev nS (l:List Rat):List Value:=l.map fun q=>str (Ac q)
def Pg (cf:Nat):Prop:=Bt Tryz.prog cf=true∧ ∀(p q:Rat) (W:World),Sz2 p q→B9 W→AH W→Ae Tryz.prog cf #[str (Ac p),str (Ac q)] W (fun _:Unit=> .int .i64 (DP p q)) (fun _=>True) (fun _=>[])
structure Mg (W W':World) (g:Nat):Prop where
 os:W'.os=W.os
 tape:W'.tape=W.tape
 output:W'.output=W.output
 size:W.heap.size≤W'.heap.size
 at_: ∀x,x≠g→x<W.heap.size→W'.heap[x]? =W.heap[x]?
theorem Ni {W W':World} {g:Nat} {B:Bx} {o:Obj} (hg:W.heap[g]? =some o) (hB: ∃o',(g,o')∈B.blk) (hp:Hp (BV W) [CU (AG W g),B] W'):Mg W W' g:=by
 have c0: ∀p∈AG W g,W'.heap[p.1]? =some p.2:=fun p hq=>(hp.own.cell 0 _ rfl p hq).1
 have old: ∀x,x≠g→x<W.heap.size→W'.heap[x]? =W.heap[x]? :=fun x hx hlt=>by
  have h1:W.heap[x]? =some W.heap[x]:=Array.getElem?_eq_getElem hlt
  rw[h1]
  exact c0 (x,W.heap[x]) (Dr.2 ⟨hx,h1⟩)
 refine⟨hp.below.os,hp.below.tape,hp.below.output, ?_,old⟩
 have hlt:=(Array.getElem?_eq_some_iff.1 hg).1
 by_cases e:W.heap.size-1=g
 ·obtain⟨o',ho⟩:=hB
  have:=(Array.getElem?_eq_some_iff.1 (hp.own.cell 1 B rfl _ ho).1).1
  have h2:g<W'.heap.size:=this
  omega
 ·have h1:=old (W.heap.size-1) e (by omega)
  rw[Array.getElem?_eq_getElem (show W.heap.size-1<W.heap.size by omega)] at h1
  have:=(Array.getElem?_eq_some_iff.1 h1).1
  omega
theorem Mg.trans {W W1 W2:World} {g:Nat} (h:Mg W W1 g) (h':Mg W1 W2 g):Mg W W2 g:=
 ⟨h'.os.trans h.os,h'.tape.trans h.tape,h'.output.trans h.output,Nat.le_trans h.size h'.size,fun x hx hlt=>(h'.at_ x hx (Nat.lt_of_lt_of_le hlt h.size)).trans (h.at_ x hx hlt)⟩
theorem Mg.below {W0 W W':World} {g:Nat} (hk:Mg W W' g) (hb:Below W0.heap.size W0 W) (hg:W0.heap.size≤g):Below W0.heap.size W0 W':=
 ⟨hk.os.trans hb.os,hk.tape.trans hb.tape,hk.output.trans hb.output,Nat.le_trans hb.size hk.size,fun i hi=>(hk.at_ i (by omega) (Nat.lt_of_lt_of_le hi hb.size)).trans (hb.block i hi)⟩
theorem F2 {W0 W:World} {bxs:List Bx} (hp:Hp W0 bxs W) (k:Nat) {g:Nat} {e:TypeId} {xs A B C:List Value} {off:Nat} (hk:nth bxs k=some ⟨g,e,xs,true,none⟩) (hxs:xs=A++(B++C)) (hoff:off=A.length):Az W g off B:=by
 have h:=Az.of_bx hp k hk rfl
 refine⟨h.lt,fun m u hu=> ?_⟩
 have:=h.get (A.length+m) u (by
  show xs[A.length+m]? =some u
  rw[hxs,List.getElem?_append_right (by omega),Nat.add_sub_cancel_left,List.getElem?_append_left (List.getElem?_eq_some_iff.1 hu).1]
  exact hu)
 rw[Nat.zero_add, ←hoff] at this
 exact this
theorem Wg {r:Option Nat} {n:Nat} {P:Program} {W0:World} {N:Nat} {D:List Deferred} {c:Code} {Q:Exit→Act→World→Prop} {env:Env} {bxs bxs':List Bx} (e:bxs=bxs') (h:WC r n P N D c Q env (Hp W0 bxs')):WC r n P N D c Q env (Hp W0 bxs):=e▸h
abbrev DZ (g:Nat) (l:List Rat) (junk:List Value):Bx:=⟨g,25,nS l++junk,true,none⟩
theorem QJ (l:List Rat):Br (l.take 1)++l.drop 1=l:=by
 cases l with
 |nil=>rfl
 |cons x l=>rfl
theorem Qs (cf:Nat) (hcf:Pg cf) (W:World) (g cap:Nat) (l:List Rat) (junk:List Value) (hn:l.length<4611686018427387904) (hg:W.heap[g]? =some (.cells (nS l++junk).toArray 25 (0,0)))
  (hf: ∀W',Mg W W' g→B9 W'∧AH W') (hz: ∀p∈l, ∀q∈l,Sz2 p q):
  Calls Tryz.prog 226 #[.slice (some ⟨g,0,none⟩) l.length cap, .int .i64 0, .int .i64 (l.length:Nat), .func (.func cf) #[] #[]] W fun e W'=> ∃x:Unit,e= .returned ((fun _=> .tuple #[]) x)∧True∧Mt W W' g ((fun _=>g) x) ((fun _=> .cells (nS (Br l)++junk).toArray 25 (0,0)) x):=by
 have key:Calls Tryz.prog 226 [.slice (some ⟨g,0,none⟩) l.length cap, .int .i64 0, .int .i64 (l.length:Nat), .func (.func cf) #[] #[]].toArray W fun e W'=> ∃x:Unit,e= .returned ((fun _=> .tuple #[]) x)∧(fun _=>True) x∧Below (BV W).heap.size (BV W) W'∧At (BV W) W' ((fun _=>[CU (AG W g),DZ g (Br l) junk]) x):=by
  refine DH (X:=Unit) (val:=fun _=> .tuple #[]) (Φ:=fun _=>True) (nb:=fun _=>[CU (AG W g),DZ g (Br l) junk]) (Hp.enterT (B:=DZ g l junk) I hg) Tryz.func226 I I I ?_
  refine zA (zB (wP I (wP I (wP I (Aa (zE (zH ?_)))))))
  refine Ar (X:=Nat) (fun i=>[(0, .slice (some ⟨g,0,none⟩) l.length cap),(1, .int .i64 0),(2, .int .i64 (l.length:Nat)),(3, .func (.func cf) #[] #[]),(8, .int .i64 (i:Nat))]) (fun i=>[CU (AG W g),DZ g (Br (l.take i)++l.drop i) junk])
   (fun i=>1≤i∧(i≤l.length∨i=1)) (fun i=>l.length+1-i) 1 ⟨Nat.le_refl _, .inr rfl⟩ ⟨rfl,rfl,rfl,rfl,rfl,trivial⟩ [] (by rw[QJ];rfl) ?_
  rintro i ⟨hi1,hi2⟩
  refine zA (zA (zB (wP I (wP I (wP I ?_)))))
  by_cases hlt:i<l.length
  rotate_left
  ·refine wU 14 false I (dF (by omega)) (Aa (zE (zS I (zJ (zK (zK (zL ?_)))))))
   have e:Br (l.take i)++l.drop i=Br l:=by rw[List.take_of_length_le (by omega),List.drop_of_length_le (by omega),List.append_nil]
   refine Kv (X:=Unit) (val:=fun _=> .tuple #[]) (Φ:=fun _=>True) (nb:=fun _=>[CU (AG W g),DZ g (Br l) junk]) (fn:=Tryz.f226) tH I () I O fun W1 hp=> ?_
   rw[e] at hp
   exact(hp.pick (l:=[CU (AG W g),DZ g (Br l) junk]) [0,1] (by decide) I).own
  refine wU 14 true I (dT (by omega)) (Aa (zE (zR I (zI (zE (zA (zH (zA (zB (wP I (wP I (Aa (zE ?_)))))))))))))
  refine zH ?_
  obtain⟨s,hs⟩: ∃s,s=Br (l.take i):=⟨_,rfl⟩
  obtain⟨x,hx⟩: ∃x,x=l[i]:=⟨_,rfl⟩
  obtain⟨rr,hr⟩: ∃rr,rr=l.drop (i+1):=⟨_,rfl⟩
  have hsl:s.length=i:=by rw[hs,Jl,List.length_take];omega
  have hsort:s.Pairwise (· ≤ ·):=hs▸IK _
  have hdrop:l.drop i=x::rr:=by rw[hx,hr];exact List.drop_eq_getElem_cons hlt
  have hrl:rr.length=l.length-(i+1):=by rw[hr,List.length_drop]
  have hxl:x∈l:=hx▸List.getElem_mem hlt
  have hsm: ∀y∈s,y∈l:=fun y hy=>by rw[hs] at hy;exact List.mem_of_mem_take (MT.1 hy)
  have hnext: ∀j,j≤s.length→(∀y∈s.drop j,x<y)→(∀(h:0<j), ¬x<s[j-1]!)→s.take j++x::s.drop j++rr=Br (l.take (i+1))++l.drop (i+1):=fun j h1 h2 h3=>by
   rw[Qd l hlt, ←hs, ←hx, ←hr,Ss hsort h1 h2 fun h=>by have:=h3 h;rwa [getElem!_pos s (j-1) (by omega)] at this]
  refine Ar (X:=Nat) (fun j=>[(0, .slice (some ⟨g,0,none⟩) l.length cap),(1, .int .i64 0),(2, .int .i64 (l.length:Nat)),(3, .func (.func cf) #[] #[]),(8, .int .i64 (i:Nat)),(9, .int .i64 (j:Nat))]) (fun j=>[CU (AG W g),DZ g (s.take j++x::s.drop j++rr) junk])
   (fun j=>j≤s.length∧ ∀y∈s.drop j,x<y) (fun j=>j) i ⟨by omega,by rw[←hsl,List.drop_length];exact fun y hy=>absurd hy List.not_mem_nil⟩ ⟨rfl,rfl,rfl,rfl,rfl,rfl,trivial⟩ [] (by rw[←hs,hdrop, ←hsl,List.take_length,List.drop_length,List.append_assoc];rfl) ?_
  rintro j ⟨hj,hgt⟩
  have hj:j≤s.length:=hj
  have hgt: ∀y∈s.drop j,x<y:=hgt
  refine zA (zA (zU (qP I (qP I (qP I ?_)))))
  cases j with
  |zero=>
   refine HU 20 (.bool false) I I ?_
   refine qP I ?_
   iterate 12 refine B8 I I ?_
   refine qP I (A0 (Aa (zE (zS I (zJ (zK (zK (zL (zN (zE (zB (wP I (wP I ?_)))))))))))))
   refine wV 16 ((i+1:Nat):Int) I (A4 (by omega)) (wP I (Aa ?_))
   refine Ak (i+1) ⟨by show 1≤i+1;omega, .inl hlt⟩ (by show l.length+1-(i+1)<l.length+1-i;omega) ⟨I,I,I,I,I,O⟩ [] ?_
   rw[hnext 0 hj hgt fun h=>absurd h (by decide)];rfl
  |succ m=>
   have hm:m<s.length:=hj
   obtain⟨y,hy⟩: ∃y,y=s[m]:=⟨_,rfl⟩
   have hyl:y∈l:=hsm y (hy▸List.getElem_mem hm)
   have e1:s.take (m+1)=s.take m++[y]:=by rw[List.take_add_one,List.getElem?_eq_getElem hm,hy];rfl
   have e2:s.drop m=y::s.drop (m+1):=by rw[hy];exact List.drop_eq_getElem_cons hm
   have e3:s[m+1-1]! =y:=by rw[Nat.add_sub_cancel,getElem!_pos s m hm,hy]
   have hA:(nS (s.take m)).length=m:=by rw[List.length_map,List.length_take];omega
   obtain⟨C,hC⟩: ∃C,C=nS (s.drop (m+1)++rr)++junk:=⟨_,rfl⟩
   have row1:nS (s.take (m+1)++x::s.drop (m+1)++rr)++junk=nS (s.take m)++([str (Ac y),str (Ac x)]++C):=by rw[e1,hC];simp[nS]
   have row2:nS (s.take m++x::s.drop m++rr)++junk=nS (s.take m)++([str (Ac x),str (Ac y)]++C):=by rw[e2,hC];simp[nS]
   refine qU 20 true I (dT (by omega)) (qP I (qP I (qP I (qP I ?_))))
   refine qJ ?_
   refine qL 0 I I (fun W1 hp=>show Az W1 g (0+(m+1)*1) [str (Ac x)] from F2 hp 1 (A:=nS (s.take m)++[str (Ac y)]) (C:=C) I (by rw[row1];simp) (by rw[List.length_append,hA];simp)) I (qP I (qP I (qP I (qV 29 (m:Nat) I (show w64 (((m+1:Nat):Int)-1)=_ by rw[Ai (by omega) (by omega)];omega) ?_))))
   refine qJ ?_
   refine qL 0 I I (fun W1 hp=>show Az W1 g (0+m*1) [str (Ac y)] from F2 hp 1 (A:=nS (s.take m)) (C:=[str (Ac x)]++C) I (by rw[row1];simp) (by rw[hA];simp)) I ?_
   refine OI (capt:=[]) I I I I I I hcf.1 (fun W1 hp=>(by
    obtain⟨hv,ht⟩:=hf W1 (Ni hg ⟨_,List.mem_cons_self ..⟩ hp)
    exact hcf.2 x y W1 (hz x hxl y hyl) hv ht)) ?_
   refine qP I (qU 33 (decide (x<y)) I (Gb x y) (qP I (A0 (Aa (zE ?_)))))
   refine Af I (fun h=> ?_) (fun h=> ?_)
   rotate_left
   ·have hc: ¬x<y:=of_decide_eq_false h
    refine zJ (zK (zK (zL (zN (zE (zB (wP I (wP I (wV 16 ((i+1:Nat):Int) I (A4 (by omega)) (wP I (Aa ?_)))))))))))
    refine Ak (i+1) ⟨by show 1≤i+1;omega, .inl hlt⟩ (by show l.length+1-(i+1)<l.length+1-i;omega) ⟨I,I,I,I,I,O⟩ [] ?_
    rw[hnext (m+1) hj hgt fun _=>by rw[e3];exact hc];rfl
   have hc:x<y:=of_decide_eq_true h
   clear h
   refine Wg (bxs':=[CU (AG W g),⟨g,25,nS (s.take m)++([str (Ac y),str (Ac x)]++C),true,none⟩]) (by rw[←row1]) ?_
   refine zI (zE (An (BQ ?_)))
   repeat refine An ?_
   refine Cb (X:=Unit) [true,true,false,false,false,true,true,true,true,true,true,true,true,true,true,false,false,false] (fun _=>[(0, .slice (some ⟨g,0,none⟩) l.length cap),(1, .int .i64 0),(2, .int .i64 (l.length:Nat)),(3, .func (.func cf) #[] #[]),(8, .int .i64 (i:Nat)),(9, .int .i64 ((m+1:Nat):Int))]) (fun _=>[CU (AG W g),⟨g,25,nS (s.take m)++([str (Ac x),str (Ac y)]++C),true,none⟩])
    6 [CU (AG W g),⟨g,25,nS (s.take m)++([str (Ac y),str (Ac x)]++C),true,none⟩] Tryz.mixed (by kernel_rfl) ?_ ?_
   ·refine qP I (qP I (qP I (qP I (qP I (qV 44 (m:Nat) I (show w64 (((m+1:Nat):Int)-1)=_ by rw[Ai (by omega) (by omega)];omega) ?_)))))
    refine qJ ?_
    refine qL 0 I I (fun W1 hp=>show Az W1 g (0+m*1) [str (Ac y)] from F2 hp 1 (A:=nS (s.take m)) (C:=[str (Ac x)]++C) I (by simp) (by rw[hA];simp)) I (qP I (qP I ?_))
    refine qJ ?_
    refine qL 0 I I (fun W1 hp=>show Az W1 g (0+(m+1)*1) [str (Ac x)] from F2 hp 1 (A:=nS (s.take m)++[str (Ac y)]) (C:=C) I (by simp) (by rw[List.length_append,hA];simp)) I ?_
    refine qJ ?_
    refine DL ?_
    have h1:BW (nS (s.take m)++([str (Ac y),str (Ac x)]++C)) (0+(m+1)*1) (str (Ac y)).cells.toList=nS (s.take m)++([str (Ac y),str (Ac y)]++C):=by
     rw[show 0+(m+1)*1=(nS (s.take m)).length+1 by rw[hA];omega,Gd];rfl
    have h2:BW (nS (s.take m)++([str (Ac y),str (Ac y)]++C)) (0+m*1) (str (Ac x)).cells.toList=nS (s.take m)++([str (Ac x),str (Ac y)]++C):=by
     rw[show 0+m*1=(nS (s.take m)).length+0 by rw[hA];omega,Gd];rfl
    refine wX ?_
    refine RS.cons ?_ (RS.cons ?_ (RS.cons ?_ (RS.nil)))
    ·refine wP I (Aa (Al (wX ?_)))
     refine RS.cons ?_ (RS.cons ?_ (RS.nil))
     ·refine wP I (Aa (Al (wX ?_)))
      refine RS.cons ?_ (RS.cons ?_ (RS.nil))
      ·refine wP I (Aa (Al (wX (wZ ?_))))
       refine A7 1 _ tH I I I I I I I I I I (by show 0+(m+1)*1+1≤(nS (s.take m)++([str (Ac y),str (Ac x)]++C)).length;rw[List.length_append,hA];simp<;>omega) h1 ?_
       refine Aa (Al (wY (wZ ?_)))
       refine wV 41 (m:Nat) I (show w64 (((m+1:Nat):Int)-1)=_ by rw[Ai (by omega) (by omega)];omega) ?_;(first|refine wJ ?_|refine qJ ?_)
       refine Aa (Al (wY (wZ ?_)))
       refine A7 1 _ tH I I I I I I I I I I (by show 0+m*1+1≤(nS (s.take m)++([str (Ac y),str (Ac y)]++C)).length;rw[List.length_append,hA];simp<;>omega) h2 ?_
       refine Aa (Al ?_)
       refine AR I (by kernel_rfl) ?_
       exact AE () ⟨I,I,I,I,I,I,O⟩ [0,1] (by decide) I
      ·refine A7 1 _ tH I I I I I I I I I I (by show 0+(m+1)*1+1≤(nS (s.take m)++([str (Ac y),str (Ac x)]++C)).length;rw[List.length_append,hA];simp<;>omega) h1 ?_
       refine Aa (Al (wY (wZ (wP I (Aa (Al (wY (wZ ?_))))))))
       refine wV 41 (m:Nat) I (show w64 (((m+1:Nat):Int)-1)=_ by rw[Ai (by omega) (by omega)];omega) ?_;(first|refine wJ ?_|refine qJ ?_)
       refine Aa (Al (wY (wZ ?_)))
       refine A7 1 _ tH I I I I I I I I I I (by show 0+m*1+1≤(nS (s.take m)++([str (Ac y),str (Ac y)]++C)).length;rw[List.length_append,hA];simp<;>omega) h2 ?_
       refine Aa (Al ?_)
       refine AR I (by kernel_rfl) ?_
       exact AE () ⟨I,I,I,I,I,I,O⟩ [0,1] (by decide) I
     ·refine A7 1 _ tH I I I I I I I I I I (by show 0+(m+1)*1+1≤(nS (s.take m)++([str (Ac y),str (Ac x)]++C)).length;rw[List.length_append,hA];simp<;>omega) h1 ?_
      refine Aa (Al (wY (wZ (wP I (Aa (Al (wY (wZ (wP I (Aa (Al (wY (wZ ?_)))))))))))))
      refine wV 41 (m:Nat) I (show w64 (((m+1:Nat):Int)-1)=_ by rw[Ai (by omega) (by omega)];omega) ?_;(first|refine wJ ?_|refine qJ ?_)
      refine Aa (Al (wY (wZ ?_)))
      refine A7 1 _ tH I I I I I I I I I I (by show 0+m*1+1≤(nS (s.take m)++([str (Ac y),str (Ac y)]++C)).length;rw[List.length_append,hA];simp<;>omega) h2 ?_
      refine Aa (Al ?_)
      refine AR I (by kernel_rfl) ?_
      exact AE () ⟨I,I,I,I,I,I,O⟩ [0,1] (by decide) I
    ·refine wP I (Aa (Al (wX ?_)))
     refine RS.cons ?_ (RS.cons ?_ (RS.cons ?_ (RS.nil)))
     ·refine wP I (Aa (Al (wX ?_)))
      refine RS.cons ?_ (RS.cons ?_ (RS.nil))
      ·refine wP I (Aa (Al (wX (wZ ?_))))
       refine A7 1 _ tH I I I I I I I I I I (by show 0+(m+1)*1+1≤(nS (s.take m)++([str (Ac y),str (Ac x)]++C)).length;rw[List.length_append,hA];simp<;>omega) h1 ?_
       refine Aa (Al (wY (wZ ?_)))
       refine wV 41 (m:Nat) I (show w64 (((m+1:Nat):Int)-1)=_ by rw[Ai (by omega) (by omega)];omega) ?_;(first|refine wJ ?_|refine qJ ?_)
       refine Aa (Al (wY (wZ ?_)))
       refine A7 1 _ tH I I I I I I I I I I (by show 0+m*1+1≤(nS (s.take m)++([str (Ac y),str (Ac y)]++C)).length;rw[List.length_append,hA];simp<;>omega) h2 ?_
       refine Aa (Al ?_)
       refine AR I (by kernel_rfl) ?_
       exact AE () ⟨I,I,I,I,I,I,O⟩ [0,1] (by decide) I
      ·refine A7 1 _ tH I I I I I I I I I I (by show 0+(m+1)*1+1≤(nS (s.take m)++([str (Ac y),str (Ac x)]++C)).length;rw[List.length_append,hA];simp<;>omega) h1 ?_
       refine Aa (Al (wY (wZ (wP I (Aa (Al (wY (wZ ?_))))))))
       refine wV 41 (m:Nat) I (show w64 (((m+1:Nat):Int)-1)=_ by rw[Ai (by omega) (by omega)];omega) ?_;(first|refine wJ ?_|refine qJ ?_)
       refine Aa (Al (wY (wZ ?_)))
       refine A7 1 _ tH I I I I I I I I I I (by show 0+m*1+1≤(nS (s.take m)++([str (Ac y),str (Ac y)]++C)).length;rw[List.length_append,hA];simp<;>omega) h2 ?_
       refine Aa (Al ?_)
       refine AR I (by kernel_rfl) ?_
       exact AE () ⟨I,I,I,I,I,I,O⟩ [0,1] (by decide) I
     ·refine wP I (Aa (Al (wX ?_)))
      refine RS.cons ?_ (RS.cons ?_ (RS.nil))
      ·refine wP I (Aa (Al (wX (wZ ?_))))
       refine A7 1 _ tH I I I I I I I I I I (by show 0+(m+1)*1+1≤(nS (s.take m)++([str (Ac y),str (Ac x)]++C)).length;rw[List.length_append,hA];simp<;>omega) h1 ?_
       refine Aa (Al (wY (wZ ?_)))
       refine wV 41 (m:Nat) I (show w64 (((m+1:Nat):Int)-1)=_ by rw[Ai (by omega) (by omega)];omega) ?_;(first|refine wJ ?_|refine qJ ?_)
       refine Aa (Al (wY (wZ ?_)))
       refine A7 1 _ tH I I I I I I I I I I (by show 0+m*1+1≤(nS (s.take m)++([str (Ac y),str (Ac y)]++C)).length;rw[List.length_append,hA];simp<;>omega) h2 ?_
       refine Aa (Al ?_)
       refine AR I (by kernel_rfl) ?_
       exact AE () ⟨I,I,I,I,I,I,O⟩ [0,1] (by decide) I
      ·refine A7 1 _ tH I I I I I I I I I I (by show 0+(m+1)*1+1≤(nS (s.take m)++([str (Ac y),str (Ac x)]++C)).length;rw[List.length_append,hA];simp<;>omega) h1 ?_
       refine Aa (Al (wY (wZ (wP I (Aa (Al (wY (wZ ?_))))))))
       refine wV 41 (m:Nat) I (show w64 (((m+1:Nat):Int)-1)=_ by rw[Ai (by omega) (by omega)];omega) ?_;(first|refine wJ ?_|refine qJ ?_)
       refine Aa (Al (wY (wZ ?_)))
       refine A7 1 _ tH I I I I I I I I I I (by show 0+m*1+1≤(nS (s.take m)++([str (Ac y),str (Ac y)]++C)).length;rw[List.length_append,hA];simp<;>omega) h2 ?_
       refine Aa (Al ?_)
       refine AR I (by kernel_rfl) ?_
       exact AE () ⟨I,I,I,I,I,I,O⟩ [0,1] (by decide) I
     ·refine A7 1 _ tH I I I I I I I I I I (by show 0+(m+1)*1+1≤(nS (s.take m)++([str (Ac y),str (Ac x)]++C)).length;rw[List.length_append,hA];simp<;>omega) h1 ?_
      refine Aa (Al (wY ?_))
      refine RS.cons ?_ (RS.cons ?_ (RS.nil))
      ·refine wP I (Aa (Al (wY (wZ (wP I (Aa (Al (wY (wZ ?_)))))))))
       refine wV 41 (m:Nat) I (show w64 (((m+1:Nat):Int)-1)=_ by rw[Ai (by omega) (by omega)];omega) ?_;(first|refine wJ ?_|refine qJ ?_)
       refine Aa (Al (wY (wZ ?_)))
       refine A7 1 _ tH I I I I I I I I I I (by show 0+m*1+1≤(nS (s.take m)++([str (Ac y),str (Ac y)]++C)).length;rw[List.length_append,hA];simp<;>omega) h2 ?_
       refine Aa (Al ?_)
       refine AR I (by kernel_rfl) ?_
       exact AE () ⟨I,I,I,I,I,I,O⟩ [0,1] (by decide) I
      ·refine wP I (Aa (Al (wY (wZ (wP I (Aa (Al (wY (wZ ?_)))))))))
       refine wV 41 (m:Nat) I (show w64 (((m+1:Nat):Int)-1)=_ by rw[Ai (by omega) (by omega)];omega) ?_;(first|refine wJ ?_|refine qJ ?_)
       refine Aa (Al (wY (wZ ?_)))
       refine A7 1 _ tH I I I I I I I I I I (by show 0+m*1+1≤(nS (s.take m)++([str (Ac y),str (Ac y)]++C)).length;rw[List.length_append,hA];simp<;>omega) h2 ?_
       refine Aa (Al ?_)
       refine AR I (by kernel_rfl) ?_
       exact AE () ⟨I,I,I,I,I,I,O⟩ [0,1] (by decide) I
    ·refine A7 1 _ tH I I I I I I I I I I (by show 0+(m+1)*1+1≤(nS (s.take m)++([str (Ac y),str (Ac x)]++C)).length;rw[List.length_append,hA];simp<;>omega) h1 ?_
     refine Aa (Al (wY ?_))
     refine RS.cons ?_ (RS.cons ?_ (RS.nil))
     ·refine wP I (Aa (Al (wY (wZ (wP I (Aa (Al (wY (wZ (wP I (Aa (Al (wY ?_)))))))))))))
      refine wZ ?_
      refine wV 41 (m:Nat) I (show w64 (((m+1:Nat):Int)-1)=_ by rw[Ai (by omega) (by omega)];omega) ?_;(first|refine wJ ?_|refine qJ ?_)
      refine Aa (Al (wY (wZ ?_)))
      refine A7 1 _ tH I I I I I I I I I I (by show 0+m*1+1≤(nS (s.take m)++([str (Ac y),str (Ac y)]++C)).length;rw[List.length_append,hA];simp<;>omega) h2 ?_
      refine Aa (Al ?_)
      refine AR I (by kernel_rfl) ?_
      exact AE () ⟨I,I,I,I,I,I,O⟩ [0,1] (by decide) I
     ·refine wP I (Aa (Al (wY ?_)))
      refine RS.cons ?_ (RS.cons ?_ (RS.nil))
      ·refine wP I (Aa (Al (wY (wZ (wP I (Aa (Al (wY (wZ ?_)))))))))
       refine wV 41 (m:Nat) I (show w64 (((m+1:Nat):Int)-1)=_ by rw[Ai (by omega) (by omega)];omega) ?_;(first|refine wJ ?_|refine qJ ?_)
       refine Aa (Al (wY (wZ ?_)))
       refine A7 1 _ tH I I I I I I I I I I (by show 0+m*1+1≤(nS (s.take m)++([str (Ac y),str (Ac y)]++C)).length;rw[List.length_append,hA];simp<;>omega) h2 ?_
       refine Aa (Al ?_)
       refine AR I (by kernel_rfl) ?_
       exact AE () ⟨I,I,I,I,I,I,O⟩ [0,1] (by decide) I
      ·refine wP I (Aa (Al (wY (wZ (wP I (Aa (Al (wY (wZ ?_)))))))))
       refine wV 41 (m:Nat) I (show w64 (((m+1:Nat):Int)-1)=_ by rw[Ai (by omega) (by omega)];omega) ?_;(first|refine wJ ?_|refine qJ ?_)
       refine Aa (Al (wY (wZ ?_)))
       refine A7 1 _ tH I I I I I I I I I I (by show 0+m*1+1≤(nS (s.take m)++([str (Ac y),str (Ac y)]++C)).length;rw[List.length_append,hA];simp<;>omega) h2 ?_
       refine Aa (Al ?_)
       refine AR I (by kernel_rfl) ?_
       exact AE () ⟨I,I,I,I,I,I,O⟩ [0,1] (by decide) I
   intro _
   refine zN (zE (zB (wP I (wP I (wV 36 (m:Nat) I (show w64 (((m+1:Nat):Int)-1)=_ by rw[Ai (by omega) (by omega)];omega) (wP I (Aa ?_)))))))
   refine Ak m ⟨by show m≤s.length;omega,fun z hz=> ?_⟩ (by show m<m+1;omega) ⟨I,I,I,I,I,I,O⟩ [] (by rw[←row2];rfl)
   rw[e2] at hz
   rcases List.mem_cons.1 hz with rfl|hz
   ·exact hc
   ·exact hgt z hz
 refine key.mono ?_
 rintro e W' ⟨x,he,_,hb,hn'⟩
 exact⟨x,he,O,IE hg I hb hn'⟩
theorem PE (cf:Nat) (hcf:Pg cf) (W:World) (g cap:Nat) (l:List Rat) (junk:List Value) (z:Int) (hn:l.length≤12) (hg:W.heap[g]? =some (.cells (nS l++junk).toArray 25 (0,0)))
  (hf: ∀W',Mg W W' g→B9 W'∧AH W') (hz: ∀p∈l, ∀q∈l,Sz2 p q):
  Calls Tryz.prog 155 #[.slice (some ⟨g,0,none⟩) l.length cap, .int .i64 0, .int .i64 (l.length:Nat), .int .i64 z, .func (.func cf) #[] #[]] W fun e W'=> ∃x:Unit,e= .returned ((fun _=> .tuple #[]) x)∧True∧Mt W W' g ((fun _=>g) x) ((fun _=> .cells (nS (Br l)++junk).toArray 25 (0,0)) x):=by
 have key:Calls Tryz.prog 155 [.slice (some ⟨g,0,none⟩) l.length cap, .int .i64 0, .int .i64 (l.length:Nat), .int .i64 z, .func (.func cf) #[] #[]].toArray W fun e W'=> ∃x:Unit,e= .returned ((fun _=> .tuple #[]) x)∧(fun _=>True) x∧Below (BV W).heap.size (BV W) W'∧At (BV W) W' ((fun _=>[CU (AG W g),DZ g (Br l) junk]) x):=by
  refine DH (X:=Unit) (val:=fun _=> .tuple #[]) (Φ:=fun _=>True) (nb:=fun _=>[CU (AG W g),DZ g (Br l) junk]) (Hp.enterT (B:=DZ g l junk) I hg) Tryz.func155 I I I ?_
  refine zA (zB (wP I (Aa (zE (zA (zB (wP I (Aa (zE (zH ?_))))))))))
  refine Ar (X:=Unit) (fun _=>[(0, .slice (some ⟨g,0,none⟩) l.length cap),(1, .int .i64 0),(2, .int .i64 (l.length:Nat)),(3, .int .i64 z),(4, .func (.func cf) #[] #[])]) (fun _=>[CU (AG W g),DZ g l junk]) (fun _=>True) (fun _=>0) () O ⟨I,I,I,I,I,O⟩ [] I ?_
  intro _ _
  refine zH (zA (zB (wP I (wP I (wP I (wV 23 (l.length:Nat) I (show w64 ((l.length:Nat)-0)=_ by rw[Ai (by omega) (by omega)];omega) (wP I (Aa (zE (zA (zA (zB (wP I (wP I ?_))))))))))))))
  refine wU 25 true I (dT (by omega)) (Aa (zE (zR I (zA (zB (wP I (wP I (wP I (wP I ?_)))))))))
  refine FK (X:=Unit) (val:=fun _=> .tuple #[]) (Φ:=fun _=>True) (capt:=[]) 1 (B:=DZ g l junk) (L1:=[]) (L2:=[]) (b:=g) (ob:= .cells (nS l++junk).toArray 25 (0,0)) (fun _=>DZ g (Br l) junk) (g':=fun _=>g) (o':=fun _=> .cells (nS (Br l)++junk).toArray 25 (0,0))
   rfl rfl rfl rfl rfl rfl (by kernel_rfl) rfl rfl (fun _ _=>rfl) (fun W1 hp=>Qs cf hcf W1 g cap l junk (by omega) (hp.own.cell 1 _ rfl (g, .cells (nS l++junk).toArray 25 (0,0)) (List.mem_cons_self ..)).1 (fun W2 hk=>hf W2 ((Ni hg ⟨_,List.mem_cons_self ..⟩ hp).trans hk)) hz) (fun _ _=> ?_)
  refine Aa (zE (zO (zP (zQ (zP (zQ ?_))))))
  refine QR (X:=Unit) (val:=fun _=> .tuple #[]) (Φ:=fun _=>True) (nb:=fun _=>[CU (AG W g),DZ g (Br l) junk]) (fn:=Tryz.f155) tH I () I O fun W1 hp=> ?_
  exact(hp.pick (l:=[CU (AG W g),DZ g (Br l) junk]) [0,1] (by decide) I).own
 refine key.mono ?_
 rintro e W' ⟨x,he,_,hb,hn'⟩
 exact⟨x,he,O,IE hg I hb hn'⟩
theorem PX (cf:Nat) (W:World) (p:Option Addr) (cap:Nat):Ae Tryz.prog 226 #[.slice p 0 cap, .int .i64 0, .int .i64 ((0:Nat):Int), .func (.func cf) #[] #[]] W (fun _:Unit=> .tuple #[]) (fun _=>True) (fun _=>[]):=by
 refine Ab (args:=[.slice p 0 cap, .int .i64 0, .int .i64 ((0:Nat):Int), .func (.func cf) #[] #[]]) Tryz.func226 I I I ?_
 refine zA (zB (wP I (wP I (wP I (Aa (zE (zH ?_)))))))
 refine Ar (X:=Unit) (fun _=>[(0, .slice p 0 cap),(1, .int .i64 0),(2, .int .i64 ((0:Nat):Int)),(3, .func (.func cf) #[] #[]),(8, .int .i64 1)]) (fun _=>[]) (fun _=>True) (fun _=>0) () O ⟨I,I,I,I,I,O⟩ [] I ?_
 intro _ _
 refine zA (zA (zB (wP I (wP I (wP I ?_)))))
 refine Aj 14 (.bool false) I I ?_
 exact Aa (zE (zS I (zJ (zK (zK (zL (Kv (X:=Unit) (val:=fun _=> .tuple #[]) (Φ:=fun _=>True) (nb:=fun _=>[]) (fn:=Tryz.f226) tH I () I O fun W _=>At.nil _ _)))))))
theorem Qn (cf:Nat) (W:World) (p:Option Addr) (cap:Nat) (z:Int):Ae Tryz.prog 155 #[.slice p 0 cap, .int .i64 0, .int .i64 ((0:Nat):Int), .int .i64 z, .func (.func cf) #[] #[]] W (fun _:Unit=> .tuple #[]) (fun _=>True) (fun _=>[]):=by
 refine Ab (args:=[.slice p 0 cap, .int .i64 0, .int .i64 ((0:Nat):Int), .int .i64 z, .func (.func cf) #[] #[]]) Tryz.func155 I I I ?_
 refine zA (zB (wP I (Aa (zE (zA (zB (wP I (Aa (zE (zH ?_))))))))))
 refine Ar (X:=Unit) (fun _=>[(0, .slice p 0 cap),(1, .int .i64 0),(2, .int .i64 ((0:Nat):Int)),(3, .int .i64 z),(4, .func (.func cf) #[] #[])]) (fun _=>[]) (fun _=>True) (fun _=>0) () O ⟨I,I,I,I,I,O⟩ [] I ?_
 intro _ _
 refine zH (zA (zB (wP I (wP I (wP I ?_)))))
 refine Aj 23 (.int .i64 ((0:Nat):Int)) I I ?_
 refine wP I (Aa (zE (zA (zA (zB (wP I (wP I ?_)))))))
 refine Aj 25 (.bool true) I I ?_
 refine Aa (zE (zR I (zA (zB (wP I (wP I (wP I (wP I ?_))))))))
 refine BT (capt:=[]) I I I I I I (by kernel_rfl) (fun W _=>PX cf W p cap) ?_
 exact Aa (zE (zO (zP (zQ (zP (zQ (QR (X:=Unit) (val:=fun _=> .tuple #[]) (Φ:=fun _=>True) (nb:=fun _=>[]) (fn:=Tryz.f155) tH I () I O fun W _=>At.nil _ _)))))))
theorem I2 (x:Nat) (h:x≤18446744073709551615) (W:World):Ae Tryz.prog 124 #[.int .u64 (x:Nat)] W (fun _:Unit=> .int .i64 (Lib.bitLen x)) (fun _=>True) (fun _=>[]):=by
 refine Ae.of1 ((Go.Proofs.Any.bits_Len (P:=Tryz.prog) (ρ:=Tryz.lays125_ren) Tryz.lays125 (x:Int) W (by omega) (by omega)).mono ?_)
 rintro e w' ⟨rfl,rfl⟩
 exact⟨I,Below.refl _ _⟩
theorem UC {n:Nat} (h:n≤12):IntKind.u64.wrap (n:Nat)=(n:Int):=by
 simp only[IntKind.wrap,IntKind.signed,IntKind.bits]
 simp
 omega
theorem NR (cf:Nat) (hcf:Pg cf) (W:World) (g cap:Nat) (l:List Rat) (junk:List Value) (hn:l.length≤12) (hg:W.heap[g]? =some (.cells (nS l++junk).toArray 25 (0,0)))
  (hf: ∀W',Mg W W' g→B9 W'∧AH W') (hz: ∀p∈l, ∀q∈l,Sz2 p q):
  Calls Tryz.prog 96 #[.slice (some ⟨g,0,none⟩) l.length cap, .func (.func cf) #[] #[]] W fun e W'=> ∃x:Unit,e= .returned ((fun _=> .tuple #[]) x)∧True∧Mt W W' g ((fun _=>g) x) ((fun _=> .cells (nS (Br l)++junk).toArray 25 (0,0)) x):=by
 have key:Calls Tryz.prog 96 [.slice (some ⟨g,0,none⟩) l.length cap, .func (.func cf) #[] #[]].toArray W fun e W'=> ∃x:Unit,e= .returned ((fun _=> .tuple #[]) x)∧(fun _=>True) x∧Below (BV W).heap.size (BV W) W'∧At (BV W) W' ((fun _=>[CU (AG W g),DZ g (Br l) junk]) x):=by
  refine DH (X:=Unit) (val:=fun _=> .tuple #[]) (Φ:=fun _=>True) (nb:=fun _=>[CU (AG W g),DZ g (Br l) junk]) (Hp.enterT (B:=DZ g l junk) I hg) Tryz.func96 I I I ?_
  refine zA (zB (wP I (wP I (wP I (Aa (zE (zB (wP I (wP I (wP I ?_))))))))))
  refine HJ (k:= .u64) (kt:= .i64) (by kernel_rfl) (by kernel_rfl) I I I I ?_
  refine Aj 10 (.int .u64 (l.length:Nat)) I (congrArg (Value.int .u64) (UC hn)) ?_
  refine BT (capt:=[]) I I I I I I (by kernel_rfl) (fun W _=>I2 l.length (by omega) W) ?_
  refine wP I ?_
  refine FK (X:=Unit) (val:=fun _=> .tuple #[]) (Φ:=fun _=>True) (capt:=[]) 1 (B:=DZ g l junk) (L1:=[]) (L2:=[]) (b:=g) (ob:= .cells (nS l++junk).toArray 25 (0,0)) (fun _=>DZ g (Br l) junk) (g':=fun _=>g) (o':=fun _=> .cells (nS (Br l)++junk).toArray 25 (0,0))
   rfl rfl rfl rfl rfl rfl (by kernel_rfl) rfl rfl (fun _ _=>rfl) (fun W1 hp=>PE cf hcf W1 g cap l junk _ hn (hp.own.cell 1 _ rfl (g, .cells (nS l++junk).toArray 25 (0,0)) (List.mem_cons_self ..)).1 (fun W2 hk=>hf W2 ((Ni hg ⟨_,List.mem_cons_self ..⟩ hp).trans hk)) hz) (fun _ _=> ?_)
  refine Aa ?_
  refine Kv (X:=Unit) (val:=fun _=> .tuple #[]) (Φ:=fun _=>True) (nb:=fun _=>[CU (AG W g),DZ g (Br l) junk]) (fn:=Tryz.f96) tH I () I O fun W1 hp=> ?_
  exact(hp.pick (l:=[CU (AG W g),DZ g (Br l) junk]) [0,1] (by decide) I).own
 refine key.mono ?_
 rintro e W' ⟨x,he,_,hb,hn'⟩
 exact⟨x,he,O,IE hg I hb hn'⟩
-- BOXES 3
abbrev cs (l:List (List UInt8)):List Value:=l.map Go.Proofs.encStr
theorem Qa {l:List (List UInt8)} {j:Nat} (h:j<l.length) (junk:List Value):(cs l++junk)[j]? =some (Go.Proofs.encStr l.toArray[j]!):=by
 rw[List.getElem?_append_left (by simpa using h),List.getElem?_map,List.getElem?_eq_getElem h,getElem!_pos l.toArray j (by simpa using h)];simp
theorem Tp {W:World} {g:Nat} {zs:List (List UInt8)} {junk:List Value} {ty:TypeId} (h:W.heap[g]? =some (.cells (cs zs++junk).toArray ty (0,0))):Sort.Holds Go.Proofs.encStr W g 0 zs.toArray:=fun j hj=>by
 have hj':j<zs.length:=by simpa using hj
 have h1:=Qa hj' junk
 constructor
 ·simp only[World.cell?,h,Nat.zero_add]
  rw[List.getElem?_toArray];exact h1
 ·simp[World.frozen?,h]
theorem Pw {zs zs':List (List UInt8)} (hl:zs'.length=zs.length) (junk:List Value):Sort.putCells Go.Proofs.encStr 0 zs'.toArray (cs zs++junk).toArray=(cs zs'++junk).toArray:=by
 apply Array.ext_getElem?
 intro k
 simp only[Sort.putCells,Array.getElem?_mapIdx,List.getElem?_toArray,List.size_toArray,Nat.zero_add,Nat.sub_zero,Nat.zero_le,true_and]
 by_cases hk:k<zs.length
 ·rw[Qa hk,Qa (show k<zs'.length by omega),Option.map_some,if_pos (by omega)]
 ·rw[List.getElem?_append_right (by simp;omega),List.getElem?_append_right (by simp;omega)]
  simp only[List.length_map,hl]
  cases junk[k-zs.length]? with
  |none=>rfl
  |some y=>rw[Option.map_some,if_neg (by omega)]
theorem Qh {W:World} {g:Nat} {zs zs':List (List UInt8)} {junk:List Value} {ty:TypeId} (h:W.heap[g]? =some (.cells (cs zs++junk).toArray ty (0,0))) (hl:zs'.length=zs.length) (n:Nat):
  Mt W (Sort.putRow Go.Proofs.encStr (Sort.ahead W n) g 0 zs'.toArray) g g (.cells (cs zs'++junk).toArray ty (0,0)):=by
 have hlt:g<W.heap.size:=(Array.getElem?_eq_some_iff.1 h).1
 have hs: ∀x,x<W.heap.size→(Sort.putRow Go.Proofs.encStr (Sort.ahead W n) g 0 zs'.toArray).heap[x]? =(W.heap.modify g (Sort.onCells (Sort.putCells Go.Proofs.encStr 0 zs'.toArray)))[x]? :=fun x hx=>rfl
 refine⟨I,I,I, ?_, ?_, .inl I,fun x hx hlt'=> ?_⟩
 ·show W.heap.size≤(W.heap.modify g _).size
  simp
 ·rw[hs g hlt,Array.getElem?_modify,if_pos rfl,h,Option.map_some]
  show some (Obj.cells (Sort.putCells _ _ _ _) _ _)=_
  rw[Pw hl]
 ·rw[hs x hlt',Array.getElem?_modify,if_neg (fun e=>hx e.symm)]
theorem Jz (l:List Rat):(AS l).length≤l.length:=by
 fun_induction AS l with
 |case1=>exact Nat.le_refl _
 |case2 x=>exact Nat.le_refl _
 |case3 x l ih=>simp only[List.length_cons] at ih⊢;omega
 |case4 x y l h ih=>simp only[List.length_cons] at ih⊢;omega
theorem UY (l:List Rat):cs (l.map Ac)=nS l:=by simp[nS,cs]
abbrev K3 (l:List Rat) (junk:List Value):List Value:=cs (List.replicate (l.length-(AS l).length) [])++junk
theorem Pj {W:World} {g cap:Nat} {l:List Rat} {junk:List Value} {ty:TypeId} (h:W.heap[g]? =some (.cells (nS l++junk).toArray ty (0,0))) (hn:l.length≤9223372036854775807) (hcap:l.length≤cap):
  Calls Tryz.prog 97 #[.slice (some ⟨g,0,none⟩) l.length cap] W fun e W'=> ∃x:Unit,e= .returned ((fun _=> .slice (some ⟨g,0,none⟩) (AS l).length cap) x)∧True∧
   Mt W W' g ((fun _=>g) x) ((fun _=> .cells (nS (AS l)++K3 l junk).toArray ty (0,0)) x):=by
 have hl:=Jz l
 rw[←UY] at h
 have h1:=Go.Proofs.AnyG.slices_Compact_string (P:=Tryz.prog) (ρ:=Tryz.laysN44_ren) Tryz.laysN44 g 0 cap (l.map Ac) W (Tp h) (by rw[List.length_map];exact hn) (by rw[List.length_map];exact hcap)
 rw[Nu,List.length_map,List.length_map] at h1
 refine h1.mono ?_
 rintro e W' ⟨rfl,n,rfl⟩
 refine⟨(),I,O, ?_⟩
 have h2:=Qh (zs':=(AS l).map Ac++List.replicate (l.length-(AS l).length) []) h (by rw[List.length_append,List.length_replicate,List.length_map,List.length_map];omega) n
 have e:cs ((AS l).map Ac++List.replicate (l.length-(AS l).length) [])++junk=nS (AS l)++K3 l junk:=by
  rw[←UY, ←List.append_assoc];congr 1;exact List.map_append
 rw[e] at h2
 exact h2
theorem P8 (cf:Nat) (W:World) (p:Option Addr) (cap:Nat):Ae Tryz.prog 96 #[.slice p 0 cap, .func (.func cf) #[] #[]] W (fun _:Unit=> .tuple #[]) (fun _=>True) (fun _=>[]):=by
 refine Ab (args:=[.slice p 0 cap, .func (.func cf) #[] #[]]) Tryz.func96 I I I ?_
 refine zA (zB (wP I (wP I (wP I (Aa (zE (zB (wP I (wP I (wP I ?_))))))))))
 refine HJ (k:= .u64) (kt:= .i64) (by kernel_rfl) (by kernel_rfl) I I I I ?_
 refine Aj 10 (.int .u64 ((0:Nat):Int)) I I ?_
 refine BT (capt:=[]) I I I I I I (by kernel_rfl) (fun W _=>I2 0 (by omega) W) ?_
 refine wP I ?_
 refine BT (capt:=[]) I I I I I I (by kernel_rfl) (fun W _=>Qn cf W p cap _) ?_
 exact Aa (Kv (X:=Unit) (val:=fun _=> .tuple #[]) (Φ:=fun _=>True) (nb:=fun _=>[]) (fn:=Tryz.f96) tH I () I O fun W _=>At.nil _ _)
theorem Oj (W:World) (p:Option Addr) (cap:Nat):Ae Tryz.prog 97 #[.slice p 0 cap] W (fun _:Unit=> .slice p 0 cap) (fun _=>True) (fun _=>[]):=by
 refine Ab (args:=[.slice p 0 cap]) Tryz.func97 I I I ?_
 refine zA (zB (wP I (Aa (zE (zA (zA (zB (wP I (wP I (wP I (Aa (zE (zR I ?_)))))))))))))
 exact zA (zB (wP I (wP I (Aa (zE (zO (zP (wR1 I I I))))))))
theorem Iv {α:Type} {l:List α} {k:Nat} {x:α} (h:l[k]? =some x):l.set k x=l:=by
 obtain⟨h1,rfl⟩:=List.getElem?_eq_some_iff.1 h
 exact List.set_getElem_self h1
section
variable {r:Option Nat} {n:Nat} {W0:World} {N:Nat} {D:List Deferred} {ops:List Oper} {Q:Exit→Act→World→Prop} {o:Oper} {rest:List Oper} {env:Env} {bxs:List Bx}
theorem SM (k:Nat) (cf:Nat) (hcf:Pg cf) (hv0:B9 W0) (ht0:AH W0) {c:Call} {f:Operand} {d:Nat} {V:Vec} {l:List Rat} {len:Nat}
  (hg:Ax ops N env o=some true) (hd:o.dst=some d) (ho:o.op= .call c) (hc:c.callee= .value f) (hf:evO N env f=some (.func (.func 96) #[] #[])) (ha:BY (evO N env) c.args.toList=some [V.val len, .func (.func cf) #[] #[]])
  (hk:nth bxs k=some (V.bx 25 (nS l))) (hlen:len=l.length) (hV:V.OK 1 len (nS l)) (hn:l.length≤12) (hz: ∀p∈l, ∀q∈l,Sz2 p q)
  (h:WL r n Tryz.prog N D ops Q rest ((d, .tuple #[])::env) (Hp W0 (bxs.set k (V.bx 25 (nS (Br l)))))):WL r n Tryz.prog N D ops Q (o::rest) env (Hp W0 bxs):=by
 subst hlen
 obtain⟨p,cap,junk⟩:=V
 cases p with
 |none=>
  have hz0:=hV.nil rfl
  have e:bxs.set k ((⟨none,cap,junk⟩:Vec).bx 25 (nS (Br l)))=bxs:=by
   have h1:bxs[k]? =some ((⟨none,cap,junk⟩:Vec).bx 25 (nS l)):=by rw[←AX];exact hk
   exact Iv h1
  rw[e] at h
  refine BT (capt:=[]) hg hd ho hc hf ha (by kernel_rfl) (fun W _=> ?_) h
  exact P8 cf W none 0
 |some g=>
  have hk':bxs[k]? =some (DZ g l junk):=by rw[←AX];exact hk
  refine FK (X:=Unit) (val:=fun _=> .tuple #[]) (Φ:=fun _=>True) (capt:=[]) k (B:=DZ g l junk) (L1:=[]) (L2:=[]) (b:=g) (ob:= .cells (nS l++junk).toArray 25 (0,0)) (fun _=>DZ g (Br l) junk) (g':=fun _=>g) (o':=fun _=> .cells (nS (Br l)++junk).toArray 25 (0,0))
   hg hd ho hc hf ha (by kernel_rfl) hk rfl (fun _ _=>rfl) (fun W hp=> ?_) (fun _ _=>h)
  have hcell:=hp.own.cell k _ hk' (g, .cells (nS l++junk).toArray 25 (0,0)) (List.mem_cons_self ..)
  exact NR cf hcf W g cap l junk hn hcell.1 (fun W' hK=>⟨hv0.below (hK.below hp.below hcell.2),ht0.below (hK.below hp.below hcell.2)⟩) hz
theorem Tq (k:Nat) {c:Call} {f:Operand} {d:Nat} {V:Vec} {l:List Rat} {len:Nat}
  (hg:Ax ops N env o=some true) (hd:o.dst=some d) (ho:o.op= .call c) (hc:c.callee= .value f) (hf:evO N env f=some (.func (.func 97) #[] #[])) (ha:BY (evO N env) c.args.toList=some [V.val len])
  (hk:nth bxs k=some (V.bx 25 (nS l))) (hlen:len=l.length) (hV:V.OK 1 len (nS l)) (hn:l.length≤9223372036854775807)
  (h: ∀V':Vec,V'.OK 1 (AS l).length (nS (AS l))→WL r n Tryz.prog N D ops Q rest ((d,V'.val (AS l).length)::env) (Hp W0 (bxs.set k (V'.bx 25 (nS (AS l)))))):WL r n Tryz.prog N D ops Q (o::rest) env (Hp W0 bxs):=by
 subst hlen
 have hl:=Jz l
 obtain⟨p,cap,junk⟩:=V
 cases p with
 |none=>
  have hz0:=hV.nil rfl
  have hl0:l=[]:=List.length_eq_zero_iff.1 hz0
  subst hl0
  have h:=h ⟨none,cap,junk⟩ ⟨by rw[Jy];rfl,fun _=>by rw[Jy];rfl,fun h=>absurd rfl h⟩
  have e:bxs.set k ((⟨none,cap,junk⟩:Vec).bx 25 (nS (AS [])))=bxs:=by
   have h1:bxs[k]? =some ((⟨none,cap,junk⟩:Vec).bx 25 (nS [])):=by rw[←AX];exact hk
   exact Iv h1
  rw[e] at h
  refine BT (capt:=[]) hg hd ho hc hf ha (by kernel_rfl) (fun W _=> ?_) h
  exact Oj W none 0
 |some g=>
  obtain⟨c1,c2,c3⟩:=hV.cap (by simp)
  have c1:l.length≤cap:=c1
  have c2:cap≤maxLen:=c2
  have hk':bxs[k]? =some (DZ g l junk):=by rw[←AX];exact hk
  have h:=h ⟨some g,cap,K3 l junk⟩ ⟨by simp[nS],fun h=>by simp at h,fun _=>⟨by show(AS l).length≤cap;omega,c2,by
   show(nS (AS l)).length+(K3 l junk).length=cap*1
   simp only[nS,K3,cs,List.length_append,List.length_map,List.length_replicate] at c3⊢
   have c3:l.length+junk.length=cap*1:=c3
   omega⟩⟩
  refine FK (X:=Unit) (val:=fun _=> .slice (some ⟨g,0,none⟩) (AS l).length cap) (Φ:=fun _=>True) (capt:=[]) k (B:=DZ g l junk) (L1:=[]) (L2:=[]) (b:=g) (ob:= .cells (nS l++junk).toArray 25 (0,0)) (fun _=>⟨g,25,nS (AS l)++K3 l junk,true,none⟩) (g':=fun _=>g) (o':=fun _=> .cells (nS (AS l)++K3 l junk).toArray 25 (0,0))
   hg hd ho hc hf ha (by kernel_rfl) hk rfl (fun _ _=>rfl) (fun W hp=> ?_) (fun _ _=>h)
  exact Pj (hp.own.cell k _ hk' (g, .cells (nS l++junk).toArray 25 (0,0)) (List.mem_cons_self ..)).1 hn c1
end
-- BOXES 6
theorem V8:Pg 76:=⟨by kernel_rfl,fun p q W h hv ht=>CA p q h W hv ht⟩
def fl (f g:FrP) (k:Nat):List Rat:=((AP f g).take k).filter (C0 f g)
theorem Q6 (f g:FrP) (k:Nat):(fl f g k).length≤5:=by
 have h1:=List.length_filter_le (C0 f g) ((AP f g).take k)
 have h2:=RA f g
 rw[List.length_take] at h1
 unfold fl;omega
theorem UI (f g:FrP) {k:Nat} (hk:k<(AP f g).length):fl f g (k+1)=if C0 f g ((AP f g).getD k 0)=true then fl f g k++[(AP f g).getD k 0] else fl f g k:=by
 have e:(AP f g).getD k 0=(AP f g)[k]:=by rw[List.getD_eq_getElem?_getD,List.getElem?_eq_getElem hk];rfl
 rw[e,fl,List.take_add_one,List.getElem?_eq_getElem hk,List.filter_append]
 show _++List.filter _ [_]=_
 rw[List.filter_cons,List.filter_nil]
 split
 ·rfl
 ·rw[List.append_nil];rfl
theorem Tg {f g:FrP} {k:Nat} {t:Rat} (h:t∈fl f g k):t∈AP f g:=List.mem_of_mem_take (List.mem_filter.1 h).1
theorem Ip (f g:FrP) (hf:f.OK) (hg:g.OK) (hax:f.ax=g.ax) (hz:Rk f g) (hs: ∀p∈AP f g, ∀q∈AP f g,Sz2 p q)
  (a b k:Nat) (ha:szQ f.sp a) (hb:szQ f.st b) (ha':szQ g.sp a) (hb':szQ g.st b) (hk: ∀t∈AP f g,szQ t k) (hk1:a+b+k+9≤300) (hk2:k+36+1≤300) (W:World) (hv:B9 W) (ht:AH W):
  Ae Tryz.prog 43 #[frV f,frV g] W (fun V:Vec=> .tuple #[V.val (eqL f g).length, .int .i64 0]) (fun V=>V.OK 1 (eqL f g).length (nS (eqL f g))) (fun V=>[V.bx 25 (nS (eqL f g))]):=by
 refine Ab (args:=[frV f,frV g]) Tryz.func43 I I I ?_
 refine zA (zB ?_)
 (refine Ay rfl rfl rfl rfl ?_;intro)
 (refine Ay rfl rfl rfl rfl ?_;intro)
 refine wP I (wP I (Aa ?_))
 rename_i b2 b3
 refine zE (zA (zA (zB (wB 0 I I I (wC I I (fun W hp=>CP f hf W (hv.hp hp) (ht.hp hp)) (wP I (wP I (wB 1 I I I (wC I I (fun W hp=>CP g hg W (hv.hp hp) (ht.hp hp)) (wP I (wP I (Aa (zE ?_)))))))))))))
 refine zS I (zI (zE (zA (zA (zB (wP I (wB 0 I I I (wP I (wB 1 I I I ?_)))))))))
 refine CG Tryz.underlying4 I I I I I I ?_
 refine wU 24 false I (by rw[hax];simp) (Aa (zE (zS I (zI (zE (zA (zB ?_)))))))
 (refine Ah Tryz.hZ rfl rfl rfl rfl ?_;intro)
 refine Aa ?_
 rename_i b6
 refine zE (zA (zA (zB (wB 0 I I I (wB 1 I I I ?_)))))
 refine wD (X:=Nat×Nat) I I (fun W _=>KK f g W) ?_
 rintro⟨c1,c2⟩ _
 refine HI ?_
 refine Aa (zE (zH ?_))
 refine MD (X:=Nat×Vec) (fun x=>[frB b2 f,frB b3 g,⟨b6,31,[x.2.val (fl f g x.1).length],true,none⟩,frB c1 f,frB c2 g,x.2.bx 25 (nS (fl f g x.1))])
  (fun j x=>x.1=j∧x.2.OK 1 (fl f g x.1).length (nS (fl f g x.1))) (fun _ _=>False) (0,Vec.empty) rfl (by kernel_rfl) (R8 f g hf hg hz c1 c2) (fun _=>rfl)
  ⟨rfl,Vec.OK.empty 1⟩ [] rfl (fun k x W _ hp=>⟨Az.of_bx hp 3 rfl rfl,Az.of_bx hp 4 rfl rfl,hv.hp hp,ht.hp hp⟩) ?_ ?_ (fun _ _ _ _ _ h=>h.elim)
 ·rintro j' ⟨j,V⟩ d L rec hj ⟨e1,hV⟩ hrec
  obtain rfl:j=j':=e1
  have hV:V.OK 1 (fl f g j).length (nS (fl f g j)):=hV
  have hn:=Q6 f g (j+1)
  have hfl:=UI f g hj
  have htm:(AP f g).getD j 0∈AP f g:=by rw[List.getD_eq_getElem?_getD,List.getElem?_eq_getElem hj];exact List.getElem_mem hj
  obtain⟨t,hte⟩: ∃t,t=(AP f g).getD j 0:=⟨_,rfl⟩
  have henc:PA (AP f g) j=[str (Ac t)]:=by rw[hte]
  rw[←hte] at hfl htm
  rw[henc]
  have zt:=hk t htm
  refine zB (wP I (Aa ?_))
  refine CI 7 hrec I ?_
  refine BQ (zA (zB (wB 0 I I I (wP I (wC I I (fun W hp=>Fu f hf t k zt hk2 W (hv.hp hp) (ht.hp hp)) ?_)))))
  iterate 5 refine wP I ?_
  refine Aa (zE (zA (zB (wB 1 I I I (wP I (wC I I (fun W hp=>Fu g hg t k zt hk2 W (hv.hp hp) (ht.hp hp)) ?_))))))
  iterate 5 refine wP I ?_
  refine Aa (As (An ?_))
  refine Av (X:=Unit) (fun _=>[(2,Ao b2),(3,Ao b3),(6,Ao b6),(7,str (Ac t)),(57, .bool (C0 f g t))]) (fun _=>[frB b2 f,frB b3 g,⟨b6,31,[V.val (fl f g j).length],true,none⟩,frB c1 f,frB c2 g,V.bx 25 (nS (fl f g j)),CJ d,BN L rec .busy none]) (fun _=>True) ?_ ?_
  ·refine zU (qB 0 I I I (qP I (qC I I (fun W hp=>DY f hf t a b k ha hb zt hk1 W (hv.hp hp) (ht.hp hp)) (qB 1 I I I (qP I (qC I I (fun W hp=>DY g hg t a b k ha' hb' zt hk1 W (hv.hp hp) (ht.hp hp)) (qP I ?_)))))))
   by_cases h1:f.at t=g.at t
   ·refine qU 47 true I ((AD _ _).trans (dT (Cf.2 h1))) (qP I (qP I (qP I (qP I ?_))))
    by_cases h2:f.velB t=g.velB t
    ·refine qU 51 false I (by show(!_)=false;rw[AD,dT (Cf.2 h2)];rfl) (qP I (qP I (qP I (qP I ?_))))
     by_cases h3:f.velA t=g.velA t
     ·have e:C0 f g t=false:=by simp[C0,h2,h3]
      exact qU 55 false I (by show(!_)=false;rw[AD,dT (Cf.2 h3)];rfl) (qP I (qP I (A0 (Aa (Ag () O ⟨I,I,I,I,by rw[e];rfl,O⟩ [] I)))))
     ·have e:C0 f g t=true:=by simp[C0,h1,h3]
      exact qU 55 true I (by show(!_)=true;rw[AD,dF fun e=>h3 (Cf.1 e)];rfl) (qP I (qP I (A0 (Aa (Ag () O ⟨I,I,I,I,by rw[e];rfl,O⟩ [] I)))))
    ·have e:C0 f g t=true:=by simp[C0,h1,h2]
     refine qU 51 true I (by show(!_)=true;rw[AD,dF fun e=>h2 (Cf.1 e)];rfl) (qP I ?_)
     iterate 3 refine B8 I I ?_
     exact qP I (qP I (A0 (Aa (Ag () O ⟨I,I,I,I,by rw[e];rfl,O⟩ [] I))))
   ·have e:C0 f g t=false:=by simp[C0,h1]
    refine qU 47 false I ((AD _ _).trans (dF fun e=>h1 (Cf.1 e))) (qP I ?_)
    iterate 8 refine B8 I I ?_
    exact qP I (A0 (Aa (Ag () O ⟨I,I,I,I,by rw[e];rfl,O⟩ [] I)))
  ·intro _ _
   refine Af I (fun hc=> ?_) (fun hc=> ?_)
   ·have hc:C0 f g t=true:=hc
    rw[if_pos hc] at hfl
    refine zB (wB 2 I I I (wP I ?_))
    (refine A3 Tryz.hZ tH rfl rfl rfl rfl rfl rfl rfl rfl rfl rfl rfl ?_;intro)
    refine AK (V:=V) (len:=(fl f g j).length) (xs:=nS (fl f g j)) 5 8 Tryz.vec31 (fl f g (j+1)).length (nS (fl f g (j+1))) I I I I I I I I I I I hV I I (by rw[hfl];simp) (by rw[hfl];simp[nS];rfl) (by simp only[maxLen];omega) (by omega) I ?_
    intro gV cV jV hV1
    exact wS 2 I I I (Aa (zN (BD 7 (j+1,⟨some gV,cV,jV⟩) hrec I ⟨I,hV1⟩ [_] I)))
   ·have hc:C0 f g t=false:=hc
    rw[if_neg (by rw[hc];decide)] at hfl
    exact zI (zN (BD 7 (j+1,V) hrec I ⟨I,by show V.OK 1 (fl f g (j+1)).length (nS (fl f g (j+1)));rw[hfl];exact hV⟩ [] (by show _=[frB b2 f,frB b3 g,(⟨b6,31,[V.val (fl f g (j+1)).length],true,none⟩:Bx),frB c1 f,frB c2 g,V.bx 25 (nS (fl f g (j+1))),CJ d,BN L rec .ready none]++[];rw[hfl];rfl)))
 ·rintro⟨j,V⟩ d L rec ⟨e1,hV⟩
  obtain rfl:j=(AP f g).length:=e1
  have hV:V.OK 1 (fl f g (AP f g).length).length (nS (fl f g (AP f g).length)):=hV
  have hn:=Q6 f g (AP f g).length
  have hsl:=Jl (fl f g (AP f g).length)
  have heq:eqL f g=AS (Br (fl f g (AP f g).length)):=by rw[eqL,fl,List.take_length]
  refine zN (zE (zA (zB (wB 2 I I I ?_))))
  refine SM 5 76 V8 hv ht (V:=V) (l:=fl f g (AP f g).length) (len:=(fl f g (AP f g).length).length) I I I I I I I I hV (by omega) (fun p hp q hq=>hs p (Tg hp) q (Tg hq)) ?_
  refine Aa (zE (zA (zB (wB 2 I I I ?_))))
  refine Tq 5 (V:=V) (l:=Br (fl f g (AP f g).length)) (len:=(fl f g (AP f g).length).length) I I I I I I I hsl.symm ⟨by rw[←hsl];simp[nS],hV.nil,fun h=>by
   have h2:=hV.cap h
   refine⟨h2.1,h2.2.1, ?_⟩
   have h3:=h2.2.2
   rw[List.length_map] at h3⊢
   rw[hsl]
   exact h3⟩ (by omega) ?_
  intro V2 hV2
  rw[←heq] at hV2⊢
  refine wP I (wP I (Aa (zE (zO ?_))))
  refine DB 6 I ?_
  exact AJ tH I (.tmp I) (.tmp I) V2 I hV2 fun W hp=>At.of_hp1 hp 5 I
-- BOXES 4
structure FrP.Sm (f:FrP):Prop where
 ok:f.OK
 sp:szQ f.sp 1
 st:szQ f.st 3
theorem FrP.Sm.vz {f:FrP} (h:f.Sm):szQ f.vel 2:=h.ok.hdz.mul h.sp
theorem Oh {f g:FrP} (hf:f.Sm) (hg:g.Sm):Rk f g∧ ∀t∈AP f g,szQ t 28:=by
 have zg:szQ (Ck f g) 11:=hg.ok.posz.sub hf.ok.posz
 have zm1:=hf.vz.mul hf.st
 have zm2:=hg.vz.mul hg.st
 have zs:=zm1.sub zm2
 have za:=zg.add zs
 have zw:=hf.vz.sub hg.vz
 have w0:f.vel≠g.vel→(f.vel-g.vel).num≠0:=fun h=>Ez (by grind)
 refine⟨⟨fun _=>sz2 zg hf.vz (by decide),fun h=>sz2 hf.st (zg.div hf.vz (Ez h)) (by decide),fun _=>sz2 zg hg.vz (by decide),fun h=>sz2 hg.st (zg.div hg.vz (Ez h)) (by decide),
  sz2 hf.vz hf.st (by decide),sz2 hg.vz hg.st (by decide),sz2 zm1 zm2 (by decide),sz2 zg zs (by decide),sz2 hf.vz hg.vz (by decide),fun _=>sz2 za zw (by decide)⟩,fun t ht=> ?_⟩
 rcases JA.1 ht with h|h|⟨h0,h⟩|⟨h0,h⟩|⟨h0,h⟩<;>rw[h]
 ·exact hf.st.mono (by decide)
 ·exact hg.st.mono (by decide)
 ·exact(hf.st.add (zg.div hf.vz (Ez h0))).mono (by decide)
 ·exact(hg.st.sub (zg.div hg.vz (Ez h0))).mono (by decide)
 ·exact(za.div zw (w0 h0)).mono (by decide)
theorem Mr (f g:FrP) (hf:f.Sm) (hg:g.Sm) (hax:f.ax=g.ax) (W:World) (hv:B9 W) (ht:AH W):
  Ae Tryz.prog 43 #[frV f,frV g] W (fun V:Vec=> .tuple #[V.val (eqL f g).length, .int .i64 0]) (fun V=>V.OK 1 (eqL f g).length (nS (eqL f g))) (fun V=>[V.bx 25 (nS (eqL f g))]):=by
 obtain⟨hz,hm⟩:=Oh hf hg
 exact Ip f g hf.ok hg.ok hax hz (fun p hp q hq=>sz2 (hm p hp) (hm q hq) (by decide)) 1 3 28 hf.sp hf.st hg.sp hg.st hm (by decide) (by decide) W hv ht
theorem Mn (f g:FrP) (hf:f.OK) (hg:g.OK) (hax:f.ax≠g.ax) (W:World) (hv:B9 W) (ht:AH W):
  Ae Tryz.prog 43 #[frV f,frV g] W (fun _:Unit=> .tuple #[.slice none 0 0, .int .i64 9]) (fun _=>True) (fun _=>[]):=by
 refine Ab (args:=[frV f,frV g]) Tryz.func43 I I I ?_
 refine zA (zB ?_)
 (refine Ay rfl rfl rfl rfl ?_;intro)
 (refine Ay rfl rfl rfl rfl ?_;intro)
 refine wP I (wP I (Aa ?_))
 rename_i b2 b3
 refine zE (zA (zA (zB (wB 0 I I I (wC I I (fun W hp=>CP f hf W (hv.hp hp) (ht.hp hp)) (wP I (wP I (wB 1 I I I (wC I I (fun W hp=>CP g hg W (hv.hp hp) (ht.hp hp)) (wP I (wP I (Aa (zE ?_)))))))))))))
 refine zS I (zI (zE (zA (zA (zB (wP I (wB 0 I I I (wP I (wB 1 I I I ?_)))))))))
 refine CG Tryz.underlying4 I I I I I I ?_
 exact wU 24 true rfl (by cases h1:f.ax<;>cases h2:g.ax<;>simp_all) (Aa (zE (zR rfl (zA (zB (wP rfl (wP rfl (Aa (zE (zO (zP (wR2 rfl rfl rfl))))))))))))
end
section
open Go Go.RowKit Go.Am
set_option maxRecDepth 10000
-- BOXES 2
-- CODE2
theorem K7 (l:List Rat):(nS l).length=l.length:=List.length_map _
theorem Jh (a b:List Rat):nS (a++b)=nS a++nS b:=List.map_append
theorem Ut {l:List Rat} {junk:List Value} (i:Nat) (j:Nat) {u:Value} (h:(nS (l.take i))[j]? =some u):(nS l++junk)[j]? =some u:=by
 have e:nS l=nS (l.take i)++nS (l.drop i):=by rw[←Jh,List.take_append_drop]
 have hj:=(List.getElem?_eq_some_iff.1 h).1
 rw[e,List.append_assoc,List.getElem?_append_left hj];exact h
theorem U4 {l:List Rat} {junk:List Value} (i:Nat) (hi:i≤l.length) (j:Nat) {u:Value} (h:(nS (l.drop i))[j]? =some u):(nS l++junk)[i*1+j]? =some u:=by
 have e:nS l=nS (l.take i)++nS (l.drop i):=by rw[←Jh,List.take_append_drop]
 have hj:=(List.getElem?_eq_some_iff.1 h).1
 have hl:(nS (l.take i)).length=i:=by rw[K7,List.length_take,Nat.min_eq_left hi]
 rw[e,List.append_assoc,List.getElem?_append_right (by omega),hl,Nat.mul_one,Nat.add_sub_cancel_left,List.getElem?_append_left hj];exact h
theorem SH {l:List Rat} {i:Nat} (hi:i<l.length):nS l=nS (l.take i)++([str (Ac l[i])]++nS (l.drop (i+1))):=by
 conv=>lhs;rw[←List.take_append_drop i l,List.drop_eq_getElem_cons hi,Jh]
 rfl
end
section
theorem Uz (f g:FrP):(eqL f g).length≤5:=by
 have h1:=Jz (Br (fl f g (AP f g).length))
 have h2:=Jl (fl f g (AP f g).length)
 have h3:=Q6 f g (AP f g).length
 have heq:eqL f g=AS (Br (fl f g (AP f g).length)):=by rw[eqL,fl,List.take_length]
 rw[heq]
 omega
end
section
open Go Go.RowKit Go.Am Go.Lib
set_option maxRecDepth 10000
-- BOXES 4
def awF:FrP:=⟨false,10, -1,q2 2 1,q2 3 1⟩
def awG:FrP:=⟨false,0,1,q2 1 2,q2 0 1⟩
theorem NU:awF.Sm:=by
 have h1:szQ awF.sp 1:=⟨by decide,by decide⟩
 have h2:szQ awF.st 3:=⟨by decide,by decide⟩
 exact⟨⟨by decide,by decide, .inr I,h1.mono (by decide),h2.mono (by decide),by decide⟩,h1,h2⟩
theorem Vx:awG.Sm:=by
 have h1:szQ awG.sp 1:=⟨by decide,by decide⟩
 have h2:szQ awG.st 3:=⟨by decide,by decide⟩
 exact⟨⟨by decide,by decide, .inl I,h1.mono (by decide),h2.mono (by decide),by decide⟩,h1,h2⟩
theorem QV:frV awF= .agg #[.bool false, .int .i64 10, .int .i64 (-1),str [50],str [51]]:=by
 show Value.agg #[.bool false, .int .i64 10, .int .i64 (-1),str (Ac (q2 2 1)),str (Ac (q2 3 1))]=_
 rw[ns2,ns3]
theorem VY:frV awG= .agg #[.bool false, .int .i64 0, .int .i64 1,str [49,47,50],str [48]]:=by
 show Value.agg #[.bool false, .int .i64 0, .int .i64 1,str (Ac (q2 1 2)),str (Ac (q2 0 1))]=_
 rw[W8,ns0]
theorem Wl (W:World) (hv:B9 W) (ht:AH W):Ae Tryz.prog 28 #[.agg #[.bool false, .int .i64 10, .int .i64 (-1),str [50],str [51]],str [49]] W (fun _:Unit=> .tuple #[str [49,48], .int .i64 0]) (fun _=>True) (fun _=>[]):=by
 have h:=L3 awF NU.ok (q2 1 1) ⟨by decide,by decide⟩ W hv ht
 rw[QV,ns1,show awF.at (q2 1 1)=q2 10 1 by decide+kernel,WB] at h
 exact h
theorem VO (W:World) (hv:B9 W) (ht:AH W):Ae Tryz.prog 28 #[.agg #[.bool false, .int .i64 10, .int .i64 (-1),str [50],str [51]],str [53]] W (fun _:Unit=> .tuple #[str [54], .int .i64 0]) (fun _=>True) (fun _=>[]):=by
 have h:=L3 awF NU.ok (q2 5 1) ⟨by decide,by decide⟩ W hv ht
 rw[QV,ns5,show awF.at (q2 5 1)=q2 6 1 by decide+kernel,ns6] at h
 exact h
theorem Wi (W:World) (hv:B9 W) (ht:AH W):Ae Tryz.prog 36 #[.agg #[.bool false, .int .i64 10, .int .i64 (-1),str [50],str [51]]] W (fun _:Unit=> .tuple #[.agg #[str [48],str [45,49,47,50],str [56]], .int .i64 0]) (fun _=>True) (fun _=>[]):=by
 have h:=Ng awF NU.ok W hv ht
 have e:awF.plane= .tuple #[.agg #[str [48],str [45,49,47,50],str [56]], .int .i64 0]:=by
  rw[FrP.plane,if_neg (by decide),show awF.ax=false from rfl,show awF.slope=q2 (-1) 2 by decide+kernel,show awF.base=q2 8 1 by decide+kernel,Wp,ns8];rfl
 rw[QV,e] at h
 exact h
theorem VB:eqL awF awG=[q2 32 5]:=by
 have h:(AP awF awG).filter (C0 awF awG)=[q2 32 5]:=by decide+kernel
 rw[eqL,h]
 show AS [q2 32 5]=_
 rw[AS]
theorem VP (W:World) (hv:B9 W) (ht:AH W):Ae Tryz.prog 43 #[.agg #[.bool false, .int .i64 10, .int .i64 (-1),str [50],str [51]], .agg #[.bool false, .int .i64 0, .int .i64 1,str [49,47,50],str [48]]] W
  (fun V:Vec=> .tuple #[V.val 1, .int .i64 0]) (fun V=>V.OK 1 1 (nS [q2 32 5])) (fun V=>[V.bx 25 (nS [q2 32 5])]):=by
 have h:=Mr awF awG NU Vx rfl W hv ht
 rw[QV,VY,VB] at h
 exact h
theorem VW (W:World) (g b cap:Nat) (h1:Az W g 0 (nS [q2 32 5])) (h2:Az W b 0 [str [51,50,47,53]]):
  Ae Tryz.prog 13 #[.slice (some ⟨g,0,none⟩) 1 cap, .slice (some ⟨b,0,none⟩) 1 1] W (fun _:Unit=> .bool true) (fun _=>True) (fun _=>[]):=by
 have h:=Jc W (some ⟨g,0,none⟩) (some ⟨b,0,none⟩) cap 1 [Ac (q2 32 5)] [[51,50,47,53]] (.inr ⟨g,0,rfl,h1⟩) (.inr ⟨b,0,rfl,h2⟩) (by decide) (by decide)
 rw[VU,dT rfl] at h
 exact h
theorem SP (a b:List UInt8) (h:a=b):(((⟨a.toArray⟩:ByteArray).toList==(⟨b.toArray⟩:ByteArray).toList))=true:=(AD a b).trans (dT h)
theorem Tx (W:World) (a b c a' b' c':List UInt8):(binOp .eql 57 (.agg #[str a,str b,str c]) (.agg #[str a',str b',str c'])).run Tryz.prog W= .ok (.bool (decide (a=a'∧b=b'∧c=c'))) W:=by
 rw[run_eql_struct,run_equalIn_agg W 9999 57 _ _ (by kernel_rfl) (by kernel_rfl)]
 have hf : ∃ f1 f2 f3 : Field, (Tryz.prog.fieldsOf 57).toList = [f1, f2, f3] ∧ (f1.name ≠ "_" ∧ f1.type = 25 ∧ f1.offset = 0) ∧ (f2.name ≠ "_" ∧ f2.type = 25 ∧ f2.offset = 1) ∧ (f3.name ≠ "_" ∧ f3.type = 25 ∧ f3.offset = 2) := by
  unfold Program.fieldsOf;rw[Tryz.underlying57]
  exact⟨_,_,_,I,⟨by decide,I,I⟩,⟨by decide,I,I⟩,⟨by decide,I,I⟩⟩
 obtain⟨f1,f2,f3,hf,⟨n1,t1,o1⟩,⟨n2,t2,o2⟩,⟨n3,t3,o3⟩⟩:=hf
 rw[hf]
 have e: ∀(x y:List UInt8) W,(Op.equalIn 9999 25 (str x) (str y)).run Tryz.prog W= .ok (decide (x=y)) W:=fun x y W=>by
  rw[run_equalIn_string W 9998 25 _ _ Tryz.underlying25,AD]
 by_cases h1:a=a'<;>by_cases h2:b=b'<;>by_cases h3:c=c'<;>simp[Op.eqFields,part,Tryz.isAgg25,e,h1,h2,h3,n1,n2,n3,t1,t2,t3,o1,o2,o3]
section
variable {r:Option Nat} {n:Nat} {N:Nat} {D:List Deferred} {ops:List Oper} {Q:Exit→Act→World→Prop} {o:Oper} {rest:List Oper} {env:Env} {A:World→Prop}
theorem UX (a b c a' b' c':List UInt8) {d:Nat} {u:TypeId} {x y:Operand} (hg:Ax ops N env o=some true) (hd:o.dst=some d) (ho:o.op= .binOp .eql 57 x y u)
  (hx:evO N env x=some (.agg #[str a,str b,str c])) (hy:evO N env y=some (.agg #[str a',str b',str c']))
  (h:WL r n Tryz.prog N D ops Q rest ((d, .bool (decide (a=a'∧b=b'∧c=c')))::env) A):WL r n Tryz.prog N D ops Q (o::rest) env A:=
 Du hg hd (fun c e=>by rw[ho] at e;cases e) (fun _ W hρ _=>by
  have hm:Tryz.prog.eqGuardType Tryz.prog.depth 57=false:=by kernel_rfl
  simp[execOp,ho,hρ _ _ hx,hρ _ _ hy,run_eqGuard_agg W .eql 57 x y _ _ hm,Tx]) h
end
theorem I0 (W:World) (hv:B9 W) (ht:AH W):Ae Tryz.prog 27 #[] W (fun _:Unit=> .bool true) (fun _=>True) (fun _=>[]):=by
 refine Ab (args:=[]) Tryz.func27 I I I ?_
 refine zA (zB (wP I (Aa (zE (zA (zB ?_))))))
 refine Au Tryz.hZ tH I I I I I I I I ?_
 (refine Ah Tryz.hZ rfl rfl rfl rfl ?_;intro)
 refine wS 0 I I I (Aa ?_)
 rename_i b1
 refine zE (zA (zB (wB 0 I I I (wC I I (fun W hp=>Wl W (hv.hp hp) (ht.hp hp)) ?_))))
 iterate 5 refine wP I ?_
 refine Aa (zE (zA (zB (wB 0 I I I (wC I I (fun W hp=>VO W (hv.hp hp) (ht.hp hp)) ?_)))))
 iterate 5 refine wP I ?_
 refine Aa (zE (zA (zB (wB 0 I I I (wC I I (fun W hp=>Wi W (hv.hp hp) (ht.hp hp)) (wP I (wP I (wP I ?_))))))))
 (refine Ah Tryz.hZ rfl rfl rfl rfl ?_;intro)
 refine wS 1 I I I (wP I (Aa ?_))
 rename_i b6
 refine zE (zA (zB (wB 0 I I I ?_)))
 refine Au Tryz.hZ tH I I I I I I I I ?_
 refine wD (X:=Vec) I I (fun W hp=>VP W (hv.hp hp) (ht.hp hp)) ?_
 intro V hV
 iterate 5 refine wP I ?_
 refine Aa (zE (zA (zB ?_)))
 iterate 9 refine wP I ?_
 refine wU 40 true I (SP _ _ I) (wP I (wP I (wP I (wP I (wU 44 true I (SP _ _ I) (wP I (wP I (wB 1 I I I ?_))))))))
 refine Au Tryz.hZ tH I I I I I I I I ?_
 refine UX [48] [45,49,47,50] [56] [48] [45,49,47,50] [56] I I I I I ?_
 refine wU 49 true I (dT ⟨I,I,I⟩) (wP I (wP I (wP I ?_)))
 (refine A3 Tryz.hZ tH rfl rfl rfl rfl rfl rfl rfl rfl rfl rfl rfl ?_;intro)
 rename_i b7
 obtain⟨p,cap,junk⟩:=V
 cases p with
 |none=>exact absurd (hV.nil rfl) (by decide)
 |some g=>
  refine Aj 52 (.slice (some ⟨g,0,none⟩) 1 cap) I I ?_
  exact wC I I (fun W hp=>VW W g b7 cap (F2 hp 2 (A:=[]) (C:=junk) I I I) (Az.of_bx hp 3 I I)) (wP I (wP I (Aa (zE (zO (wR1 I I I))))))
-- BOXES 5
-- CODE2
theorem Vec.frs {V:Vec} {l:List FrP} (hV:V.OK 5 l.length (frC l)) (h0:0<l.length): ∃g cap,V.val l.length= .slice (some ⟨g,0,none⟩) l.length cap∧
  ∀ {W0 W:World} {bxs:List Bx},Hp W0 bxs W→ ∀k,nth bxs k=some (V.bx 48 (frC l))→ ∀m f,l[m]? =some f→Az W g (0+m*5) (frV f).cells.toList:=by
 obtain⟨p,cap,junk⟩:=V
 cases p with
 |none=>have:=hV.nil rfl;omega
 |some g=>
  refine⟨g,cap,I,fun {W0 W bxs} hp k hk m f hf=> ?_⟩
  obtain⟨hm,rfl⟩:=List.getElem?_eq_some_iff.1 hf
  refine F2 hp k (A:=frC (l.take m)) (C:=frC (l.drop (m+1))++junk) hk ?_ (by rw[U3,List.length_take];omega)
  have e:frC l=frC (l.take m)++((frV l[m]).cells.toList++frC (l.drop (m+1))):=by
   conv=>lhs;rw[←List.take_append_drop m l,List.drop_eq_getElem_cons hm,NP]
   rfl
  rw[e,List.append_assoc,List.append_assoc]
-- BOXES 15
-- CODE2
abbrev bxE (b:Nat) (t:TypeId) (v:Value):Bx:=⟨b,t,[v],true,none⟩
-- BOXES 6
-- CODE2
structure Wf (W:World) (p:Option Addr) (rs:List (List Sd)):Prop where
 n:rs.length<1099511627776
 R:Bv W p rs
 c:chk rs=0
 d:LQ W
 v:B9 W
 t:AH W
-- BOXES 3
-- CODE2
theorem TA {l:List Rat} (hs:l.Pairwise (· < ·)) {z:Rat} (hz:z∈l):GN z l=l:=
 H3 (Fx hs) hs fun x=>by
  rw[GU]
  exact⟨fun h=>h.elim (fun e=>by rw[e];exact hz) id, .inr⟩
-- BOXES 7
-- CODE2
structure Sz (f g:FrP) (k:Nat):Prop where
 an: ∀i,i<2→szQ (anc f g i) k
 at_: ∀i,i<2→Sz2 (f.at (anc f g i)) (g.at (anc f g i))
 v: ∀i,i<2→Sz2 (f.velA (anc f g i)) (g.velA (anc f g i))
 q: ∀i,i<2→Sz2 (f.at (anc f g i)-g.at (anc f g i)) (f.velA (anc f g i)-g.velA (anc f g i))
 s: ∀i,i<2→f.velA (anc f g i)≠g.velA (anc f g i)→Sz2 (anc f g i) ((f.at (anc f g i)-g.at (anc f g i))/(f.velA (anc f g i)-g.velA (anc f g i)))
 c: ∀i,i<2→f.velA (anc f g i)≠g.velA (anc f g i)→Sz2 (F8 f g i) (anc f g i)
 h:f.velA (anc f g 0)≠g.velA (anc f g 0)→Sz2 (F8 f g 0) (hiS f g)
 m: ∀z∈Bi f g 2,szQ z k
 pr:(Bi f g 2).Pairwise Sz2
theorem UG {R:Rat→Rat→Prop} {l:List Rat} (h:l.Pairwise R) {i:Nat} (hi:i<l.length): ∀x∈l.take i,R x l[i]:=fun x hx=>by
 obtain⟨j,hj,rfl⟩:=List.getElem_of_mem hx
 rw[List.length_take] at hj
 rw[List.getElem_take]
 exact List.pairwise_iff_getElem.1 h j i (by omega) hi (by omega)
theorem Q1 {W0 W:World} {bxs:List Bx} (hp:Hp W0 bxs W) (k:Nat) {g i:Nat} {l:List Rat} {junk:List Value} (hk:nth bxs k=some ⟨g,25,nS l++junk,true,none⟩) (hi:i<l.length):Az W g (0+i*1) [str (Ac l[i])]:=
 F2 hp k (A:=nS (l.take i)) (B:=[str (Ac l[i])]) (C:=nS (l.drop (i+1))++junk) hk (by rw[SH hi,List.append_assoc,List.append_assoc]) (by rw[K7,List.length_take];omega)
theorem SB {l:List Rat}: ∀u∈nS l,u.oneCell'=true:=fun u hu=>by
 obtain⟨q,_,rfl⟩:=List.mem_map.1 hu
 rfl
theorem NG (f g:FrP) (hf:f.OK) (hg:g.OK) (hax:f.ax=g.ax) (a k:Nat) (ha:szQ f.sp a) (hb:szQ f.st a) (ha':szQ g.sp a) (hb':szQ g.st a) (hz:Sz f g k) (hk1:a+a+k+9≤300) (hk2:a+a+1≤300) (W:World) (ht:AH W):
  Ae Tryz.prog 44 #[frV f,frV g] W (fun V:Vec=> .tuple #[V.val (eqL f g).length, .int .i64 0]) (fun V=>V.OK 1 (eqL f g).length (nS (eqL f g))) (fun V=>[V.bx 25 (nS (eqL f g))]):=by
 refine Ab (args:=[frV f,frV g]) Tryz.func44 I I I ?_
 refine zA (zB ?_)
 (refine Ay rfl rfl rfl rfl ?_;intro)
 (refine Ay rfl rfl rfl rfl ?_;intro)
 refine wP I (wP I (Aa ?_))
 rename_i b2 b3
 refine zE (zA (zA (zB (wB 0 I I I (wC I I (fun W1 hp=>Ec f hf W1 (ht.hp hp)) (wP I (wP I (wB 1 I I I (wC I I (fun W1 hp=>Ec g hg W1 (ht.hp hp)) (wP I (wP I (Aa (zE ?_)))))))))))))
 refine zS I (zI (zE (zA (zA (zB (wP I (wB 0 I I I (wP I (wB 1 I I I ?_)))))))))
 refine CG Tryz.underlying4 I I I I I I ?_
 refine wU 31 false I (by rw[hax];simp) (Aa (zE (zS I (zI (zE (zA (zB (wP I (wB 0 I I I (wP I (wB 1 I I I ?_)))))))))))
 refine A3 Tryz.hZ tH I I I I I I I I I I I fun b36=> ?_
 refine wP I (Aa (zE (zA (zU (qP I (qB 0 I I I (qP I (qB 1 I I I (qP I (qP I (A0 (Aa (zE ?_)))))))))))))
 refine zA (zA (zB (wP I (wP I (wC I I (fun W1 hp=>CC f.st g.st (sz2 hb hb' hk2) W1 (ht.hp hp)) (wP I (wU 44 (decide (g.st<f.st)) I (Ix f.st g.st) (Aa (As ?_)))))))))
 refine Av (X:=Unit) (fun _=>[(2,Ao b2),(3,Ao b3),(6, .slice (some ⟨b36,0,none⟩) 2 2),(7,str (Ac (loS f g))),(8,str (Ac (hiS f g)))]) (fun _=>[frB b2 f,frB b3 g,⟨b36,25,[str (Ac f.st),str (Ac g.st)],true,none⟩]) (fun _=>True) ?_ ?_
 ·refine Af I (fun hc=> ?_) (fun hc=> ?_)
  ·have hc:g.st<f.st:=of_decide_eq_true hc
   have e1:loS f g=g.st:=if_pos hc
   have e2:hiS f g=f.st:=if_pos hc
   rw[e1,e2]
   exact zB (wP I (wP I (wP I (wP I (Aa (Ag () O ⟨I,I,I,I,I,O⟩ [] I))))))
  ·have hc: ¬g.st<f.st:=of_decide_eq_false hc
   have e1:loS f g=f.st:=if_neg hc
   have e2:hiS f g=g.st:=if_neg hc
   rw[e1,e2]
   exact zI (Ag () O ⟨I,I,I,I,I,O⟩ [] I)
 intro _ _
 refine zA (zA (zB (wP I (wP I ?_))))
 refine A3 Tryz.hZ tH I I I I I I I I I I I fun b49=> ?_
 refine wP I (wP I (Aa (zE (zH ?_))))
 refine Ar (X:=Nat×Nat×Nat×List Value) (fun s=>[(2,Ao b2),(3,Ao b3),(6, .slice (some ⟨s.2.1,0,none⟩) (Bi f g s.1).length s.2.2.1),(8,str (Ac (hiS f g))),(49, .slice (some ⟨b49,0,none⟩) 2 2),(50, .int .i64 2),(51, .int .i64 (s.1:Nat))])
  (fun s=>[frB b2 f,frB b3 g,⟨s.2.1,25,nS (Bi f g s.1)++s.2.2.2,true,none⟩,⟨b49,25,[str (Ac (loS f g)),str (Ac (hiS f g))],true,none⟩])
  (fun s=>s.1≤2∧(⟨some s.2.1,s.2.2.1,s.2.2.2⟩:Vec).OK 1 (Bi f g s.1).length (nS (Bi f g s.1))) (fun s=>2-s.1) (0,b36,2,[]) ⟨Nat.zero_le 2,⟨rfl,(fun h=>by cases h),fun _=>⟨Nat.le_refl _,(show 2≤maxLen by decide),rfl⟩⟩⟩ ⟨rfl,rfl,rfl,rfl,rfl,rfl,rfl,trivial⟩ [] rfl ?_
 rintro⟨i,gV,cV,jV⟩ ⟨hi,hV⟩
 have hi:i≤2:=hi
 have hV:(⟨some gV,cV,jV⟩:Vec).OK 1 (Bi f g i).length (nS (Bi f g i)):=hV
 refine zA (zB (wP I ?_))
 by_cases hlt:i<2
 ·refine wU 52 true I (dT (by omega)) (Aa (zE (zA (zR I (zI (zE (zA (zH (zA (zB ?_))))))))))
  have hsu:=J9 f g i
  have hln:=GR f g i
  obtain⟨z,hze⟩: ∃z,z=anc f g i:=⟨_,rfl⟩
  have zan:=hz.an i hlt
  have zat:=hz.at_ i hlt
  have zv:=hz.v i hlt
  have zq:=hz.q i hlt
  have zs:=hz.s i hlt
  have zc:=hz.c i hlt
  have hcr:F8 f g i=z-(f.at z-g.at z)/(f.velA z-g.velA z):=by rw[hze];rfl
  have hcb:crB f g i=(decide (f.velA z≠g.velA z)&&(decide (z<F8 f g i)&&(decide (i=1)||decide (F8 f g i<hiS f g)))):=by rw[hze];rfl
  rw[←hze] at zan zat zv zq zs zc
  have hrow: ∀ {W0 W:World} {bxs:List Bx},Hp W0 bxs W→nth bxs 3=some ⟨b49,25,[str (Ac (loS f g)),str (Ac (hiS f g))],true,none⟩→Az W b49 (0+i*1) [str (Ac z)]:=fun hp h3=>by
   rcases(show i=0∨i=1 by omega) with e|e
   ·subst e;rw[hze];exact F2 hp 3 (A:=[]) (B:=[str (Ac (loS f g))]) (C:=[str (Ac (hiS f g))]) h3 rfl rfl
   ·subst e;rw[hze];exact F2 hp 3 (A:=[str (Ac (loS f g))]) (B:=[str (Ac (hiS f g))]) (C:=[]) h3 rfl rfl
  refine wP I ?_
  refine wJ ?_
  refine wL 0 I I (fun W1 hp=>hrow hp I) I (wP I (wP I (Aa (zE (zA (zU (qB 0 I I I (qP I (qC I I (fun W1 hp=>Dl f hf z a a k ha hb zan hk1 W1 (ht.hp hp)) (qB 1 I I I (qP I (qC I I (fun W1 hp=>Dl g hg z a a k ha' hb' zan hk1 W1 (ht.hp hp)) (qC I I (fun W1 hp=>EG (f.at z) (g.at z) zat W1 (ht.hp hp)) ?_)))))))))))))
  refine qP I (A0 (Aa (zE (zA (zU (qB 0 I I I (qP I (qC I I (fun W1 hp=>(CL f hf z a k hb zan (by omega) true W1 (ht.hp hp)).cast (v':=str (Ac (f.velA z))) I) (qB 1 I I I (qP I (qC I I (fun W1 hp=>(CL g hg z a k hb' zan (by omega) true W1 (ht.hp hp)).cast (v':=str (Ac (g.velA z))) I) (qC I I (fun W1 hp=>EG (f.velA z) (g.velA z) zv W1 (ht.hp hp)) (qP I ?_)))))))))))))
  refine A0 (Aa (zE (zA (zA (zB (wP I (wP I ?_)))))))
  by_cases hv0:f.velA z-g.velA z=0
  ·have e0:crB f g i=false:=by rw[hcb,dF (show¬f.velA z≠g.velA z by grind)];rfl
   rw[e0,if_neg (by decide),List.append_nil] at hsu
   exact wU 71 true I ((AD _ _).trans ((FJ _).trans (dT hv0))) (Aa (zE (zR I (zJ (zK (zL (zE (zB (wP I (wV 95 ((i+1:Nat):Int) I (A4 (by omega)) (wP I (Aa (Ak (i+1,gV,cV,jV) ⟨hlt,by show(⟨some gV,cV,jV⟩:Vec).OK 1 (Bi f g (i+1)).length (nS (Bi f g (i+1)));rw[hsu];exact hV⟩ (by show 2-(i+1)<2-i;omega) ⟨I,I,(by show _=some (Value.slice (some ⟨gV,0,none⟩) (Bi f g (i+1)).length cV);rw[hsu];rfl),I,I,I,I,O⟩ [] (by show _=[frB b2 f,frB b3 g,(⟨gV,25,nS (Bi f g (i+1))++jV,true,none⟩:Bx),_]++[];rw[hsu];rfl))))))))))))))
  have hv1:f.velA z≠g.velA z:=by grind
  refine wU 71 false I ((AD _ _).trans ((FJ _).trans (dF hv0))) (Aa (zE (zS I (zI (zE (zA (zB (wP I (wP I (wP I (wC I I (fun W1 hp=>Lq (f.at z-g.at z) (f.velA z-g.velA z) zq (Ez hv0) W1 (ht.hp hp)) (wC I I (fun W1 hp=>(EG z _ (zs hv1) W1 (ht.hp hp)).cast (v':=str (Ac (F8 f g i))) (by rw[hcr])) (wP I ?_)))))))))))))
  refine Aa (As (An ?_))
  refine Av (X:=Unit) (fun _=>[(2,Ao b2),(3,Ao b3),(6, .slice (some ⟨gV,0,none⟩) (Bi f g i).length cV),(8,str (Ac (hiS f g))),(13,str (Ac (F8 f g i))),(49, .slice (some ⟨b49,0,none⟩) 2 2),(50, .int .i64 2),(51, .int .i64 (i:Nat)),(90, .bool (crB f g i))])
   (fun _=>[frB b2 f,frB b3 g,⟨gV,25,nS (Bi f g i)++jV,true,none⟩,⟨b49,25,[str (Ac (loS f g)),str (Ac (hiS f g))],true,none⟩]) (fun _=>True) ?_ ?_
  ·refine zB (wP I (wP I (wC I I (fun W1 hp=>CC (F8 f g i) z (zc hv1) W1 (ht.hp hp)) (wP I ?_))))
   rw[hcb,dT hv1,Bool.true_and]
   by_cases h1:z<F8 f g i
   ·rw[dT h1,Bool.true_and]
    refine wU 80 true I ((Ix _ _).trans (dT h1)) (wP I (wP I (wP I ?_)))
    by_cases e1:i=1
    ·rw[dT e1,Bool.true_or]
     refine wU 83 true I (beq_iff_eq.2 (by omega)) (wP I ?_)
     iterate 4 refine Ad I I ?_
     exact wP I (wP I (Aa (Ag () O ⟨I,I,I,I,I,I,I,I,I,O⟩ [] I)))
    ·rw[dF e1,Bool.false_or]
     have e0:i=0:=by omega
     exact wU 83 false rfl (beq_eq_false_iff_ne.2 (by omega)) (wP rfl (wP rfl (wP rfl (wC rfl rfl (fun W1 hp=>(by subst e0;rw[hze] at hv1;exact CC (F8 f g 0) (hiS f g) (hz.h hv1) W1 (ht.hp hp))) (wP rfl (wU 88 (decide (F8 f g i<hiS f g)) rfl (by rw[e0];exact Gb _ _) (wP rfl (wP rfl (Aa (Ag () trivial ⟨rfl,rfl,rfl,rfl,rfl,rfl,rfl,rfl,rfl,trivial⟩ [] rfl))))))))))
   ·rw[dF h1,Bool.false_and]
    refine wU 80 false I ((Ix _ _).trans (dF h1)) (wP I ?_)
    iterate 8 refine Ad I I ?_
    exact wP I (Aa (Ag () O ⟨I,I,I,I,I,I,I,I,I,O⟩ [] I))
  intro _ _
  refine Af I (fun hc=> ?_) (fun hc=> ?_)
  ·have hc:crB f g i=true:=hc
   rw[hc,if_pos rfl] at hsu
   refine zB (wP I (wP I ?_))
   refine A3 Tryz.hZ tH I I I I I I I I I I I fun bS=> ?_
   refine AK (V:=⟨some gV,cV,jV⟩) (len:=(Bi f g i).length) (xs:=nS (Bi f g i)) 2 4 Tryz.vec31 (Bi f g (i+1)).length (nS (Bi f g (i+1))) I I I I I I I I I I I hV I I (by rw[hsu,List.length_append];rfl) (by rw[hsu,Jh];rfl) (by have:=GR f g (i+1);simp only[maxLen];omega) (by have:=GR f g (i+1);omega) I ?_
   intro g1 c1 j1 hV1
   exact wP I (Aa (zN (zE (zB (wP I (wV 95 ((i+1:Nat):Int) I (A4 (by omega)) (wP I (Aa (Ak (i+1,g1,c1,j1) ⟨hlt,hV1⟩ (by show 2-(i+1)<2-i;omega) ⟨I,I,I,I,I,I,I,O⟩ _ I)))))))))
  ·have hc:crB f g i=false:=hc
   rw[hc,if_neg (by decide),List.append_nil] at hsu
   exact zI (zN (zE (zB (wP I (wV 95 ((i+1:Nat):Int) I (A4 (by omega)) (wP I (Aa (Ak (i+1,gV,cV,jV) ⟨hlt,by show(⟨some gV,cV,jV⟩:Vec).OK 1 (Bi f g (i+1)).length (nS (Bi f g (i+1)));rw[hsu];exact hV⟩ (by show 2-(i+1)<2-i;omega) ⟨I,I,(by show _=some (Value.slice (some ⟨gV,0,none⟩) (Bi f g (i+1)).length cV);rw[hsu];rfl),I,I,I,I,O⟩ [] (by show _=[frB b2 f,frB b3 g,(⟨gV,25,nS (Bi f g (i+1))++jV,true,none⟩:Bx),_]++[];rw[hsu];rfl)))))))))
 have e2:i=2:=by omega
 subst e2
 refine wU 52 false I (dF (by omega)) (Aa (zE (zA (zS I (zJ (zK (zK (zL (zE (zA (zB ?_)))))))))))
 have hCl:=GR f g 2
 have zm:=hz.m
 have zp:=hz.pr
 refine Cz tH I I I I I ?_
 intro gE
 refine wP I (Aa (zE (zA (zA (zB (wP I (Aa (zE (zH ?_)))))))))
 refine Ar (X:=Nat×Nat×Nat×List Value) (fun s=>[(2,Ao b2),(3,Ao b3),(6, .slice (some ⟨gV,0,none⟩) (Bi f g 2).length cV),(14, .slice (some ⟨s.2.1,0,none⟩) (Bh f g s.1).length s.2.2.1),(15, .int .i64 (s.1:Nat))])
  (fun s=>[frB b2 f,frB b3 g,⟨gV,25,nS (Bi f g 2)++jV,true,none⟩,⟨b49,25,[str (Ac (loS f g)),str (Ac (hiS f g))],true,none⟩,⟨s.2.1,25,nS (Bh f g s.1)++s.2.2.2,true,none⟩])
  (fun s=>s.1≤(Bi f g 2).length∧(⟨some s.2.1,s.2.2.1,s.2.2.2⟩:Vec).OK 1 (Bh f g s.1).length (nS (Bh f g s.1))) (fun s=>(Bi f g 2).length-s.1) (0,gE,0,[]) ⟨Nat.zero_le _,⟨rfl,(fun h=>by cases h),fun _=>⟨Nat.le_refl _,Nat.zero_le _,rfl⟩⟩⟩ ⟨rfl,rfl,rfl,rfl,rfl,trivial⟩ [] rfl ?_
 rintro⟨i,gO,cO,jO⟩ ⟨hi,hO⟩
 have hi:i≤(Bi f g 2).length:=hi
 have hO:(⟨some gO,cO,jO⟩:Vec).OK 1 (Bh f g i).length (nS (Bh f g i)):=hO
 have hol:=TL f g i
 refine zA (zA (zB (wP I (wP I (wP I (wP I ?_))))))
 by_cases hlt:i<(Bi f g 2).length
 ·refine wU 100 true I (dT (by omega)) (Aa (zE (zR I (zI (zE (zA (zH (zA (zB ?_)))))))))
  obtain⟨z,hze⟩: ∃z,z=(Bi f g 2)[i]:=⟨_,rfl⟩
  have zz:szQ z k:=by rw[hze];exact zm _ (List.getElem_mem hlt)
  have zo: ∀x∈Bh f g i,Sz2 x z:=fun x hx=>by rw[hze];exact UG zp hlt x (Tf hx)
  have hsu:=RE f g hlt
  rw[←hze] at hsu
  refine wP I (wP I ?_)
  refine wJ ?_
  refine wL 0 I I (fun W1 hp=>(show Az W1 gV (0+i*1) [str (Ac z)] by rw[hze];exact Q1 hp 2 I hlt)) I (wP I (Aa (zE (zA (zA (zU (qB 0 I I I (qP I (qC I I (fun W1 hp=>Dl f hf z a a k ha hb zz hk1 W1 (ht.hp hp)) (qB 1 I I I (qP I (qC I I (fun W1 hp=>Dl g hg z a a k ha' hb' zz hk1 W1 (ht.hp hp)) (qP I ?_)))))))))))))
  by_cases h1:f.at z=g.at z
  rotate_left
  ·have e:C0 f g z=false:=by simp[C0,h1]
   rw[e,if_neg (by decide)] at hsu
   refine qU 113 true I (by show(!_)=true;rw[AD,dF fun e=>h1 (Cf.1 e)];rfl) (A0 (Aa (zE (zR I (zJ (zK (zL (zE (zB (wP I (wP I (wV 102 ((i+1:Nat):Int) I (A4 (by omega)) (wP I ?_)))))))))))))
   exact Aa (Ak (i+1,gO,cO,jO) ⟨hlt,by show(⟨some gO,cO,jO⟩:Vec).OK 1 (Bh f g (i+1)).length (nS (Bh f g (i+1)));rw[hsu];exact hO⟩ (by show(Bi f g 2).length-(i+1)<(Bi f g 2).length-i;omega) ⟨I,I,I,(by show _=some (Value.slice (some ⟨gO,0,none⟩) (Bh f g (i+1)).length cO);rw[hsu];rfl),I,O⟩ [] (by show _=[frB b2 f,frB b3 g,_,_,(⟨gO,25,nS (Bh f g (i+1))++jO,true,none⟩:Bx)]++[];rw[hsu];rfl))
  refine qU 113 false I (by show(!_)=false;rw[AD,dT (Cf.2 h1)];rfl) (A0 (Aa (zE (zS I (zI (zE (An (An ?_))))))))
  refine Av (X:=Unit) (fun _=>[(2,Ao b2),(3,Ao b3),(6, .slice (some ⟨gV,0,none⟩) (Bi f g 2).length cV),(14, .slice (some ⟨gO,0,none⟩) (Bh f g i).length cO),(15, .int .i64 (i:Nat)),(16,str (Ac z)),(129, .bool (decide (f.velA z=g.velA z)&&decide (f.velB z=g.velB z)))]) (fun _=>[frB b2 f,frB b3 g,⟨gV,25,nS (Bi f g 2)++jV,true,none⟩,⟨b49,25,[str (Ac (loS f g)),str (Ac (hiS f g))],true,none⟩,⟨gO,25,nS (Bh f g i)++jO,true,none⟩]) (fun _=>True) ?_ ?_
  ·refine zU (qB 0 I I I (qP I (qC I I (fun W1 hp=>(CL f hf z a k hb zz (by omega) true W1 (ht.hp hp)).cast (v':=str (Ac (f.velA z))) I) (qB 1 I I I (qP I (qC I I (fun W1 hp=>(CL g hg z a k hb' zz (by omega) true W1 (ht.hp hp)).cast (v':=str (Ac (g.velA z))) I) (qP I ?_)))))))
   by_cases h2:f.velA z=g.velA z
   ·rw[dT h2,Bool.true_and]
    exact qU 120 true I ((AD _ _).trans (dT (by rw[h2]))) (qP I (qB 0 I I I (qP I (qC I I (fun W1 hp=>(CL f hf z a k hb zz (by omega) false W1 (ht.hp hp)).cast (v':=str (Ac (f.velB z))) I) (qB 1 I I I (qP I (qC I I (fun W1 hp=>(CL g hg z a k hb' zz (by omega) false W1 (ht.hp hp)).cast (v':=str (Ac (g.velB z))) I) (qP I (qU 128 (decide (f.velB z=g.velB z)) I ((AD _ _).trans (decide_eq_decide.2 Cf)) (qP I (A0 (Aa (Ag () O ⟨I,I,I,I,I,I,I,O⟩ [] I)))))))))))))
   ·rw[dF h2,Bool.false_and]
    refine qU 120 false I ((AD _ _).trans (dF fun e=>h2 (Cf.1 e))) (qP I ?_)
    iterate 7 refine B8 I I ?_
    exact qP I (A0 (Aa (Ag () O ⟨I,I,I,I,I,I,I,O⟩ [] I)))
  intro _ _
  refine Af I (fun hc=> ?_) (fun hc=> ?_)
  ·have hc:(decide (f.velA z=g.velA z)&&decide (f.velB z=g.velB z))=true:=hc
   rw[Bool.and_eq_true,decide_eq_true_eq,decide_eq_true_eq] at hc
   have e:C0 f g z=false:=by simp[C0,hc.1,hc.2]
   rw[e,if_neg (by decide)] at hsu
   exact zJ (zK (zL (zE (zB (wP I (wP I (wV 102 ((i+1:Nat):Int) I (A4 (by omega)) (wP I (Aa (Ak (i+1,gO,cO,jO) ⟨hlt,by show(⟨some gO,cO,jO⟩:Vec).OK 1 (Bh f g (i+1)).length (nS (Bh f g (i+1)));rw[hsu];exact hO⟩ (by show(Bi f g 2).length-(i+1)<(Bi f g 2).length-i;omega) ⟨I,I,I,(by show _=some (Value.slice (some ⟨gO,0,none⟩) (Bh f g (i+1)).length cO);rw[hsu];rfl),I,O⟩ [] (by show _=[frB b2 f,frB b3 g,_,_,(⟨gO,25,nS (Bh f g (i+1))++jO,true,none⟩:Bx)]++[];rw[hsu];rfl)))))))))))
  have hc:(decide (f.velA z=g.velA z)&&decide (f.velB z=g.velB z))=false:=hc
  have e:C0 f g z=true:=Ov.2 ⟨h1,by
   rw[Bool.and_eq_false_iff,decide_eq_false_iff_not,decide_eq_false_iff_not] at hc
   exact hc.elim .inr .inl⟩
  rw[e,if_pos rfl] at hsu
  refine zI (zE (zA (zB (wP I (Aa (As (An ?_)))))))
  refine Av (X:=Nat) (fun j=>[(2,Ao b2),(3,Ao b3),(6, .slice (some ⟨gV,0,none⟩) (Bi f g 2).length cV),(14, .slice (some ⟨gO,0,none⟩) (Bh f g i).length cO),(15, .int .i64 (i:Nat)),(16,str (Ac z)),(17, .int .i64 (j:Nat))]) (fun _=>[frB b2 f,frB b3 g,⟨gV,25,nS (Bi f g 2)++jV,true,none⟩,⟨b49,25,[str (Ac (loS f g)),str (Ac (hiS f g))],true,none⟩,⟨gO,25,nS (Bh f g i)++jO,true,none⟩]) (fun j=>j≤(Bh f g i).length∧(∀m (hm:m<(Bh f g i).length),m<j→(Bh f g i)[m]<z)∧(∀hm:j<(Bh f g i).length, ¬(Bh f g i)[j]<z)) ?_ ?_
  ·refine zH ?_
   refine Ar (X:=Nat) (fun j=>[(2,Ao b2),(3,Ao b3),(6, .slice (some ⟨gV,0,none⟩) (Bi f g 2).length cV),(14, .slice (some ⟨gO,0,none⟩) (Bh f g i).length cO),(15, .int .i64 (i:Nat)),(16,str (Ac z)),(17, .int .i64 (j:Nat))]) (fun _=>[frB b2 f,frB b3 g,⟨gV,25,nS (Bi f g 2)++jV,true,none⟩,⟨b49,25,[str (Ac (loS f g)),str (Ac (hiS f g))],true,none⟩,⟨gO,25,nS (Bh f g i)++jO,true,none⟩]) (fun j=>j≤(Bh f g i).length∧ ∀m (hm:m<(Bh f g i).length),m<j→(Bh f g i)[m]<z) (fun j=>(Bh f g i).length-j) 0 ⟨Nat.zero_le _,fun _ _ h=>by omega⟩ ⟨I,I,I,I,I,I,I,O⟩ [] I ?_
   rintro j ⟨hj,hlow⟩
   have hj:j≤(Bh f g i).length:=hj
   refine zA (zA (zB (wP I (wP I (wP I (wP I ?_))))))
   by_cases hjl:j<(Bh f g i).length
   ·obtain⟨o,ho⟩: ∃o,o=(Bh f g i)[j]:=⟨_,rfl⟩
    have hoz:Sz2 o z:=zo _ (by rw[ho];exact List.getElem_mem hjl)
    refine wU 133 true I (dT (by omega)) (wP I (wP I (wP I ?_)))
    refine wJ ?_
    refine wL 0 I I (fun W1 hp=>(show Az W1 gO (0+j*1) [str (Ac o)] by rw[ho];exact Q1 hp 4 I hjl)) I (wP I (wC I I (fun W1 hp=>CC o z hoz W1 (ht.hp hp)) (wP I (wU 141 (decide (o<z)) I (Gb _ _) (wP I (Aa (zE ?_)))))))
    refine Af I (fun hc2=> ?_) (fun hc2=> ?_)
    ·have hc2:(Bh f g i)[j]<z:=ho▸of_decide_eq_true hc2
     refine zI (zE (zH (zB (wP I (wP I (wV 144 ((j+1:Nat):Int) I (A4 (by omega)) (wP I (Aa (zN ?_)))))))))
     exact Ak (j+1) ⟨hjl,fun m hm h=>(by
      rcases Nat.lt_or_ge m j with c|c
      ·exact hlow m hm c
      ·obtain rfl:m=j:=by omega
       exact hc2)⟩ (by show(Bh f g i).length-(j+1)<(Bh f g i).length-j;omega) ⟨I,I,I,I,I,I,I,O⟩ [] I
    ·have hc2: ¬(Bh f g i)[j]<z:=ho▸of_decide_eq_false hc2
     exact zJ (zK (zK (zL (Ag j ⟨hj,hlow,fun _=>hc2⟩ ⟨I,I,I,I,I,I,I,O⟩ [] I))))
   ·refine wU 133 false I (dF (by omega)) (wP I ?_)
    iterate 7 refine Ad I I ?_
    exact wP I (Aa (zE (zS I (zJ (zK (zK (zL (Ag j ⟨hj,hlow,fun h=>absurd h hjl⟩ ⟨I,I,I,I,I,I,I,O⟩ [] I))))))))
  rintro j ⟨hj,hlow,hup⟩
  have hj:j≤(Bh f g i).length:=hj
  refine An (An ?_)
  refine Av (X:=Bool) (fun b=>[(2,Ao b2),(3,Ao b3),(6, .slice (some ⟨gV,0,none⟩) (Bi f g 2).length cV),(14, .slice (some ⟨gO,0,none⟩) (Bh f g i).length cO),(15, .int .i64 (i:Nat)),(16,str (Ac z)),(17, .int .i64 (j:Nat)),(156, .bool b)]) (fun _=>[frB b2 f,frB b3 g,⟨gV,25,nS (Bi f g 2)++jV,true,none⟩,⟨b49,25,[str (Ac (loS f g)),str (Ac (hiS f g))],true,none⟩,⟨gO,25,nS (Bh f g i)++jO,true,none⟩]) (fun b=>(b=true→z∈Bh f g i)∧(b=false→ ∀hm:j<(Bh f g i).length,z<(Bh f g i)[j])) ?_ ?_
  ·refine zB (wP I (wP I (wP I (wP I ?_))))
   by_cases hjl:j<(Bh f g i).length
   ·refine wU 148 true I (dT (by omega)) ?_
    obtain⟨o,ho⟩: ∃o,o=(Bh f g i)[j]:=⟨_,rfl⟩
    refine wP I (wP I (wP I ?_))
    refine wJ ?_
    exact wL 0 I I (fun W1 hp=>(show Az W1 gO (0+j*1) [str (Ac o)] by rw[ho];exact Q1 hp 4 I hjl)) I (wP I (wP I (wU 155 (decide (o=z)) I ((AD _ _).trans (decide_eq_decide.2 Cf)) (wP I (Aa (Ag (decide (o=z)) ⟨fun h=>(by rw[←of_decide_eq_true h,ho];exact List.getElem_mem hjl),fun h _=>(by have h1:=of_decide_eq_false h;have h2:=hup hjl;rw[ho] at h1;grind)⟩ ⟨I,I,I,I,I,I,I,I,O⟩ [] I))))))
   ·refine wU 148 false I (dF (by omega)) (wP I ?_)
    iterate 6 refine Ad I I ?_
    exact wP rfl (Aa (Ag false ⟨fun h=>(by cases h),fun _ h=>absurd h hjl⟩ ⟨rfl,rfl,rfl,rfl,rfl,rfl,rfl,rfl,trivial⟩ [] rfl))
  rintro b ⟨hb1,hb2⟩
  cases b with
  |true=>
   rw[TA (Ho f g i) (hb1 rfl)] at hsu
   exact zR I (zJ (zK (zL (zE (zB (wP I (wP I (wV 102 ((i+1:Nat):Int) I (A4 (by omega)) (wP I (Aa (Ak (i+1,gO,cO,jO) ⟨hlt,by show(⟨some gO,cO,jO⟩:Vec).OK 1 (Bh f g (i+1)).length (nS (Bh f g (i+1)));rw[hsu];exact hO⟩ (by show(Bi f g 2).length-(i+1)<(Bi f g 2).length-i;omega) ⟨I,I,I,(by show _=some (Value.slice (some ⟨gO,0,none⟩) (Bh f g (i+1)).length cO);rw[hsu];rfl),I,O⟩ [] (by show _=[frB b2 f,frB b3 g,_,_,(⟨gO,25,nS (Bh f g (i+1))++jO,true,none⟩:Bx)]++[];rw[hsu];rfl))))))))))))
  |false=>
   have hins:=VI (Ho f g i) hj hlow (hb2 rfl)
   rw[←hins] at hsu
   have hcap:=(hO.cap (by simp)).1
   have hcap:(Bh f g i).length≤cO:=hcap
   refine zS I (zI (zE (zA (zB ?_))))
   refine Cz tH I I I I I ?_
   intro g0
   refine wP I (wP I ?_)
   refine Ea j tH I I I I I I I I (by omega) ?_
   refine FR (V:=⟨some g0,0,[]⟩) (len:=0) (xs:=[]) (news:=nS ((Bh f g i).take j)) 5 Tryz.vec31 rfl rfl rfl rfl rfl rfl rfl rfl rfl ⟨rfl,(fun h=>by cases h),fun _=>⟨Nat.le_refl _,Nat.zero_le _,rfl⟩⟩ (by rw[K7,List.length_take];omega) (fun W1 hp n u hu=>by rw[Addr.add_none];exact(Az.of_bx hp 4 rfl rfl).get n u (Ut j n hu)) SB (by simp only[maxLen];omega) (by omega) ?_
   intro V1 hV1 _
   refine wP I (Aa (zE (zA (zB (wP I (wP I ?_))))))
   refine A3 Tryz.hZ tH I I I I I I I I I I I fun bS=> ?_
   refine AK (V:=V1) (len:=0+j) (xs:=nS ((Bh f g i).take j)) 5 6 Tryz.vec31 (j+1) (nS ((Bh f g i).take j++[z])) I I I I I I I I I I I hV1 I I (by omega) (by rw[Jh];rfl) (by simp only[maxLen];omega) (by omega) I ?_
   intro g2 c2 j2 hV2
   refine wP I (Aa (zE (zB (wP I (wP I (wP I ?_))))))
   refine HT j tH I I I I I I I I hj hcap ?_
   refine FR (V:=⟨some g2,c2,j2⟩) (len:=j+1) (xs:=nS ((Bh f g i).take j++[z])) (news:=nS ((Bh f g i).drop j)) 5 Tryz.vec31 I I I I I I I I I hV2 (by rw[K7,List.length_drop];omega) (fun W1 hp n u hu=>by
    have hn:=(List.getElem?_eq_some_iff.1 hu).1
    rw[K7,List.length_drop] at hn
    have h:=(Az.of_bx hp 4 rfl rfl).get (j*1+n) u (U4 j hj n hu)
    rw[Addr.add_none,if_neg (show¬cO=j by omega)]
    rw[←Nat.add_assoc] at h
    exact h) SB (by simp only[maxLen];omega) (by omega) ?_
   intro V3 hV3 _
   obtain⟨p3,c3,j3⟩:=V3
   cases p3 with
   |none=>exact absurd (hV3.nil rfl) (by omega)
   |some g3=>
    have el:(Bh f g (i+1)).length=j+1+((Bh f g i).length-j):=by
     rw[hsu,List.length_append,List.length_append,List.length_take,List.length_drop]
     show min j _+1+_=_
     omega
    have ex:nS (Bh f g (i+1))=nS ((Bh f g i).take j++[z])++nS ((Bh f g i).drop j):=by rw[hsu,Jh (_++_)]
    rw[←el, ←ex] at hV3
    rw[←el, ←ex]
    exact wP I (Aa (zN (zE (zB (wP I (wP I (wV 102 ((i+1:Nat):Int) I (A4 (by omega)) (wP I (Aa (Em (i+1,g3,c3,j3) ⟨hlt,hV3⟩ (by show(Bi f g 2).length-(i+1)<(Bi f g 2).length-i;omega) ⟨I,I,I,I,I,O⟩ fun W1 hp=>hp.pick [0,1,2,3,5] (by decide) I))))))))))
 ·have e:i=(Bi f g 2).length:=by omega
  subst e
  rw[SA] at hO⊢
  refine wU 100 false I (dF (by omega)) (Aa (zE (zS I (zJ (zK (zK (zL (zE (zA (zB (wP I (wP I (wP I ?_)))))))))))))
  exact Aa (zE (zO (AJ tH I (.tmp I) (.tmp I) (⟨some gO,cO,jO⟩:Vec) I hO fun W1 hp=>At.of_hp1 hp 4 I)))
end
end Go.Proofs.YtmblgcglonikiaaGreatDoor
