/-
  Lemmas that the theorem levelStarts_upto_card needs (part 5 of 8).
-/
import Derived.Test.YtlagebbefnnnnaaGreatDoorSsd
import Derived.Shelf.SlSortCmp.Insertion
import Derived.Lib.SlicesCompact
import Derived.Shelf.Lays
import Derived.Shelf.SlLaysN
import Derived.Shelf.Small.Bits
import Derived.Shelf.SlicesG.CompactS
import Derived.Laws.Shifts
import Derived.Lib.Overlaps
set_option maxHeartbeats 64000000
namespace Go.Proofs.YtlagebbefnnnnaaGreatDoor
section
open Go Go.RowKit Go.Am
theorem Cr {f:Nat→Int}: ∀n,(∀i,i<n→f i=0)→AN f n=0
 |0,_=>rfl
 |n+1,h=>by
  show AN f n+f n=0
  rw[Cr n (fun i hi=>h i (by omega)),h n (by omega)];rfl
theorem J6 {f:Nat→Int} {j:Nat}: ∀n,j<n→(∀i,i<n→i≠j→f i=0)→AN f n=f j
 |0,hj,_=>absurd hj (Nat.not_lt_zero _)
 |n+1,hj,h=>by
  show AN f n+f n=f j
  by_cases e:j=n
  ·subst e
   rw[Cr j (fun i hi=>h i (by omega) (by omega))];omega
  ·rw[J6 n (by omega) (fun i hi=>h i (by omega)),h n (by omega) (fun x=>e x.symm)];omega
theorem CV (f g:Nat→Int): ∀n,AN (fun i=>f i-g i) n=AN f n-AN g n
 |0=>rfl
 |n+1=>by
  show AN _ n+(f n-g n)=AN f n+f n-(AN g n+g n)
  rw[CV f g n];omega
theorem If (f:Nat→Nat→Int) (m:Nat): ∀n,AN (fun i=>AN (fun j=>f i j) m) n=AN (fun j=>AN (fun i=>f i j) n) m
 |0=>(Cr m (fun _ _=>rfl)).symm
 |n+1=>by
  show AN _ n+AN (fun j=>f n j) m=AN (fun j=>AN (fun i=>f i j) n+f n j) m
  rw[If f m n,Ni]
theorem Gy {f:Nat→Int}: ∀n,(∀i,i<n→0≤f i)→0≤AN f n
 |0,_=>Int.le_refl _
 |n+1,h=>by
  have h1:=Gy n (fun i hi=>h i (by omega))
  have h2:=h n (by omega)
  show 0≤AN f n+f n
  omega
theorem Jj {f:Nat→Int} {j:Nat}: ∀n,(∀i,i<n→0≤f i)→j<n→0<f j→0<AN f n
 |0,_,hj,_=>absurd hj (Nat.not_lt_zero _)
 |n+1,h,hj,h0=>by
  have h1:=Gy n (fun i hi=>h i (by omega))
  have h2:=h n (by omega)
  show 0<AN f n+f n
  by_cases e:j=n
  ·subst e;omega
  ·have:=Jj n (fun i hi=>h i (by omega)) (show j<n by omega) h0
   omega
def ind (a b:Int):Int:=if a>b then 1 else 0
theorem Dc (a b:Int):(ind a b=1∧a>b)∨(ind a b=0∧a≤b):=by
 unfold ind
 by_cases h:a>b
 ·rw[if_pos h];exact .inl ⟨rfl,h⟩
 ·rw[if_neg h];exact .inr ⟨rfl,by omega⟩
theorem EZ {a b:Int} (h:a>b):ind a b=1:=if_pos h
theorem EU {a b:Int} (h:a≤b):ind a b=0:=if_neg (by omega)
theorem R7 {a:Int} (h:0≤a): ∀m:Nat,AN (fun x=>ind a x) m=if a≤m then a else m
 |0=>by
  show(0:Int)=_
  split<;>omega
 |m+1=>by
  show AN (fun x=>ind a x) m+ind a m=_
  rw[R7 h m]
  rcases Dc a m with⟨e,h1⟩|⟨e,h1⟩<;>rw[e]<;>split<;>split<;>omega
theorem Jp {a:Int} {m:Nat} (h:0≤a) (h2:a≤m):AN (fun x=>ind a x) m=a:=by rw[R7 h,if_pos h2]
def On (σ:Nat→Nat) (X Y:Nat→Int) (k:Nat) (px py:Int):Prop:=
 (X k≤px∨X (σ k)≤px)∧(px≤X k∨px≤X (σ k))∧(Y k≤py∨Y (σ k)≤py)∧(py≤Y k∨py≤Y (σ k))
structure Net (T:Nat) (σ:Nat→Nat) (X Y:Nat→Int):Prop where
 lt: ∀k,k<T→σ k<T
 sum: ∀f:Nat→Int,AN (fun k=>f (σ k)) T=AN f T
 side: ∀k,k<T→(X (σ k)=X k∧Y (σ k)≠Y k)∨(Y (σ k)=Y k∧X (σ k)≠X k)
 alt: ∀k,k<T→(X (σ k)=X k↔Y (σ (σ k))=Y (σ k))
 free: ∀j k,j<T→k<T→ ∀px py,On σ X Y j px py→On σ X Y k px py→j=k∨j=σ k∨k=σ j
def Wn (T:Nat) (σ:Nat→Nat) (X Y:Nat→Int) (x y:Int):Int:=AN (fun k=>ind (X k) x*(ind (Y (σ k)) y-ind (Y k) y)) T
def Vd (σ:Nat→Nat) (X Y:Nat→Int) (x y:Int) (k:Nat):Int:=(ind (X k) (x-1)-ind (X k) x)*(ind (Y (σ k)) y-ind (Y k) y)
def Hd (σ:Nat→Nat) (X Y:Nat→Int) (x y:Int) (k:Nat):Int:=(ind (X (σ k)) x-ind (X k) x)*(ind (Y (σ k)) (y-1)-ind (Y (σ k)) y)
def LC (σ:Nat→Nat) (X Y:Nat→Int) (k:Nat) (x y:Int):Prop:=
 (Y k<Y (σ k)∧x=X k-1∧Y k≤y∧y<Y (σ k))∨(Y (σ k)<Y k∧x=X k∧Y (σ k)≤y∧y<Y k)∨
 (X k<X (σ k)∧y=Y k∧X k≤x∧x<X (σ k))∨(X (σ k)<X k∧y=Y k-1∧X (σ k)≤x∧x<X k)
def RC (σ:Nat→Nat) (X Y:Nat→Int) (k:Nat) (x y:Int):Prop:=
 (Y k<Y (σ k)∧x=X k∧Y k≤y∧y<Y (σ k))∨(Y (σ k)<Y k∧x=X k-1∧Y (σ k)≤y∧y<Y k)∨
 (X k<X (σ k)∧y=Y k-1∧X k≤x∧x<X (σ k))∨(X (σ k)<X k∧y=Y k∧X (σ k)≤x∧x<X k)
def Lv (T:Nat) (σ:Nat→Nat) (X Y:Nat→Int) (k:Nat) (L:Int):Prop:=
 (∀x y,LC σ X Y k x y→Wn T σ X Y x y=L)∧ ∀x y,RC σ X Y k x y→Wn T σ X Y x y=L-1
section
variable {T:Nat} {σ:Nat→Nat} {X Y:Nat→Int}
theorem VN (x y:Int):Wn T σ X Y (x-1) y-Wn T σ X Y x y=AN (Vd σ X Y x y) T:=by
 unfold Wn
 rw[←CV]
 exact BQ T fun k _=>by unfold Vd;rw[Int.sub_mul]
theorem X3 (N:Net T σ X Y) (x y:Int):Wn T σ X Y x y-Wn T σ X Y x (y-1)=AN (Hd σ X Y x y) T:=by
 have h1:=N.sum fun k=>ind (X k) x*(ind (Y k) (y-1)-ind (Y k) y)
 unfold Wn
 rw[←CV]
 have h2:AN (fun i=>ind (X i) x*(ind (Y (σ i)) y-ind (Y i) y)-ind (X i) x*(ind (Y (σ i)) (y-1)-ind (Y i) (y-1))) T=
   AN (fun k=>ind (X k) x*(ind (Y k) (y-1)-ind (Y k) y)-ind (X k) x*(ind (Y (σ k)) (y-1)-ind (Y (σ k)) y)) T:=
  BQ T fun k _=>by simp only[Int.mul_sub];omega
 rw[h2,CV, ←h1, ←CV]
 exact BQ T fun k _=>by unfold Hd;rw[Int.sub_mul]
theorem T5 {x y:Int} {k:Nat} (h:Vd σ X Y x y k≠0):X k=x∧((Y k≤y∧y<Y (σ k))∨(Y (σ k)≤y∧y<Y k)):=by
 unfold Vd at h
 rcases Dc (X k) (x-1) with⟨e1,h1⟩|⟨e1,h1⟩<;>rcases Dc (X k) x with⟨e2,h2⟩|⟨e2,h2⟩<;>rcases Dc (Y (σ k)) y with⟨e3,h3⟩|⟨e3,h3⟩<;>rcases Dc (Y k) y with⟨e4,h4⟩|⟨e4,h4⟩<;>
  rw[e1,e2,e3,e4] at h<;>first|exact absurd rfl h|omega
theorem Wo {x y:Int} {k:Nat} (h:Hd σ X Y x y k≠0):Y (σ k)=y∧((X k≤x∧x<X (σ k))∨(X (σ k)≤x∧x<X k)):=by
 unfold Hd at h
 rcases Dc (X (σ k)) x with⟨e1,h1⟩|⟨e1,h1⟩<;>rcases Dc (X k) x with⟨e2,h2⟩|⟨e2,h2⟩<;>rcases Dc (Y (σ k)) (y-1) with⟨e3,h3⟩|⟨e3,h3⟩<;>rcases Dc (Y (σ k)) y with⟨e4,h4⟩|⟨e4,h4⟩<;>
  rw[e1,e2,e3,e4] at h<;>first|exact absurd rfl h|omega
theorem X9 {y:Int} {k:Nat} (h:Y k≤y∧y<Y (σ k)):Vd σ X Y (X k) y k=1:=by
 unfold Vd
 rw[EZ (show X k>X k-1 by omega),EU (Int.le_refl _),EZ h.2,EU h.1];rfl
theorem Vt {y:Int} {k:Nat} (h:Y (σ k)≤y∧y<Y k):Vd σ X Y (X k) y k= -1:=by
 unfold Vd
 rw[EZ (show X k>X k-1 by omega),EU (Int.le_refl _),EZ h.2,EU h.1];rfl
theorem V7 {x:Int} {k:Nat} (e:Y (σ k)=Y k) (h:X k≤x∧x<X (σ k)):Hd σ X Y x (Y k) k=1:=by
 unfold Hd
 rw[e,EZ (show Y k>Y k-1 by omega),EU (Int.le_refl (Y k)),EZ h.2,EU h.1];rfl
theorem Wc {x:Int} {k:Nat} (e:Y (σ k)=Y k) (h:X (σ k)≤x∧x<X k):Hd σ X Y x (Y k) k= -1:=by
 unfold Hd
 rw[e,EZ (show Y k>Y k-1 by omega),EU (Int.le_refl (Y k)),EZ h.2,EU h.1];rfl
theorem Net.up_eq (N:Net T σ X Y) {k:Nat} (hk:k<T) (hv:X (σ k)=X k) {c y:Int} (hc:c=X k-1∨c=X k) (h1:(Y k≤y∧y+1<Y (σ k))∨(Y (σ k)≤y∧y+1<Y k)):Wn T σ X Y c (y+1)=Wn T σ X Y c y:=by
 have h2:=X3 N c (y+1)
 rw[show y+1-1=y by omega] at h2
 rw[Cr (f:=Hd σ X Y c (y+1)) T (fun j hj=> ?_)] at h2
 ·omega
 ·refine Classical.byContradiction fun h=> ?_
  obtain⟨e,hx⟩:=Wo h
  have e2:Y j=y+1:=by rcases N.side j hj with h|h<;>omega
  rcases N.free j k hj hk (X k) (y+1) ⟨by omega,by omega,by omega,by omega⟩ ⟨by omega,by omega,by omega,by omega⟩ with h|h|h
  ·subst h;omega
  ·subst h;omega
  ·rw[h] at h1 hv hc;rw[h] at*;omega
theorem Net.flat_eq (N:Net T σ X Y) {k:Nat} (hk:k<T) (hh:Y (σ k)=Y k) {c x:Int} (hc:c=Y k-1∨c=Y k) (h1:(X k≤x-1∧x<X (σ k))∨(X (σ k)≤x-1∧x<X k)):Wn T σ X Y (x-1) c=Wn T σ X Y x c:=by
 have h2:=VN (T:=T) (σ:=σ) (X:=X) (Y:=Y) x c
 rw[Cr (f:=Vd σ X Y x c) T (fun j hj=> ?_)] at h2
 ·omega
 ·refine Classical.byContradiction fun h=> ?_
  obtain⟨e,hx⟩:=T5 h
  have e2:X (σ j)=x:=by rcases N.side j hj with h|h<;>omega
  rcases N.free j k hj hk x (Y k) ⟨by omega,by omega,by omega,by omega⟩ ⟨by omega,by omega,by omega,by omega⟩ with h|h|h
  ·subst h;omega
  ·subst h;omega
  ·rw[h] at h1;omega
theorem Net.up_const (N:Net T σ X Y) {k:Nat} (hk:k<T) (hv:X (σ k)=X k) {c lo:Int} (hc:c=X k-1∨c=X k) (hlo:lo=Y k∨lo=Y (σ k)) (hm:lo≤Y k∧lo≤Y (σ k)): ∀d:Nat,(lo+d<Y k∨lo+d<Y (σ k))→Wn T σ X Y c (lo+d)=Wn T σ X Y c lo
 |0,_=>by rw[show lo+((0:Nat):Int)=lo by omega]
 |d+1,h=>by
  rw[show lo+((d+1:Nat):Int)=lo+d+1 by omega,N.up_eq hk hv hc (by omega)]
  exact N.up_const hk hv hc hlo hm d (by omega)
theorem Net.flat_const (N:Net T σ X Y) {k:Nat} (hk:k<T) (hh:Y (σ k)=Y k) {c lo:Int} (hc:c=Y k-1∨c=Y k) (hlo:lo=X k∨lo=X (σ k)) (hm:lo≤X k∧lo≤X (σ k)): ∀d:Nat,(lo+d<X k∨lo+d<X (σ k))→Wn T σ X Y (lo+d) c=Wn T σ X Y lo c
 |0,_=>by rw[show lo+((0:Nat):Int)=lo by omega]
 |d+1,h=>by
  have h1:=N.flat_eq hk hh hc (x:=lo+((d+1:Nat):Int)) (by omega)
  rw[←h1,show lo+((d+1:Nat):Int)-1=lo+d by omega]
  exact N.flat_const hk hh hc hlo hm d (by omega)
theorem Net.over_up (N:Net T σ X Y) {k:Nat} (hk:k<T) (hv:X (σ k)=X k) {y:Int} (h1:(Y k≤y∧y<Y (σ k))∨(Y (σ k)≤y∧y<Y k)):Wn T σ X Y (X k-1) y-Wn T σ X Y (X k) y=Vd σ X Y (X k) y k:=by
 rw[VN]
 refine J6 T hk fun j hj hne=> ?_
 refine Classical.byContradiction fun h=> ?_
 obtain⟨e,hx⟩:=T5 h
 have e2:X (σ j)=X j:=by rcases N.side j hj with h|h<;>omega
 rcases N.free j k hj hk (X k) y ⟨by omega,by omega,by omega,by omega⟩ ⟨by omega,by omega,by omega,by omega⟩ with h|h|h
 ·exact hne h
 ·have:=(N.alt k hk).1 hv
  rw[←h] at this;omega
 ·have:=(N.alt j hj).1 e2
  rw[←h] at this;omega
theorem Net.over_flat (N:Net T σ X Y) {k:Nat} (hk:k<T) (hh:Y (σ k)=Y k) {x:Int} (h1:(X k≤x∧x<X (σ k))∨(X (σ k)≤x∧x<X k)):Wn T σ X Y x (Y k)-Wn T σ X Y x (Y k-1)=Hd σ X Y x (Y k) k:=by
 rw[X3 N]
 refine J6 T hk fun j hj hne=> ?_
 refine Classical.byContradiction fun h=> ?_
 obtain⟨e,hx⟩:=Wo h
 have e2:Y (σ j)=Y j:=by rcases N.side j hj with h|h<;>omega
 rcases N.free j k hj hk x (Y k) ⟨by omega,by omega,by omega,by omega⟩ ⟨by omega,by omega,by omega,by omega⟩ with h|h|h
 ·exact hne h
 ·have:=N.alt k hk
  rw[←h] at this h1
  have h9:=this.2 e2
  omega
 ·have:=N.alt j hj
  rw[←h] at this hx
  have h9:=this.2 hh
  omega
theorem Net.lv_ex (N:Net T σ X Y) {k:Nat} (hk:k<T): ∃L,Lv T σ X Y k L:=by
 rcases N.side k hk with⟨hv,hd⟩|⟨hh,hd⟩
 ·have con: ∀c,(c=X k-1∨c=X k)→ ∀lo,(lo=Y k∨lo=Y (σ k))→lo≤Y k→lo≤Y (σ k)→ ∀y,lo≤y→(y<Y k∨y<Y (σ k))→Wn T σ X Y c y=Wn T σ X Y c lo:=fun c hc lo hlo m1 m2 y h1 h2=>by
   have:=N.up_const hk hv hc hlo ⟨m1,m2⟩ (y-lo).toNat (by omega)
   rw[show lo+((y-lo).toNat:Int)=y by omega] at this
   exact this
  by_cases hu:Y k<Y (σ k)
  ·refine⟨Wn T σ X Y (X k-1) (Y k),fun x y h=> ?_,fun x y h=> ?_⟩
   ·unfold LC at h
    obtain⟨rfl,h1,h2⟩:x=X k-1∧Y k≤y∧y<Y (σ k):=by omega
    exact con _ (.inl rfl) _ (.inl rfl) (Int.le_refl _) (by omega) y h1 (.inr h2)
   ·unfold RC at h
    obtain⟨rfl,h1,h2⟩:x=X k∧Y k≤y∧y<Y (σ k):=by omega
    have e1:=con _ (.inl rfl) _ (.inl rfl) (Int.le_refl _) (by omega) y h1 (.inr h2)
    have e2:=N.over_up hk hv (.inl ⟨h1,h2⟩)
    rw[X9 ⟨h1,h2⟩] at e2
    omega
  ·refine⟨Wn T σ X Y (X k) (Y (σ k)),fun x y h=> ?_,fun x y h=> ?_⟩
   ·unfold LC at h
    obtain⟨rfl,h1,h2⟩:x=X k∧Y (σ k)≤y∧y<Y k:=by omega
    exact con _ (.inr rfl) _ (.inr rfl) (by omega) (Int.le_refl _) y h1 (.inl h2)
   ·unfold RC at h
    obtain⟨rfl,h1,h2⟩:x=X k-1∧Y (σ k)≤y∧y<Y k:=by omega
    have e1:=con _ (.inr rfl) _ (.inr rfl) (by omega) (Int.le_refl _) y h1 (.inl h2)
    have e2:=N.over_up hk hv (.inr ⟨h1,h2⟩)
    rw[Vt ⟨h1,h2⟩] at e2
    omega
 ·have con: ∀c,(c=Y k-1∨c=Y k)→ ∀lo,(lo=X k∨lo=X (σ k))→lo≤X k→lo≤X (σ k)→ ∀x,lo≤x→(x<X k∨x<X (σ k))→Wn T σ X Y x c=Wn T σ X Y lo c:=fun c hc lo hlo m1 m2 x h1 h2=>by
   have:=N.flat_const hk hh hc hlo ⟨m1,m2⟩ (x-lo).toNat (by omega)
   rw[show lo+((x-lo).toNat:Int)=x by omega] at this
   exact this
  by_cases hu:X k<X (σ k)
  ·refine⟨Wn T σ X Y (X k) (Y k),fun x y h=> ?_,fun x y h=> ?_⟩
   ·unfold LC at h
    obtain⟨rfl,h1,h2⟩:y=Y k∧X k≤x∧x<X (σ k):=by omega
    exact con _ (.inr rfl) _ (.inl rfl) (Int.le_refl _) (by omega) x h1 (.inr h2)
   ·unfold RC at h
    obtain⟨rfl,h1,h2⟩:y=Y k-1∧X k≤x∧x<X (σ k):=by omega
    have e1:=con _ (.inr rfl) _ (.inl rfl) (Int.le_refl _) (by omega) x h1 (.inr h2)
    have e2:=N.over_flat hk hh (.inl ⟨h1,h2⟩)
    rw[V7 hh ⟨h1,h2⟩] at e2
    omega
  ·refine⟨Wn T σ X Y (X (σ k)) (Y k-1),fun x y h=> ?_,fun x y h=> ?_⟩
   ·unfold LC at h
    obtain⟨rfl,h1,h2⟩:y=Y k-1∧X (σ k)≤x∧x<X k:=by omega
    exact con _ (.inl rfl) _ (.inr rfl) (by omega) (Int.le_refl _) x h1 (.inl h2)
   ·unfold RC at h
    obtain⟨rfl,h1,h2⟩:y=Y k∧X (σ k)≤x∧x<X k:=by omega
    have e1:=con _ (.inl rfl) _ (.inr rfl) (by omega) (Int.le_refl _) x h1 (.inl h2)
    have e2:=N.over_flat hk hh (.inr ⟨h1,h2⟩)
    rw[Wc hh ⟨h1,h2⟩] at e2
    omega
theorem Net.share (N:Net T σ X Y) {k:Nat} (hk:k<T): ∃x y,(LC σ X Y k x y∧LC σ X Y (σ k) x y)∨(RC σ X Y k x y∧RC σ X Y (σ k) x y):=by
 have h1:=N.side k hk
 have h2:=N.side (σ k) (N.lt k hk)
 have h3:=N.alt k hk
 unfold LC RC
 generalize σ (σ k)=k2 at*
 generalize σ k=k1 at*
 by_cases a:Y k<Y k1
 ·by_cases b:X k1<X k2
  ·exact⟨X k1,Y k1-1, .inr ⟨by omega,by omega⟩⟩
  ·exact⟨X k1-1,Y k1-1, .inl ⟨by omega,by omega⟩⟩
 by_cases a2:Y k1<Y k
 ·by_cases b:X k1<X k2
  ·exact⟨X k1,Y k1, .inl ⟨by omega,by omega⟩⟩
  ·exact⟨X k1-1,Y k1, .inr ⟨by omega,by omega⟩⟩
 by_cases a3:X k<X k1
 ·by_cases b:Y k1<Y k2
  ·exact⟨X k1-1,Y k1, .inl ⟨by omega,by omega⟩⟩
  ·exact⟨X k1-1,Y k1-1, .inr ⟨by omega,by omega⟩⟩
 ·by_cases b:Y k1<Y k2
  ·exact⟨X k1,Y k1, .inr ⟨by omega,by omega⟩⟩
  ·exact⟨X k1,Y k1-1, .inl ⟨by omega,by omega⟩⟩
theorem Net.lv_next (N:Net T σ X Y) {k:Nat} (hk:k<T) {L:Int} (h:Lv T σ X Y k L):Lv T σ X Y (σ k) L:=by
 obtain⟨L',h'⟩:=N.lv_ex (N.lt k hk)
 obtain⟨x,y,⟨h1,h2⟩|⟨h1,h2⟩⟩:=N.share hk
 ·have e1:=h.1 x y h1
  have e2:=h'.1 x y h2
  rw[show L=L' by omega];exact h'
 ·have e1:=h.2 x y h1
  have e2:=h'.2 x y h2
  rw[show L=L' by omega];exact h'
theorem GY {x:Int} (h: ∀k,k<T→X k≤x) (y:Int):Wn T σ X Y x y=0:=Cr T fun k hk=>by rw[EU (h k hk),Int.zero_mul]
theorem Sb {x y:Int} {j:Nat} (h:Vd σ X Y x y j≠0):(LC σ X Y j (x-1) y∧RC σ X Y j x y)∨(RC σ X Y j (x-1) y∧LC σ X Y j x y):=by
 obtain⟨e,hx⟩:=T5 h
 rcases hx with⟨h1,h2⟩|⟨h1,h2⟩
 ·exact .inl ⟨.inl ⟨by omega,by omega,h1,h2⟩, .inl ⟨by omega,by omega,h1,h2⟩⟩
 ·exact .inr ⟨.inr (.inl ⟨by omega,by omega,h1,h2⟩), .inr (.inl ⟨by omega,by omega,h1,h2⟩)⟩
theorem Net.ray (N:Net T σ X Y) {M:Int} (hM: ∀k,k<T→X k≤M) (y:Int): ∀d:Nat,Wn T σ X Y (M-d) y=0∨ ∃k L,k<T∧Lv T σ X Y k L∧(Wn T σ X Y (M-d) y=L∨Wn T σ X Y (M-d) y=L-1)
 |0=> .inl (GY (fun k hk=>by have:=hM k hk;omega) y)
 |d+1=>by
  have h1:=VN (T:=T) (σ:=σ) (X:=X) (Y:=Y) (M-d) y
  rw[show M-((d+1:Nat):Int)=M-d-1 by omega]
  by_cases h: ∃j,j<T∧Vd σ X Y (M-d) y j≠0
  ·obtain⟨j,hj,h⟩:=h
   obtain⟨L,hL⟩:=N.lv_ex hj
   refine .inr ⟨j,L,hj,hL, ?_⟩
   rcases Sb h with⟨h,_⟩|⟨h,_⟩
   ·exact .inl (hL.1 _ _ h)
   ·exact .inr (hL.2 _ _ h)
  ·rw[Cr (f:=Vd σ X Y (M-d) y) T (fun j hj=>Classical.byContradiction fun e=>h ⟨j,hj,e⟩)] at h1
   rw[show Wn T σ X Y (M-d-1) y=Wn T σ X Y (M-d) y by omega]
   exact N.ray hM y d
theorem Net.values (N:Net T σ X Y) (x y:Int):Wn T σ X Y x y=0∨ ∃k L,k<T∧Lv T σ X Y k L∧(Wn T σ X Y x y=L∨Wn T σ X Y x y=L-1):=by
 have bound: ∀n, ∃M:Int, ∀k,k<n→X k≤M:=fun n=>by
  induction n with
  |zero=>exact⟨0,fun k hk=>absurd hk (Nat.not_lt_zero _)⟩
  |succ n ih=>
   obtain⟨M,hM⟩:=ih
   refine⟨if M<X n then X n else M,fun k hk=> ?_⟩
   by_cases e:k=n
   ·subst e;split<;>omega
   ·have:=hM k (by omega);split<;>omega
 obtain⟨M,hM⟩:=bound T
 by_cases h:x≤M
 ·have:=N.ray hM y (M-x).toNat
  rw[show M-((M-x).toNat:Int)=x by omega] at this
  exact this
 ·exact .inl (GY (fun k hk=>by have:=hM k hk;omega) y)
theorem Net.first (N:Net T σ X Y) {M:Int} (hM: ∀k,k<T→X k≤M) (y:Int): ∀d:Nat,(∀x,M-d≤x→Wn T σ X Y x y=0)∨ ∃k x,k<T∧(∀x',x≤x'→Wn T σ X Y x' y=0)∧((LC σ X Y k (x-1) y∧RC σ X Y k x y)∨(RC σ X Y k (x-1) y∧LC σ X Y k x y))
 |0=> .inl fun x hx=>GY (fun k hk=>by have:=hM k hk;omega) y
 |d+1=>by
  rcases N.first hM y d with h0|h0
  ·by_cases h: ∃j,j<T∧Vd σ X Y (M-d) y j≠0
   ·obtain⟨j,hj,h⟩:=h
    exact .inr ⟨j,M-d,hj,h0,Sb h⟩
   ·left
    intro x hx
    have h1:=VN (T:=T) (σ:=σ) (X:=X) (Y:=Y) (M-d) y
    rw[Cr (f:=Vd σ X Y (M-d) y) T (fun j hj=>Classical.byContradiction fun e=>h ⟨j,hj,e⟩)] at h1
    have h2:=h0 (M-d) (Int.le_refl _)
    by_cases e:x=M-d-1
    ·subst e;omega
    ·exact h0 x (by omega)
  ·exact .inr h0
theorem Net.range (N:Net T σ X Y) {M:Int} (hX: ∀k,k<T→0≤X k∧X k≤M) (hY: ∀k,k<T→0≤Y k∧Y k≤M) {x y:Int} (h:Wn T σ X Y x y≠0):(0≤x∧x<M)∧0≤y∧y<M:=by
 refine Classical.byContradiction fun hn=>h ?_
 by_cases h1:M≤x
 ·exact GY (fun k hk=>by have:=hX k hk;omega) y
 by_cases h2:x<0
 ·unfold Wn
  rw[BQ (g:=fun k=>ind (Y (σ k)) y-ind (Y k) y) T (fun k hk=>by rw[EZ (show X k>x by have:=hX k hk;omega),Int.one_mul]),CV,N.sum (fun k=>ind (Y k) y)];omega
 by_cases h3:M≤y
 ·exact Cr T fun k hk=>by rw[EU (show Y k≤y by have:=hY k hk;omega),EU (show Y (σ k)≤y by have:=hY _ (N.lt k hk);omega)];simp
 by_cases h4:y<0
 ·exact Cr T fun k hk=>by rw[EZ (show Y k>y by have:=hY k hk;omega),EZ (show Y (σ k)>y by have:=hY _ (N.lt k hk);omega)];simp
 omega
theorem Net.area (N:Net T σ X Y) {M:Nat} (hX: ∀k,k<T→0≤X k∧X k≤M) (hY: ∀k,k<T→0≤Y k∧Y k≤M):
  AN (fun k=>X k*Y (σ k)-Y k*X (σ k)) T=2*AN (fun x=>AN (fun y=>Wn T σ X Y x y) M) M:=by
 have h1:AN (fun k=>X k*(Y (σ k)-Y k)) T=AN (fun x=>AN (fun y=>Wn T σ X Y x y) M) M:=by
  unfold Wn
  rw[BQ (g:=fun k=>AN (fun x:Nat=>AN (fun y:Nat=>ind (X k) x*(ind (Y (σ k)) y-ind (Y k) y)) M) M) T fun k hk=> ?_]
  ·rw[If]
   refine BQ M fun x _=> ?_
   rw[If]
  ·have e1:=Jp (hX k hk).1 (hX k hk).2
   have e2:=Jp (hY k hk).1 (hY k hk).2
   have e3:=Jp (hY _ (N.lt k hk)).1 (hY _ (N.lt k hk)).2
   rw[BQ (g:=fun x:Nat=>(Y (σ k)-Y k)*ind (X k) x) M fun x _=> ?_]
   ·rw[ED,e1,Int.mul_comm]
   ·show AN (fun y:Nat=>ind (X k) x*(ind (Y (σ k)) y-ind (Y k) y)) M=_
    rw[ED,CV,e2,e3,Int.mul_comm]
 rw[←h1, ←ED]
 have h2:=N.sum fun k=>X k*Y k
 have h3:AN (fun k=>X k*Y (σ k)-Y k*X (σ k)-2*(X k*(Y (σ k)-Y k))) T=AN (fun k=>X k*Y k-X (σ k)*Y (σ k)) T:=BQ T fun k hk=>by
  rcases N.side k hk with⟨e,_⟩|⟨e,_⟩
  ·rw[e,Int.mul_sub,Int.mul_comm (Y k) (X k)];omega
  ·rw[e,Int.mul_sub,Int.mul_comm (Y k) (X (σ k))];omega
 rw[CV,CV (fun k=>X k*Y k),h2] at h3
 omega
end
theorem Ps {n:Nat} {P:Nat→Prop} (h0:0<n→P 0) (h: ∀k,k<n→P k→P (nxt n k)): ∀k,k<n→P k
 |0,hk=>h0 hk
 |k+1,hk=>by
  have:=h k (by omega) (Ps h0 h k (by omega))
  rw[show nxt n k=k+1 from Nat.mod_eq_of_lt hk] at this
  exact this
section
variable {n:Nat} {X Y:Nat→Int}
theorem Net.one (N:Net n (nxt n) X Y) (h0:0<n): ∃L:Int,(L=0∨L=1)∧(∀k,k<n→Lv n (nxt n) X Y k L)∧ ∀x y,Wn n (nxt n) X Y x y=0∨Wn n (nxt n) X Y x y=2*L-1:=by
 obtain⟨L,hL⟩:=N.lv_ex h0
 have all: ∀k,k<n→Lv n (nxt n) X Y k L:=Ps (fun _=>hL) fun k hk h=>N.lv_next hk h
 have hb: ∀m, ∃M:Int, ∀k,k<m→X k≤M:=fun m=>by
  induction m with
  |zero=>exact⟨0,fun k hk=>absurd hk (Nat.not_lt_zero _)⟩
  |succ m ih=>
   obtain⟨M,hM⟩:=ih
   refine⟨if M<X m then X m else M,fun k hk=> ?_⟩
   by_cases e:k=m
   ·subst e;split<;>omega
   ·have:=hM k (by omega);split<;>omega
 obtain⟨M,hM⟩:=hb n
 have cell: ∃x y,LC (nxt n) X Y 0 x y∧ ∃x' y',RC (nxt n) X Y 0 x' y':=by
  have:=N.side 0 h0
  unfold LC RC
  by_cases a:Y 0<Y (nxt n 0)
  ·exact⟨X 0-1,Y 0,by omega,X 0,Y 0,by omega⟩
  by_cases a2:Y (nxt n 0)<Y 0
  ·exact⟨X 0,Y (nxt n 0),by omega,X 0-1,Y (nxt n 0),by omega⟩
  by_cases a3:X 0<X (nxt n 0)
  ·exact⟨X 0,Y 0,by omega,X 0,Y 0-1,by omega⟩
  ·exact⟨X (nxt n 0),Y 0-1,by omega,X (nxt n 0),Y 0,by omega⟩
 obtain⟨x1,y1,c1,x2,y2,c2⟩:=cell
 have e1:=hL.1 _ _ c1
 have e2:=hL.2 _ _ c2
 have try1: ∀x y,Wn n (nxt n) X Y x y≠0→L=0∨L=1:=fun x y h=>by
  have hx:x<M:=Classical.byContradiction fun e=>h (GY (fun k hk=>by have:=hM k hk;omega) y)
  rcases N.first hM y (M-x).toNat with h1|⟨k,x',hk,h1,h2⟩
  ·exact absurd (h1 x (by omega)) h
  ·have z:=h1 x' (Int.le_refl _)
   rcases h2 with⟨_,h2⟩|⟨_,h2⟩
   ·have:=(all k hk).2 _ _ h2;omega
   ·have:=(all k hk).1 _ _ h2;omega
 have h01:L=0∨L=1:=by
  by_cases e:L=0
  ·exact .inl e
  ·exact try1 x1 y1 (by rw[e1];exact e)
 refine⟨L,h01,all,fun x y=> ?_⟩
 rcases N.values x y with h|⟨k,L',hk,h1,h2⟩
 ·exact .inl h
 ·have e:L'=L:=by
   have a:=all k hk
   have hc: ∃x y,LC (nxt n) X Y k x y:=by
    have:=N.side k hk
    unfold LC
    by_cases a:Y k<Y (nxt n k)
    ·exact⟨X k-1,Y k,by omega⟩
    by_cases a2:Y (nxt n k)<Y k
    ·exact⟨X k,Y (nxt n k),by omega⟩
    by_cases a3:X k<X (nxt n k)
    ·exact⟨X k,Y k,by omega⟩
    ·exact⟨X (nxt n k),Y k-1,by omega⟩
   obtain⟨x,y,hc⟩:=hc
   rw[←h1.1 _ _ hc,a.1 _ _ hc]
  omega
theorem Net.area_one (N:Net n (nxt n) X Y) (h0:0<n) {M:Nat} (hX: ∀k,k<n→0≤X k∧X k≤M) (hY: ∀k,k<n→0≤Y k∧Y k≤M) {L:Int} (h01:L=0∨L=1) (hL: ∀k,k<n→Lv n (nxt n) X Y k L) (hv: ∀x y,Wn n (nxt n) X Y x y=0∨Wn n (nxt n) X Y x y=2*L-1):
  0<(2*L-1)*AN (fun k=>X k*Y (nxt n k)-Y k*X (nxt n k)) n:=by
 rw[N.area hX hY]
 have hsome: ∃x y,Wn n (nxt n) X Y x y=2*L-1:=by
  have:=N.side 0 h0
  have h:=hL 0 h0
  have cell:(∃x y,LC (nxt n) X Y 0 x y)∧ ∃x' y',RC (nxt n) X Y 0 x' y':=by
   unfold LC RC
   by_cases a:Y 0<Y (nxt n 0)
   ·exact⟨⟨X 0-1,Y 0,by omega⟩,X 0,Y 0,by omega⟩
   by_cases a2:Y (nxt n 0)<Y 0
   ·exact⟨⟨X 0,Y (nxt n 0),by omega⟩,X 0-1,Y (nxt n 0),by omega⟩
   by_cases a3:X 0<X (nxt n 0)
   ·exact⟨⟨X 0,Y 0,by omega⟩,X 0,Y 0-1,by omega⟩
   ·exact⟨⟨X (nxt n 0),Y 0-1,by omega⟩,X (nxt n 0),Y 0,by omega⟩
  obtain⟨⟨x1,y1,c1⟩,x2,y2,c2⟩:=cell
  have e1:=h.1 _ _ c1
  have e2:=h.2 _ _ c2
  rcases h01 with e|e
  ·exact⟨x2,y2,by omega⟩
  ·exact⟨x1,y1,by omega⟩
 obtain⟨x,y,hxy⟩:=hsome
 obtain⟨⟨r1,r2⟩,r3,r4⟩:=N.range hX hY (x:=x) (y:=y) (by rw[hxy];omega)
 have sq: ∀x y,0≤(2*L-1)*Wn n (nxt n) X Y x y:=fun x y=>by
  rcases hv x y with h|h<;>rw[h]
  ·simp
  ·rcases h01 with e|e<;>subst e<;>decide
 have pos:0<(2*L-1)*Wn n (nxt n) X Y x y:=by
  rw[hxy]
  rcases h01 with e|e<;>subst e<;>decide
 have hp:0<AN (fun i=>AN (fun j=>(2*L-1)*Wn n (nxt n) X Y i j) M) M:=by
  refine Jj (j:=x.toNat) M (fun i _=>Gy M fun j _=>sq i j) (by omega) ?_
  refine Jj (j:=y.toNat) M (fun j _=>sq _ j) (by omega) ?_
  show 0<(2*L-1)*Wn n (nxt n) X Y (x.toNat:Nat) (y.toNat:Nat)
  rw[show((x.toNat:Nat):Int)=x by omega,show((y.toNat:Nat):Int)=y by omega]
  exact pos
 have e:AN (fun i:Nat=>AN (fun j:Nat=>(2*L-1)*Wn n (nxt n) X Y i j) M) M=(2*L-1)*AN (fun i:Nat=>AN (fun j:Nat=>Wn n (nxt n) X Y i j) M) M:=by
  rw[←ED]
  exact BQ M fun i _=>ED _ _ M
 rw[e] at hp
 rcases h01 with e|e<;>subst e<;>omega
end
theorem Qc {rs:List (List Sd)} {m:Nat}: ∀k,k≤rs.length→m<tot (rs.take k)→ ∃r i,r<k∧i<(rg rs r).length∧m=tot (rs.take r)+i
 |0,_,h=>by simp[tot] at h
 |k+1,hk,h=>by
  rw[Bm (by omega)] at h
  by_cases e:m<tot (rs.take k)
  ·obtain⟨r,i,h1,h2,h3⟩:=Qc k (by omega) e
   exact⟨r,i,by omega,h2,h3⟩
  ·exact⟨k,m-tot (rs.take k),by omega,by omega,by omega⟩
theorem RL {rs:List (List Sd)} {m:Nat} (h:m<tot rs): ∃r i,r<rs.length∧i<(rg rs r).length∧m=tot (rs.take r)+i:=Qc rs.length (Nat.le_refl _) (by rw[List.take_length];exact h)
theorem Gf {n k:Nat} (h:k<n):nxt n k=if k+1=n then 0 else k+1:=by
 unfold nxt
 split
 ·rename_i e;rw[e,Nat.mod_self]
 ·exact Nat.mod_eq_of_lt (by omega)
theorem V8 {n k:Nat} (h:k<n):prv n k=if k=0 then n-1 else k-1:=by
 unfold prv
 split
 ·rename_i e;subst e;rw[Nat.zero_add];exact Nat.mod_eq_of_lt (by omega)
 ·rw[show k+n-1=k-1+n by omega,Nat.add_mod_right];exact Nat.mod_eq_of_lt (by omega)
theorem VB {n k:Nat} (h:k<n):prv n (nxt n k)=k:=by
 rw[V8 (Ee h),Gf h];split<;>split<;>omega
theorem Ub {n r a b:Nat} (hb:b<a) (ha:a<n):nbB n (r,a) (r,b)=true↔(a=nxt n b∨b=nxt n a):=by
 unfold nbB
 rw[Gf ha,Gf (show b<n by omega)]
 simp only[beq_self_eq_true,Bool.true_and,Bool.or_eq_true,beq_iff_eq]
 split<;>split<;>omega
def near (rs:List (List Sd)) (r i s k:Nat):Prop:=r=s∧(i=k∨i=nxt (rg rs r).length k∨k=nxt (rg rs r).length i)
theorem NA (rs:List (List Sd)):crs rs=false↔ ∀r i s k,r<rs.length→i<(rg rs r).length→s<rs.length→k<(rg rs s).length→ ¬near rs r i s k→DT (bsd rs (r,i)) (esd rs (r,i)) (bsd rs (s,k)) (esd rs (s,k))=false:=by
 constructor
 ·intro h r i s k hr hi hs hk hn
  by_cases e:r=s
  rotate_left
  ·exact St h hr hi hs hk e
  subst e
  have one: ∀ {a b:Nat},a<(rg rs r).length→b<a→ ¬(a=nxt (rg rs r).length b∨b=nxt (rg rs r).length a)→DT (bsd rs (r,a)) (esd rs (r,a)) (bsd rs (r,b)) (esd rs (r,b))=false:=by
   intro a b ha hb hab
   have hj:=Rm hr ha
   have h2:CH rs (pl rs (tot (rs.take r)+a)) (pl rs (tot (rs.take r)+b))=false:=by
    cases he:CH rs (pl rs (tot (rs.take r)+a)) (pl rs (tot (rs.take r)+b)) with
    |false=>rfl
    |true=>
     have:crs rs=true:=List.any_eq_true.2 ⟨_,List.mem_range.2 hj,List.any_eq_true.2 ⟨_,List.mem_range.2 (by omega),he⟩⟩
     rw[h] at this;cases this
   rw[HH hr ha,HH hr (by omega)] at h2
   unfold CH at h2
   have h3:nbB (rg rs r).length (r,a) (r,b)=false:=Bool.eq_false_iff.2 fun e=>hab ((Ub hb ha).1 e)
   rw[h3] at h2
   simpa using h2
  rcases Nat.lt_trichotomy i k with hlt|heq|hgt
  ·rw[Jy]
   exact one hk hlt fun h=>hn ⟨rfl,by omega⟩
  ·exact absurd ⟨rfl, .inl heq⟩ hn
  ·exact one hi hgt fun h=>hn ⟨rfl,by omega⟩
 ·intro h
  unfold crs
  refine Dp fun m hm=>Dp fun j hj=> ?_
  obtain⟨r,i,hr,hi,rfl⟩:=RL hm
  obtain⟨s,k,hs,hk,rfl⟩:=RL (show j<tot rs by omega)
  rw[HH hr hi,HH hs hk]
  unfold CH
  cases hb:nbB (rg rs r).length (r,i) (s,k) with
  |true=>rfl
  |false=>
   simp only[Bool.not_false,Bool.true_and]
   refine h r i s k hr hi hs hk fun hn=> ?_
   obtain⟨rfl,hn⟩:=hn
   have hik:k<i:=by omega
   have:=(Ub (r:=r) hik hi).2 (by omega)
   rw[hb] at this;cases this
theorem VC {t u t' u':Sd} {px py:Int} (h:DT t u t' u'=false) (h1:(t.x≤px∨u.x≤px)∧(px≤t.x∨px≤u.x)∧(t.y≤py∨u.y≤py)∧(py≤t.y∨py≤u.y))
  (h2:(t'.x≤px∨u'.x≤px)∧(px≤t'.x∨px≤u'.x)∧(t'.y≤py∨u'.y≤py)∧(py≤t'.y∨py≤u'.y)):False:=by
 have e:DT t u t' u'=true:=by
  unfold DT lox hix loy hiy
  simp only[Bool.and_eq_true,decide_eq_true_eq]
  refine⟨⟨⟨?_, ?_⟩, ?_⟩, ?_⟩<;>split<;>split<;>omega
 rw[h] at e;cases e
theorem TO {rs:List (List Sd)} (hin:SK rs) (hs: ∀l∈rs,shp l=true) (hc:crs rs=false) {r:Nat} (hr:r<rs.length):Net (rg rs r).length (nxt (rg rs r).length) (fun k=>(sd (rg rs r) k).x) (fun k=>(sd (rg rs r) k).y):=by
 have hm:rg rs r∈rs:=List.mem_of_getElem? (Bf hr)
 refine⟨fun k hk=>Ee hk,fun f=>Ta f _,fun k hk=> ?_,fun k hk=> ?_,fun j k hj hk px py h1 h2=> ?_⟩
 ·have:=(EH (hin _ hm) (hs _ hm) hk).1
  omega
 ·have h1:=(EH (hin _ hm) (hs _ hm) hk).1
  have h2:=(EH (hin _ hm) (hs _ hm) (Ee hk))
  rw[VB hk] at h2
  omega
 ·refine Classical.byContradiction fun hn=> ?_
  have h:=(NA rs).1 hc r j r k hr hj hr hk fun h=>hn (by obtain⟨_,h⟩:=h;omega)
  exact VC h h1 h2
theorem Us {rs:List (List Sd)} (hin:SK rs) (hs: ∀l∈rs,shp l=true) (hc:crs rs=false) {r:Nat} (hr:r<rs.length):
  ∃L:Int,(L=0∨L=1)∧(∀k,k<(rg rs r).length→Lv (rg rs r).length (nxt (rg rs r).length) (fun k=>(sd (rg rs r) k).x) (fun k=>(sd (rg rs r) k).y) k L)∧
   (∀x y,Wn (rg rs r).length (nxt (rg rs r).length) (fun k=>(sd (rg rs r) k).x) (fun k=>(sd (rg rs r) k).y) x y=0∨Wn (rg rs r).length (nxt (rg rs r).length) (fun k=>(sd (rg rs r) k).x) (fun k=>(sd (rg rs r) k).y) x y=2*L-1)∧
   0<(2*L-1)*AN (Ek (rg rs r)) (rg rs r).length:=by
 have hm:rg rs r∈rs:=List.mem_of_getElem? (Bf hr)
 have N:=TO hin hs hc hr
 have h4:=RU (hs _ hm)
 obtain⟨L,h01,hL,hv⟩:=N.one (by omega)
 refine⟨L,h01,hL,hv, ?_⟩
 have hi: ∀k,k<(rg rs r).length→inR (sd (rg rs r) k):=fun k hk=>CG (hin _ hm) hk
 exact N.area_one (M:=65536) (by omega) (fun k hk=>⟨(hi k hk).1,(hi k hk).2.1⟩) (fun k hk=>⟨(hi k hk).2.2.1,(hi k hk).2.2.2⟩) h01 hL hv
theorem VT {rs:List (List Sd)} (hin:SK rs) (hs: ∀l∈rs,shp l=true) (hc:crs rs=false) {r:Nat} (hr:r<rs.length):AN (Ek (rg rs r)) (rg rs r).length≠0:=by
 obtain⟨L,_,_,_,h⟩:=Us hin hs hc hr
 intro e
 rw[e,Int.mul_zero] at h
 exact absurd h (by decide)
end
section
def FS (a:Rat):List Rat→List Rat
 |[]=>[a]
 |b::l=>if a<b then a::b::l else if a=b then b::l else b::FS a l
theorem KI {a z:Rat}: ∀ {l:List Rat},z∈FS a l↔z=a∨z∈l
 |[]=>by simp[FS]
 |b::l=>by
  unfold FS
  split
  ·simp
  ·split
   ·rename_i h
    subst h
    simp
   ·rw[List.mem_cons,KI,List.mem_cons]
    constructor
    ·rintro(h|h|h)
     ·exact .inr (.inl h)
     ·exact .inl h
     ·exact .inr (.inr h)
    ·rintro(h|h|h)
     ·exact .inr (.inl h)
     ·exact .inl h
     ·exact .inr (.inr h)
theorem Ka {a:Rat}: ∀ {l:List Rat},l.Pairwise (· < ·)→(FS a l).Pairwise (· < ·)
 |[],_=>by simp[FS]
 |b::l,h=>by
  have h2:=List.pairwise_cons.1 h
  unfold FS
  split
  ·rename_i hab
   refine List.pairwise_cons.2 ⟨fun z hz=> ?_,h⟩
   rcases List.mem_cons.1 hz with rfl|hz
   ·exact hab
   ·have:=h2.1 z hz
    exact Rat.not_le.1 fun hc=>Rat.not_lt.2 (Rat.le_trans hc (Rat.le_of_lt hab)) this
  ·split
   ·exact h
   ·rename_i h1 hne
    have hba:b<a:=Rat.lt_of_le_of_ne (Rat.not_lt.1 h1) fun e=>hne e.symm
    refine List.pairwise_cons.2 ⟨fun z hz=> ?_,Ka h2.2⟩
    rcases KI.1 hz with rfl|hz
    ·exact hba
    ·exact h2.1 z hz
def below (a:Rat) (l:List Rat):Nat:=(l.takeWhile fun z=>decide (z<a)).length
theorem IZ (a:Rat): ∀l:List Rat,below a l≤l.length
 |[]=>Nat.le_refl _
 |b::l=>by
  have ih:=IZ a l
  unfold below at ih⊢
  rw[List.takeWhile_cons]
  split
  ·simpa using ih
  ·simp
theorem LP (a b:Rat) (l:List Rat):below a (b::l)=if b<a then below a l+1 else 0:=by
 unfold below
 rw[List.takeWhile_cons]
 by_cases h:b<a
 ·rw[if_pos h,if_pos (decide_eq_true h)];rfl
 ·rw[if_neg h,if_neg (by simpa using h)];rfl
theorem Pg {a:Rat}: ∀ {l:List Rat} (_:l.Pairwise (· < ·)) (i:Nat) (hi:i<l.length),l[i]<a↔i<below a l
 |b::l,h,i,hi=>by
  have h2:=List.pairwise_cons.1 h
  rw[LP]
  by_cases hb:b<a
  ·rw[if_pos hb]
   cases i with
   |zero=>exact⟨fun _=>Nat.succ_pos _,fun _=>hb⟩
   |succ i=>
    have ih:=Pg (a:=a) h2.2 i (by simpa using hi)
    rw[List.getElem_cons_succ,ih]
    omega
  ·rw[if_neg hb]
   refine⟨fun hc=> ?_,fun hc=>absurd hc (Nat.not_lt_zero _)⟩
   cases i with
   |zero=>exact absurd hc hb
   |succ i=>
    have h3:=h2.1 _ (List.getElem_mem (show i<l.length by simpa using hi))
    rw[List.getElem_cons_succ] at hc
    exact absurd (Rat.not_le.1 fun h4=>Rat.not_lt.2 (Rat.le_trans h4 (Rat.le_of_lt h3)) hc) hb
theorem Ns {a:Rat}: ∀ {l:List Rat},l.Pairwise (· < ·)→FS a l=if l[below a l]? =some a then l else l.take (below a l)++a::l.drop (below a l)
 |[],_=>by simp[FS,below]
 |b::l,h=>by
  have h2:=List.pairwise_cons.1 h
  have ih:=Ns (a:=a) h2.2
  unfold FS
  rw[LP]
  by_cases hb:b<a
  ·have hn: ¬a<b:=Rat.not_lt.2 (Rat.le_of_lt hb)
   have hne: ¬a=b:=fun e=>by rw[e] at hb;exact Rat.lt_irrefl hb
   rw[if_neg hn,if_neg hne,if_pos hb,List.getElem?_cons_succ,List.take_succ_cons,List.drop_succ_cons,ih]
   split
   ·rfl
   ·rfl
  ·rw[if_neg hb]
   by_cases hab:a<b
   ·have hne: ¬(b::l)[0]? =some a:=fun e=>by
     have e:b=a:=by simpa using e
     rw[e] at hab;exact Rat.lt_irrefl hab
    rw[if_pos hab,if_neg hne];rfl
   ·have e:a=b:=Rat.le_antisymm (Rat.not_lt.1 hb) (Rat.not_lt.1 hab)
    subst e
    rw[if_neg hab,if_pos rfl,if_pos (by simp)]
def Hh (l xs:List Rat):List Rat:=xs.foldl (fun o z=>FS z o) l
theorem EJ {z:Rat}: ∀(xs l:List Rat),z∈Hh l xs↔z∈l∨z∈xs
 |[],l=>by simp[Hh]
 |x::xs,l=>by
  show z∈Hh (FS x l) xs↔_
  rw[EJ xs,KI,List.mem_cons]
  constructor
  ·rintro((h|h)|h)
   ·exact .inr (.inl h)
   ·exact .inl h
   ·exact .inr (.inr h)
  ·rintro(h|h|h)
   ·exact .inl (.inr h)
   ·exact .inl (.inl h)
   ·exact .inr h
theorem Dz: ∀(xs l:List Rat),l.Pairwise (· < ·)→(Hh l xs).Pairwise (· < ·)
 |[],_,h=>h
 |_::xs,_,h=>Dz xs _ (Ka h)
theorem Mc (l xs ys:List Rat):Hh l (xs++ys)=Hh (Hh l xs) ys:=List.foldl_append
theorem PO (a:Rat): ∀l:List Rat,(FS a l).length≤l.length+1
 |[]=>Nat.le_refl _
 |b::l=>by
  have ih:=PO a l
  unfold FS
  split
  ·simp
  ·split
   ·simp
   ·simpa using ih
theorem GX: ∀(xs l:List Rat),(Hh l xs).length≤l.length+xs.length
 |[],_=>Nat.le_refl _
 |x::xs,l=>by
  have h1:=GX xs (FS x l)
  have h2:=PO x l
  show(Hh (FS x l) xs).length≤_
  rw[List.length_cons];omega
end
section
def alw (f g:FrP):Prop:=f.pos=g.pos∧f.sp=g.sp∧(f.sp=0∨(f.st=g.st∧f.hd=g.hd))
def XD (f g:FrP) (z:Rat) (i k:Int):Int:=if E6 (f.at z) (g.at z)≠0 then E6 (f.at z) (g.at z) else if E6 (f.velA z) (g.velA z)≠0 then E6 (f.velA z) (g.velA z) else i-k
end
section
def fr (F:List FrP) (i:Nat):FrP:=F.getD i ⟨false,0,1,0,0⟩
theorem Gi {F:List FrP} {i:Nat} (h:i<F.length):F[i]? =some (fr F i):=by simp[fr,h]
def J9 (F:List FrP) (i k:Nat):List (Nat×Nat):=if (fr F i).ax=(fr F k).ax then[(i,k)] else[]
def LX (F:List FrP) (i:Nat):List (Nat×Nat):=((List.range F.length).drop (i+1)).flatMap (J9 F i)
def prs (F:List FrP):List (Nat×Nat):=(List.range F.length).flatMap (LX F)
theorem GL {n j k:Nat}:k∈(List.range n).drop j↔j≤k∧k<n:=by
 rw[List.mem_drop_iff_getElem]
 constructor
 ·rintro⟨i,hi,e⟩
  rw[List.getElem_range] at e
  rw[List.length_range] at hi
  omega
 ·rintro⟨h1,h2⟩
  exact⟨k-j,by rw[List.length_range];omega,by rw[List.getElem_range];omega⟩
theorem NQ {F:List FrP} {q:Nat×Nat}:q∈prs F↔q.1<q.2∧q.2<F.length∧(fr F q.1).ax=(fr F q.2).ax:=by
 unfold prs LX J9
 rw[List.mem_flatMap]
 constructor
 ·rintro⟨i,hi,h⟩
  obtain⟨k,hk,h⟩:=List.mem_flatMap.1 h
  obtain⟨k1,k2⟩:=GL.1 hk
  split at h
  ·rename_i e
   obtain rfl:=List.mem_singleton.1 h
   exact⟨k1,k2,e⟩
  ·cases h
 ·rintro⟨h1,h2,h3⟩
  refine⟨q.1,List.mem_range.2 (by omega),List.mem_flatMap.2 ⟨q.2,GL.2 ⟨h1,h2⟩, ?_⟩⟩
  rw[if_pos h3]
  exact List.mem_singleton.2 rfl
def Ez (rs:List (List Sd)):List Rat:=(rs.flatten.filter fun s=> !s.gable).map fun s=>(s.plate:Rat)
def st0 (rs:List (List Sd)):List Rat:=Hh [] (Ez rs)
def base (rs:List (List Sd)):Rat:=(st0 rs).headD 0
def MW (F:List FrP):List Rat:=(prs F).flatMap fun q=>eqL (fr F q.1) (fr F q.2)
def Bk (rs:List (List Sd)):List Rat:=Hh (st0 rs) ((MW (Az rs)).filter fun z=>decide (base rs<z))
theorem Ii (rs:List (List Sd)):(st0 rs).Pairwise (· < ·):=Dz _ _ List.Pairwise.nil
theorem Kd (rs:List (List Sd)):(Bk rs).Pairwise (· < ·):=Dz _ _ (Ii rs)
theorem IT {rs:List (List Sd)} {z:Rat}:z∈st0 rs↔z∈Ez rs:=by
 unfold st0
 rw[EJ]
 simp
theorem Hn {rs:List (List Sd)} {z:Rat}:z∈Bk rs↔z∈Ez rs∨(z∈MW (Az rs)∧base rs<z):=by
 unfold Bk
 rw[EJ,IT,List.mem_filter,decide_eq_true_eq]
theorem LZ {rs:List (List Sd)} (h:Ez rs≠[]):base rs∈Ez rs:=by
 unfold base
 cases e:st0 rs with
 |nil=>
  cases e2:Ez rs with
  |nil=>exact absurd e2 h
  |cons x l=>
   have:x∈st0 rs:=IT.2 (by rw[e2];exact List.mem_cons_self ..)
   rw[e] at this;cases this
 |cons x l=>exact IT.1 (by rw[e];exact List.mem_cons_self ..)
theorem Wb {rs:List (List Sd)} {z:Rat} (h:z∈Bk rs):base rs≤z:=by
 rcases Hn.1 h with h|h
 ·have h:=IT.2 h
  have hs:=Ii rs
  unfold base
  cases e:st0 rs with
  |nil=>rw[e] at h;cases h
  |cons x l=>
   rw[e] at h hs
   show x≤z
   rcases List.mem_cons.1 h with rfl|h
   ·exact Rat.le_refl
   ·exact Rat.le_of_lt ((List.pairwise_cons.1 hs).1 z h)
 ·exact Rat.le_of_lt h.2
theorem Td {rs:List (List Sd)} (h:Ez rs≠[]): ∃l,Bk rs=base rs::l:=by
 have hb:=Hn.2 (.inl (LZ h))
 have hs:=Kd rs
 cases e:Bk rs with
 |nil=>rw[e] at hb;cases hb
 |cons x l=>
  rw[e] at hb hs
  have h1:base rs≤x:=Wb (by rw[e];exact List.mem_cons_self ..)
  rcases List.mem_cons.1 hb with h2|h2
  ·exact⟨l,by rw[h2]⟩
  ·have h3:=(List.pairwise_cons.1 hs).1 _ h2
   exact absurd h3 (Rat.not_lt.2 h1)
theorem Ie {F:List FrP} {i:Nat} (h:i<F.length):fr F i∈F:=List.mem_of_getElem? (Gi h)
def PJ (F:List FrP) (z:Rat) (i k:Nat):Int:=XD (fr F i) (fr F k) z (i:Int) (k:Int)
end
section
def upr (F:List FrP) (ax:Bool):List Nat:=(List.range F.length).filter fun i=>(fr F i).ax==ax
theorem Vl {F:List FrP} {ax:Bool} {i:Nat}:i∈upr F ax↔i<F.length∧(fr F i).ax=ax:=by
 unfold upr
 rw[List.mem_filter,List.mem_range,beq_iff_eq]
end
section
open Go Go.RowKit Go.Am
set_option maxRecDepth 10000
-- BOXES 1
-- CODE2
def Tc (F:List FrP) (i:Nat):List (Nat×Nat):=(List.range i).flatMap (LX F)
def Ox (F:List FrP) (i k:Nat):List (Nat×Nat):=((List.range k).drop (i+1)).flatMap (J9 F i)
def PN (F:List FrP) (i:Nat):Nat:=(Tc F i).length
def Gh (F:List FrP) (i k:Nat):Nat:=(Tc F i++Ox F i k).length
theorem Nl {n i:Nat} (h:i<n):List.range n=List.range i++i::(List.range n).drop (i+1):=by
 conv=>lhs;rw[←List.take_append_drop i (List.range n),List.drop_eq_getElem_cons (by rw[List.length_range];exact h),List.take_range,Nat.min_eq_left (Nat.le_of_lt h),List.getElem_range]
theorem Q5 {n i k:Nat} (h:i+1≤k) (hk:k<n):(List.range n).drop (i+1)=(List.range k).drop (i+1)++k::(List.range n).drop (k+1):=by
 conv=>lhs;rw[Nl hk,List.drop_append_of_le_length (by rw[List.length_range];exact h)]
theorem VM {F:List FrP} {i:Nat} (h:i<F.length):prs F=Tc F i++(LX F i++((List.range F.length).drop (i+1)).flatMap (LX F)):=by
 unfold prs Tc
 conv=>lhs;rw[Nl h,List.flatMap_append,List.flatMap_cons]
theorem UK {F:List FrP} {i k:Nat} (h:i+1≤k) (hk:k<F.length):LX F i=Ox F i k++(J9 F i k++((List.range F.length).drop (k+1)).flatMap (J9 F i)):=by
 unfold LX Ox
 conv=>lhs;rw[Q5 h hk,List.flatMap_append,List.flatMap_cons]
theorem Sv (F:List FrP) (i:Nat):Gh F i (i+1)=PN F i:=by
 unfold Gh PN Ox
 rw[List.drop_of_length_le (by rw[List.length_range];exact Nat.le_refl _),List.flatMap_nil,List.append_nil]
theorem Tt (F:List FrP) (i:Nat):Gh F i F.length=PN F (i+1):=by
 unfold Gh PN Tc Ox
 rw[List.range_succ,List.flatMap_append,List.flatMap_cons,List.flatMap_nil,List.append_nil];rfl
theorem ME {F:List FrP} {i k:Nat} (h:i+1≤k):Ox F i (k+1)=Ox F i k++J9 F i k:=by
 unfold Ox
 rw[List.range_succ,List.drop_append_of_le_length (by rw[List.length_range];exact h),List.flatMap_append,List.flatMap_cons,List.flatMap_nil,List.append_nil]
theorem VK {F:List FrP} {i k:Nat} (h:i+1≤k) (hax:(fr F i).ax≠(fr F k).ax):Gh F i (k+1)=Gh F i k:=by
 unfold Gh
 rw[ME h,J9,if_neg hax,List.append_nil]
theorem TM {F:List FrP} {i k:Nat} (h:i+1≤k) (hk:k<F.length) (hax:(fr F i).ax=(fr F k).ax):Gh F i (k+1)=Gh F i k+1∧(prs F).getD (Gh F i k) (0,0)=(i,k)∧Gh F i k<(prs F).length:=by
 have e:prs F=(Tc F i++Ox F i k)++((i,k)::(((List.range F.length).drop (k+1)).flatMap (J9 F i)++((List.range F.length).drop (i+1)).flatMap (LX F))):=by
  rw[VM (show i<F.length by omega),UK h hk,J9,if_pos hax]
  simp only[List.append_assoc,List.cons_append,List.nil_append]
 refine⟨?_, ?_, ?_⟩
 ·unfold Gh
  rw[ME h,J9,if_pos hax, ←List.append_assoc,List.length_append];rfl
 ·unfold Gh
  rw[e,List.getD_eq_getElem?_getD,List.getElem?_append_right (Nat.le_refl _),Nat.sub_self];rfl
 ·unfold Gh
  rw[e];simp only[List.length_append,List.length_cons];omega
abbrev Vq (F:List FrP) (k:Nat):List Value:=[.int .i64 (((prs F).getD k (0,0)).1:Nat), .int .i64 (((prs F).getD k (0,0)).2:Nat)]
structure X0 (b1 gF cF:Nat) (F:List FrP) (W:World):Prop where
 hdr:Ag W b1 0 [.slice (some ⟨gF,0,none⟩) F.length cF]
 row: ∀m,m<F.length→Ag W gF (0+m*5) (frV (fr F m)).cells.toList
abbrev frZ:Value:= .agg #[.bool false, .int .i64 0, .int .i64 0,str [],str []]
abbrev QJ (b:Nat) (f:FrP):List (Nat×Obj):=[(b, .cells (frV f).cells 39 (0,0))]
theorem Mj (F:List FrP) (b1 gF cF:Nat) (hn:F.length<1099511627776):Wp Tryz.prog 163 [Ax b1] (prs F).length (Vq F) (fun _=>X0 b1 gF cF F):=by
 refine⟨fun y J Jx hN hB hA hU hY W hJ=> ?_⟩
 have hdr: ∀k L W,J k L W→J k L { W with drawn:=W.drawn+1 }:=fun k L W h=>hB k L W _ h ⟨rfl,rfl,rfl,Nat.le_refl _,fun _ _=>rfl⟩
 refine DV (args:=[.func (.yield y) #[] #[],Ax b1]) (J0:=J 0 []) (Jm:=fun W=> ∃L,J (prs F).length L W) Tryz.func163 rfl rfl rfl hJ ?_
 refine zA (zB ?_)
 refine Aw rfl rfl rfl rfl (fun W hp=>Ag.load 0 tH rfl ((fun W hp=>(hN _ _ W hp).1.hdr) W hp) rfl) ?_
 refine wP rfl (wP rfl (Aa (zE (zH ?_))))
 refine DG (X:=Nat×List (Nat×Obj)) (fun s=>[(0, .func (.yield y) #[] #[]),(1,Ax b1),(6, .slice (some ⟨gF,0,none⟩) F.length cF),(7, .int .i64 (F.length:Nat)),(8, .int .i64 (s.1:Nat))]) (fun s W=>J (PN F s.1) s.2 W)
  (fun s=>s.1≤F.length) (fun s=>F.length-s.1) (0,[]) (Nat.zero_le _) ⟨rfl,rfl,rfl,rfl,rfl,trivial⟩ (fun W hp=>hp) ?_
 rintro⟨i,L⟩ hi
 have hi:i≤F.length:=hi
 refine zA (zB (wP rfl ?_))
 by_cases hlt:i<F.length
 rotate_left
 ·refine Ab 9 (.bool false) rfl (congrArg Value.bool (decide_eq_false (by omega))) ?_
  refine Aa (zE (zA (zS rfl (zJ (zK (zK (zL ?_)))))))
  exact Gw rfl fun W hp=>⟨L,by
   have e:i=F.length:=by omega
   have hp:J (PN F i) L W:=hp
   rw[e] at hp
   exact hp⟩
 refine Ab 9 (.bool true) rfl (congrArg Value.bool (decide_eq_true (by omega))) ?_
 refine Aa (zE (zA (zR rfl (zI (zE (zA (zH (zA (zB (wP rfl ?_))))))))))
 refine wJ ?_
 refine Aw rfl rfl rfl rfl (fun W hp=>Ag.load 0 tH rfl ((fun W hp=>(hN _ _ W hp).1.row i hlt) W hp) rfl) ?_
 refine Te (fun b W=>J (PN F i) [(b, .cells frZ.cells 39 (0,0))] W) rfl rfl rfl (Tryz.hZ.get rfl) (fun W W' b hp hb hl ho=>hA _ _ W W' b _ hp hb hl ho) fun b=> ?_
 refine wP rfl ?_
 refine SG (cs:=[.bool false, .int .i64 0, .int .i64 0,str [],str []]) (ty:=39) (fun W=>J (PN F i) (QJ b (fr F i)) W) tH rfl rfl rfl rfl rfl rfl (fun W hp=>(hN _ _ W hp).2 (b,_) (List.mem_cons_self ..)) rfl rfl rfl (fun W W' hp hu=>hU _ _ _ _ W W' hp hu) ?_
 refine Aa (zE (zA (zB (wP rfl (wP rfl ?_)))))
 refine Ab 14 (.int .i64 ((i+1:Nat):Int)) rfl (congrArg (Value.int .i64) (A5 (by omega))) ?_
 refine wP rfl (Aa (zE (zH ?_)))
 refine DG (X:=Nat) (fun k=>[(0, .func (.yield y) #[] #[]),(1,Ax b1),(6, .slice (some ⟨gF,0,none⟩) F.length cF),(7, .int .i64 (F.length:Nat)),(8, .int .i64 (i:Nat)),(3, .int .i64 (i:Nat)),(4,Ax b),(5, .int .i64 (k:Nat))]) (fun k W=>J (Gh F i k) (QJ b (fr F i)) W)
  (fun k=>i+1≤k∧k≤F.length) (fun k=>F.length-k) (i+1) ⟨Nat.le_refl _,hlt⟩ ⟨rfl,rfl,rfl,rfl,rfl,rfl,rfl,rfl,trivial⟩ (fun W hp=>by rw[Sv];exact hp) ?_
 rintro k ⟨hk1,hk2⟩
 refine zA (zA (zB (wP rfl ?_)))
 refine Aw rfl rfl rfl rfl (fun W hp=>Ag.load 0 tH rfl ((fun W hp=>(hN _ _ W hp).1.hdr) W hp) rfl) ?_
 refine wP rfl (wP rfl ?_)
 by_cases hkl:k<F.length
 rotate_left
 ·refine Ab 18 (.bool false) rfl (congrArg Value.bool (decide_eq_false (by omega))) ?_
  refine Aa (zE (zS rfl (zJ (zK (zK (zL (zN (zE (zB (wP rfl ?_))))))))))
  refine Ab 36 (.int .i64 ((i+1:Nat):Int)) rfl (congrArg (Value.int .i64) (A5 (by omega))) ?_
  refine wP rfl (Aa ?_)
  exact Dl (i+1,QJ b (fr F i)) hlt (by show F.length-(i+1)<F.length-i;omega) ⟨rfl,rfl,rfl,rfl,rfl,trivial⟩ (fun W hp=>by
   have e:k=F.length:=by omega
   have hp:J (Gh F i k) (QJ b (fr F i)) W:=hp
   rw[e,Tt] at hp
   exact hp)
 refine Ab 18 (.bool true) rfl (congrArg Value.bool (decide_eq_true (by omega))) ?_
 refine Aa (zE (zR rfl (zI (zE (zA (zH (zA ?_)))))))
 refine Fk 12 (hdr _ _) Tryz.mixed (by kernel_rfl) rfl ?_
 refine qP rfl ?_
 refine Ap rfl rfl rfl rfl (fun W hp=>Ag.load 0 tH rfl ((fun W hp=>show Ag W b 0 (frV (fr F i)).cells.toList from Ag.of_block ((hN _ _ W hp).2 (b,_) (List.mem_cons_self ..))) W hp) rfl) ?_
 refine Ap rfl rfl rfl rfl (fun W hp=>Ag.load 0 tH rfl ((fun W hp=>(hN _ _ W hp).1.hdr) W hp) rfl) ?_
 refine qP rfl ?_
 refine qJ ?_
 refine qP rfl ?_
 refine Ap rfl rfl rfl rfl (fun W hp=>Ag.load 0 tH rfl ((fun W hp=>(hN _ _ W hp).1.row k hkl) W hp) rfl) ?_
 refine J8 Tryz.underlying4 rfl rfl rfl rfl rfl rfl ?_
 by_cases hax:(fr F i).ax=(fr F k).ax
 ·obtain⟨e1,e2,e3⟩:=TM hk1 hkl hax
  have hYk: ∀W,J (Gh F i k) (QJ b (fr F i)) W→YieldAt (Fw none) 0 Tryz.prog y [.int .i64 (i:Nat), .int .i64 (k:Nat)].toArray W fun e W'=>(e= .returned (.bool true)∧J (Gh F i k+1) (QJ b (fr F i)) W')∨(e= .returned (.bool false)∧Jx W'):=fun W h=>by
   have:=hY _ _ W e3 h
   rwa [Vq,e2] at this
  refine A6 28 (.bool true) rfl (congrArg Value.bool (by rw[hax];exact beq_self_eq_true _)) ?_
  refine qP rfl (qP rfl (qP rfl (qP rfl (AE ?_))))
  refine Dj (A1:=fun W=>J (Gh F i k+1) (QJ b (fr F i)) W) (A2:=Jx) rfl rfl rfl rfl rfl rfl hYk ?_ ?_
  rotate_left
  ·refine wP rfl (wP rfl (Aa (zE (zR rfl (zO (zQ (zP (zP (zQ (zQ (zP (zP (zQ ?_)))))))))))))
   exact BZ rfl (fun W h=>h)
  refine wP rfl (wP rfl (Aa (zE (zS rfl (zI (zN (zE (zB (wP rfl (wP rfl ?_))))))))))
  refine Ab 20 (.int .i64 ((k+1:Nat):Int)) rfl (congrArg (Value.int .i64) (A5 (by omega))) ?_
  refine wP rfl (Aa ?_)
  exact Dl (k+1) ⟨by omega,hkl⟩ (by show F.length-(k+1)<F.length-k;omega) ⟨rfl,rfl,rfl,rfl,rfl,rfl,rfl,rfl,trivial⟩ (fun W hp=>by rw[e1];exact hp)
 ·refine A6 28 (.bool false) rfl (congrArg Value.bool (beq_eq_false_iff_ne.2 hax)) ?_
  have e1:=VK hk1 hax
  refine qP rfl ?_
  iterate 3 refine BC rfl rfl ?_
  refine AE ?_
  iterate 2 refine Ah rfl rfl ?_
  refine wP rfl (Aa (zE (zS rfl (zI (zN (zE (zB (wP rfl (wP rfl ?_)))))))))
  refine Ab 20 (.int .i64 ((k+1:Nat):Int)) rfl (congrArg (Value.int .i64) (A5 (by omega))) ?_
  refine wP rfl (Aa ?_)
  exact Dl (k+1) ⟨by omega,hkl⟩ (by show F.length-(k+1)<F.length-k;omega) ⟨rfl,rfl,rfl,rfl,rfl,rfl,rfl,rfl,trivial⟩ (fun W hp=>by rw[e1];exact hp)
theorem Kb (W:World) (v:Value):Aj Tryz.prog 83 #[v] W (fun b:Nat=> .func (.func 163) #[] #[Ax b]) (fun _=>True) (fun b=>[⟨b,29,v.cells.toList,true,none⟩]):=by
 refine Ad (args:=[v]) Tryz.func83 rfl rfl rfl ?_
 refine zA (zB ?_)
 (refine A8 rfl rfl rfl rfl ?_;intro)
 refine wP rfl (Aa ?_)
 rename_i b
 refine zE (zA (zB (wP rfl (wP rfl (Aa (zE (zO ?_)))))))
 exact Af tH rfl (.tmp rfl) b rfl trivial fun W1 hp=>Ae.of_hp hp
end
section
open Go Go.RowKit Go.Am Go.Lib
set_option maxRecDepth 10000
-- BOXES 4
structure Xv (b1 b2:Nat) (f g:FrP) (W:World):Prop where
 f:Ag W b1 0 (frV f).cells.toList
 g:Ag W b2 0 (frV g).cells.toList
 v:BJ W
 t:AV W
structure Un (f g:FrP):Prop where
 d1:f.vel≠0→Sz2 (Dk f g) f.vel
 a1:f.vel≠0→Sz2 f.st (Dk f g/f.vel)
 d2:g.vel≠0→Sz2 (Dk f g) g.vel
 a2:g.vel≠0→Sz2 g.st (Dk f g/g.vel)
 m1:Sz2 f.vel f.st
 m2:Sz2 g.vel g.st
 s:Sz2 (f.vel*f.st) (g.vel*g.st)
 a:Sz2 (Dk f g) (f.vel*f.st-g.vel*g.st)
 w:Sz2 f.vel g.vel
 d:f.vel≠g.vel→Sz2 (Dk f g+(f.vel*f.st-g.vel*g.st)) (f.vel-g.vel)
def mi3 (f:FrP):Nat:=if f.vel=0 then 2 else 3
def mi4 (f g:FrP):Nat:=if g.vel=0 then mi3 f else mi3 f+1
theorem Xt (f g:FrP):(AY f g).getD 0 0=f.st∧(AY f g).getD 1 0=g.st∧1<(AY f g).length:=by
 unfold AY
 by_cases h1:f.vel=0<;>by_cases h2:g.vel=0<;>by_cases h3:f.vel=g.vel<;>simp only[h1,h2,h3,if_true,if_false]<;>(try split)<;>simp
theorem X4 {f g:FrP} (h:f.vel≠0):(AY f g).getD 2 0=f.st+Dk f g/f.vel∧2<(AY f g).length:=by
 unfold AY
 by_cases h2:g.vel=0<;>by_cases h3:f.vel=g.vel<;>simp only[h,h2,h3,if_true,if_false]<;>(try split)<;>simp_all
theorem X8 {f g:FrP} (h:g.vel≠0):(AY f g).getD (mi3 f) 0=g.st-Dk f g/g.vel∧mi3 f<(AY f g).length∧mi4 f g=mi3 f+1:=by
 unfold AY mi4 mi3
 by_cases h2:f.vel=0<;>by_cases h3:f.vel=g.vel<;>simp only[h,h2,h3,if_true,if_false]<;>(try split)<;>simp_all
theorem X1 {f g:FrP} (h:f.vel≠g.vel):(AY f g).getD (mi4 f g) 0=(Dk f g+(f.vel*f.st-g.vel*g.st))/(f.vel-g.vel)∧mi4 f g<(AY f g).length∧(AY f g).length=mi4 f g+1:=by
 unfold AY mi4 mi3
 by_cases h2:f.vel=0<;>by_cases h3:g.vel=0<;>simp only[h,h2,h3,if_true,if_false]<;>(try split)<;>simp_all
theorem Xl {f g:FrP} (h:f.vel=g.vel):(AY f g).length=mi4 f g:=by
 unfold AY mi4 mi3
 by_cases h2:f.vel=0<;>by_cases h3:g.vel=0<;>simp_all
abbrev Ro (l:List Rat) (k:Nat):List Value:=[str (Ai (l.getD k 0))]
theorem S3 (f g:FrP) (hf:f.OK) (hg:g.OK) (hz:Un f g) (b1 b2:Nat):
  TE Tryz.prog 196 [Ax b1,Ax b2] (AY f g).length (Ro (AY f g)) (fun _=>Xv b1 b2 f g):=by
 refine⟨fun y J Jx hN hB hY W hJ=> ?_⟩
 have hG: ∀k,Wj (J k):=fun k W W' h hb=>hB k W W' h hb
 have hdr: ∀k W,J k W→J k { W with drawn:=W.drawn+1 }:=fun k W h=>hB k W _ h ⟨rfl,rfl,rfl,Nat.le_refl _,fun _ _=>rfl⟩
 obtain⟨e0,e1,l1⟩:=Xt f g
 have hY0: ∀W,J 0 W→YieldAt (Fw none) 0 Tryz.prog y [str (Ai f.st)].toArray W fun e W'=>(e= .returned (.bool true)∧J 1 W')∨(e= .returned (.bool false)∧Jx W'):=fun W h=>by
  have:=hY 0 W (by omega) h
  rwa [Ro,e0] at this
 have hY1: ∀W,J 1 W→YieldAt (Fw none) 0 Tryz.prog y [str (Ai g.st)].toArray W fun e W'=>(e= .returned (.bool true)∧J 2 W')∨(e= .returned (.bool false)∧Jx W'):=fun W h=>by
  have:=hY 1 W (by omega) h
  rwa [Ro,e1] at this
 refine DV (args:=[.func (.yield y) #[] #[],Ax b1,Ax b2]) (J0:=J 0) Tryz.func196 rfl rfl rfl hJ ?_
 refine zA (zA (zB (wP rfl (wP rfl ?_))))
 refine Aw rfl rfl rfl rfl (fun W hp=>Ag.load 4 tH rfl ((fun W hp=>(hN 0 W hp).f) W hp) rfl) ?_
 refine Dj (A1:=J 1) (A2:=Jx) rfl rfl rfl rfl rfl rfl hY0 ?_ ?_
 rotate_left
 ·refine wP rfl (wP rfl ?_)
  iterate 5 refine Ah rfl rfl ?_
  refine wP rfl (zC (zE (zR rfl (zO (zP ?_)))))
  exact BZ rfl (fun W h=>h)
 refine wP rfl (wP rfl (wP rfl (wP rfl ?_)))
 refine Aw rfl rfl rfl rfl (fun W hp=>Ag.load 4 tH rfl ((fun W hp=>(hN 1 W hp).g) W hp) rfl) ?_
 refine Dj (A1:=J 2) (A2:=Jx) rfl rfl rfl rfl rfl rfl hY1 ?_ ?_
 rotate_left
 ·refine wP rfl (wP rfl (zC (zE (zR rfl (zO (zP ?_))))))
  exact BZ rfl (fun W h=>h)
 refine wP rfl (wP rfl (Aa (zE (zS rfl (zI (zE (zA ?_)))))))
 refine Fk 6 (hdr 2) Tryz.mixed (by kernel_rfl) rfl ?_
 refine Ap rfl rfl rfl rfl (fun W hp=>Ag.load 0 tH rfl ((fun W hp=>(hN 2 W hp).f) W hp) rfl) ?_
 refine Cd (hG 2) rfl rfl rfl rfl rfl rfl (by kernel_rfl) (fun W hp=>Ch f hf W (hN 2 W hp).v (hN 2 W hp).t) ?_
 refine Ap rfl rfl rfl rfl (fun W hp=>Ag.load 0 tH rfl ((fun W hp=>(hN 2 W hp).g) W hp) rfl) ?_
 refine Cd (hG 2) rfl rfl rfl rfl rfl rfl (by kernel_rfl) (fun W hp=>Ch g hg W (hN 2 W hp).v (hN 2 W hp).t) ?_
 refine qP rfl (qP rfl (AE (Aa (zE (zA ?_)))))
 refine Fk 8 (hdr 2) Tryz.mixed (by kernel_rfl) rfl ?_
 refine qP rfl ?_
 refine Ap rfl rfl rfl rfl (fun W hp=>Ag.load 1 tH rfl ((fun W hp=>(hN 2 W hp).g) W hp) rfl) ?_
 refine Cd (hG 2) rfl rfl rfl rfl rfl rfl (by kernel_rfl) (fun W hp=>DI g.pos hg.pos64 W (hN 2 W hp).t) ?_
 refine qP rfl ?_
 refine Ap rfl rfl rfl rfl (fun W hp=>Ag.load 1 tH rfl ((fun W hp=>(hN 2 W hp).f) W hp) rfl) ?_
 refine Cd (hG 2) rfl rfl rfl rfl rfl rfl (by kernel_rfl) (fun W hp=>DI f.pos hf.pos64 W (hN 2 W hp).t) ?_
 refine Cd (hG 2) rfl rfl rfl rfl rfl rfl (by kernel_rfl) (fun W hp=>ER (g.pos:Rat) (f.pos:Rat) (sz2 hg.posz hf.posz (by decide)) W (hN 2 W hp).v (hN 2 W hp).t) ?_
 refine qP rfl (AE (Aa (zE (zA (zA ?_)))))
 -- the first one's velocity
 refine Sj (X:=Bool) (fun s=>[(0, .func (.yield y) #[] #[]),(1,Ax b1),(2,Ax b2),(4,str (Ai f.vel)),(5,str (Ai g.vel)),(6,str (Ai (Dk f g))),(42, .bool s)]) (fun s=>match s with|true=>Jx|false=>J (mi3 f)) (fun _=>True) ?_ ?_
 ·skip
  refine Fk 10 (hdr 2) Tryz.mixed (by kernel_rfl) rfl ?_
  refine qP rfl (qP rfl ?_)
  by_cases h:f.vel=0
  ·refine A6 31 (.bool false) rfl (congrArg Value.bool (by show(!_)=false;rw[AR,FF,decide_eq_true h];rfl)) ?_
   refine qP rfl ?_
   iterate 7 refine BC rfl rfl ?_
   refine zD ?_
   iterate 2 refine Ah rfl rfl ?_
   refine wP rfl (zC ?_)
   exact H3 false trivial ⟨rfl,rfl,rfl,rfl,rfl,rfl,rfl,trivial⟩ (fun W hp=>by show J (mi3 f) W;rw[mi3,if_pos h];exact hp)
  ·refine A6 31 (.bool true) rfl (congrArg Value.bool (by show(!_)=true;rw[AR,FF,decide_eq_false h];rfl)) ?_
   obtain⟨e2,l2⟩:=X4 (g:=g) h
   have hY2: ∀W,J 2 W→YieldAt (Fw none) 0 Tryz.prog y [str (Ai (f.st+Dk f g/f.vel))].toArray W fun e W'=>(e= .returned (.bool true)∧J 3 W')∨(e= .returned (.bool false)∧Jx W'):=fun W h=>by
    have:=hY 2 W (by omega) h
    rwa [Ro,e2] at this
   refine qP rfl (qP rfl (qP rfl ?_))
   refine Ap rfl rfl rfl rfl (fun W hp=>Ag.load 4 tH rfl ((fun W hp=>(hN 2 W hp).f) W hp) rfl) ?_
   refine qP rfl (qP rfl ?_)
   refine Cd (hG 2) rfl rfl rfl rfl rfl rfl (by kernel_rfl) (fun W hp=>HY (Dk f g) f.vel (hz.d1 h) (by rwa [ne_eq,Rat.num_eq_zero]) W (hN 2 W hp).v (hN 2 W hp).t) ?_
   refine Cd (hG 2) rfl rfl rfl rfl rfl rfl (by kernel_rfl) (fun W hp=>Il f.st (Dk f g/f.vel) (hz.a1 h) W (hN 2 W hp).v (hN 2 W hp).t) ?_
   refine AE ?_
   refine Dj (A1:=J 3) (A2:=Jx) rfl rfl rfl rfl rfl rfl hY2 ?_ ?_
   ·refine wP rfl (wP rfl (zC ?_))
    exact H3 false trivial ⟨rfl,rfl,rfl,rfl,rfl,rfl,rfl,trivial⟩ (fun W hp=>by show J (mi3 f) W;rw[mi3,if_neg h];exact hp)
   ·refine wP rfl (wP rfl (zC ?_))
    exact H3 true trivial ⟨rfl,rfl,rfl,rfl,rfl,rfl,rfl,trivial⟩ (fun W hp=>hp)
 rintro(_|_) _
 rotate_left
 ·refine zR rfl (zO (zP ?_))
  exact BZ rfl (fun W h=>h)
 -- the second one's
 refine zS rfl (zI (zE (zA (zA ?_))))
 refine Sj (X:=Bool) (fun s=>[(0, .func (.yield y) #[] #[]),(1,Ax b1),(2,Ax b2),(4,str (Ai f.vel)),(5,str (Ai g.vel)),(6,str (Ai (Dk f g))),(55, .bool s)]) (fun s=>match s with|true=>Jx|false=>J (mi4 f g)) (fun _=>True) ?_ ?_
 ·skip
  refine Fk 10 (hdr (mi3 f)) Tryz.mixed (by kernel_rfl) rfl ?_
  refine qP rfl (qP rfl ?_)
  by_cases h:g.vel=0
  ·refine A6 44 (.bool false) rfl (congrArg Value.bool (by show(!_)=false;rw[AR,FF,decide_eq_true h];rfl)) ?_
   refine qP rfl ?_
   iterate 7 refine BC rfl rfl ?_
   refine zD ?_
   iterate 2 refine Ah rfl rfl ?_
   refine wP rfl (zC ?_)
   exact H3 false trivial ⟨rfl,rfl,rfl,rfl,rfl,rfl,rfl,trivial⟩ (fun W hp=>by show J (mi4 f g) W;rw[mi4,if_pos h];exact hp)
  ·refine A6 44 (.bool true) rfl (congrArg Value.bool (by show(!_)=true;rw[AR,FF,decide_eq_false h];rfl)) ?_
   obtain⟨e3,l3,l3'⟩:=X8 (f:=f) h
   have hY3: ∀W,J (mi3 f) W→YieldAt (Fw none) 0 Tryz.prog y [str (Ai (g.st-Dk f g/g.vel))].toArray W fun e W'=>(e= .returned (.bool true)∧J (mi3 f+1) W')∨(e= .returned (.bool false)∧Jx W'):=fun W h=>by
    have:=hY (mi3 f) W l3 h
    rwa [Ro,e3] at this
   refine qP rfl (qP rfl (qP rfl ?_))
   refine Ap rfl rfl rfl rfl (fun W hp=>Ag.load 4 tH rfl ((fun W hp=>(hN _ W hp).g) W hp) rfl) ?_
   refine qP rfl (qP rfl ?_)
   refine Cd (hG _) rfl rfl rfl rfl rfl rfl (by kernel_rfl) (fun W hp=>HY (Dk f g) g.vel (hz.d2 h) (by rwa [ne_eq,Rat.num_eq_zero]) W (hN _ W hp).v (hN _ W hp).t) ?_
   refine Cd (hG _) rfl rfl rfl rfl rfl rfl (by kernel_rfl) (fun W hp=>ER g.st (Dk f g/g.vel) (hz.a2 h) W (hN _ W hp).v (hN _ W hp).t) ?_
   refine AE ?_
   refine Dj (A1:=J (mi3 f+1)) (A2:=Jx) rfl rfl rfl rfl rfl rfl hY3 ?_ ?_
   ·refine wP rfl (wP rfl (zC ?_))
    exact H3 false trivial ⟨rfl,rfl,rfl,rfl,rfl,rfl,rfl,trivial⟩ (fun W hp=>by show J (mi4 f g) W;rw[l3'];exact hp)
   ·refine wP rfl (wP rfl (zC ?_))
    exact H3 true trivial ⟨rfl,rfl,rfl,rfl,rfl,rfl,rfl,trivial⟩ (fun W hp=>hp)
 rintro(_|_) _
 rotate_left
 ·refine zR rfl (zO (zP ?_))
  exact BZ rfl (fun W h=>h)
 -- where both move
 refine zS rfl (zI (zE (zA (zB (wP rfl (wP rfl (wP rfl ?_)))))))
 by_cases h:f.vel=g.vel
 ·refine Ab 58 (.bool false) rfl (congrArg Value.bool (by show(!_)=false;rw[AR,decide_eq_true (by rw[h])];rfl)) ?_
  refine zC (zE (zS rfl (zI ?_)))
  exact Gw rfl fun W hp=>by rw[Xl h];exact hp
 ·refine Ab 58 (.bool true) rfl (congrArg Value.bool (by show(!_)=true;rw[AR,decide_eq_false fun e=>h (Cl.1 e)];rfl)) ?_
  obtain⟨e4,l4,l5⟩:=X1 h
  have hY4: ∀W,J (mi4 f g) W→YieldAt (Fw none) 0 Tryz.prog y [str (Ai ((Dk f g+(f.vel*f.st-g.vel*g.st))/(f.vel-g.vel)))].toArray W fun e W'=>(e= .returned (.bool true)∧J (mi4 f g+1) W')∨(e= .returned (.bool false)∧Jx W'):=fun W h=>by
   have:=hY (mi4 f g) W l4 h
   rwa [Ro,e4] at this
  refine zC (zE (zR rfl ?_))
  refine Fk 16 (hdr (mi4 f g)) Tryz.mixed (by kernel_rfl) rfl ?_
  refine qP rfl (qP rfl (qP rfl (qP rfl ?_)))
  refine Ap rfl rfl rfl rfl (fun W hp=>Ag.load 4 tH rfl ((fun W hp=>(hN _ W hp).f) W hp) rfl) ?_
  refine Cd (hG _) rfl rfl rfl rfl rfl rfl (by kernel_rfl) (fun W hp=>Gj f.vel f.st hz.m1 W (hN _ W hp).v (hN _ W hp).t) ?_
  refine qP rfl (qP rfl ?_)
  refine Ap rfl rfl rfl rfl (fun W hp=>Ag.load 4 tH rfl ((fun W hp=>(hN _ W hp).g) W hp) rfl) ?_
  refine Cd (hG _) rfl rfl rfl rfl rfl rfl (by kernel_rfl) (fun W hp=>Gj g.vel g.st hz.m2 W (hN _ W hp).v (hN _ W hp).t) ?_
  refine Cd (hG _) rfl rfl rfl rfl rfl rfl (by kernel_rfl) (fun W hp=>ER (f.vel*f.st) (g.vel*g.st) hz.s W (hN _ W hp).v (hN _ W hp).t) ?_
  refine Cd (hG _) rfl rfl rfl rfl rfl rfl (by kernel_rfl) (fun W hp=>Il (Dk f g) (f.vel*f.st-g.vel*g.st) hz.a W (hN _ W hp).v (hN _ W hp).t) ?_
  refine qP rfl (qP rfl ?_)
  refine Cd (hG _) rfl rfl rfl rfl rfl rfl (by kernel_rfl) (fun W hp=>ER f.vel g.vel hz.w W (hN _ W hp).v (hN _ W hp).t) ?_
  refine Cd (hG _) rfl rfl rfl rfl rfl rfl (by kernel_rfl) (fun W hp=>HY (Dk f g+(f.vel*f.st-g.vel*g.st)) (f.vel-g.vel) (hz.d h) (by rw[ne_eq,Rat.num_eq_zero];grind) W (hN _ W hp).v (hN _ W hp).t) ?_
  refine AE ?_
  refine Dj (A1:=J (mi4 f g+1)) (A2:=Jx) rfl rfl rfl rfl rfl rfl hY4 ?_ ?_
  ·refine zC ?_
   exact Gw rfl fun W hp=>by rw[l5];exact hp
  ·refine zC ?_
   exact M3 rfl (fun W h=>h)
end
section
theorem KL {x:Rat}: ∀(s:List Rat) (j:Nat),j≤s.length→(∀y∈s.take j, ¬x<y)→(∀y∈s.drop j,x<y)→GE x s=s.take j++x::s.drop j
 |[],j,hj,_,_=>by
  obtain rfl:j=0:=by simpa using hj
  rfl
 |y::l,0,_,_,h2=>by
  unfold GE
  rw[if_pos (h2 y (List.mem_cons_self ..))];rfl
 |y::l,j+1,hj,h1,h2=>by
  unfold GE
  rw[if_neg (h1 y (by simp)),KL l j (by simpa using hj) (fun z hz=>h1 z (by simp[hz])) (fun z hz=>h2 z (by simpa using hz))]
  rfl
theorem Ju (l:List Rat):(B9 l).length=l.length:=by
 have: ∀(l s:List Rat),(l.foldl (fun s x=>GE x s) s).length=l.length+s.length:=by
  intro l
  induction l with
  |nil=>exact fun s=>by simp
  |cons x l ih=>exact fun s=>by rw[List.foldl_cons,ih,Qp,List.length_cons];omega
 rw[B9,this];simp
theorem QH (l:List Rat) {i:Nat} (hi:i<l.length):B9 (l.take (i+1))=GE l[i] (B9 (l.take i)):=by
 rw[B9,List.take_add_one,List.getElem?_eq_getElem hi,List.foldl_append];rfl
theorem Ts {x:Rat} {s:List Rat} {j:Nat} (hs:s.Pairwise (· ≤ ·)) (hj:j≤s.length) (h2: ∀y∈s.drop j,x<y) (h1: ∀(h:0<j), ¬x<s[j-1]):GE x s=s.take j++x::s.drop j:=by
 refine KL s j hj (fun y hy=> ?_) h2
 obtain⟨k,hk,rfl⟩:=List.getElem_of_mem hy
 have hk':k<j:=by simp at hk;omega
 rw[List.getElem_take]
 have h3:=h1 (by omega)
 refine Rat.not_lt.2 (Rat.le_trans ?_ (Rat.not_lt.1 h3))
 by_cases e:k=j-1
 ·subst e;exact Rat.le_refl
 ·exact List.pairwise_iff_getElem.1 hs k (j-1) (by omega) (by omega) (by omega)
theorem Jo:Be []=[]:=by rw[Be]
theorem Jh (x:Rat):Be [x]=[x]:=by rw[Be]
theorem EP (x y:Rat) (l:List Rat):Be (x::y::l)=if y=x then Be (x::l) else x::Be (y::l):=by rw[Be]
theorem JF (x y:Rat):Be [x,y]=if y=x then Be [x] else Be [x]++[y]:=by
 rw[EP]
 by_cases h:y=x
 ·rw[if_pos h,if_pos h]
 ·rw[if_neg h,if_neg h,Jh,Jh];rfl
theorem HU (l:List Rat) (x y:Rat):Be (l++[x,y])=if y=x then Be (l++[x]) else Be (l++[x])++[y]:=by
 match l with
 |[]=>exact JF x y
 |[a]=>
  show Be (a::x::[y])=if y=x then Be (a::x::[]) else Be (a::x::[])++[y]
  rw[EP a x [y],EP a x []]
  by_cases h2:x=a
  ·rw[if_pos h2,if_pos h2]
   subst h2
   exact JF x y
  ·rw[if_neg h2,if_neg h2,JF x y]
   by_cases h:y=x
   ·rw[if_pos h,if_pos h]
   ·rw[if_neg h,if_neg h];rfl
 |a::b::l=>
  show Be (a::b::(l++[x,y]))=if y=x then Be (a::b::(l++[x])) else Be (a::b::(l++[x]))++[y]
  rw[EP a b (l++[x,y]),EP a b (l++[x])]
  by_cases h2:b=a
  ·rw[if_pos h2,if_pos h2]
   exact HU (a::l) x y
  ·rw[if_neg h2,if_neg h2]
   have:=HU (b::l) x y
   rw[List.cons_append,List.cons_append] at this
   rw[this]
   by_cases h:y=x
   ·rw[if_pos h,if_pos h]
   ·rw[if_neg h,if_neg h];rfl
termination_by l.length
theorem MK (l:List Rat): ∀(m:Nat),m≤l.length→Lib.compactUpTo (l.map Ai).toArray m=(Be (l.take m)).map Ai
 |0,_=>by simp[Lib.compactUpTo,Be]
 |m+1,hm=>by
  have hb: ∀i (hi:i<l.length),(l.map Ai).toArray[i]! =Ai l[i]:=fun i hi=>by simp[hi]
  rw[Lib.compactUpTo_succ,MK l m (by omega),hb m (by omega)]
  have e1:l.take (m+1)=l.take m++[l[m]]:=by rw[List.take_add_one,List.getElem?_eq_getElem hm];rfl
  cases m with
  |zero=>
   rw[e1]
   have:Lib.keeps (l.map Ai).toArray 0=true:=Lib.keeps_lt_one _ 0 (by omega)
   rw[if_pos this,List.take_zero,List.nil_append,Jo,Jh]
   rfl
  |succ k=>
   have e2:l.take (k+1)=l.take k++[l[k]]:=by rw[List.take_add_one,List.getElem?_eq_getElem (by omega)];rfl
   rw[e1,e2,List.append_assoc]
   show _=(Be (l.take k++[l[k],l[k+1]])).map Ai
   rw[HU]
   have h1:Lib.keeps (l.map Ai).toArray (k+1)=decide (¬l[k+1]=l[k]):=by
    unfold Lib.keeps
    rw[decide_eq_decide,Nat.add_sub_cancel,hb (k+1) hm,hb k (by omega)]
    constructor
    ·rintro(h|h)
     ·omega
     ·exact fun e=>h (by rw[e])
    ·exact fun h=> .inr fun e=>h (Cl.1 e)
   rw[h1]
   by_cases h:l[k+1]=l[k]
   ·rw[if_pos h,if_neg (by simp[h]),List.append_nil]
   ·rw[if_neg h,if_pos (by simp[h]),List.map_append];rfl
theorem O4 (l:List Rat):Lib.compact (l.map Ai)=(Be l).map Ai:=by
 have:=MK l l.length (Nat.le_refl _)
 rw[List.take_length] at this
 rw[←this]
 unfold Lib.compact
 simp
end
end Go.Proofs.YtlagebbefnnnnaaGreatDoor
namespace Go.Proofs
open Go.Shelf
def Tryz.lays125_ren:Go.Shelf.Ren:=⟨fun|125=>161|128=>231|129=>232|n=>n,fun|3=>3|4=>4|5=>5|9=>9|46=>205|51=>261|53=>263|n=>n,fun n=>n⟩
theorem Tryz.lays125:Go.Proofs.Lays.n125 Tryz.prog Tryz.lays125_ren:= {
 mixed:=by kernel_rfl
 f125:=Tryz.func161.trans (congrArg some (by kernel_rfl))
 f128:=Tryz.func231.trans (congrArg some (by kernel_rfl))
 f129:=Tryz.func232.trans (congrArg some (by kernel_rfl))
 t3:=Tryz.underlying3
 a3:=Tryz.isAgg3
 z3:=Tryz.sizeOf3
 v3:=Tryz.zeroValue3
 t4:=Tryz.underlying4
 a4:=Tryz.isAgg4
 z4:=Tryz.sizeOf4
 v4:=Tryz.zeroValue4
 t5:=Tryz.underlying5
 a5:=Tryz.isAgg5
 z5:=Tryz.sizeOf5
 v5:=Tryz.zeroValue5
 t9:=Tryz.underlying9
 a9:=Tryz.isAgg9
 z9:=Tryz.sizeOf9
 v9:=Tryz.zeroValue9
 t46:=Tryz.underlying205
 a46:=Tryz.isAgg205
 z46:=Tryz.sizeOf205
 v46:=Tryz.zeroValue205
 t51:=Tryz.underlying261
 a51:=Tryz.isAgg261
 z51:=Tryz.sizeOf261
 v51:=Tryz.zeroValue261
 t53:=Tryz.underlying263
 a53:=Tryz.isAgg263
 z53:=Tryz.sizeOf263
 v53:=Tryz.zeroValue263 }
def Tryz.laysN44_ren:Go.Shelf.Ren:=⟨fun|44=>129|n=>n,fun|0=>0|3=>3|4=>4|25=>50|26=>37|n=>n,fun n=>n⟩
theorem Tryz.laysN44:Go.Proofs.SlLaysN.n44 Tryz.prog Tryz.laysN44_ren:= {
 mixed:=by kernel_rfl
 f44:=⟨Tryz.f129.name,by kernel_rfl,Tryz.func129.trans (congrArg some (by kernel_rfl))⟩
 t0:=Tryz.underlying0
 a0:=Tryz.isAgg0
 z0:=Tryz.sizeOf0
 v0:=Tryz.zeroValue0
 t3:=Tryz.underlying3
 a3:=Tryz.isAgg3
 z3:=Tryz.sizeOf3
 v3:=Tryz.zeroValue3
 t4:=Tryz.underlying4
 a4:=Tryz.isAgg4
 z4:=Tryz.sizeOf4
 v4:=Tryz.zeroValue4
 t25:=Tryz.underlying50
 a25:=Tryz.isAgg50
 z25:=Tryz.sizeOf50
 v25:=Tryz.zeroValue50
 t26:=Tryz.underlying37
 a26:=Tryz.isAgg37
 z26:=Tryz.sizeOf37
 v26:=Tryz.zeroValue37
 i26:=by kernel_rfl }
end Go.Proofs
namespace Go.Proofs.YtlagebbefnnnnaaGreatDoor
section
open Go Go.RowKit Go.Am Go.Lib
set_option maxRecDepth 10000
-- BOXES 3
abbrev nS (l:List Rat):List Value:=l.map fun q=>str (Ai q)
def Qo (cf:Nat):Prop:=Bq Tryz.prog cf=true∧ ∀(p q:Rat) (W:World),Sz2 p q→BJ W→AV W→Aj Tryz.prog cf #[str (Ai p),str (Ai q)] W (fun _:Unit=> .int .i64 (E6 p q)) (fun _=>True) (fun _=>[])
structure Hq (W W':World) (g:Nat):Prop where
 os:W'.os=W.os
 tape:W'.tape=W.tape
 output:W'.output=W.output
 size:W.heap.size≤W'.heap.size
 at_: ∀x,x≠g→x<W.heap.size→W'.heap[x]? =W.heap[x]?
theorem Gm {W W':World} {g:Nat} {B:Bx} {o:Obj} (hg:W.heap[g]? =some o) (hB: ∃o',(g,o')∈B.blk) (hp:Hp (AZ W) [AU (A3 W g),B] W'):Hq W W' g:=by
 have c0: ∀p∈A3 W g,W'.heap[p.1]? =some p.2:=fun p hq=>(hp.own.cell 0 _ rfl p hq).1
 have old: ∀x,x≠g→x<W.heap.size→W'.heap[x]? =W.heap[x]? :=fun x hx hlt=>by
  have h1:W.heap[x]? =some W.heap[x]:=Array.getElem?_eq_getElem hlt
  rw[h1]
  exact c0 (x,W.heap[x]) (CB.2 ⟨hx,h1⟩)
 refine⟨hp.below.os,hp.below.tape,hp.below.output, ?_,old⟩
 have hlt:=(Array.getElem?_eq_some_iff.1 hg).1
 by_cases e:W.heap.size-1=g
 ·obtain⟨o',ho⟩:=hB
  have:=(Array.getElem?_eq_some_iff.1 (hp.own.cell 1 B rfl _ ho).1).1
  have h2:g<W'.heap.size:=this
  omega
 ·have h1:=old (W.heap.size-1) e (by omega)
  rw[Array.getElem?_eq_getElem (show W.heap.size-1<W.heap.size by omega)] at h1
  have:=(Array.getElem?_eq_some_iff.1 h1).1
  omega
theorem Hq.trans {W W1 W2:World} {g:Nat} (h:Hq W W1 g) (h':Hq W1 W2 g):Hq W W2 g:=
 ⟨h'.os.trans h.os,h'.tape.trans h.tape,h'.output.trans h.output,Nat.le_trans h.size h'.size,fun x hx hlt=>(h'.at_ x hx (Nat.lt_of_lt_of_le hlt h.size)).trans (h.at_ x hx hlt)⟩
theorem Hq.below {W0 W W':World} {g:Nat} (hk:Hq W W' g) (hb:Below W0.heap.size W0 W) (hg:W0.heap.size≤g):Below W0.heap.size W0 W':=
 ⟨hk.os.trans hb.os,hk.tape.trans hb.tape,hk.output.trans hb.output,Nat.le_trans hb.size hk.size,fun i hi=>(hk.at_ i (by omega) (Nat.lt_of_lt_of_le hi hb.size)).trans (hb.block i hi)⟩
theorem Dw {W0 W:World} {bxs:List Bx} (hp:Hp W0 bxs W) (k:Nat) {g:Nat} {e:TypeId} {xs A B C:List Value} {off:Nat} (hk:nth bxs k=some ⟨g,e,xs,true,none⟩) (hxs:xs=A++(B++C)) (hoff:off=A.length):Ag W g off B:=by
 have h:=Ag.of_bx hp k hk rfl
 refine⟨h.lt,fun m u hu=> ?_⟩
 have:=h.get (A.length+m) u (by
  show xs[A.length+m]? =some u
  rw[hxs,List.getElem?_append_right (by omega),Nat.add_sub_cancel_left,List.getElem?_append_left (List.getElem?_eq_some_iff.1 hu).1]
  exact hu)
 rw[Nat.zero_add, ←hoff] at this
 exact this
theorem MJ {r:Option Nat} {n:Nat} {P:Program} {W0:World} {N:Nat} {D:List Deferred} {c:Code} {Q:Exit→Act→World→Prop} {env:Env} {bxs bxs':List Bx} (e:bxs=bxs') (h:WC r n P N D c Q env (Hp W0 bxs')):WC r n P N D c Q env (Hp W0 bxs):=e▸h
abbrev Ec (g:Nat) (l:List Rat) (junk:List Value):Bx:=⟨g,37,nS l++junk,true,none⟩
theorem Q7 (l:List Rat):B9 (l.take 1)++l.drop 1=l:=by
 cases l with
 |nil=>rfl
 |cons x l=>rfl
theorem Rt (cf:Nat) (hcf:Qo cf) (W:World) (g cap:Nat) (l:List Rat) (junk:List Value) (hn:l.length<4611686018427387904) (hg:W.heap[g]? =some (.cells (nS l++junk).toArray 37 (0,0)))
  (hf: ∀W',Hq W W' g→BJ W'∧AV W') (hz: ∀p∈l, ∀q∈l,Sz2 p q):
  Calls Tryz.prog 254 #[.slice (some ⟨g,0,none⟩) l.length cap, .int .i64 0, .int .i64 (l.length:Nat), .func (.func cf) #[] #[]] W fun e W'=> ∃x:Unit,e= .returned ((fun _=> .tuple #[]) x)∧True∧HE W W' g ((fun _=>g) x) ((fun _=> .cells (nS (B9 l)++junk).toArray 37 (0,0)) x):=by
 have key:Calls Tryz.prog 254 [.slice (some ⟨g,0,none⟩) l.length cap, .int .i64 0, .int .i64 (l.length:Nat), .func (.func cf) #[] #[]].toArray W fun e W'=> ∃x:Unit,e= .returned ((fun _=> .tuple #[]) x)∧(fun _=>True) x∧Below (AZ W).heap.size (AZ W) W'∧Ae (AZ W) W' ((fun _=>[AU (A3 W g),Ec g (B9 l) junk]) x):=by
  refine BM (X:=Unit) (val:=fun _=> .tuple #[]) (Φ:=fun _=>True) (nb:=fun _=>[AU (A3 W g),Ec g (B9 l) junk]) (Hp.enterT (B:=Ec g l junk) rfl hg) Tryz.func254 rfl rfl rfl ?_
  refine zA (zB (wP rfl (wP rfl (wP rfl (Aa (zE (zH ?_)))))))
  refine Av (X:=Nat) (fun i=>[(0, .slice (some ⟨g,0,none⟩) l.length cap),(1, .int .i64 0),(2, .int .i64 (l.length:Nat)),(3, .func (.func cf) #[] #[]),(8, .int .i64 (i:Nat))]) (fun i=>[AU (A3 W g),Ec g (B9 (l.take i)++l.drop i) junk])
   (fun i=>1≤i∧(i≤l.length∨i=1)) (fun i=>l.length+1-i) 1 ⟨Nat.le_refl _, .inr rfl⟩ ⟨rfl,rfl,rfl,rfl,rfl,trivial⟩ [] (by rw[Q7];rfl) ?_
  rintro i ⟨hi1,hi2⟩
  refine zA (zA (zB (wP rfl (wP rfl (wP rfl ?_)))))
  by_cases hlt:i<l.length
  rotate_left
  ·refine Ab 14 (.bool false) rfl (congrArg Value.bool (decide_eq_false (by omega))) ?_
   refine Aa (zE (zS rfl (zJ (zK (zK (zL ?_))))))
   have e:B9 (l.take i)++l.drop i=B9 l:=by rw[List.take_of_length_le (by omega),List.drop_of_length_le (by omega),List.append_nil]
   refine Fy (X:=Unit) (val:=fun _=> .tuple #[]) (Φ:=fun _=>True) (nb:=fun _=>[AU (A3 W g),Ec g (B9 l) junk]) (fn:=Tryz.f254) tH rfl () rfl trivial fun W1 hp=> ?_
   rw[e] at hp
   exact(hp.pick (l:=[AU (A3 W g),Ec g (B9 l) junk]) [0,1] (by decide) rfl).own
  refine Ab 14 (.bool true) rfl (congrArg Value.bool (decide_eq_true (by omega))) ?_
  refine Aa (zE (zR rfl (zI (zE (zA (zH (zA (zB (wP rfl (wP rfl (Aa (zE (zH ?_)))))))))))))
  obtain⟨s,hs⟩: ∃s,s=B9 (l.take i):=⟨_,rfl⟩
  obtain⟨x,hx⟩: ∃x,x=l[i]:=⟨_,rfl⟩
  obtain⟨rr,hr⟩: ∃rr,rr=l.drop (i+1):=⟨_,rfl⟩
  have hsl:s.length=i:=by rw[hs,Ju,List.length_take];omega
  have hsort:s.Pairwise (· ≤ ·):=hs▸O2 _
  have hdrop:l.drop i=x::rr:=by rw[hx,hr];exact List.drop_eq_getElem_cons hlt
  have hrl:rr.length=l.length-(i+1):=by rw[hr,List.length_drop]
  have hxl:x∈l:=hx▸List.getElem_mem hlt
  have hsm: ∀y∈s,y∈l:=fun y hy=>by rw[hs] at hy;exact List.mem_of_mem_take (No.1 hy)
  have hnext: ∀j,j≤s.length→(∀y∈s.drop j,x<y)→(∀(h:0<j), ¬x<s[j-1]!)→s.take j++x::s.drop j++rr=B9 (l.take (i+1))++l.drop (i+1):=fun j h1 h2 h3=>by
   rw[QH l hlt, ←hs, ←hx, ←hr,Ts hsort h1 h2 fun h=>by have:=h3 h;rwa [getElem!_pos s (j-1) (by omega)] at this]
  refine Av (X:=Nat) (fun j=>[(0, .slice (some ⟨g,0,none⟩) l.length cap),(1, .int .i64 0),(2, .int .i64 (l.length:Nat)),(3, .func (.func cf) #[] #[]),(8, .int .i64 (i:Nat)),(9, .int .i64 (j:Nat))]) (fun j=>[AU (A3 W g),Ec g (s.take j++x::s.drop j++rr) junk])
   (fun j=>j≤s.length∧ ∀y∈s.drop j,x<y) (fun j=>j) i ⟨by omega,by rw[←hsl,List.drop_length];exact fun y hy=>absurd hy List.not_mem_nil⟩ ⟨rfl,rfl,rfl,rfl,rfl,rfl,trivial⟩ [] (by rw[←hs,hdrop, ←hsl,List.take_length,List.drop_length,List.append_assoc];rfl) ?_
  rintro j ⟨hj,hgt⟩
  have hj:j≤s.length:=hj
  have hgt: ∀y∈s.drop j,x<y:=hgt
  refine zA (zA ?_)
  refine zT Tryz.mixed (by kernel_rfl) ?_
  refine qP rfl (qP rfl (qP rfl ?_))
  cases j with
  |zero=>
   refine A6 20 (.bool false) rfl rfl ?_
   refine qP rfl ?_
   iterate 12 refine BC rfl rfl ?_
   refine qP rfl (AE (Aa (zE (zS rfl (zJ (zK (zK (zL (zN (zE (zB (wP rfl (wP rfl ?_)))))))))))))
   refine Ab 16 (.int .i64 ((i+1:Nat):Int)) rfl (congrArg (Value.int .i64) (A5 (by omega))) ?_
   refine wP rfl (Aa ?_)
   refine As (i+1) ⟨by show 1≤i+1;omega, .inl hlt⟩ (by show l.length+1-(i+1)<l.length+1-i;omega) ⟨rfl,rfl,rfl,rfl,rfl,trivial⟩ [] ?_
   rw[hnext 0 hj hgt fun h=>absurd h (by decide)];rfl
  |succ m=>
   have hm:m<s.length:=hj
   obtain⟨y,hy⟩: ∃y,y=s[m]:=⟨_,rfl⟩
   have hyl:y∈l:=hsm y (hy▸List.getElem_mem hm)
   have e1:s.take (m+1)=s.take m++[y]:=by rw[List.take_add_one,List.getElem?_eq_getElem hm,hy];rfl
   have e2:s.drop m=y::s.drop (m+1):=by rw[hy];exact List.drop_eq_getElem_cons hm
   have e3:s[m+1-1]! =y:=by rw[Nat.add_sub_cancel,getElem!_pos s m hm,hy]
   have hA:(nS (s.take m)).length=m:=by rw[List.length_map,List.length_take];omega
   obtain⟨C,hC⟩: ∃C,C=nS (s.drop (m+1)++rr)++junk:=⟨_,rfl⟩
   have row1:nS (s.take (m+1)++x::s.drop (m+1)++rr)++junk=nS (s.take m)++([str (Ai y),str (Ai x)]++C):=by rw[e1,hC];simp[nS]
   have row2:nS (s.take m++x::s.drop m++rr)++junk=nS (s.take m)++([str (Ai x),str (Ai y)]++C):=by rw[e2,hC];simp[nS]
   refine A6 20 (.bool true) rfl (congrArg Value.bool (decide_eq_true (by omega))) ?_
   refine qP rfl (qP rfl (qP rfl (qP rfl ?_)))
   refine qJ ?_
   refine Ap rfl rfl rfl rfl (fun W hp=>Ag.load 0 tH rfl ((fun W1 hp=>show Ag W1 g (0+(m+1)*1) [str (Ai x)] from Dw hp 1 (A:=nS (s.take m)++[str (Ai y)]) (C:=C) rfl (by rw[row1];simp) (by rw[List.length_append,hA];simp)) W hp) rfl) ?_
   refine qP rfl (qP rfl (qP rfl ?_))
   refine A6 29 (.int .i64 (m:Nat)) rfl (congrArg (Value.int .i64) (show w64 (((m+1:Nat):Int)-1)=_ by rw[An (by omega) (by omega)];omega)) ?_
   refine qJ ?_
   refine Ap rfl rfl rfl rfl (fun W hp=>Ag.load 0 tH rfl ((fun W1 hp=>show Ag W1 g (0+m*1) [str (Ai y)] from Dw hp 1 (A:=nS (s.take m)) (C:=[str (Ai x)]++C) rfl (by rw[row1];simp) (by rw[hA];simp)) W hp) rfl) ?_
   refine A9 (capt:=[]) rfl rfl rfl rfl rfl rfl hcf.1 (fun W1 hp=>(by
    obtain⟨hv,ht⟩:=hf W1 (Gm hg ⟨_,List.mem_cons_self ..⟩ hp)
    exact hcf.2 x y W1 (hz x hxl y hyl) hv ht)) ?_
   refine qP rfl ?_
   refine A6 33 (.bool (decide (x<y))) rfl (congrArg Value.bool (Mf x y)) ?_
   refine qP rfl (AE (Aa (zE ?_)))
   refine Ak rfl (fun h=> ?_) (fun h=> ?_)
   rotate_left
   ·have hc: ¬x<y:=of_decide_eq_false h
    refine zJ (zK (zK (zL (zN (zE (zB (wP rfl (wP rfl ?_))))))))
    refine Ab 16 (.int .i64 ((i+1:Nat):Int)) rfl (congrArg (Value.int .i64) (A5 (by omega))) ?_
    refine wP rfl (Aa ?_)
    refine As (i+1) ⟨by show 1≤i+1;omega, .inl hlt⟩ (by show l.length+1-(i+1)<l.length+1-i;omega) ⟨rfl,rfl,rfl,rfl,rfl,trivial⟩ [] ?_
    rw[hnext (m+1) hj hgt fun _=>by rw[e3];exact hc];rfl
   have hc:x<y:=of_decide_eq_true h
   clear h
   refine MJ (bxs':=[AU (A3 W g),⟨g,37,nS (s.take m)++([str (Ai y),str (Ai x)]++C),true,none⟩]) (by rw[←row1]) ?_
   refine zI (zE (A7 (BI ?_)))
   repeat refine A7 ?_
   refine BU (X:=Unit) [true,true,false,false,false,true,true,true,true,true,true,true,true,true,true,false,false,false] (fun _=>[(0, .slice (some ⟨g,0,none⟩) l.length cap),(1, .int .i64 0),(2, .int .i64 (l.length:Nat)),(3, .func (.func cf) #[] #[]),(8, .int .i64 (i:Nat)),(9, .int .i64 ((m+1:Nat):Int))]) (fun _=>[AU (A3 W g),⟨g,37,nS (s.take m)++([str (Ai x),str (Ai y)]++C),true,none⟩])
    6 [AU (A3 W g),⟨g,37,nS (s.take m)++([str (Ai y),str (Ai x)]++C),true,none⟩] Tryz.mixed (by kernel_rfl) ?_ ?_
   ·refine qP rfl (qP rfl (qP rfl (qP rfl (qP rfl ?_))))
    refine A6 44 (.int .i64 (m:Nat)) rfl (congrArg (Value.int .i64) (show w64 (((m+1:Nat):Int)-1)=_ by rw[An (by omega) (by omega)];omega)) ?_
    refine qJ ?_
    refine Ap rfl rfl rfl rfl (fun W hp=>Ag.load 0 tH rfl ((fun W1 hp=>show Ag W1 g (0+m*1) [str (Ai y)] from Dw hp 1 (A:=nS (s.take m)) (C:=[str (Ai x)]++C) rfl (by simp) (by rw[hA];simp)) W hp) rfl) ?_
    refine qP rfl (qP rfl ?_)
    refine qJ ?_
    refine Ap rfl rfl rfl rfl (fun W hp=>Ag.load 0 tH rfl ((fun W1 hp=>show Ag W1 g (0+(m+1)*1) [str (Ai x)] from Dw hp 1 (A:=nS (s.take m)++[str (Ai y)]) (C:=C) rfl (by simp) (by rw[List.length_append,hA];simp)) W hp) rfl) ?_
    refine qJ ?_
    refine Dd ?_
    have h1:Bs (nS (s.take m)++([str (Ai y),str (Ai x)]++C)) (0+(m+1)*1) (str (Ai y)).cells.toList=nS (s.take m)++([str (Ai y),str (Ai y)]++C):=by
     rw[show 0+(m+1)*1=(nS (s.take m)).length+1 by rw[hA];omega,Da];rfl
    have h2:Bs (nS (s.take m)++([str (Ai y),str (Ai y)]++C)) (0+m*1) (str (Ai x)).cells.toList=nS (s.take m)++([str (Ai x),str (Ai y)]++C):=by
     rw[show 0+m*1=(nS (s.take m)).length+0 by rw[hA];omega,Da];rfl
    refine wX ?_
    refine RS.cons ?_ (RS.cons ?_ (RS.cons ?_ (RS.nil)))
    ·refine wP rfl (Aa (Al ?_))
     refine wX ?_
     refine RS.cons ?_ (RS.cons ?_ (RS.nil))
     ·refine wP rfl (Aa (Al ?_))
      refine wX ?_
      refine RS.cons ?_ (RS.cons ?_ (RS.nil))
      ·refine wP rfl (Aa (Al ?_))
       refine wX ?_
       refine RS.cons ?_ (RS.nil)
       refine Ay 1 _ tH rfl rfl rfl rfl rfl rfl rfl rfl rfl rfl (by show 0+(m+1)*1+1≤(nS (s.take m)++([str (Ai y),str (Ai x)]++C)).length;rw[List.length_append,hA];simp<;>omega) h1 ?_
       refine Aa (Al ?_)
       refine wY ?_
       refine RS.cons ?_ (RS.nil)
       refine Ab 41 (.int .i64 (m:Nat)) rfl (congrArg (Value.int .i64) (show w64 (((m+1:Nat):Int)-1)=_ by rw[An (by omega) (by omega)];omega)) ?_;(first|refine wJ ?_|refine qJ ?_)
       refine Aa (Al ?_)
       refine wY ?_
       refine RS.cons ?_ (RS.nil)
       refine Ay 1 _ tH rfl rfl rfl rfl rfl rfl rfl rfl rfl rfl (by show 0+m*1+1≤(nS (s.take m)++([str (Ai y),str (Ai y)]++C)).length;rw[List.length_append,hA];simp<;>omega) h2 ?_
       refine Aa (Al ?_)
       refine AJ rfl (by kernel_rfl) ?_
       exact AD () ⟨rfl,rfl,rfl,rfl,rfl,rfl,trivial⟩ [0,1] (by decide) rfl
      ·refine Ay 1 _ tH rfl rfl rfl rfl rfl rfl rfl rfl rfl rfl (by show 0+(m+1)*1+1≤(nS (s.take m)++([str (Ai y),str (Ai x)]++C)).length;rw[List.length_append,hA];simp<;>omega) h1 ?_
       refine Aa (Al ?_)
       refine wY ?_
       refine RS.cons ?_ (RS.nil)
       refine wP rfl (Aa (Al ?_))
       refine wY ?_
       refine RS.cons ?_ (RS.nil)
       refine Ab 41 (.int .i64 (m:Nat)) rfl (congrArg (Value.int .i64) (show w64 (((m+1:Nat):Int)-1)=_ by rw[An (by omega) (by omega)];omega)) ?_;(first|refine wJ ?_|refine qJ ?_)
       refine Aa (Al ?_)
       refine wY ?_
       refine RS.cons ?_ (RS.nil)
       refine Ay 1 _ tH rfl rfl rfl rfl rfl rfl rfl rfl rfl rfl (by show 0+m*1+1≤(nS (s.take m)++([str (Ai y),str (Ai y)]++C)).length;rw[List.length_append,hA];simp<;>omega) h2 ?_
       refine Aa (Al ?_)
       refine AJ rfl (by kernel_rfl) ?_
       exact AD () ⟨rfl,rfl,rfl,rfl,rfl,rfl,trivial⟩ [0,1] (by decide) rfl
     ·refine Ay 1 _ tH rfl rfl rfl rfl rfl rfl rfl rfl rfl rfl (by show 0+(m+1)*1+1≤(nS (s.take m)++([str (Ai y),str (Ai x)]++C)).length;rw[List.length_append,hA];simp<;>omega) h1 ?_
      refine Aa (Al ?_)
      refine wY ?_
      refine RS.cons ?_ (RS.nil)
      refine wP rfl (Aa (Al ?_))
      refine wY ?_
      refine RS.cons ?_ (RS.nil)
      refine wP rfl (Aa (Al ?_))
      refine wY ?_
      refine RS.cons ?_ (RS.nil)
      refine Ab 41 (.int .i64 (m:Nat)) rfl (congrArg (Value.int .i64) (show w64 (((m+1:Nat):Int)-1)=_ by rw[An (by omega) (by omega)];omega)) ?_;(first|refine wJ ?_|refine qJ ?_)
      refine Aa (Al ?_)
      refine wY ?_
      refine RS.cons ?_ (RS.nil)
      refine Ay 1 _ tH rfl rfl rfl rfl rfl rfl rfl rfl rfl rfl (by show 0+m*1+1≤(nS (s.take m)++([str (Ai y),str (Ai y)]++C)).length;rw[List.length_append,hA];simp<;>omega) h2 ?_
      refine Aa (Al ?_)
      refine AJ rfl (by kernel_rfl) ?_
      exact AD () ⟨rfl,rfl,rfl,rfl,rfl,rfl,trivial⟩ [0,1] (by decide) rfl
    ·refine wP rfl (Aa (Al ?_))
     refine wX ?_
     refine RS.cons ?_ (RS.cons ?_ (RS.cons ?_ (RS.nil)))
     ·refine wP rfl (Aa (Al ?_))
      refine wX ?_
      refine RS.cons ?_ (RS.cons ?_ (RS.nil))
      ·refine wP rfl (Aa (Al ?_))
       refine wX ?_
       refine RS.cons ?_ (RS.nil)
       refine Ay 1 _ tH rfl rfl rfl rfl rfl rfl rfl rfl rfl rfl (by show 0+(m+1)*1+1≤(nS (s.take m)++([str (Ai y),str (Ai x)]++C)).length;rw[List.length_append,hA];simp<;>omega) h1 ?_
       refine Aa (Al ?_)
       refine wY ?_
       refine RS.cons ?_ (RS.nil)
       refine Ab 41 (.int .i64 (m:Nat)) rfl (congrArg (Value.int .i64) (show w64 (((m+1:Nat):Int)-1)=_ by rw[An (by omega) (by omega)];omega)) ?_;(first|refine wJ ?_|refine qJ ?_)
       refine Aa (Al ?_)
       refine wY ?_
       refine RS.cons ?_ (RS.nil)
       refine Ay 1 _ tH rfl rfl rfl rfl rfl rfl rfl rfl rfl rfl (by show 0+m*1+1≤(nS (s.take m)++([str (Ai y),str (Ai y)]++C)).length;rw[List.length_append,hA];simp<;>omega) h2 ?_
       refine Aa (Al ?_)
       refine AJ rfl (by kernel_rfl) ?_
       exact AD () ⟨rfl,rfl,rfl,rfl,rfl,rfl,trivial⟩ [0,1] (by decide) rfl
      ·refine Ay 1 _ tH rfl rfl rfl rfl rfl rfl rfl rfl rfl rfl (by show 0+(m+1)*1+1≤(nS (s.take m)++([str (Ai y),str (Ai x)]++C)).length;rw[List.length_append,hA];simp<;>omega) h1 ?_
       refine Aa (Al ?_)
       refine wY ?_
       refine RS.cons ?_ (RS.nil)
       refine wP rfl (Aa (Al ?_))
       refine wY ?_
       refine RS.cons ?_ (RS.nil)
       refine Ab 41 (.int .i64 (m:Nat)) rfl (congrArg (Value.int .i64) (show w64 (((m+1:Nat):Int)-1)=_ by rw[An (by omega) (by omega)];omega)) ?_;(first|refine wJ ?_|refine qJ ?_)
       refine Aa (Al ?_)
       refine wY ?_
       refine RS.cons ?_ (RS.nil)
       refine Ay 1 _ tH rfl rfl rfl rfl rfl rfl rfl rfl rfl rfl (by show 0+m*1+1≤(nS (s.take m)++([str (Ai y),str (Ai y)]++C)).length;rw[List.length_append,hA];simp<;>omega) h2 ?_
       refine Aa (Al ?_)
       refine AJ rfl (by kernel_rfl) ?_
       exact AD () ⟨rfl,rfl,rfl,rfl,rfl,rfl,trivial⟩ [0,1] (by decide) rfl
     ·refine wP rfl (Aa (Al ?_))
      refine wX ?_
      refine RS.cons ?_ (RS.cons ?_ (RS.nil))
      ·refine wP rfl (Aa (Al ?_))
       refine wX ?_
       refine RS.cons ?_ (RS.nil)
       refine Ay 1 _ tH rfl rfl rfl rfl rfl rfl rfl rfl rfl rfl (by show 0+(m+1)*1+1≤(nS (s.take m)++([str (Ai y),str (Ai x)]++C)).length;rw[List.length_append,hA];simp<;>omega) h1 ?_
       refine Aa (Al ?_)
       refine wY ?_
       refine RS.cons ?_ (RS.nil)
       refine Ab 41 (.int .i64 (m:Nat)) rfl (congrArg (Value.int .i64) (show w64 (((m+1:Nat):Int)-1)=_ by rw[An (by omega) (by omega)];omega)) ?_;(first|refine wJ ?_|refine qJ ?_)
       refine Aa (Al ?_)
       refine wY ?_
       refine RS.cons ?_ (RS.nil)
       refine Ay 1 _ tH rfl rfl rfl rfl rfl rfl rfl rfl rfl rfl (by show 0+m*1+1≤(nS (s.take m)++([str (Ai y),str (Ai y)]++C)).length;rw[List.length_append,hA];simp<;>omega) h2 ?_
       refine Aa (Al ?_)
       refine AJ rfl (by kernel_rfl) ?_
       exact AD () ⟨rfl,rfl,rfl,rfl,rfl,rfl,trivial⟩ [0,1] (by decide) rfl
      ·refine Ay 1 _ tH rfl rfl rfl rfl rfl rfl rfl rfl rfl rfl (by show 0+(m+1)*1+1≤(nS (s.take m)++([str (Ai y),str (Ai x)]++C)).length;rw[List.length_append,hA];simp<;>omega) h1 ?_
       refine Aa (Al ?_)
       refine wY ?_
       refine RS.cons ?_ (RS.nil)
       refine wP rfl (Aa (Al ?_))
       refine wY ?_
       refine RS.cons ?_ (RS.nil)
       refine Ab 41 (.int .i64 (m:Nat)) rfl (congrArg (Value.int .i64) (show w64 (((m+1:Nat):Int)-1)=_ by rw[An (by omega) (by omega)];omega)) ?_;(first|refine wJ ?_|refine qJ ?_)
       refine Aa (Al ?_)
       refine wY ?_
       refine RS.cons ?_ (RS.nil)
       refine Ay 1 _ tH rfl rfl rfl rfl rfl rfl rfl rfl rfl rfl (by show 0+m*1+1≤(nS (s.take m)++([str (Ai y),str (Ai y)]++C)).length;rw[List.length_append,hA];simp<;>omega) h2 ?_
       refine Aa (Al ?_)
       refine AJ rfl (by kernel_rfl) ?_
       exact AD () ⟨rfl,rfl,rfl,rfl,rfl,rfl,trivial⟩ [0,1] (by decide) rfl
     ·refine Ay 1 _ tH rfl rfl rfl rfl rfl rfl rfl rfl rfl rfl (by show 0+(m+1)*1+1≤(nS (s.take m)++([str (Ai y),str (Ai x)]++C)).length;rw[List.length_append,hA];simp<;>omega) h1 ?_
      refine Aa (Al ?_)
      refine wY ?_
      refine RS.cons ?_ (RS.cons ?_ (RS.nil))
      ·refine wP rfl (Aa (Al ?_))
       refine wY ?_
       refine RS.cons ?_ (RS.nil)
       refine wP rfl (Aa (Al ?_))
       refine wY ?_
       refine RS.cons ?_ (RS.nil)
       refine Ab 41 (.int .i64 (m:Nat)) rfl (congrArg (Value.int .i64) (show w64 (((m+1:Nat):Int)-1)=_ by rw[An (by omega) (by omega)];omega)) ?_;(first|refine wJ ?_|refine qJ ?_)
       refine Aa (Al ?_)
       refine wY ?_
       refine RS.cons ?_ (RS.nil)
       refine Ay 1 _ tH rfl rfl rfl rfl rfl rfl rfl rfl rfl rfl (by show 0+m*1+1≤(nS (s.take m)++([str (Ai y),str (Ai y)]++C)).length;rw[List.length_append,hA];simp<;>omega) h2 ?_
       refine Aa (Al ?_)
       refine AJ rfl (by kernel_rfl) ?_
       exact AD () ⟨rfl,rfl,rfl,rfl,rfl,rfl,trivial⟩ [0,1] (by decide) rfl
      ·refine wP rfl (Aa (Al ?_))
       refine wY ?_
       refine RS.cons ?_ (RS.nil)
       refine wP rfl (Aa (Al ?_))
       refine wY ?_
       refine RS.cons ?_ (RS.nil)
       refine Ab 41 (.int .i64 (m:Nat)) rfl (congrArg (Value.int .i64) (show w64 (((m+1:Nat):Int)-1)=_ by rw[An (by omega) (by omega)];omega)) ?_;(first|refine wJ ?_|refine qJ ?_)
       refine Aa (Al ?_)
       refine wY ?_
       refine RS.cons ?_ (RS.nil)
       refine Ay 1 _ tH rfl rfl rfl rfl rfl rfl rfl rfl rfl rfl (by show 0+m*1+1≤(nS (s.take m)++([str (Ai y),str (Ai y)]++C)).length;rw[List.length_append,hA];simp<;>omega) h2 ?_
       refine Aa (Al ?_)
       refine AJ rfl (by kernel_rfl) ?_
       exact AD () ⟨rfl,rfl,rfl,rfl,rfl,rfl,trivial⟩ [0,1] (by decide) rfl
    ·refine Ay 1 _ tH rfl rfl rfl rfl rfl rfl rfl rfl rfl rfl (by show 0+(m+1)*1+1≤(nS (s.take m)++([str (Ai y),str (Ai x)]++C)).length;rw[List.length_append,hA];simp<;>omega) h1 ?_
     refine Aa (Al ?_)
     refine wY ?_
     refine RS.cons ?_ (RS.cons ?_ (RS.nil))
     ·refine wP rfl (Aa (Al ?_))
      refine wY ?_
      refine RS.cons ?_ (RS.nil)
      refine wP rfl (Aa (Al ?_))
      refine wY ?_
      refine RS.cons ?_ (RS.nil)
      refine wP rfl (Aa (Al ?_))
      refine wY ?_
      refine RS.cons ?_ (RS.nil)
      refine Ab 41 (.int .i64 (m:Nat)) rfl (congrArg (Value.int .i64) (show w64 (((m+1:Nat):Int)-1)=_ by rw[An (by omega) (by omega)];omega)) ?_;(first|refine wJ ?_|refine qJ ?_)
      refine Aa (Al ?_)
      refine wY ?_
      refine RS.cons ?_ (RS.nil)
      refine Ay 1 _ tH rfl rfl rfl rfl rfl rfl rfl rfl rfl rfl (by show 0+m*1+1≤(nS (s.take m)++([str (Ai y),str (Ai y)]++C)).length;rw[List.length_append,hA];simp<;>omega) h2 ?_
      refine Aa (Al ?_)
      refine AJ rfl (by kernel_rfl) ?_
      exact AD () ⟨rfl,rfl,rfl,rfl,rfl,rfl,trivial⟩ [0,1] (by decide) rfl
     ·refine wP rfl (Aa (Al ?_))
      refine wY ?_
      refine RS.cons ?_ (RS.cons ?_ (RS.nil))
      ·refine wP rfl (Aa (Al ?_))
       refine wY ?_
       refine RS.cons ?_ (RS.nil)
       refine wP rfl (Aa (Al ?_))
       refine wY ?_
       refine RS.cons ?_ (RS.nil)
       refine Ab 41 (.int .i64 (m:Nat)) rfl (congrArg (Value.int .i64) (show w64 (((m+1:Nat):Int)-1)=_ by rw[An (by omega) (by omega)];omega)) ?_;(first|refine wJ ?_|refine qJ ?_)
       refine Aa (Al ?_)
       refine wY ?_
       refine RS.cons ?_ (RS.nil)
       refine Ay 1 _ tH rfl rfl rfl rfl rfl rfl rfl rfl rfl rfl (by show 0+m*1+1≤(nS (s.take m)++([str (Ai y),str (Ai y)]++C)).length;rw[List.length_append,hA];simp<;>omega) h2 ?_
       refine Aa (Al ?_)
       refine AJ rfl (by kernel_rfl) ?_
       exact AD () ⟨rfl,rfl,rfl,rfl,rfl,rfl,trivial⟩ [0,1] (by decide) rfl
      ·refine wP rfl (Aa (Al ?_))
       refine wY ?_
       refine RS.cons ?_ (RS.nil)
       refine wP rfl (Aa (Al ?_))
       refine wY ?_
       refine RS.cons ?_ (RS.nil)
       refine Ab 41 (.int .i64 (m:Nat)) rfl (congrArg (Value.int .i64) (show w64 (((m+1:Nat):Int)-1)=_ by rw[An (by omega) (by omega)];omega)) ?_;(first|refine wJ ?_|refine qJ ?_)
       refine Aa (Al ?_)
       refine wY ?_
       refine RS.cons ?_ (RS.nil)
       refine Ay 1 _ tH rfl rfl rfl rfl rfl rfl rfl rfl rfl rfl (by show 0+m*1+1≤(nS (s.take m)++([str (Ai y),str (Ai y)]++C)).length;rw[List.length_append,hA];simp<;>omega) h2 ?_
       refine Aa (Al ?_)
       refine AJ rfl (by kernel_rfl) ?_
       exact AD () ⟨rfl,rfl,rfl,rfl,rfl,rfl,trivial⟩ [0,1] (by decide) rfl
   intro _
   refine zN (zE (zB (wP rfl (wP rfl ?_))))
   refine Ab 36 (.int .i64 (m:Nat)) rfl (congrArg (Value.int .i64) (show w64 (((m+1:Nat):Int)-1)=_ by rw[An (by omega) (by omega)];omega)) ?_
   refine wP rfl (Aa ?_)
   refine As m ⟨by show m≤s.length;omega,fun z hz=> ?_⟩ (by show m<m+1;omega) ⟨rfl,rfl,rfl,rfl,rfl,rfl,trivial⟩ [] (by rw[←row2];rfl)
   rw[e2] at hz
   rcases List.mem_cons.1 hz with rfl|hz
   ·exact hc
   ·exact hgt z hz
 refine key.mono ?_
 rintro e W' ⟨x,he,_,hb,hn'⟩
 exact⟨x,he,trivial,El hg rfl hb hn'⟩
theorem R0 (cf:Nat) (hcf:Qo cf) (W:World) (g cap:Nat) (l:List Rat) (junk:List Value) (z:Int) (hn:l.length≤12) (hg:W.heap[g]? =some (.cells (nS l++junk).toArray 37 (0,0)))
  (hf: ∀W',Hq W W' g→BJ W'∧AV W') (hz: ∀p∈l, ∀q∈l,Sz2 p q):
  Calls Tryz.prog 197 #[.slice (some ⟨g,0,none⟩) l.length cap, .int .i64 0, .int .i64 (l.length:Nat), .int .i64 z, .func (.func cf) #[] #[]] W fun e W'=> ∃x:Unit,e= .returned ((fun _=> .tuple #[]) x)∧True∧HE W W' g ((fun _=>g) x) ((fun _=> .cells (nS (B9 l)++junk).toArray 37 (0,0)) x):=by
 have key:Calls Tryz.prog 197 [.slice (some ⟨g,0,none⟩) l.length cap, .int .i64 0, .int .i64 (l.length:Nat), .int .i64 z, .func (.func cf) #[] #[]].toArray W fun e W'=> ∃x:Unit,e= .returned ((fun _=> .tuple #[]) x)∧(fun _=>True) x∧Below (AZ W).heap.size (AZ W) W'∧Ae (AZ W) W' ((fun _=>[AU (A3 W g),Ec g (B9 l) junk]) x):=by
  refine BM (X:=Unit) (val:=fun _=> .tuple #[]) (Φ:=fun _=>True) (nb:=fun _=>[AU (A3 W g),Ec g (B9 l) junk]) (Hp.enterT (B:=Ec g l junk) rfl hg) Tryz.func197 rfl rfl rfl ?_
  refine zA (zB (wP rfl (Aa (zE (zA (zB (wP rfl (Aa (zE (zH ?_))))))))))
  refine Av (X:=Unit) (fun _=>[(0, .slice (some ⟨g,0,none⟩) l.length cap),(1, .int .i64 0),(2, .int .i64 (l.length:Nat)),(3, .int .i64 z),(4, .func (.func cf) #[] #[])]) (fun _=>[AU (A3 W g),Ec g l junk]) (fun _=>True) (fun _=>0) () trivial ⟨rfl,rfl,rfl,rfl,rfl,trivial⟩ [] rfl ?_
  intro _ _
  refine zH (zA (zB (wP rfl (wP rfl (wP rfl ?_)))))
  refine Ab 23 (.int .i64 (l.length:Nat)) rfl (congrArg (Value.int .i64) (show w64 ((l.length:Nat)-0)=_ by rw[An (by omega) (by omega)];omega)) ?_
  refine wP rfl (Aa (zE (zA (zA (zB (wP rfl (wP rfl ?_)))))))
  refine Ab 25 (.bool true) rfl (congrArg Value.bool (decide_eq_true (by omega))) ?_
  refine Aa (zE (zR rfl (zA (zB (wP rfl (wP rfl (wP rfl (wP rfl ?_))))))))
  refine CE (X:=Unit) (val:=fun _=> .tuple #[]) (Φ:=fun _=>True) (capt:=[]) 1 (B:=Ec g l junk) (L1:=[]) (L2:=[]) (b:=g) (ob:= .cells (nS l++junk).toArray 37 (0,0)) (fun _=>Ec g (B9 l) junk) (g':=fun _=>g) (o':=fun _=> .cells (nS (B9 l)++junk).toArray 37 (0,0))
   rfl rfl rfl rfl rfl rfl (by kernel_rfl) rfl rfl (fun _ _=>rfl) (fun W1 hp=>Rt cf hcf W1 g cap l junk (by omega) (hp.own.cell 1 _ rfl (g, .cells (nS l++junk).toArray 37 (0,0)) (List.mem_cons_self ..)).1 (fun W2 hk=>hf W2 ((Gm hg ⟨_,List.mem_cons_self ..⟩ hp).trans hk)) hz) (fun _ _=> ?_)
  refine Aa (zE (zO (zP (zQ (zP (zQ ?_))))))
  refine K9 (X:=Unit) (val:=fun _=> .tuple #[]) (Φ:=fun _=>True) (nb:=fun _=>[AU (A3 W g),Ec g (B9 l) junk]) (fn:=Tryz.f197) tH rfl () rfl trivial fun W1 hp=> ?_
  exact(hp.pick (l:=[AU (A3 W g),Ec g (B9 l) junk]) [0,1] (by decide) rfl).own
 refine key.mono ?_
 rintro e W' ⟨x,he,_,hb,hn'⟩
 exact⟨x,he,trivial,El hg rfl hb hn'⟩
theorem QE (cf:Nat) (W:World) (p:Option Addr) (cap:Nat):Aj Tryz.prog 254 #[.slice p 0 cap, .int .i64 0, .int .i64 ((0:Nat):Int), .func (.func cf) #[] #[]] W (fun _:Unit=> .tuple #[]) (fun _=>True) (fun _=>[]):=by
 refine Ad (args:=[.slice p 0 cap, .int .i64 0, .int .i64 ((0:Nat):Int), .func (.func cf) #[] #[]]) Tryz.func254 rfl rfl rfl ?_
 refine zA (zB (wP rfl (wP rfl (wP rfl (Aa (zE (zH ?_)))))))
 refine Av (X:=Unit) (fun _=>[(0, .slice p 0 cap),(1, .int .i64 0),(2, .int .i64 ((0:Nat):Int)),(3, .func (.func cf) #[] #[]),(8, .int .i64 1)]) (fun _=>[]) (fun _=>True) (fun _=>0) () trivial ⟨rfl,rfl,rfl,rfl,rfl,trivial⟩ [] rfl ?_
 intro _ _
 refine zA (zA (zB (wP rfl (wP rfl (wP rfl ?_)))))
 refine Ab 14 (.bool false) rfl rfl ?_
 refine Aa (zE (zS rfl (zJ (zK (zK (zL ?_))))))
 exact Fy (X:=Unit) (val:=fun _=> .tuple #[]) (Φ:=fun _=>True) (nb:=fun _=>[]) (fn:=Tryz.f254) tH rfl () rfl trivial fun W _=>Ae.nil _ _
theorem Q3 (cf:Nat) (W:World) (p:Option Addr) (cap:Nat) (z:Int):Aj Tryz.prog 197 #[.slice p 0 cap, .int .i64 0, .int .i64 ((0:Nat):Int), .int .i64 z, .func (.func cf) #[] #[]] W (fun _:Unit=> .tuple #[]) (fun _=>True) (fun _=>[]):=by
 refine Ad (args:=[.slice p 0 cap, .int .i64 0, .int .i64 ((0:Nat):Int), .int .i64 z, .func (.func cf) #[] #[]]) Tryz.func197 rfl rfl rfl ?_
 refine zA (zB (wP rfl (Aa (zE (zA (zB (wP rfl (Aa (zE (zH ?_))))))))))
 refine Av (X:=Unit) (fun _=>[(0, .slice p 0 cap),(1, .int .i64 0),(2, .int .i64 ((0:Nat):Int)),(3, .int .i64 z),(4, .func (.func cf) #[] #[])]) (fun _=>[]) (fun _=>True) (fun _=>0) () trivial ⟨rfl,rfl,rfl,rfl,rfl,trivial⟩ [] rfl ?_
 intro _ _
 refine zH (zA (zB (wP rfl (wP rfl (wP rfl ?_)))))
 refine Ab 23 (.int .i64 ((0:Nat):Int)) rfl rfl ?_
 refine wP rfl (Aa (zE (zA (zA (zB (wP rfl (wP rfl ?_)))))))
 refine Ab 25 (.bool true) rfl rfl ?_
 refine Aa (zE (zR rfl (zA (zB (wP rfl (wP rfl (wP rfl (wP rfl ?_))))))))
 refine Ac (capt:=[]) rfl rfl rfl rfl rfl rfl (by kernel_rfl) (fun W _=>QE cf W p cap) ?_
 refine Aa (zE (zO (zP (zQ (zP (zQ ?_))))))
 exact K9 (X:=Unit) (val:=fun _=> .tuple #[]) (Φ:=fun _=>True) (nb:=fun _=>[]) (fn:=Tryz.f197) tH rfl () rfl trivial fun W _=>Ae.nil _ _
theorem E2 (x:Nat) (h:x≤18446744073709551615) (W:World):Aj Tryz.prog 161 #[.int .u64 (x:Nat)] W (fun _:Unit=> .int .i64 (Lib.bitLen x)) (fun _=>True) (fun _=>[]):=by
 refine Aj.of1 ((Go.Proofs.Any.bits_Len (P:=Tryz.prog) (ρ:=Tryz.lays125_ren) Tryz.lays125 (x:Int) W (by omega) (by omega)).mono ?_)
 rintro e w' ⟨rfl,rfl⟩
 exact⟨rfl,Below.refl _ _⟩
theorem R5 {n:Nat} (h:n≤12):IntKind.u64.wrap (n:Nat)=(n:Int):=by
 simp only[IntKind.wrap,IntKind.signed,IntKind.bits]
 simp
 omega
theorem OC (cf:Nat) (hcf:Qo cf) (W:World) (g cap:Nat) (l:List Rat) (junk:List Value) (hn:l.length≤12) (hg:W.heap[g]? =some (.cells (nS l++junk).toArray 37 (0,0)))
  (hf: ∀W',Hq W W' g→BJ W'∧AV W') (hz: ∀p∈l, ∀q∈l,Sz2 p q):
  Calls Tryz.prog 127 #[.slice (some ⟨g,0,none⟩) l.length cap, .func (.func cf) #[] #[]] W fun e W'=> ∃x:Unit,e= .returned ((fun _=> .tuple #[]) x)∧True∧HE W W' g ((fun _=>g) x) ((fun _=> .cells (nS (B9 l)++junk).toArray 37 (0,0)) x):=by
 have key:Calls Tryz.prog 127 [.slice (some ⟨g,0,none⟩) l.length cap, .func (.func cf) #[] #[]].toArray W fun e W'=> ∃x:Unit,e= .returned ((fun _=> .tuple #[]) x)∧(fun _=>True) x∧Below (AZ W).heap.size (AZ W) W'∧Ae (AZ W) W' ((fun _=>[AU (A3 W g),Ec g (B9 l) junk]) x):=by
  refine BM (X:=Unit) (val:=fun _=> .tuple #[]) (Φ:=fun _=>True) (nb:=fun _=>[AU (A3 W g),Ec g (B9 l) junk]) (Hp.enterT (B:=Ec g l junk) rfl hg) Tryz.func127 rfl rfl rfl ?_
  refine zA (zB (wP rfl (wP rfl (wP rfl (Aa (zE (zB (wP rfl (wP rfl (wP rfl ?_))))))))))
  refine EM (k:= .u64) (kt:= .i64) (by kernel_rfl) (by kernel_rfl) rfl rfl rfl rfl ?_
  refine Ab 10 (.int .u64 (l.length:Nat)) rfl (congrArg (Value.int .u64) (R5 hn)) ?_
  refine Ac (capt:=[]) rfl rfl rfl rfl rfl rfl (by kernel_rfl) (fun W _=>E2 l.length (by omega) W) ?_
  refine wP rfl ?_
  refine CE (X:=Unit) (val:=fun _=> .tuple #[]) (Φ:=fun _=>True) (capt:=[]) 1 (B:=Ec g l junk) (L1:=[]) (L2:=[]) (b:=g) (ob:= .cells (nS l++junk).toArray 37 (0,0)) (fun _=>Ec g (B9 l) junk) (g':=fun _=>g) (o':=fun _=> .cells (nS (B9 l)++junk).toArray 37 (0,0))
   rfl rfl rfl rfl rfl rfl (by kernel_rfl) rfl rfl (fun _ _=>rfl) (fun W1 hp=>R0 cf hcf W1 g cap l junk _ hn (hp.own.cell 1 _ rfl (g, .cells (nS l++junk).toArray 37 (0,0)) (List.mem_cons_self ..)).1 (fun W2 hk=>hf W2 ((Gm hg ⟨_,List.mem_cons_self ..⟩ hp).trans hk)) hz) (fun _ _=> ?_)
  refine Aa ?_
  refine Fy (X:=Unit) (val:=fun _=> .tuple #[]) (Φ:=fun _=>True) (nb:=fun _=>[AU (A3 W g),Ec g (B9 l) junk]) (fn:=Tryz.f127) tH rfl () rfl trivial fun W1 hp=> ?_
  exact(hp.pick (l:=[AU (A3 W g),Ec g (B9 l) junk]) [0,1] (by decide) rfl).own
 refine key.mono ?_
 rintro e W' ⟨x,he,_,hb,hn'⟩
 exact⟨x,he,trivial,El hg rfl hb hn'⟩
-- BOXES 3
abbrev cs (l:List (List UInt8)):List Value:=l.map Go.Proofs.encStr
theorem Rr {l:List (List UInt8)} {j:Nat} (h:j<l.length) (junk:List Value):(cs l++junk)[j]? =some (Go.Proofs.encStr l.toArray[j]!):=by
 rw[List.getElem?_append_left (by simpa using h),List.getElem?_map,List.getElem?_eq_getElem h,getElem!_pos l.toArray j (by simpa using h)];simp
theorem TR {W:World} {g:Nat} {zs:List (List UInt8)} {junk:List Value} {ty:TypeId} (h:W.heap[g]? =some (.cells (cs zs++junk).toArray ty (0,0))):Sort.Holds Go.Proofs.encStr W g 0 zs.toArray:=fun j hj=>by
 have hj':j<zs.length:=by simpa using hj
 have h1:=Rr hj' junk
 constructor
 ·simp only[World.cell?,h,Nat.zero_add]
  rw[List.getElem?_toArray];exact h1
 ·simp[World.frozen?,h]
theorem P8 {zs zs':List (List UInt8)} (hl:zs'.length=zs.length) (junk:List Value):Sort.putCells Go.Proofs.encStr 0 zs'.toArray (cs zs++junk).toArray=(cs zs'++junk).toArray:=by
 apply Array.ext_getElem?
 intro k
 simp only[Sort.putCells,Array.getElem?_mapIdx,List.getElem?_toArray,List.size_toArray,Nat.zero_add,Nat.sub_zero,Nat.zero_le,true_and]
 by_cases hk:k<zs.length
 ·rw[Rr hk,Rr (show k<zs'.length by omega),Option.map_some,if_pos (by omega)]
 ·rw[List.getElem?_append_right (by simp;omega),List.getElem?_append_right (by simp;omega)]
  simp only[List.length_map,hl]
  cases junk[k-zs.length]? with
  |none=>rfl
  |some y=>rw[Option.map_some,if_neg (by omega)]
theorem Qv {W:World} {g:Nat} {zs zs':List (List UInt8)} {junk:List Value} {ty:TypeId} (h:W.heap[g]? =some (.cells (cs zs++junk).toArray ty (0,0))) (hl:zs'.length=zs.length) (n:Nat):
  HE W (Sort.putRow Go.Proofs.encStr (Sort.ahead W n) g 0 zs'.toArray) g g (.cells (cs zs'++junk).toArray ty (0,0)):=by
 have hlt:g<W.heap.size:=(Array.getElem?_eq_some_iff.1 h).1
 have hs: ∀x,x<W.heap.size→(Sort.putRow Go.Proofs.encStr (Sort.ahead W n) g 0 zs'.toArray).heap[x]? =(W.heap.modify g (Sort.onCells (Sort.putCells Go.Proofs.encStr 0 zs'.toArray)))[x]? :=fun x hx=>rfl
 refine⟨rfl,rfl,rfl, ?_, ?_, .inl rfl,fun x hx hlt'=> ?_⟩
 ·show W.heap.size≤(W.heap.modify g _).size
  simp
 ·rw[hs g hlt,Array.getElem?_modify,if_pos rfl,h,Option.map_some]
  show some (Obj.cells (Sort.putCells _ _ _ _) _ _)=_
  rw[P8 hl]
 ·rw[hs x hlt',Array.getElem?_modify,if_neg (fun e=>hx e.symm)]
theorem Js (l:List Rat):(Be l).length≤l.length:=by
 fun_induction Be l with
 |case1=>exact Nat.le_refl _
 |case2 x=>exact Nat.le_refl _
 |case3 x l ih=>simp only[List.length_cons] at ih⊢;omega
 |case4 x y l h ih=>simp only[List.length_cons] at ih⊢;omega
theorem Wh (l:List Rat):cs (l.map Ai)=nS l:=by simp[nS,cs]
abbrev LJ (l:List Rat) (junk:List Value):List Value:=cs (List.replicate (l.length-(Be l).length) [])++junk
theorem OM {W:World} {g cap:Nat} {l:List Rat} {junk:List Value} {ty:TypeId} (h:W.heap[g]? =some (.cells (nS l++junk).toArray ty (0,0))) (hn:l.length≤9223372036854775807) (hcap:l.length≤cap):
  Calls Tryz.prog 129 #[.slice (some ⟨g,0,none⟩) l.length cap] W fun e W'=> ∃x:Unit,e= .returned ((fun _=> .slice (some ⟨g,0,none⟩) (Be l).length cap) x)∧True∧
   HE W W' g ((fun _=>g) x) ((fun _=> .cells (nS (Be l)++LJ l junk).toArray ty (0,0)) x):=by
 have hl:=Js l
 rw[←Wh] at h
 have h1:=Go.Proofs.AnyG.slices_Compact_string (P:=Tryz.prog) (ρ:=Tryz.laysN44_ren) Tryz.laysN44 g 0 cap (l.map Ai) W (TR h) (by rw[List.length_map];exact hn) (by rw[List.length_map];exact hcap)
 rw[O4,List.length_map,List.length_map] at h1
 refine h1.mono ?_
 rintro e W' ⟨rfl,n,rfl⟩
 refine⟨(),rfl,trivial, ?_⟩
 have h2:=Qv (zs':=(Be l).map Ai++List.replicate (l.length-(Be l).length) []) h (by rw[List.length_append,List.length_replicate,List.length_map,List.length_map];omega) n
 have e:cs ((Be l).map Ai++List.replicate (l.length-(Be l).length) [])++junk=nS (Be l)++LJ l junk:=by
  rw[←Wh, ←List.append_assoc];congr 1;exact List.map_append
 rw[e] at h2
 exact h2
theorem Py (cf:Nat) (W:World) (p:Option Addr) (cap:Nat):Aj Tryz.prog 127 #[.slice p 0 cap, .func (.func cf) #[] #[]] W (fun _:Unit=> .tuple #[]) (fun _=>True) (fun _=>[]):=by
 refine Ad (args:=[.slice p 0 cap, .func (.func cf) #[] #[]]) Tryz.func127 rfl rfl rfl ?_
 refine zA (zB (wP rfl (wP rfl (wP rfl (Aa (zE (zB (wP rfl (wP rfl (wP rfl ?_))))))))))
 refine EM (k:= .u64) (kt:= .i64) (by kernel_rfl) (by kernel_rfl) rfl rfl rfl rfl ?_
 refine Ab 10 (.int .u64 ((0:Nat):Int)) rfl rfl ?_
 refine Ac (capt:=[]) rfl rfl rfl rfl rfl rfl (by kernel_rfl) (fun W _=>E2 0 (by omega) W) ?_
 refine wP rfl ?_
 refine Ac (capt:=[]) rfl rfl rfl rfl rfl rfl (by kernel_rfl) (fun W _=>Q3 cf W p cap _) ?_
 refine Aa ?_
 exact Fy (X:=Unit) (val:=fun _=> .tuple #[]) (Φ:=fun _=>True) (nb:=fun _=>[]) (fn:=Tryz.f127) tH rfl () rfl trivial fun W _=>Ae.nil _ _
theorem Qg (W:World) (p:Option Addr) (cap:Nat):Aj Tryz.prog 129 #[.slice p 0 cap] W (fun _:Unit=> .slice p 0 cap) (fun _=>True) (fun _=>[]):=by
 refine Ad (args:=[.slice p 0 cap]) Tryz.func129 rfl rfl rfl ?_
 refine zA (zB (wP rfl (Aa (zE (zA (zA (zB (wP rfl (wP rfl (wP rfl (Aa (zE (zR rfl ?_)))))))))))))
 refine zA (zB (wP rfl (wP rfl (Aa (zE (zO (zP ?_)))))))
 exact Af tH rfl (.tmp rfl) () rfl trivial fun W _=>Ae.nil _ _
theorem IJ {α:Type} {l:List α} {k:Nat} {x:α} (h:l[k]? =some x):l.set k x=l:=by
 obtain⟨h1,rfl⟩:=List.getElem?_eq_some_iff.1 h
 exact List.set_getElem_self h1
section
variable {r:Option Nat} {n:Nat} {W0:World} {N:Nat} {D:List Deferred} {ops:List Oper} {Q:Exit→Act→World→Prop} {o:Oper} {rest:List Oper} {env:Env} {bxs:List Bx}
theorem U0 (k:Nat) (cf:Nat) (hcf:Qo cf) (hv0:BJ W0) (ht0:AV W0) {c:Call} {f:Operand} {d:Nat} {V:Vec} {l:List Rat} {len:Nat}
  (hg:AB ops N env o=some true) (hd:o.dst=some d) (ho:o.op= .call c) (hc:c.callee= .value f) (hf:evO N env f=some (.func (.func 127) #[] #[])) (ha:Cx (evO N env) c.args.toList=some [V.val len, .func (.func cf) #[] #[]])
  (hk:nth bxs k=some (V.bx 37 (nS l))) (hlen:len=l.length) (hV:V.OK 1 len (nS l)) (hn:l.length≤12) (hz: ∀p∈l, ∀q∈l,Sz2 p q)
  (h:WL r n Tryz.prog N D ops Q rest ((d, .tuple #[])::env) (Hp W0 (bxs.set k (V.bx 37 (nS (B9 l)))))):WL r n Tryz.prog N D ops Q (o::rest) env (Hp W0 bxs):=by
 subst hlen
 obtain⟨p,cap,junk⟩:=V
 cases p with
 |none=>
  have hz0:=hV.nil rfl
  have e:bxs.set k ((⟨none,cap,junk⟩:Vec).bx 37 (nS (B9 l)))=bxs:=by
   have h1:bxs[k]? =some ((⟨none,cap,junk⟩:Vec).bx 37 (nS l)):=by rw[←AW];exact hk
   exact IJ h1
  rw[e] at h
  refine Ac (capt:=[]) hg hd ho hc hf ha (by kernel_rfl) (fun W _=> ?_) h
  exact Py cf W none 0
 |some g=>
  have hk':bxs[k]? =some (Ec g l junk):=by rw[←AW];exact hk
  refine CE (X:=Unit) (val:=fun _=> .tuple #[]) (Φ:=fun _=>True) (capt:=[]) k (B:=Ec g l junk) (L1:=[]) (L2:=[]) (b:=g) (ob:= .cells (nS l++junk).toArray 37 (0,0)) (fun _=>Ec g (B9 l) junk) (g':=fun _=>g) (o':=fun _=> .cells (nS (B9 l)++junk).toArray 37 (0,0))
   hg hd ho hc hf ha (by kernel_rfl) hk rfl (fun _ _=>rfl) (fun W hp=> ?_) (fun _ _=>h)
  have hcell:=hp.own.cell k _ hk' (g, .cells (nS l++junk).toArray 37 (0,0)) (List.mem_cons_self ..)
  exact OC cf hcf W g cap l junk hn hcell.1 (fun W' hK=>⟨hv0.below (hK.below hp.below hcell.2),ht0.below (hK.below hp.below hcell.2)⟩) hz
theorem T3 (k:Nat) {c:Call} {f:Operand} {d:Nat} {V:Vec} {l:List Rat} {len:Nat}
  (hg:AB ops N env o=some true) (hd:o.dst=some d) (ho:o.op= .call c) (hc:c.callee= .value f) (hf:evO N env f=some (.func (.func 129) #[] #[])) (ha:Cx (evO N env) c.args.toList=some [V.val len])
  (hk:nth bxs k=some (V.bx 37 (nS l))) (hlen:len=l.length) (hV:V.OK 1 len (nS l)) (hn:l.length≤9223372036854775807)
  (h: ∀V':Vec,V'.OK 1 (Be l).length (nS (Be l))→WL r n Tryz.prog N D ops Q rest ((d,V'.val (Be l).length)::env) (Hp W0 (bxs.set k (V'.bx 37 (nS (Be l)))))):WL r n Tryz.prog N D ops Q (o::rest) env (Hp W0 bxs):=by
 subst hlen
 have hl:=Js l
 obtain⟨p,cap,junk⟩:=V
 cases p with
 |none=>
  have hz0:=hV.nil rfl
  have hl0:l=[]:=List.length_eq_zero_iff.1 hz0
  subst hl0
  have h:=h ⟨none,cap,junk⟩ ⟨by rw[Jo];rfl,fun _=>by rw[Jo];rfl,fun h=>absurd rfl h⟩
  have e:bxs.set k ((⟨none,cap,junk⟩:Vec).bx 37 (nS (Be [])))=bxs:=by
   have h1:bxs[k]? =some ((⟨none,cap,junk⟩:Vec).bx 37 (nS [])):=by rw[←AW];exact hk
   exact IJ h1
  rw[e] at h
  refine Ac (capt:=[]) hg hd ho hc hf ha (by kernel_rfl) (fun W _=> ?_) h
  exact Qg W none 0
 |some g=>
  obtain⟨c1,c2,c3⟩:=hV.cap (by simp)
  have c1:l.length≤cap:=c1
  have c2:cap≤maxLen:=c2
  have hk':bxs[k]? =some (Ec g l junk):=by rw[←AW];exact hk
  have h:=h ⟨some g,cap,LJ l junk⟩ ⟨by simp[nS],fun h=>by simp at h,fun _=>⟨by show(Be l).length≤cap;omega,c2,by
   show(nS (Be l)).length+(LJ l junk).length=cap*1
   simp only[nS,LJ,cs,List.length_append,List.length_map,List.length_replicate] at c3⊢
   have c3:l.length+junk.length=cap*1:=c3
   omega⟩⟩
  refine CE (X:=Unit) (val:=fun _=> .slice (some ⟨g,0,none⟩) (Be l).length cap) (Φ:=fun _=>True) (capt:=[]) k (B:=Ec g l junk) (L1:=[]) (L2:=[]) (b:=g) (ob:= .cells (nS l++junk).toArray 37 (0,0)) (fun _=>⟨g,37,nS (Be l)++LJ l junk,true,none⟩) (g':=fun _=>g) (o':=fun _=> .cells (nS (Be l)++LJ l junk).toArray 37 (0,0))
   hg hd ho hc hf ha (by kernel_rfl) hk rfl (fun _ _=>rfl) (fun W hp=> ?_) (fun _ _=>h)
  exact OM (hp.own.cell k _ hk' (g, .cells (nS l++junk).toArray 37 (0,0)) (List.mem_cons_self ..)).1 hn c1
end
-- BOXES 6
theorem Xe:Qo 128:=⟨by kernel_rfl,fun p q W h hv ht=>Cu p q h W hv ht⟩
def fl (f g:FrP) (k:Nat):List Rat:=((AY f g).take k).filter (HF f g)
theorem Qw (f g:FrP) (k:Nat):(fl f g k).length≤5:=by
 have h1:=List.length_filter_le (HF f g) ((AY f g).take k)
 have h2:=Sp f g
 rw[List.length_take] at h1
 unfold fl;omega
theorem UU (f g:FrP) {k:Nat} (hk:k<(AY f g).length):fl f g (k+1)=if HF f g ((AY f g).getD k 0)=true then fl f g k++[(AY f g).getD k 0] else fl f g k:=by
 have e:(AY f g).getD k 0=(AY f g)[k]:=by rw[List.getD_eq_getElem?_getD,List.getElem?_eq_getElem hk];rfl
 rw[e,fl,List.take_add_one,List.getElem?_eq_getElem hk,List.filter_append]
 show _++List.filter _ [_]=_
 rw[List.filter_cons,List.filter_nil]
 split
 ·rfl
 ·rw[List.append_nil];rfl
theorem Uf {f g:FrP} {k:Nat} {t:Rat} (h:t∈fl f g k):t∈AY f g:=List.mem_of_mem_take (List.mem_filter.1 h).1
theorem ND (f g:FrP) (hf:f.OK) (hg:g.OK) (hax:f.ax=g.ax) (hz:Un f g) (hs: ∀p∈AY f g, ∀q∈AY f g,Sz2 p q)
  (a b k:Nat) (ha:szQ f.sp a) (hb:szQ f.st b) (ha':szQ g.sp a) (hb':szQ g.st b) (hk: ∀t∈AY f g,szQ t k) (hk1:a+b+k+9≤300) (hk2:k+36+1≤300) (W:World) (hv:BJ W) (ht:AV W):
  Aj Tryz.prog 52 #[frV f,frV g] W (fun V:Vec=> .tuple #[V.val (eqL f g).length, .int .i64 0]) (fun V=>V.OK 1 (eqL f g).length (nS (eqL f g))) (fun V=>[V.bx 37 (nS (eqL f g))]):=by
 refine Ad (args:=[frV f,frV g]) Tryz.func52 rfl rfl rfl ?_
 refine zA (zB ?_)
 (refine A8 rfl rfl rfl rfl ?_;intro)
 (refine A8 rfl rfl rfl rfl ?_;intro)
 refine wP rfl (wP rfl (Aa ?_))
 rename_i b2 b3
 refine zE (zA (zA (zB (wB 0 rfl rfl rfl ?_))))
 refine Ac rfl rfl rfl rfl rfl rfl (by kernel_rfl) (fun W hp=>Gr f hf W (hv.hp hp) (ht.hp hp)) ?_
 refine wP rfl (wP rfl (wB 1 rfl rfl rfl ?_))
 refine Ac rfl rfl rfl rfl rfl rfl (by kernel_rfl) (fun W hp=>Gr g hg W (hv.hp hp) (ht.hp hp)) ?_
 refine wP rfl (wP rfl (Aa (zE (zS rfl (zI (zE (zA (zA (zB (wP rfl (wB 0 rfl rfl rfl (wP rfl (wB 1 rfl rfl rfl ?_)))))))))))))
 refine DZ Tryz.underlying4 rfl rfl rfl rfl rfl rfl ?_
 refine Ab 24 (.bool false) rfl (congrArg Value.bool (by rw[hax];simp)) ?_
 refine Aa (zE (zS rfl (zI (zE (zA (zB ?_))))))
 (refine Ao Tryz.hZ rfl rfl rfl rfl ?_;intro)
 refine Aa ?_
 rename_i b6
 refine zE (zA (zA (zB (wB 0 rfl rfl rfl (wB 1 rfl rfl rfl ?_)))))
 refine Au (X:=Nat×Nat) rfl rfl rfl rfl rfl rfl (by kernel_rfl) (fun W _=>L0 f g W) ?_
 rintro⟨c1,c2⟩ _
 refine Ed ?_
 refine Aa (zE (zH ?_))
 refine MN (X:=Nat×Vec) (fun x=>[frB b2 f,frB b3 g,⟨b6,50,[x.2.val (fl f g x.1).length],true,none⟩,frB c1 f,frB c2 g,x.2.bx 37 (nS (fl f g x.1))])
  (fun j x=>x.1=j∧x.2.OK 1 (fl f g x.1).length (nS (fl f g x.1))) (fun _ _=>False) (0,Vec.empty) rfl (by kernel_rfl) (S3 f g hf hg hz c1 c2) (fun _=>rfl)
  ⟨rfl,Vec.OK.empty 1⟩ [] rfl (fun k x W _ hp=>⟨Ag.of_bx hp 3 rfl rfl,Ag.of_bx hp 4 rfl rfl,hv.hp hp,ht.hp hp⟩) ?_ ?_ (fun _ _ _ _ _ h=>h.elim)
 ·rintro j' ⟨j,V⟩ d L rec hj ⟨e1,hV⟩ hrec
  obtain rfl:j=j':=e1
  have hV:V.OK 1 (fl f g j).length (nS (fl f g j)):=hV
  have hn:=Qw f g (j+1)
  have hfl:=UU f g hj
  have htm:(AY f g).getD j 0∈AY f g:=by rw[List.getD_eq_getElem?_getD,List.getElem?_eq_getElem hj];exact List.getElem_mem hj
  obtain⟨t,hte⟩: ∃t,t=(AY f g).getD j 0:=⟨_,rfl⟩
  have henc:Ro (AY f g) j=[str (Ai t)]:=by rw[hte]
  rw[←hte] at hfl htm
  rw[henc]
  have zt:=hk t htm
  refine zB (wP rfl (Aa ?_))
  refine Ct 7 hrec rfl ?_
  refine BI (zA (zB (wB 0 rfl rfl rfl (wP rfl ?_))))
  refine Ac rfl rfl rfl rfl rfl rfl (by kernel_rfl) (fun W hp=>Fv f hf t k zt hk2 W (hv.hp hp) (ht.hp hp)) ?_
  iterate 5 refine wP rfl ?_
  refine Aa (zE (zA (zB (wB 1 rfl rfl rfl (wP rfl ?_)))))
  refine Ac rfl rfl rfl rfl rfl rfl (by kernel_rfl) (fun W hp=>Fv g hg t k zt hk2 W (hv.hp hp) (ht.hp hp)) ?_
  iterate 5 refine wP rfl ?_
  refine Aa (AC (A7 ?_))
  refine AK (X:=Unit) (fun _=>[(2,Ax b2),(3,Ax b3),(6,Ax b6),(7,str (Ai t)),(57, .bool (HF f g t))]) (fun _=>[frB b2 f,frB b3 g,⟨b6,50,[V.val (fl f g j).length],true,none⟩,frB c1 f,frB c2 g,V.bx 37 (nS (fl f g j)),BO d,Bj L rec .busy none]) (fun _=>True) ?_ ?_
  ·refine zT Tryz.mixed (by kernel_rfl) ?_
   refine qB 0 rfl rfl rfl (qP rfl ?_)
   refine A9 rfl rfl rfl rfl rfl rfl (by kernel_rfl) (fun W hp=>DW f hf t a b k ha hb zt hk1 W (hv.hp hp) (ht.hp hp)) ?_
   refine qB 1 rfl rfl rfl (qP rfl ?_)
   refine A9 rfl rfl rfl rfl rfl rfl (by kernel_rfl) (fun W hp=>DW g hg t a b k ha' hb' zt hk1 W (hv.hp hp) (ht.hp hp)) ?_
   refine qP rfl ?_
   by_cases h1:f.at t=g.at t
   ·refine A6 47 (.bool true) rfl (congrArg Value.bool ((AR _ _).trans (decide_eq_true (Cl.2 h1)))) ?_
    refine qP rfl (qP rfl (qP rfl (qP rfl ?_)))
    by_cases h2:f.velB t=g.velB t
    ·refine A6 51 (.bool false) rfl (congrArg Value.bool (by show(!_)=false;rw[AR,decide_eq_true (Cl.2 h2)];rfl)) ?_
     refine qP rfl (qP rfl (qP rfl (qP rfl ?_)))
     by_cases h3:f.velA t=g.velA t
     ·have e:HF f g t=false:=by simp[HF,h2,h3]
      refine A6 55 (.bool false) rfl (congrArg Value.bool (by show(!_)=false;rw[AR,decide_eq_true (Cl.2 h3)];rfl)) ?_
      refine qP rfl (qP rfl (AE (Aa ?_)))
      exact At () trivial ⟨rfl,rfl,rfl,rfl,by rw[e];rfl,trivial⟩ [] rfl
     ·have e:HF f g t=true:=by simp[HF,h1,h3]
      refine A6 55 (.bool true) rfl (congrArg Value.bool (by show(!_)=true;rw[AR,decide_eq_false fun e=>h3 (Cl.1 e)];rfl)) ?_
      refine qP rfl (qP rfl (AE (Aa ?_)))
      exact At () trivial ⟨rfl,rfl,rfl,rfl,by rw[e];rfl,trivial⟩ [] rfl
    ·have e:HF f g t=true:=by simp[HF,h1,h2]
     refine A6 51 (.bool true) rfl (congrArg Value.bool (by show(!_)=true;rw[AR,decide_eq_false fun e=>h2 (Cl.1 e)];rfl)) ?_
     refine qP rfl ?_
     iterate 3 refine BC rfl rfl ?_
     refine qP rfl (qP rfl (AE (Aa ?_)))
     exact At () trivial ⟨rfl,rfl,rfl,rfl,by rw[e];rfl,trivial⟩ [] rfl
   ·have e:HF f g t=false:=by simp[HF,h1]
    refine A6 47 (.bool false) rfl (congrArg Value.bool ((AR _ _).trans (decide_eq_false fun e=>h1 (Cl.1 e)))) ?_
    refine qP rfl ?_
    iterate 8 refine BC rfl rfl ?_
    refine qP rfl (AE (Aa ?_))
    exact At () trivial ⟨rfl,rfl,rfl,rfl,by rw[e];rfl,trivial⟩ [] rfl
  ·intro _ _
   refine Ak rfl (fun hc=> ?_) (fun hc=> ?_)
   ·have hc:HF f g t=true:=hc
    rw[if_pos hc] at hfl
    refine zB (wB 2 rfl rfl rfl (wP rfl ?_))
    (refine A0 Tryz.hZ tH rfl rfl rfl rfl rfl rfl rfl rfl rfl rfl rfl ?_;intro)
    refine AP (V:=V) (len:=(fl f g j).length) (xs:=nS (fl f g j)) 5 8 Tryz.vec50 (fl f g (j+1)).length (nS (fl f g (j+1))) rfl rfl rfl rfl rfl rfl rfl rfl rfl rfl rfl hV rfl rfl (by rw[hfl];simp) (by rw[hfl];simp[nS];rfl) (by simp only[maxLen];omega) (by omega) rfl ?_
    intro gV cV jV hV1
    refine wS 2 rfl rfl rfl (Aa (zN ?_))
    exact Bw 7 (j+1,⟨some gV,cV,jV⟩) hrec rfl ⟨rfl,hV1⟩ [_] rfl
   ·have hc:HF f g t=false:=hc
    rw[if_neg (by rw[hc];decide)] at hfl
    refine zI (zN ?_)
    exact Bw 7 (j+1,V) hrec rfl ⟨rfl,by show V.OK 1 (fl f g (j+1)).length (nS (fl f g (j+1)));rw[hfl];exact hV⟩ [] (by show _=[frB b2 f,frB b3 g,(⟨b6,50,[V.val (fl f g (j+1)).length],true,none⟩:Bx),frB c1 f,frB c2 g,V.bx 37 (nS (fl f g (j+1))),BO d,Bj L rec .ready none]++[];rw[hfl];rfl)
 ·rintro⟨j,V⟩ d L rec ⟨e1,hV⟩
  obtain rfl:j=(AY f g).length:=e1
  have hV:V.OK 1 (fl f g (AY f g).length).length (nS (fl f g (AY f g).length)):=hV
  have hn:=Qw f g (AY f g).length
  have hsl:=Ju (fl f g (AY f g).length)
  have heq:eqL f g=Be (B9 (fl f g (AY f g).length)):=by rw[eqL,fl,List.take_length]
  refine zN (zE (zA (zB (wB 2 rfl rfl rfl ?_))))
  refine U0 5 128 Xe hv ht (V:=V) (l:=fl f g (AY f g).length) (len:=(fl f g (AY f g).length).length) rfl rfl rfl rfl rfl rfl rfl rfl hV (by omega) (fun p hp q hq=>hs p (Uf hp) q (Uf hq)) ?_
  refine Aa (zE (zA (zB (wB 2 rfl rfl rfl ?_))))
  refine T3 5 (V:=V) (l:=B9 (fl f g (AY f g).length)) (len:=(fl f g (AY f g).length).length) rfl rfl rfl rfl rfl rfl rfl hsl.symm ⟨by rw[←hsl];simp[nS],hV.nil,fun h=>by
   have h2:=hV.cap h
   refine⟨h2.1,h2.2.1, ?_⟩
   have h3:=h2.2.2
   rw[List.length_map] at h3⊢
   rw[hsl]
   exact h3⟩ (by omega) ?_
  intro V2 hV2
  rw[←heq] at hV2⊢
  refine wP rfl (wP rfl (Aa (zE (zO ?_))))
  refine CS 6 rfl ?_
  exact Ar tH rfl (.tmp rfl) (.tmp rfl) V2 rfl hV2 fun W hp=>Ae.of_hp1 hp 5 rfl
-- BOXES 3
-- CODE2
theorem DL (p q:Rat) (h:Sz2 p q) (W:World) (hv:BJ W) (ht:AV W):
  Aj Tryz.prog 82 #[str (Ai p),str (Ai q)] W (fun _:Unit=> .int .i64 (E6 p q)) (fun _=>True) (fun _=>[]):=by
 refine Ad (args:=[str (Ai p),str (Ai q)]) Tryz.func82 rfl rfl rfl ?_
 refine zA (zB (wP rfl (Aa (zE (zA (zB (wP rfl (wP rfl ?_))))))))
 refine Ac rfl rfl rfl rfl rfl rfl (by kernel_rfl) (fun W hp=>(Hy p q h W (hv.hp hp) (ht.hp hp)).cast (by rw[Q8])) ?_
 iterate 5 refine wP rfl ?_
 refine Aa (zE (zA (zB (wP rfl (wP rfl (Aa (zE (zO ?_))))))))
 exact Af tH rfl (.tmp rfl) () rfl trivial fun W _=>Ae.nil _ _
theorem Ki (z:List UInt8) (b:Nat) (s:Sd) (W:World) (hrow:Ag W b 0 s.cells):
  Aj Tryz.prog 137 #[str z,Ax b] W (fun _:Unit=> .bool (!s.gable)) (fun _=>True) (fun _=>[]):=by
 refine Ad (args:=[str z,Ax b]) Tryz.func137 rfl rfl rfl ?_
 refine zA (zB (wP rfl (Aa (zE (zA (zB (wP rfl ?_)))))))
 refine Aw rfl rfl rfl rfl (fun W hp=>Ag.load 4 tH rfl ((fun W1 hp=>hrow.hp hp) W hp) rfl) ?_
 refine wP rfl (wP rfl (Aa (zE (zO ?_))))
 exact Af tH rfl (.tmp rfl) () rfl trivial fun W _=>Ae.nil _ _
theorem PQ (z y:Rat) (hz:Sz2 z y) (b:Nat) (W:World) (hv:BJ W) (ht:AV W) (hrow:Ag W b 0 [str (Ai y)]):
  Aj Tryz.prog 138 #[str (Ai z),Ax b] W (fun _:Unit=> .bool (decide (y<z))) (fun _=>True) (fun _=>[]):=by
 refine Ad (args:=[str (Ai z),Ax b]) Tryz.func138 rfl rfl rfl ?_
 refine zA (zB (wP rfl (Aa (zE (zA (zB (wP rfl ?_)))))))
 refine Aw rfl rfl rfl rfl (fun W hp=>Ag.load 0 tH rfl ((fun W1 hp=>hrow.hp hp) W hp) rfl) ?_
 refine Ac rfl rfl rfl rfl rfl rfl (by kernel_rfl) (fun W1 hp=>DL z y hz W1 (hv.hp hp) (ht.hp hp)) ?_
 refine wP rfl ?_
 refine Ab 7 (.bool (decide (y<z))) rfl (congrArg Value.bool (Ur z y)) ?_
 refine wP rfl (Aa (zE (zO ?_)))
 exact Af tH rfl (.tmp rfl) () rfl trivial fun W _=>Ae.nil _ _
section
variable {r:Option Nat} {n:Nat} {P:Program} {N:Nat} {D:List Deferred} {ops:List Oper} {Q:Exit→Act→World→Prop} {o:Oper} {rest:List Oper} {env:Env} {A:World→Prop}
theorem UQ {ρ:Operand→Value} {t u:TypeId} {x y:Operand} {k yk:IntKind} {a b:Int} (ho:o.op= .binOp .shr t x y u) (hx:ρ x= .int k a) (hy:ρ y= .int yk b) (hb:0≤b) (W:World):(execOp ρ o).run P W= .ok (.value (.int k (a/2^min b.toNat k.bits))) W:=by
 simp[execOp,ho,hx,hy,eqGuard,binOp,shift_shr_any _ _ _ _ hb]
theorem WG {d:Nat} {t u:TypeId} {x y:Operand} {k yk:IntKind} {a b:Int} (hg:AB ops N env o=some true) (hd:o.dst=some d) (ho:o.op= .binOp .shr t x y u)
  (hx:evO N env x=some (.int k a)) (hy:evO N env y=some (.int yk b)) (hb:0≤b)
  (h:WL r n P N D ops Q rest ((d, .int k (a/2^min b.toNat k.bits))::env) A):WL r n P N D ops Q (o::rest) env A:=
 CI hg hd (fun c e=>by rw[ho] at e;cases e) (fun _ W hρ _=>UQ ho (hρ _ _ hx) (hρ _ _ hy) hb W) h
end
def So (W:World) (p:Option Addr) (l:List Rat):Prop:=l=[]∨ ∃g off,p=some ⟨g,off,none⟩∧ ∀i (hi:i<l.length),Ag W g (off+i*1) [str (Ai l[i])]
theorem So.at_ {W:World} {p:Option Addr} {l:List Rat} (h:So W p l) {i:Nat} (hi:i<l.length): ∃g off,p=some ⟨g,off,none⟩∧ ∀i (hi:i<l.length),Ag W g (off+i*1) [str (Ai l[i])]:=by
 rcases h with rfl|h
 ·exact absurd hi (Nat.not_lt_zero _)
 ·exact h
theorem Xq {n:Nat} (h:n<9223372036854775808):IntKind.u64.wrap (n:Nat)=(n:Int):=by
 simp only[IntKind.wrap,IntKind.signed,IntKind.bits]
 simp
 omega
theorem WI {n:Nat}:((n:Nat):Int)/2^min (1:Int).toNat IntKind.u64.bits=((n/2:Nat):Int):=by
 show((n:Nat):Int)/2^1=_
 omega
theorem UL (p q:Rat):(E6 p q==0)=decide (p=q):=by
 unfold E6
 by_cases h:p<q
 ·rw[if_pos h]
  have: ¬p=q:=fun e=>by rw[e] at h;exact Rat.lt_irrefl h
  rw[decide_eq_false this];rfl
 ·rw[if_neg h]
  by_cases e:p=q
  ·rw[if_pos e,decide_eq_true e];rfl
  ·rw[if_neg e,decide_eq_false e];rfl
theorem HO (p:Option Addr) (cap:Nat) (l:List Rat) (a:Rat) (W:World) (hn:l.length<4611686018427387904) (hR:So W p l) (hs:l.Pairwise (· < ·)) (hz: ∀x∈l,Sz2 x a) (hv:BJ W) (ht:AV W):
  Aj Tryz.prog 202 #[.slice p l.length cap,str (Ai a), .func (.func 82) #[] #[]] W (fun _:Unit=> .tuple #[.int .i64 (below a l:Nat), .bool (decide (l[below a l]? =some a))]) (fun _=>True) (fun _=>[]):=by
 have hB:=IZ a l
 have hlt:=Pg (a:=a) hs
 refine Ad (args:=[.slice p l.length cap,str (Ai a), .func (.func 82) #[] #[]]) Tryz.func202 rfl rfl rfl ?_
 refine zA (zB (wP rfl (wP rfl (Aa (zE (zA (zB (wP rfl (wP rfl (wP rfl (Aa (zE (zA ?_)))))))))))))
 refine zB (wP rfl (wP rfl (wP rfl (Aa (zE (zA (zH ?_)))))))
 refine Av (X:=Nat×Nat) (fun s=>[(0, .slice p l.length cap),(1,str (Ai a)),(2, .func (.func 82) #[] #[]),(8, .int .i64 (l.length:Nat)),(9, .int .i64 (s.1:Nat)),(10, .int .i64 (s.2:Nat))]) (fun _=>[])
  (fun s=>s.1≤below a l∧below a l≤s.2∧s.2≤l.length) (fun s=>s.2-s.1) (0,l.length) ⟨Nat.zero_le _,hB,Nat.le_refl _⟩ ⟨rfl,rfl,rfl,rfl,rfl,rfl,trivial⟩ [] rfl ?_
 rintro⟨i,j⟩ ⟨h1,h2,h3⟩
 have h1:i≤below a l:=h1
 have h2:below a l≤j:=h2
 have h3:j≤l.length:=h3
 refine zA (zA (zB (wP rfl (wP rfl (wP rfl ?_)))))
 by_cases hij:i<j
 ·refine Ab 17 (.bool true) rfl (congrArg Value.bool (decide_eq_true (by omega))) ?_
  refine Aa (zE (zR rfl (zI (zE (zH (zA (zB ?_)))))))
  obtain⟨h,hh⟩: ∃h,h=(i+j)/2:=⟨_,rfl⟩
  have hhl:h<l.length:=by omega
  obtain⟨g,off,hpe,hrow⟩:=hR.at_ hhl
  have hrow:=hrow h hhl
  obtain⟨x,hx⟩: ∃x,x=l[h]:=⟨_,rfl⟩
  have hlx:=hlt h hhl
  rw[←hx] at hrow hlx
  subst hpe
  refine wP rfl (wP rfl (wP rfl ?_))
  refine Ab 20 (.int .i64 ((i+j:Nat):Int)) rfl (congrArg (Value.int .i64) (show w64 ((i:Nat)+(j:Nat))=_ by rw[An (by omega) (by omega)];omega)) ?_
  refine EM (k:= .u64) (kt:= .i64) (by kernel_rfl) (by kernel_rfl) rfl rfl rfl rfl ?_
  refine Ab 21 (.int .u64 ((i+j:Nat):Int)) rfl (congrArg (Value.int .u64) (Xq (by omega))) ?_
  refine WG rfl rfl rfl rfl rfl (by decide) ?_
  refine Ab 22 (.int .u64 (h:Nat)) rfl (congrArg (Value.int .u64) (WI.trans (by rw[hh]))) ?_
  refine EM (k:= .i64) (kt:= .u64) (by kernel_rfl) (by kernel_rfl) rfl rfl rfl rfl ?_
  refine Ab 23 (.int .i64 (h:Nat)) rfl (congrArg (Value.int .i64) (BP (by omega))) ?_
  refine wP rfl (Aa (zE (zA (zB (wP rfl (wP rfl (wP rfl ?_)))))))
  refine wJ ?_
  refine Aw rfl rfl rfl rfl (fun W hp=>Ag.load 0 tH rfl ((fun W1 hp=>hrow.hp hp) W hp) rfl) ?_
  refine wP rfl ?_
  refine Ac (capt:=[]) rfl rfl rfl rfl rfl rfl (by kernel_rfl) (fun W1 hp=>DL x a (hz x (hx▸List.getElem_mem hhl)) W1 (hv.hp hp) (ht.hp hp)) ?_
  refine wP rfl ?_
  refine Ab 31 (.bool (decide (x<a))) rfl (congrArg Value.bool (Mf x a)) ?_
  refine Aa (zE ?_)
  refine Ak rfl (fun hc=> ?_) (fun hc=> ?_)
  ·have hc:x<a:=of_decide_eq_true hc
   have hhB:=hlx.1 hc
   refine zB (wP rfl (wP rfl ?_))
   refine Ab 33 (.int .i64 ((h+1:Nat):Int)) rfl (congrArg (Value.int .i64) (A5 (by omega))) ?_
   refine wP rfl (Aa (zN ?_))
   exact As (h+1,j) ⟨hhB,h2,h3⟩ (by show j-(h+1)<j-i;omega) ⟨rfl,rfl,rfl,rfl,rfl,rfl,trivial⟩ [] rfl
  ·have hc: ¬x<a:=of_decide_eq_false hc
   have hhB:below a l≤h:=Nat.le_of_not_lt fun e=>hc (hlx.2 e)
   refine zB (wP rfl (wP rfl (Aa (zN ?_))))
   exact As (i,h) ⟨h1,hhB,by show h≤l.length;omega⟩ (by show h-i<j-i;omega) ⟨rfl,rfl,rfl,rfl,rfl,rfl,trivial⟩ [] rfl
 have ei:i=below a l:=by omega
 subst ei
 refine Ab 17 (.bool false) rfl (congrArg Value.bool (decide_eq_false (by omega))) ?_
 refine Aa (zE (zS rfl (zJ (zK (zK (zL (zE (zA (zB ?_)))))))))
 by_cases hbl:below a l<l.length
 ·obtain⟨g,off,hpe,hrow⟩:=hR.at_ hbl
  have hrow:=hrow (below a l) hbl
  obtain⟨x,hx⟩: ∃x,x=l[below a l]:=⟨_,rfl⟩
  rw[←hx] at hrow
  subst hpe
  refine wP rfl (wP rfl (wP rfl (wP rfl ?_)))
  refine Ab 38 (.bool true) rfl (congrArg Value.bool (decide_eq_true (by omega))) ?_
  refine wP rfl (wP rfl (wP rfl (wP rfl ?_)))
  refine wJ ?_
  refine Aw rfl rfl rfl rfl (fun W hp=>Ag.load 0 tH rfl ((fun W1 hp=>hrow.hp hp) W hp) rfl) ?_
  refine wP rfl ?_
  refine Ac (capt:=[]) rfl rfl rfl rfl rfl rfl (by kernel_rfl) (fun W1 hp=>DL x a (hz x (hx▸List.getElem_mem hbl)) W1 (hv.hp hp) (ht.hp hp)) ?_
  refine wP rfl ?_
  refine Ab 47 (.bool (decide (l[below a l]? =some a))) rfl (congrArg Value.bool ((UL _ _).trans (decide_eq_decide.2 (by rw[List.getElem?_eq_getElem hbl,Option.some.injEq,hx])))) ?_
  refine wP rfl (wP rfl (wP rfl (Aa (zE (zO ?_)))))
  exact Ar tH rfl (.tmp rfl) (.tmp rfl) () rfl trivial fun W _=>Ae.nil _ _
 ·have e:l[below a l]? =none:=List.getElem?_eq_none (by omega)
  refine wP rfl (wP rfl (wP rfl (wP rfl ?_)))
  refine Ab 38 (.bool false) rfl (congrArg Value.bool (decide_eq_false (by omega))) ?_
  refine wP rfl ?_
  iterate 8 refine Ah rfl rfl ?_
  refine wP rfl (wP rfl (wP rfl (Aa (zE (zO ?_)))))
  exact Ar tH rfl (.tmp rfl) (.tmp rfl) () (by rw[e];rfl) trivial fun W _=>Ae.nil _ _
end
section
open Go Go.RowKit Go.Am
set_option maxRecDepth 10000
-- BOXES 2
-- CODE2
theorem TD {W0 W:World} {bxs:List Bx} (hp:Hp W0 bxs W) (k:Nat) {l:List (Nat×Obj)} (hk:nth bxs k=some (AU l)) {g:Nat} {c:List Value} {ty:TypeId} (hm:(g,Obj.cells c.toArray ty (0,0))∈l):Ag W g 0 c:=by
 rw[AW] at hk
 exact Ag.of_block (hp.own.cell k _ hk _ hm).1
abbrev Eb (l:List Rat) (i:Nat) (a:Rat):List Rat:=l.take i++a::l.drop i
theorem CO (l:List Rat):(nS l).length=l.length:=List.length_map _
theorem Ht (a b:List Rat):nS (a++b)=nS a++nS b:=List.map_append
theorem Qq {l:List Rat} {i:Nat} (hi:i≤l.length) (a:Rat):(Eb l i a).length=l.length+1:=by simp only[Eb,List.length_append,List.length_take,List.length_cons,List.length_drop];omega
theorem VJ {l:List Rat} {junk:List Value} (i:Nat) (j:Nat) {u:Value} (h:(nS (l.take i))[j]? =some u):(nS l++junk)[j]? =some u:=by
 have e:nS l=nS (l.take i)++nS (l.drop i):=by rw[←Ht,List.take_append_drop]
 have hj:=(List.getElem?_eq_some_iff.1 h).1
 rw[e,List.append_assoc,List.getElem?_append_left hj];exact h
theorem K3 {l:List Rat} {junk:List Value} (i:Nat) (hi:i≤l.length) (j:Nat) {u:Value} (h:(nS (l.drop i))[j]? =some u):(nS l++junk)[i*1+j]? =some u:=by
 have e:nS l=nS (l.take i)++nS (l.drop i):=by rw[←Ht,List.take_append_drop]
 have hj:=(List.getElem?_eq_some_iff.1 h).1
 have hl:(nS (l.take i)).length=i:=by rw[CO,List.length_take,Nat.min_eq_left hi]
 rw[e,List.append_assoc,List.getElem?_append_right (by omega),hl,Nat.mul_one,Nat.add_sub_cancel_left,List.getElem?_append_left hj];exact h
theorem FO: ∀l:List Rat,CP (nS l)=true
 |[]=>rfl
 |_::l=>FO l
theorem I2 {l:List Rat} {i:Nat} (hi:i<l.length):nS l=nS (l.take i)++([str (Ai l[i])]++nS (l.drop (i+1))):=by
 conv=>lhs;rw[←List.take_append_drop i l,List.drop_eq_getElem_cons hi,Ht]
 rfl
theorem Mn {W:World} {gs g off n m c1 c2:Nat} {cs xs:List Value} (h1:W.heap[gs]? =some (.cells cs.toArray 37 (0,0))) (h2:W.heap[g]? =some (.cells xs.toArray 37 (0,0))) (hx:0<xs.length) (hne:gs≠g):
  (callFunc 262 #[.slice (some ⟨gs,0,none⟩) n c1, .slice (some ⟨g,off,none⟩) m c2]).run Tryz.prog W= .ok (.value (.bool false)) W:=by
 rw[run_callFunc_extern Tryz.func262 (by kernel_rfl) (by kernel_rfl) (by kernel_rfl) (e:=Extern.SlicesOverlaps.overlaps #[50,50] #[4]) (by kernel_rfl),
  Lib.run_overlaps_apart W 50 4 37 (by kernel_rfl) 1 (fun W=>by kernel_rfl) ⟨gs,0,none⟩ ⟨g,off,none⟩ n c1 m c2 hne 37 37 cs.length xs.length (by simp[World.shape?,h1]) (by simp[World.shape?,h2]) (by omega) (by simp[World.frozen?,h1]) (by simp[World.frozen?,h1])]
 rfl
abbrev zNs:List Value:=[str []]
theorem Mq (W:World) (g cap gs cs i:Nat) (junk:List Value) (l:List Rat) (a:Rat) (hi:i≤l.length) (hn:l.length<1099511627776) (hV:(⟨some g,cap,junk⟩:Vec).OK 1 l.length (nS l)) (hg:W.heap[g]? =some (.cells (nS l++junk).toArray 37 (0,0)))
  (hs:W.heap[gs]? =some (.cells [str (Ai a)].toArray 37 (0,0))) (hne:gs≠g):
  Calls Tryz.prog 203 #[.slice (some ⟨g,0,none⟩) l.length cap, .int .i64 (i:Nat), .slice (some ⟨gs,0,none⟩) 1 cs] W fun e W'=> ∃x:Nat×Nat×List Value,e= .returned ((fun x:Nat×Nat×List Value=> .slice (some ⟨x.1,0,none⟩) (l.length+1) x.2.1) x)∧
   (fun x:Nat×Nat×List Value=>(⟨some x.1,x.2.1,x.2.2⟩:Vec).OK 1 (l.length+1) (nS (Eb l i a))) x∧HE W W' g ((fun x:Nat×Nat×List Value=>x.1) x) ((fun x:Nat×Nat×List Value=> .cells (nS (Eb l i a)++x.2.2).toArray 37 (0,0)) x):=by
 obtain⟨hc1,hc2,hc3⟩:l.length≤cap∧cap≤maxLen∧(nS l).length+junk.length=cap*1:=hV.cap (by simp)
 rw[CO,Nat.mul_one] at hc3
 have hll:=Qq hi a
 have key:Calls Tryz.prog 203 [.slice (some ⟨g,0,none⟩) l.length cap, .int .i64 (i:Nat), .slice (some ⟨gs,0,none⟩) 1 cs].toArray W fun e W'=> ∃x,e= .returned ((fun x:Nat×Nat×List Value=> .slice (some ⟨x.1,0,none⟩) (l.length+1) x.2.1) x)∧
   (fun x:Nat×Nat×List Value=>(⟨some x.1,x.2.1,x.2.2⟩:Vec).OK 1 (l.length+1) (nS (Eb l i a))) x∧Below (AZ W).heap.size (AZ W) W'∧Ae (AZ W) W' ((fun x:Nat×Nat×List Value=>[AU (A3 W g),⟨x.1,37,nS (Eb l i a)++x.2.2,true,none⟩]) x):=by
  refine BM (X:=Nat×Nat×List Value) (val:=fun x=> .slice (some ⟨x.1,0,none⟩) (l.length+1) x.2.1) (Φ:=fun x=>(⟨some x.1,x.2.1,x.2.2⟩:Vec).OK 1 (l.length+1) (nS (Eb l i a))) (nb:=fun x=>[AU (A3 W g),⟨x.1,37,nS (Eb l i a)++x.2.2,true,none⟩]) (Hp.enterT (B:=⟨g,37,nS l++junk,true,none⟩) rfl hg) Tryz.func203 rfl rfl rfl ?_
  have hrs: ∀ {W1:World} {bx:List Bx},Hp (AZ W) bx W1→nth bx 0=some (AU (A3 W g))→Ag W1 gs 0 [str (Ai a)]:=fun hp h0=>TD hp 0 h0 (CB.2 ⟨hne,hs⟩)
  have hn1:IntKind.i64.wrap (((l.length:Nat):Int)+((1:Nat):Int))=((l.length+1:Nat):Int):=(AI (by omega) (by omega)).trans (by omega)
  refine zA (zB (wP rfl (Aa (zE (zA (zB (wP rfl (wP rfl ?_))))))))
  refine BK i tH rfl rfl rfl rfl rfl rfl rfl rfl hi hc1 ?_
  refine Aa (zE (zA (zB (wP rfl (wP rfl (wP rfl (Aa (zE (zA (zA (zB (wP rfl (wP rfl ?_)))))))))))))
  refine Aa (zE (zS rfl (zI (zE (zA (zB (wP rfl (wP rfl (wP rfl (Aa (zE (zA (zA ?_)))))))))))))
  refine zB (wP rfl (wP rfl (wP rfl (Aa (zE ?_)))))
  by_cases hil:i=l.length
  ·refine AT 22 (.bool true) rfl (congrArg Value.bool (beq_iff_eq.2 (show((i:Nat):Int)=((l.length:Nat):Int) by omega))) ?_
   refine zR rfl (zA (zB ?_))
   have e:Eb l i a=l++[a]:=by rw[Eb,List.take_of_length_le (by omega),List.drop_of_length_le (by omega)]
   refine wP rfl (wP rfl ?_)
   refine EA (V:=⟨some g,cap,junk⟩) (news:=[str (Ai a)]) (xs:=nS l) 1 Tryz.vec50 rfl rfl rfl rfl rfl rfl rfl rfl rfl hV rfl (fun W1 hp j u hu=>by rw[Addr.add_none];exact(hrs hp rfl).get j u hu) (fun u hu=>by obtain rfl:=List.mem_singleton.1 hu;rfl) (by simp only[maxLen];omega) (by omega) ?_
   intro V' hV' hp'
   obtain⟨p,cp,jk⟩:=V'
   cases p with
   |none=>exact absurd (hp' rfl) (by decide)
   |some g'=>
    refine wP rfl (Aa (zE (zO (zP ?_))))
    refine Af tH rfl (.tmp rfl) (g',cp,jk) rfl (by rw[e,Ht];exact hV') fun W1 hp=> ?_
    have hp:Hp (AZ W) [AU (A3 W g),⟨g',37,(nS l++[str (Ai a)])++jk,true,none⟩] W1:=hp.pick [0,1] (by decide) rfl
    show Ae (AZ W) W1 [AU (A3 W g),⟨g',37,nS (Eb l i a)++jk,true,none⟩]
    rw[e,Ht]
    exact hp.own
  have hi:i<l.length:=by omega
  refine AT 22 (.bool false) rfl (congrArg Value.bool (beq_eq_false_iff_ne.2 (show((i:Nat):Int)≠((l.length:Nat):Int) by omega))) ?_
  refine zS rfl (zI (zE (zA (zA (zB ?_)))))
  iterate 6 refine wP rfl ?_
  refine Aa (zE ?_)
  refine AT 31 (.bool (decide (cap<l.length+1))) rfl (congrArg Value.bool ((congrArg (fun z=>decide (z>(cap:Int))) hn1).trans (decide_eq_decide.2 (by omega)))) ?_
  refine Ak rfl (fun h=> ?_) (fun h=> ?_)
  ·have h:cap<l.length+1:=by simpa using h
   refine zA (zB (wP rfl (wP rfl ?_)))
   refine Dt i tH rfl rfl rfl rfl rfl rfl rfl rfl (by omega) ?_
   iterate 5 refine wP rfl ?_
   refine Ab 39 (.int .i64 ((l.length+1-i:Nat):Int)) rfl (congrArg (Value.int .i64) ((congrArg (fun z=>IntKind.i64.wrap (z-(i:Int))) hn1).trans ((AI (by omega) (by omega)).trans (by omega)))) ?_
   refine M0 Tryz.vec50 (ku:= .i64) (by kernel_rfl) (a:=⟨g,0,none⟩) (cs:=nS (l.take i)) (l.length+1-i) rfl rfl rfl rfl rfl rfl rfl rfl rfl (by omega) (by omega) (by simp only[maxLen];omega) (by omega) (by rw[CO,List.length_take,Nat.min_eq_left (by omega),Nat.mul_one]) ?_ ?_
   ·intro W1 hp j u hu
    have:=(Ag.of_bx hp 1 rfl rfl).get j u (VJ i _ hu)
    rw[Addr.add_none];exact this
   intro b cp hb1 hb2
   refine Ab 40 (.slice (some ⟨b,0,none⟩) (l.length+1) cp) rfl (congrArg (fun m=>Value.slice (some ⟨b,0,none⟩) m cp) (by omega)) ?_
   refine wP rfl (Aa (zE (zA (zB (wP rfl (wP rfl ?_))))))
   refine BK i tH rfl rfl rfl rfl rfl rfl rfl rfl (by omega) (by omega) ?_
   refine Ab 43 (.slice (some ⟨b,i*1,none⟩) (l.length+1-i) (cp-i)) rfl (congrArg (fun o=>Value.slice (some ⟨b,o,none⟩) (l.length+1-i) (cp-i)) ((if_neg (by omega)).trans (Nat.zero_add _))) ?_
   refine wP rfl ?_
   have tl:(nS (l.take i)).length=i:=by rw[CO,List.length_take,Nat.min_eq_left (by omega)]
   have dl:(nS (l.drop i)).length=l.length-i:=by rw[CO,List.length_drop]
   have q1:Bs (nS (l.take i)++(By zNs (l.length+1-i)++By zNs (cp-(i+(l.length+1-i))))) (i*1) [str (Ai a)]=nS (l.take i)++([str (Ai a)]++(By zNs (l.length-i)++By zNs (cp-(l.length+1)))):=by
    rw[show l.length+1-i=(l.length-i)+1 by omega,show i*1=(nS (l.take i)).length by omega]
    show Bs (nS (l.take i)++((zNs++By zNs (l.length-i))++_)) _ _=_
    rw[List.append_assoc,Gt _ zNs _ [str (Ai a)] rfl,show i+(l.length-i+1)=l.length+1 by omega]
   have q2:Bs (nS (l.take i)++([str (Ai a)]++(By zNs (l.length-i)++By zNs (cp-(l.length+1))))) ((i+1)*1) (nS (l.drop i))=nS (Eb l i a)++By zNs (cp-(l.length+1)):=by
    have e1:(i+1)*1=(nS (l.take i)++[str (Ai a)]).length:=by rw[List.length_append,tl];show _=i+1;omega
    rw[←List.append_assoc (nS (l.take i)),e1,Gt _ _ _ _ (by rw[Co,dl];exact Nat.mul_one _),Ht]
    show _=(_++([str (Ai a)]++nS (l.drop i)))++_
    simp only[List.append_assoc]
   refine HA 2 (ys:=nS (l.take i)++([str (Ai a)]++(By zNs (l.length-i)++By zNs (cp-(l.length+1))))) Tryz.vec50 (m:=1) (cs:=[str (Ai a)]) rfl rfl rfl rfl rfl rfl rfl rfl rfl rfl (Nat.min_eq_left (by omega)) rfl ?_ rfl ?_ q1 ?_
   ·intro W1 hp j u hu
    rw[Addr.add_none];exact(hrs hp rfl).get j u hu
   ·show i*1+1≤(nS (l.take i)++(By zNs (l.length+1-i)++By zNs (cp-(i+(l.length+1-i))))).length
    rw[List.length_append,List.length_append,Co,Co,tl]
    show i*1+1≤i+((l.length+1-i)*1+_)
    omega
   have fit:(i+1)*1+(nS (l.drop i)).length≤(nS (l.take i)++([str (Ai a)]++(By zNs (l.length-i)++By zNs (cp-(l.length+1))))).length:=by
    rw[List.length_append,List.length_append,List.length_append,Co,dl,tl]
    show(i+1)*1+(l.length-i)≤i+(1+((l.length-i)*1+_))
    omega
   refine zC (zE ?_)
   repeat refine A7 ?_
   refine BU (X:=Unit) [true,true,true,true,false,true,true,false,false] (fun _=>[(9, .slice (some ⟨b,0,none⟩) (l.length+1) cp)]) (fun _=>[AU (A3 W g),⟨b,37,nS (Eb l i a)++By zNs (cp-(l.length+1)),true,none⟩])
    3 [AU (A3 W g),⟨g,37,nS l++junk,true,none⟩,⟨b,37,nS (l.take i)++([str (Ai a)]++(By zNs (l.length-i)++By zNs (cp-(l.length+1)))),true,none⟩] Tryz.mixed (by kernel_rfl) ?_ ?_
   ·refine qP rfl ?_
    iterate 5 refine qP rfl ?_
    refine Dd ?_
    refine wX ?_
    refine RS.cons ?_ (RS.cons ?_ (RS.nil))
    ·refine BK (i+1) tH rfl rfl rfl rfl rfl rfl rfl ((AI (by omega) (by omega)).trans (by omega)) (by omega) (by omega) ?_;refine Ab 50 (.slice (some ⟨b,(i+1)*1,none⟩) (l.length+1-(i+1)) (cp-(i+1))) rfl (congrArg (fun o=>Value.slice (some ⟨b,o,none⟩) (l.length+1-(i+1)) (cp-(i+1))) ((if_neg (by omega)).trans (Nat.zero_add _))) ?_
     refine Aa (Al ?_)
     refine wX ?_
     refine RS.cons ?_ (RS.nil)
     refine BK i tH rfl rfl rfl rfl rfl rfl rfl rfl (by omega) hc1 ?_;refine Ab 53 (.slice (some ⟨g,i*1,none⟩) (l.length-i) (cap-i)) rfl (congrArg (fun o=>Value.slice (some ⟨g,o,none⟩) (l.length-i) (cap-i)) ((if_neg (by omega)).trans (Nat.zero_add _))) ?_
     refine Aa (Al ?_)
     refine wX ?_
     refine RS.cons ?_ (RS.nil)
     refine HA 2 (ys:=nS (Eb l i a)++By zNs (cp-(l.length+1))) Tryz.vec50 (m:=l.length-i) (cs:=nS (l.drop i)) rfl rfl rfl rfl rfl rfl rfl rfl rfl rfl (by rw[show l.length+1-(i+1)=l.length-i by omega];exact Nat.min_self _) (by rw[dl,Nat.mul_one]) (fun W1 hp j u hu=>by rw[Addr.add_none];have:=(Ag.of_bx hp 1 rfl rfl).get _ u (K3 i (by omega) j hu);rw[Nat.zero_add] at this;exact this) (FO _) fit q2 ?_
     refine Aa (Al ?_)
     refine AJ rfl (by kernel_rfl) ?_
     exact AD () ⟨rfl,trivial⟩ [0,2] (by decide) rfl
    ·refine BK i tH rfl rfl rfl rfl rfl rfl rfl rfl (by omega) hc1 ?_;refine Ab 53 (.slice (some ⟨g,i*1,none⟩) (l.length-i) (cap-i)) rfl (congrArg (fun o=>Value.slice (some ⟨g,o,none⟩) (l.length-i) (cap-i)) ((if_neg (by omega)).trans (Nat.zero_add _))) ?_
     refine Aa (Al ?_)
     refine wX ?_
     refine RS.cons ?_ (RS.nil)
     refine BK (i+1) tH rfl rfl rfl rfl rfl rfl rfl ((AI (by omega) (by omega)).trans (by omega)) (by omega) (by omega) ?_;refine Ab 50 (.slice (some ⟨b,(i+1)*1,none⟩) (l.length+1-(i+1)) (cp-(i+1))) rfl (congrArg (fun o=>Value.slice (some ⟨b,o,none⟩) (l.length+1-(i+1)) (cp-(i+1))) ((if_neg (by omega)).trans (Nat.zero_add _))) ?_
     refine Aa (Al ?_)
     refine wX ?_
     refine RS.cons ?_ (RS.nil)
     refine HA 2 (ys:=nS (Eb l i a)++By zNs (cp-(l.length+1))) Tryz.vec50 (m:=l.length-i) (cs:=nS (l.drop i)) rfl rfl rfl rfl rfl rfl rfl rfl rfl rfl (by rw[show l.length+1-(i+1)=l.length-i by omega];exact Nat.min_self _) (by rw[dl,Nat.mul_one]) (fun W1 hp j u hu=>by rw[Addr.add_none];have:=(Ag.of_bx hp 1 rfl rfl).get _ u (K3 i (by omega) j hu);rw[Nat.zero_add] at this;exact this) (FO _) fit q2 ?_
     refine Aa (Al ?_)
     refine AJ rfl (by kernel_rfl) ?_
     exact AD () ⟨rfl,trivial⟩ [0,2] (by decide) rfl
   intro _
   refine zE (zA (zB (wP rfl (wP rfl (Aa (zE (zO (zP ?_))))))))
   refine Af tH rfl (.tmp rfl) (b,cp,By zNs (cp-(l.length+1))) rfl ⟨by rw[CO,hll,Nat.mul_one],(fun h=>by cases h),fun _=>⟨by show l.length+1≤cp;omega,hb2, ?_⟩⟩ fun W1 hp=>(hp.pick (l:=[AU (A3 W g),⟨b,37,nS (Eb l i a)++By zNs (cp-(l.length+1)),true,none⟩]) [0,1] (by decide) rfl).own
   rw[CO,hll,Co]
   show(l.length+1)+(cp-(l.length+1))*1=cp*1
   omega
  have h:l.length+1≤cap:=by simp at h;omega
  have hjl:junk.length=cap-l.length:=by omega
  have tl:(nS (l.take i)).length=i:=by rw[CO,List.length_take,Nat.min_eq_left (by omega)]
  have dl:(nS (l.drop i)).length=l.length-i:=by rw[CO,List.length_drop]
  refine zI (zE (zA (zB (wP rfl (wP rfl (wP rfl (wP rfl ?_)))))))
  refine Dt (l.length+1) tH rfl rfl rfl rfl rfl rfl rfl hn1 h ?_
  refine wP rfl (Aa (zE (zA (zA (zB ?_)))))
  iterate 5 refine wP rfl ?_
  have hi1:IntKind.i64.wrap (((i:Nat):Int)+((1:Nat):Int))=((i+1:Nat):Int):=(AI (by omega) (by omega)).trans (by omega)
  refine BK (i+1) tH rfl rfl rfl rfl rfl rfl rfl hi1 (by omega) h ?_
  refine Wr (g:=262) (capt:=[]) (v:= .bool false) rfl rfl rfl rfl rfl rfl (fun W1 hp=>Mn (hp.own.cell 0 (AU (A3 W g)) rfl (gs, .cells [str (Ai a)].toArray 37 (0,0)) (CB.2 ⟨hne,hs⟩)).1 (hp.at_ 1 _ rfl rfl).1 (by rw[List.length_append,CO];omega) hne) ?_
  refine wP rfl (Aa (zE (zR rfl ?_)))
  have q3:Bs (nS l++junk) ((i+1)*1) (nS (l.drop i))=nS (l.take i)++([str (Ai l[i])]++(nS (l.drop i)++junk.drop 1)):=by
   have e1:(i+1)*1=(nS (l.take i)++[str (Ai l[i])]).length:=by rw[List.length_append,tl];show _=i+1;omega
   have e2:nS l++junk=(nS (l.take i)++[str (Ai l[i])])++((nS (l.drop (i+1))++junk.take 1)++junk.drop 1):=by
    rw[I2 hi]
    simp only[List.append_assoc,List.take_append_drop]
   rw[e1,e2,Gt _ _ _ _ (by rw[List.length_append,List.length_take,CO,dl,List.length_drop];omega),List.append_assoc]
  have q4:Bs (nS (l.take i)++([str (Ai l[i])]++(nS (l.drop i)++junk.drop 1))) (i*1) [str (Ai a)]=nS (Eb l i a)++junk.drop 1:=by
   rw[show i*1=(nS (l.take i)).length by omega,Gt _ [str (Ai l[i])] _ [str (Ai a)] rfl,Ht]
   show _=(_++([str (Ai a)]++nS (l.drop i)))++_
   simp only[List.append_assoc]
  have fit:(i+1)*1+(nS (l.drop i)).length≤(nS l++junk).length:=by
   rw[dl,List.length_append,CO,hjl]
   omega
  have fit2:i*1+[str (Ai a)].length≤(nS (l.take i)++([str (Ai l[i])]++(nS (l.drop i)++junk.drop 1))).length:=by
   rw[List.length_append,List.length_append,tl]
   show i*1+1≤i+(1+_)
   omega
  repeat refine A7 ?_
  refine BU (X:=Unit) [true,true,true,true,false,true,true,false,false] (fun _=>[(0, .slice (some ⟨g,0,none⟩) (l.length+1) cap),(1, .int .i64 (i:Nat)),(2, .slice (some ⟨gs,0,none⟩) 1 cs)]) (fun _=>[AU (A3 W g),⟨g,37,nS (l.take i)++([str (Ai l[i])]++(nS (l.drop i)++junk.drop 1)),true,none⟩])
   3 [AU (A3 W g),⟨g,37,nS l++junk,true,none⟩] Tryz.mixed (by kernel_rfl) ?_ ?_
  ·refine qP rfl ?_
   iterate 5 refine qP rfl ?_
   refine Dd ?_
   refine wX ?_
   refine RS.cons ?_ (RS.cons ?_ (RS.nil))
   ·refine BK (i+1) tH rfl rfl rfl rfl rfl rfl rfl hi1 (by omega) h ?_;refine Ab 73 (.slice (some ⟨g,(i+1)*1,none⟩) (l.length+1-(i+1)) (cap-(i+1))) rfl (congrArg (fun o=>Value.slice (some ⟨g,o,none⟩) (l.length+1-(i+1)) (cap-(i+1))) ((if_neg (by omega)).trans (Nat.zero_add _))) ?_
    refine Aa (Al ?_)
    refine wX ?_
    refine RS.cons ?_ (RS.nil)
    refine BK i tH rfl rfl rfl rfl rfl rfl rfl rfl (by omega) h ?_;refine Ab 76 (.slice (some ⟨g,i*1,none⟩) (l.length+1-i) (cap-i)) rfl (congrArg (fun o=>Value.slice (some ⟨g,o,none⟩) (l.length+1-i) (cap-i)) ((if_neg (by omega)).trans (Nat.zero_add _))) ?_
    refine Aa (Al ?_)
    refine wX ?_
    refine RS.cons ?_ (RS.nil)
    refine HA 1 (ys:=nS (l.take i)++([str (Ai l[i])]++(nS (l.drop i)++junk.drop 1))) Tryz.vec50 (m:=l.length-i) (cs:=nS (l.drop i)) rfl rfl rfl rfl rfl rfl rfl rfl rfl rfl (by rw[show l.length+1-(i+1)=l.length-i by omega];exact Nat.min_eq_right (by omega)) (by rw[dl,Nat.mul_one]) (fun W1 hp j u hu=>by rw[Addr.add_none];have:=(Ag.of_bx hp 1 rfl rfl).get _ u (K3 i (by omega) j hu);rw[Nat.zero_add] at this;exact this) (FO _) fit q3 ?_
    refine Aa (Al ?_)
    refine AJ rfl (by kernel_rfl) ?_
    exact AD () ⟨rfl,rfl,rfl,trivial⟩ [0,1] (by decide) rfl
   ·refine BK i tH rfl rfl rfl rfl rfl rfl rfl rfl (by omega) h ?_;refine Ab 76 (.slice (some ⟨g,i*1,none⟩) (l.length+1-i) (cap-i)) rfl (congrArg (fun o=>Value.slice (some ⟨g,o,none⟩) (l.length+1-i) (cap-i)) ((if_neg (by omega)).trans (Nat.zero_add _))) ?_
    refine Aa (Al ?_)
    refine wX ?_
    refine RS.cons ?_ (RS.nil)
    refine BK (i+1) tH rfl rfl rfl rfl rfl rfl rfl hi1 (by omega) h ?_;refine Ab 73 (.slice (some ⟨g,(i+1)*1,none⟩) (l.length+1-(i+1)) (cap-(i+1))) rfl (congrArg (fun o=>Value.slice (some ⟨g,o,none⟩) (l.length+1-(i+1)) (cap-(i+1))) ((if_neg (by omega)).trans (Nat.zero_add _))) ?_
    refine Aa (Al ?_)
    refine wX ?_
    refine RS.cons ?_ (RS.nil)
    refine HA 1 (ys:=nS (l.take i)++([str (Ai l[i])]++(nS (l.drop i)++junk.drop 1))) Tryz.vec50 (m:=l.length-i) (cs:=nS (l.drop i)) rfl rfl rfl rfl rfl rfl rfl rfl rfl rfl (by rw[show l.length+1-(i+1)=l.length-i by omega];exact Nat.min_eq_right (by omega)) (by rw[dl,Nat.mul_one]) (fun W1 hp j u hu=>by rw[Addr.add_none];have:=(Ag.of_bx hp 1 rfl rfl).get _ u (K3 i (by omega) j hu);rw[Nat.zero_add] at this;exact this) (FO _) fit q3 ?_
    refine Aa (Al ?_)
    refine AJ rfl (by kernel_rfl) ?_
    exact AD () ⟨rfl,rfl,rfl,trivial⟩ [0,1] (by decide) rfl
  intro _
  refine zE (zA (zB (wP rfl (wP rfl ?_))))
  refine BK i tH rfl rfl rfl rfl rfl rfl rfl rfl (by omega) h ?_
  refine Ab 80 (.slice (some ⟨g,i*1,none⟩) (l.length+1-i) (cap-i)) rfl (congrArg (fun o=>Value.slice (some ⟨g,o,none⟩) (l.length+1-i) (cap-i)) ((if_neg (by omega)).trans (Nat.zero_add _))) ?_
  refine wP rfl ?_
  refine HA 1 (ys:=nS (Eb l i a)++junk.drop 1) Tryz.vec50 (m:=1) (cs:=[str (Ai a)]) rfl rfl rfl rfl rfl rfl rfl rfl rfl rfl (Nat.min_eq_left (by omega)) rfl (fun W1 hp j u hu=>by rw[Addr.add_none];exact(hrs hp rfl).get j u hu) rfl (fit2) q4 ?_
  refine zC (zE (zA (zB (wP rfl (wP rfl (Aa (zE (zO (zP ?_)))))))))
  refine Af tH rfl (.tmp rfl) (g,cap,junk.drop 1) rfl ⟨by rw[CO,hll,Nat.mul_one],(fun h=>by cases h),fun _=>⟨h,hc2, ?_⟩⟩ fun W1 hp=>(hp.pick (l:=[AU (A3 W g),⟨g,37,nS (Eb l i a)++junk.drop 1,true,none⟩]) [0,1] (by decide) rfl).own
  rw[CO,hll,List.length_drop]
  show(l.length+1)+(junk.length-1)=cap*1
  omega
 refine key.mono ?_
 rintro e W' ⟨x,he,hx,hb,hn'⟩
 exact⟨x,he,hx,El hg rfl hb hn'⟩
theorem M1 (W:World) (gs cs:Nat) (a:Rat) (hs:Ag W gs 0 [str (Ai a)]):
  Aj Tryz.prog 203 #[.slice none 0 0, .int .i64 0, .slice (some ⟨gs,0,none⟩) 1 cs] W (fun V:Vec=>V.val 1) (fun V=>V.OK 1 1 (nS [a])∧V.p≠none) (fun V=>[V.bx 37 (nS [a])]):=by
 refine Ad (args:=[.slice none 0 0, .int .i64 0, .slice (some ⟨gs,0,none⟩) 1 cs]) Tryz.func203 rfl rfl rfl ?_
 refine zA (zB (wP rfl (Aa (zE (zA (zB (wP rfl ?_)))))))
 refine Ed ?_
 refine wP rfl ?_
 refine PU tH rfl rfl rfl rfl rfl rfl rfl ?_
 refine Aa (zE (zA (zB (wP rfl (wP rfl (wP rfl (Aa (zE (zA (zA (zB (wP rfl (wP rfl ?_)))))))))))))
 refine Aa (zE (zS rfl (zI (zE (zA (zB (wP rfl (wP rfl (wP rfl (Aa (zE (zA (zA ?_)))))))))))))
 refine zB (wP rfl (wP rfl (wP rfl (Aa (zE (zR rfl (zA (zB (wP rfl (wP rfl ?_))))))))))
 refine EA (V:=Vec.empty) (news:=[str (Ai a)]) (xs:=[]) 0 Tryz.vec50 rfl rfl rfl rfl rfl rfl rfl rfl rfl (Vec.OK.empty 1) rfl (fun W1 hp j u hu=>by rw[Addr.add_none];exact(hs.hp hp).get j u hu) (fun u hu=>by obtain rfl:=List.mem_singleton.1 hu;rfl) (by simp only[maxLen];omega) (by omega) ?_
 intro V' hV' hp'
 refine wP rfl (Aa (zE (zO (zP ?_))))
 exact Af tH rfl (.tmp rfl) V' rfl ⟨hV',fun e=>absurd (hp' e) (by decide)⟩ fun W1 hp=>Ae.of_hp (hp.pick (l:=[V'.bx 37 (nS [a])]) [0] (by decide) rfl)
-- BOXES 3
-- CODE2
def mrg (c:Bool) (l:List Rat) (a:Rat):List Rat:=if c=true then FS a l else l
theorem Tp {W0 W:World} {bxs:List Bx} (hp:Hp W0 bxs W) (k:Nat) {g:Nat} {l:List Rat} {junk:List Value} (hk:nth bxs k=some ⟨g,37,nS l++junk,true,none⟩):So W (some ⟨g,0,none⟩) l:=
 .inr ⟨g,0,rfl,fun i hi=>Dw hp k (A:=nS (l.take i)) (C:=nS (l.drop (i+1))++junk) hk (by rw[I2 hi];simp only[List.append_assoc]) (by rw[CO,List.length_take];omega)⟩
abbrev fnM (cf:Nat) (capt:List Value):Value:= .func (.func cf) #[] capt.toArray
theorem JM (W:World) (g cap:Nat) (junk:List Value) (l:List Rat) (a:Rat) (cf:Nat) (capt:List Value) (c:Bool) (hE:Bq Tryz.prog cf=true) (hn:l.length<1099511627776) (hV:(⟨some g,cap,junk⟩:Vec).OK 1 l.length (nS l))
  (hs:l.Pairwise (· < ·)) (hz: ∀x∈l,Sz2 x a) (hg:W.heap[g]? =some (.cells (nS l++junk).toArray 37 (0,0)))
  (hf: ∀W',Hq W W' g→(BJ W'∧AV W')∧Aj Tryz.prog cf ([str (Ai a)]++capt).toArray W' (fun _:Unit=> .bool c) (fun _=>True) (fun _=>[])):
  Calls Tryz.prog 136 #[.slice (some ⟨g,0,none⟩) l.length cap,str (Ai a),fnM cf capt] W fun e W'=> ∃x:Nat×Nat×List Value,e= .returned ((fun x:Nat×Nat×List Value=> .slice (some ⟨x.1,0,none⟩) (mrg c l a).length x.2.1) x)∧
   (fun x:Nat×Nat×List Value=>(⟨some x.1,x.2.1,x.2.2⟩:Vec).OK 1 (mrg c l a).length (nS (mrg c l a))) x∧HE W W' g ((fun x:Nat×Nat×List Value=>x.1) x) ((fun x:Nat×Nat×List Value=> .cells (nS (mrg c l a)++x.2.2).toArray 37 (0,0)) x):=by
 have key:Calls Tryz.prog 136 [.slice (some ⟨g,0,none⟩) l.length cap,str (Ai a),fnM cf capt].toArray W fun e W'=> ∃x,e= .returned ((fun x:Nat×Nat×List Value=> .slice (some ⟨x.1,0,none⟩) (mrg c l a).length x.2.1) x)∧
   (fun x:Nat×Nat×List Value=>(⟨some x.1,x.2.1,x.2.2⟩:Vec).OK 1 (mrg c l a).length (nS (mrg c l a))) x∧Below (AZ W).heap.size (AZ W) W'∧Ae (AZ W) W' ((fun x:Nat×Nat×List Value=>[AU (A3 W g),⟨x.1,37,nS (mrg c l a)++x.2.2,true,none⟩]) x):=by
  refine BM (X:=Nat×Nat×List Value) (val:=fun x=> .slice (some ⟨x.1,0,none⟩) (mrg c l a).length x.2.1) (Φ:=fun x=>(⟨some x.1,x.2.1,x.2.2⟩:Vec).OK 1 (mrg c l a).length (nS (mrg c l a))) (nb:=fun x=>[AU (A3 W g),⟨x.1,37,nS (mrg c l a)++x.2.2,true,none⟩]) (Hp.enterT (B:=⟨g,37,nS l++junk,true,none⟩) rfl hg) Tryz.func136 rfl rfl rfl ?_
  have hk: ∀ {W1:World},Hp (AZ W) [AU (A3 W g),⟨g,37,nS l++junk,true,none⟩] W1→Hq W W1 g:=fun hp=>Gm hg ⟨_,List.mem_cons_self ..⟩ hp
  refine zA (zB (wP rfl (Aa (zE (zA (zA (zB (wP rfl (wP rfl ?_)))))))))
  refine Ac (capt:=capt) rfl rfl rfl rfl rfl rfl hE (fun W1 hp=>(hf W1 (hk hp)).2) ?_
  cases c with
  |false=>
   have e:mrg false l a=l:=rfl
   refine wP rfl (Aa (zE (zR rfl (zA (zB (wP rfl (wP rfl (Aa (zE (zO (zP ?_)))))))))))
   exact Af tH rfl (.tmp rfl) (g,cap,junk) rfl hV fun W1 hp=>(hp.pick (l:=[AU (A3 W g),⟨g,37,nS l++junk,true,none⟩]) [0,1] (by decide) rfl).own
  |true=>
   have e:mrg true l a=FS a l:=rfl
   refine wP rfl (Aa (zE (zS rfl (zI (zE (zA (zB (wP rfl (wP rfl ?_)))))))))
   refine Ac rfl rfl rfl rfl rfl rfl (by kernel_rfl) (fun W1 hp=>HO (some ⟨g,0,none⟩) cap l a W1 (by omega) (Tp hp 1 rfl) hs hz (hf W1 (hk hp)).1.1 (hf W1 (hk hp)).1.2) ?_
   iterate 5 refine wP rfl ?_
   refine Aa (zE (zA (zA (zB (wP rfl (Aa (zE ?_)))))))
   refine Ak rfl (fun h=> ?_) (fun h=> ?_)
   ·have h:l[below a l]? =some a:=of_decide_eq_true h
    have e2:FS a l=l:=by rw[Ns hs,if_pos h]
    refine zA (zB (wP rfl (wP rfl (Aa (zE (zO (zP ?_)))))))
    rw[e,e2]
    exact Af tH rfl (.tmp rfl) (g,cap,junk) rfl hV fun W1 hp=>(hp.pick (l:=[AU (A3 W g),⟨g,37,nS l++junk,true,none⟩]) [0,1] (by decide) rfl).own
   ·have h: ¬l[below a l]? =some a:=of_decide_eq_false h
    have e2:FS a l=Eb l (below a l) a:=by rw[Ns hs,if_neg h]
    refine zI (zE (zA (zB (wP rfl (wP rfl (wP rfl ?_))))))
    refine A0 Tryz.hZ tH rfl rfl rfl rfl rfl rfl rfl rfl rfl rfl rfl fun bS=> ?_
    refine CE 1 (X:=Nat×Nat×List Value) (val:=fun x=> .slice (some ⟨x.1,0,none⟩) (l.length+1) x.2.1) (Φ:=fun x=>(⟨some x.1,x.2.1,x.2.2⟩:Vec).OK 1 (l.length+1) (nS (Eb l (below a l) a))) (L1:=[]) (L2:=[]) (B:=⟨g,37,nS l++junk,true,none⟩) (fun x=>⟨x.1,37,nS (Eb l (below a l) a)++x.2.2,true,none⟩) rfl rfl rfl rfl rfl rfl (by kernel_rfl) rfl rfl (fun _ _=>rfl) (fun W1 hp=> ?_) ?_
    ·have c1:=(hp.own.cell 1 _ rfl _ (List.mem_cons_self ..)).1
     have c2:=(hp.own.cell 2 _ rfl _ (List.mem_cons_self ..)).1
     have hne:=hp.own.apart 2 1 _ _ rfl rfl (by decide) _ (List.mem_cons_self ..) _ (List.mem_cons_self ..)
     exact Mq W1 g cap bS 1 (below a l) junk l a (IZ a l) hn hV c1 c2 hne
    rintro⟨g',cp,jk⟩ hx
    have hx:(⟨some g',cp,jk⟩:Vec).OK 1 (l.length+1) (nS (Eb l (below a l) a)):=hx
    refine wP rfl (Aa (zE (zO ?_)))
    have el:(Eb l (below a l) a).length=l.length+1:=Qq (IZ a l) a
    rw[e,e2]
    refine Af tH rfl (.tmp rfl) (g',cp,jk) (by show Value.slice (some ⟨g',0,none⟩) (l.length+1) cp= .slice (some ⟨g',0,none⟩) (Eb l (below a l) a).length cp;rw[el]) (by show(⟨some g',cp,jk⟩:Vec).OK 1 (Eb l (below a l) a).length _;rw[el];exact hx) fun W1 hp=>(hp.pick (l:=[AU (A3 W g),⟨g',37,nS (Eb l (below a l) a)++jk,true,none⟩]) [0,1] (by decide) rfl).own
 refine key.mono ?_
 rintro e W' ⟨x,he,hx,hb,hn'⟩
 exact⟨x,he,hx,El hg rfl hb hn'⟩
theorem Nz (W:World) (a:Rat) (cf:Nat) (capt:List Value) (c:Bool) (hE:Bq Tryz.prog cf=true) (hv:BJ W) (ht:AV W)
  (hf: ∀W',Below W.heap.size W W'→Aj Tryz.prog cf ([str (Ai a)]++capt).toArray W' (fun _:Unit=> .bool c) (fun _=>True) (fun _=>[])):
  Aj Tryz.prog 136 #[.slice none 0 0,str (Ai a),fnM cf capt] W (fun V:Vec=>V.val (mrg c [] a).length) (fun V=>V.OK 1 (mrg c [] a).length (nS (mrg c [] a))) (fun V=>[V.bx 37 (nS (mrg c [] a))]):=by
 refine Ad (args:=[.slice none 0 0,str (Ai a),fnM cf capt]) Tryz.func136 rfl rfl rfl ?_
 refine zA (zB (wP rfl (Aa (zE (zA (zA (zB (wP rfl (wP rfl ?_)))))))))
 refine Ac (capt:=capt) rfl rfl rfl rfl rfl rfl hE (fun W1 hp=>hf W1 hp.below) ?_
 cases c with
 |false=>
  refine wP rfl (Aa (zE (zR rfl (zA (zB (wP rfl ?_))))))
  refine Ed ?_
  refine wP rfl (Aa (zE (zO (zP ?_))))
  exact Af tH rfl (.tmp rfl) Vec.empty rfl (Vec.OK.empty 1) fun W1 hp=>Ae.of_hp (hp.pick (l:=[Vec.empty.bx 37 (nS [])]) [0] (by decide) rfl)
 |true=>
  refine wP rfl (Aa (zE (zS rfl (zI (zE (zA (zB (wP rfl (wP rfl ?_)))))))))
  refine Ac rfl rfl rfl rfl rfl rfl (by kernel_rfl) (fun W1 hp=>HO none 0 [] a W1 (by decide) (.inl rfl) List.Pairwise.nil (fun x hx=>by cases hx) (hv.hp hp) (ht.hp hp)) ?_
  iterate 5 refine wP rfl ?_
  refine Aa (zE (zA (zA (zB (wP rfl (Aa (zE (zS rfl (zI (zE (zA (zB (wP rfl (wP rfl (wP rfl ?_)))))))))))))))
  refine A0 Tryz.hZ tH rfl rfl rfl rfl rfl rfl rfl rfl rfl rfl rfl fun bS=> ?_
  refine Au (X:=Vec) rfl rfl rfl rfl rfl rfl (by kernel_rfl) (fun W1 hp=>M1 W1 bS 1 a (Ag.of_bx hp 0 rfl rfl)) ?_
  intro V hV
  refine wP rfl (Aa (zE (zO ?_)))
  exact Af tH rfl (.tmp rfl) V rfl hV.1 fun W1 hp=>Ae.of_hp (hp.pick (l:=[V.bx 37 (nS [a])]) [1] (by decide) rfl)
end
section
theorem IR {z d:Int} {k:Nat} (hd:d≠0) (h1:z.natAbs<10^k) (h2:d.natAbs<10^k):szQ ((z:Rat)/(d:Rat)) k:=by
 have h:=H9 z hd h1 h2
 rwa [H8 z hd,Rat.divInt_eq_div] at h
structure FrP.Pl (f:FrP):Prop where
 ok:f.OK
 sp: ∃a b:Int,f.sp=(a:Rat)/(b:Rat)∧0≤a∧a≤48∧1≤b∧b≤48
 st: ∃s:Int,f.st=(s:Rat)∧0≤s∧s≤65536
theorem WX {s t:Sd} (h:rgd s=true):(frO s t).Pl:=by
 obtain⟨hx,hy,hp,hr⟩:=EE h
 refine⟨W5 h, ?_,⟨s.plate,rfl,hp.1,hp.2⟩⟩
 show∃a b:Int,(if s.gable then(0:Rat) else nrm s.run s.rise)=_∧_
 cases hg:s.gable with
 |true=>exact⟨0,1,by rw[if_pos rfl];show(0:Rat)=0/1;grind,by omega,by omega,by omega,by omega⟩
 |false=>
  obtain⟨h1,h2⟩:=hr hg
  exact⟨s.run,s.rise,by rw[if_neg (by decide),H8 _ (by omega),Rat.divInt_eq_div],by omega,by omega,by omega,by omega⟩
theorem FrP.Pl.szp {f:FrP} (h:f.Pl):szQ f.sp 2:=by
 obtain⟨a,b,e,h1,h2,h3,h4⟩:=h.sp
 rw[e]
 exact IR (by omega) (by show _<100;omega) (by show _<100;omega)
theorem FrP.Pl.szt {f:FrP} (h:f.Pl):szQ f.st 5:=by
 obtain⟨s,e,h1,h2⟩:=h.st
 rw[e]
 exact Ft (by show _<100000;omega) (by decide)
theorem rc0 {z:Int}:(z:Rat)=0↔z=0:=⟨fun e=>by have h:=congrArg Rat.num e;rwa [Rat.num_intCast] at h,fun e=>by rw[e];rfl⟩
theorem NU {x y:Int} {A B:Nat} (hx:x.natAbs≤A) (hy:y.natAbs≤B):(x*y).natAbs≤A*B:=by rw[Int.natAbs_mul];exact Nat.mul_le_mul hx hy
theorem FrP.Pl.vel {f:FrP} (h:f.Pl): ∃c b s:Int,f.vel=(c:Rat)/(b:Rat)∧f.st=(s:Rat)∧c.natAbs≤48∧b.natAbs≤48∧1≤b∧s.natAbs≤65536:=by
 obtain⟨a,b,e,h1,h2,h3,h4⟩:=h.sp
 obtain⟨s,e2,h5,h6⟩:=h.st
 refine⟨f.hd*a,b,s, ?_,e2, ?_,by omega,h3,by omega⟩
 ·unfold FrP.vel
  rw[e,Rat.intCast_mul]
  grind
 ·rcases h.ok.hd with e|e<;>rw[e]<;>omega
theorem FrP.Pl.meet {f g:FrP} (hf:f.Pl) (hg:g.Pl) {t:Rat} (ht:t∈AY f g):szQ t 9:=by
 obtain⟨c,b,s,v1,s1,hc,hb,hb1,hs⟩:=hf.vel
 obtain⟨c',b',s',v2,s2,hc',hb',hb1',hs'⟩:=hg.vel
 obtain⟨G,hG⟩: ∃G:Int,G=g.pos-f.pos:=⟨_,rfl⟩
 have hGb:G.natAbs≤65536:=by
  have:=hf.ok.p0;have:=hf.ok.p1;have:=hg.ok.p0;have:=hg.ok.p1
  omega
 have hgap:Dk f g=(G:Rat):=by
  unfold Dk
  rw[hG,Rat.intCast_sub]
 have B0:(b:Rat)≠0:=fun e=>by have:=rc0.1 e;omega
 have B0':(b':Rat)≠0:=fun e=>by have:=rc0.1 e;omega
 have sc:=NU hs hc
 have sc':=NU hs' hc'
 have gb:=NU hGb hb
 have gb':=NU hGb hb'
 rcases SC.1 ht with h|h|⟨h0,h⟩|⟨h0,h⟩|⟨h0,h⟩<;>rw[h]
 ·exact hf.szt.mono (by decide)
 ·exact hg.szt.mono (by decide)
 ·have hc0:c≠0:=fun e=>h0 (by rw[v1,e];show(0:Rat)/_=0;grind)
  have C0:(c:Rat)≠0:=fun e=>hc0 (rc0.1 e)
  have e:f.st+Dk f g/f.vel=((s*c+G*b:Int):Rat)/(c:Rat):=by
   rw[v1,s1,hgap,Rat.intCast_add,Rat.intCast_mul,Rat.intCast_mul]
   grind
  rw[e]
  exact IR hc0 (by show _<1000000000;omega) (by show _<1000000000;omega)
 ·have hc0:c'≠0:=fun e=>h0 (by rw[v2,e];show(0:Rat)/_=0;grind)
  have C0:(c':Rat)≠0:=fun e=>hc0 (rc0.1 e)
  have e:g.st-Dk f g/g.vel=((s'*c'-G*b':Int):Rat)/(c':Rat):=by
   rw[v2,s2,hgap,Rat.intCast_sub,Rat.intCast_mul,Rat.intCast_mul]
   grind
  rw[e]
  exact IR hc0 (by show _<1000000000;omega) (by show _<1000000000;omega)
 ·obtain⟨D,hD⟩: ∃D:Int,D=c*b'-c'*b:=⟨_,rfl⟩
  have k1:=NU hc hb'
  have k2:=NU hc' hb
  have k3:=NU gb hb'
  have k4:=NU sc hb'
  have k5:=NU sc' hb
  have hDR:(D:Rat)=(c:Rat)*b'-(c':Rat)*b:=by rw[hD,Rat.intCast_sub,Rat.intCast_mul,Rat.intCast_mul]
  have hD0:D≠0:=fun e=>h0 (by
   rw[e] at hDR
   have hDR:(0:Rat)=(c:Rat)*b'-(c':Rat)*b:=hDR
   rw[v1,v2]
   grind)
  have D0:(D:Rat)≠0:=fun e=>hD0 (rc0.1 e)
  have e:(Dk f g+(f.vel*f.st-g.vel*g.st))/(f.vel-g.vel)=((G*b*b'+s*c*b'-s'*c'*b:Int):Rat)/(D:Rat):=by
   rw[v1,v2,s1,s2,hgap,Rat.intCast_sub,Rat.intCast_add]
   simp only[Rat.intCast_mul]
   have hne:(c:Rat)/b-(c':Rat)/b'≠0:=by
    intro e
    exact D0 (by rw[hDR];grind)
   grind
  rw[e]
  exact IR hD0 (by show _<1000000000;omega) (by show _<1000000000;omega)
theorem FrP.Pl.vz {f:FrP} (h:f.Pl):szQ f.vel 3:=h.ok.hdz.mul h.szp
theorem Uj {f g:FrP} (hf:f.Pl) (hg:g.Pl):Un f g:=by
 have zg:szQ (Dk f g) 11:=hg.ok.posz.sub hf.ok.posz
 have zm1:=hf.vz.mul hf.szt
 have zm2:=hg.vz.mul hg.szt
 have zs:=zm1.sub zm2
 have za:=zg.add zs
 have zw:=hf.vz.sub hg.vz
 exact⟨fun _=>sz2 zg hf.vz (by decide),fun h=>sz2 hf.szt (zg.div hf.vz (TY h)) (by decide),fun _=>sz2 zg hg.vz (by decide),fun h=>sz2 hg.szt (zg.div hg.vz (TY h)) (by decide),
  sz2 hf.vz hf.szt (by decide),sz2 hg.vz hg.szt (by decide),sz2 zm1 zm2 (by decide),sz2 zg zs (by decide),sz2 hf.vz hg.vz (by decide),fun _=>sz2 za zw (by decide)⟩
theorem H1 {rs:List (List Sd)} (h: ∀l∈rs, ∀s∈l,rgd s=true) {f:FrP} (hf:f∈Az rs):f.Pl:=by
 obtain⟨m,hm,rfl⟩:=List.getElem_of_mem hf
 rw[Dm] at hm
 obtain⟨r,i,hr,hi,hmr⟩:=RL hm
 have h1:=Sg hr hi
 rw[←hmr,List.getElem?_eq_getElem (by rw[Dm];exact hm)] at h1
 rw[Option.some.inj h1]
 exact WX (h _ (List.mem_of_getElem? (Bf hr)) _ (List.mem_of_getElem? (DY hi)))
theorem IU {f g:FrP} {t:Rat} (h:t∈eqL f g):t∈AY f g:=(VO.1 h).1
theorem Nq {rs:List (List Sd)} (h: ∀l∈rs, ∀s∈l,rgd s=true) {z:Rat} (hz:z∈Ez rs):szQ z 5:=by
 obtain⟨s,hs,rfl⟩:=List.mem_map.1 hz
 obtain⟨l,hl,hs⟩:=List.mem_flatten.1 (List.mem_filter.1 hs).1
 obtain⟨_,_,hp,_⟩:=EE (h l hl s hs)
 exact Ft (by show _<100000;omega) (by decide)
theorem Kv {rs:List (List Sd)} (h: ∀l∈rs, ∀s∈l,rgd s=true) {z:Rat} (hz:z∈Bk rs):szQ z 9:=by
 rcases Hn.1 hz with hz|⟨hz,_⟩
 ·exact(Nq h hz).mono (by decide)
 ·obtain⟨q,hq,hz⟩:=List.mem_flatMap.1 hz
  obtain⟨h1,h2,h3⟩:=NQ.1 hq
  exact(H1 h (Ie (F:=Az rs) (Nat.lt_trans h1 h2))).meet (H1 h (Ie h2)) (IU hz)
theorem SD {l:List Sd}: ∀k,k≤l.length→Bl l false k=true→ ∃s∈l,s.gable=false:=by
 intro k
 induction k with
 |zero=>intro _ h;cases h
 |succ k ih=>
  intro hk h
  by_cases e:(sd l k).gable=false
  ·exact⟨sd l k,List.mem_of_getElem? (DY (by omega)),e⟩
  ·refine ih (by omega) ?_
   have e:(sd l k).gable=true:=by simpa using e
   simpa[Bl,e] using h
theorem Ng {rs:List (List Sd)} (hc:chk rs=0):Ez rs≠[]:=by
 obtain⟨_,_,_,_,hj⟩:=DA hc
 have h2:=(Bool.and_eq_true_iff.1 hj).2
 have key: ∀k,k≤rs.length→Ba rs k=true→ ∃l∈rs, ∃s∈l,s.gable=false:=by
  intro k
  induction k with
  |zero=>intro _ h;cases h
  |succ k ih=>
   intro hk h
   cases hb:Ba rs k with
   |true=>exact ih (by omega) hb
   |false=>
    have h:Bl (rg rs k) (Ba rs k) (rg rs k).length=true:=h
    rw[hb] at h
    obtain⟨s,hs,e⟩:=SD _ (Nat.le_refl _) h
    exact⟨rg rs k,List.mem_of_getElem? (Bf (by omega)),s,hs,e⟩
 obtain⟨l,hl,s,hs,e⟩:=key rs.length (Nat.le_refl _) h2
 intro h0
 have:(s.plate:Rat)∈Ez rs:=List.mem_map.2 ⟨s,List.mem_filter.2 ⟨List.mem_flatten.2 ⟨l,hl,hs⟩,by rw[e];rfl⟩,rfl⟩
 rw[h0] at this
 cases this
def stT (rs:List (List Sd)) (i:Nat):List Rat:=Hh [] (((rs.flatten.take i).filter fun s=> !s.gable).map fun s=>(s.plate:Rat))
theorem NN (rs:List (List Sd)):stT rs rs.flatten.length=st0 rs:=by unfold stT st0 Ez;rw[List.take_length]
theorem Rj (rs:List (List Sd)) (i:Nat):(stT rs i).Pairwise (· < ·):=Dz _ _ List.Pairwise.nil
theorem To (c:Bool) (l:List Rat) (a:Rat):mrg c l a=Hh l (if c=true then[a] else[]):=by
 unfold mrg
 cases c<;>rfl
theorem UG {rs:List (List Sd)} {i:Nat} (hi:i<rs.flatten.length):stT rs (i+1)=mrg (!(sd rs.flatten i).gable) (stT rs i) ((sd rs.flatten i).plate:Rat):=by
 have e:rs.flatten.take (i+1)=rs.flatten.take i++[sd rs.flatten i]:=by rw[List.take_add_one,DY hi];rfl
 rw[To]
 unfold stT
 rw[e,List.filter_append,List.map_append,Mc]
 congr 1
 cases h:(sd rs.flatten i).gable<;>simp[h]
theorem VQ {rs:List (List Sd)} {i:Nat} {z:Rat} (h:z∈stT rs i):z∈Ez rs:=by
 unfold stT at h
 rw[EJ] at h
 rcases h with h|h
 ·cases h
 ·obtain⟨s,hs,rfl⟩:=List.mem_map.1 h
  obtain⟨h1,h2⟩:=List.mem_filter.1 hs
  exact List.mem_map.2 ⟨s,List.mem_filter.2 ⟨List.mem_of_mem_take h1,h2⟩,rfl⟩
theorem NK (rs:List (List Sd)) (i:Nat) (hi:i≤rs.flatten.length):(stT rs i).length≤i:=by
 have h1:=GX (((rs.flatten.take i).filter fun s=> !s.gable).map fun s=>(s.plate:Rat)) []
 rw[List.length_map] at h1
 have h2:=List.length_filter_le (fun s:Sd=> !s.gable) (rs.flatten.take i)
 rw[List.length_take] at h2
 have h1:(stT rs i).length≤([]:List Rat).length+_:=h1
 rw[List.length_nil] at h1
 omega
abbrev eqK (F:List FrP) (q:Nat×Nat):List Rat:=eqL (fr F q.1) (fr F q.2)
def lvT (rs:List (List Sd)) (k:Nat):List Rat:=Hh (st0 rs) ((((prs (Az rs)).take k).flatMap (eqK (Az rs))).filter fun z=>decide (base rs<z))
def lvU (rs:List (List Sd)) (k:Nat) (E:List Rat) (j:Nat):List Rat:=Hh (lvT rs k) ((E.take j).filter fun z=>decide (base rs<z))
theorem Se (rs:List (List Sd)):lvT rs (prs (Az rs)).length=Bk rs:=by unfold lvT Bk MW;rw[List.take_length]
theorem Uz {rs:List (List Sd)} {k:Nat} {E:List Rat} {j:Nat} (hj:j<E.length):lvU rs k E (j+1)=mrg (decide (base rs<E[j])) (lvU rs k E j) E[j]:=by
 rw[To]
 unfold lvU
 rw[List.take_add_one,List.getElem?_eq_getElem hj,Option.toList_some,List.filter_append,Mc]
 congr 1
 by_cases h:base rs<E[j]<;>simp[h]
theorem TU {rs:List (List Sd)} {k:Nat} (hk:k<(prs (Az rs)).length):lvT rs (k+1)=lvU rs k (eqK (Az rs) ((prs (Az rs)).getD k (0,0))) (eqK (Az rs) ((prs (Az rs)).getD k (0,0))).length:=by
 unfold lvT lvU lvT
 rw[List.take_length,List.take_add_one,List.getElem?_eq_getElem hk,Option.toList_some,List.flatMap_append,List.flatMap_cons,List.flatMap_nil,List.append_nil,List.filter_append,Mc,List.getD_eq_getElem?_getD,List.getElem?_eq_getElem hk]
 rfl
theorem QB (rs:List (List Sd)) (k:Nat) (E:List Rat) (j:Nat):(lvU rs k E j).Pairwise (· < ·):=Dz _ _ (Dz _ _ (Ii rs))
theorem VV {rs:List (List Sd)} {k:Nat} {z:Rat} (h:z∈lvT rs k):z∈Bk rs:=by
 unfold lvT at h
 rw[EJ] at h
 unfold Bk
 rw[EJ]
 refine h.imp id fun h=> ?_
 obtain⟨h1,h2⟩:=List.mem_filter.1 h
 obtain⟨q,hq,h1⟩:=List.mem_flatMap.1 h1
 exact List.mem_filter.2 ⟨List.mem_flatMap.2 ⟨q,List.mem_of_mem_take hq,h1⟩,h2⟩
theorem RM (f g:FrP):(eqL f g).length≤5:=by
 have h1:=Js (B9 (fl f g (AY f g).length))
 have h2:=Ju (fl f g (AY f g).length)
 have h3:=Qw f g (AY f g).length
 have heq:eqL f g=Be (B9 (fl f g (AY f g).length)):=by rw[eqL,fl,List.take_length]
 rw[heq]
 omega
theorem Nt (F:List FrP):(prs F).length≤F.length*F.length:=by
 have h1: ∀i,(LX F i).length≤F.length:=fun i=>by
  have: ∀l:List Nat,(l.flatMap (J9 F i)).length≤l.length:=fun l=>by
   induction l with
   |nil=>simp
   |cons a l ih=>
    rw[List.flatMap_cons,List.length_append,List.length_cons]
    have:(J9 F i a).length≤1:=by unfold J9;split<;>simp
    omega
  have h2:=this ((List.range F.length).drop (i+1))
  rw[List.length_drop,List.length_range] at h2
  unfold LX
  omega
 have h2: ∀l:List Nat,(l.flatMap (LX F)).length≤l.length*F.length:=fun l=>by
  induction l with
  |nil=>simp
  |cons a l ih=>
   rw[List.flatMap_cons,List.length_append,List.length_cons,Nat.succ_mul]
   have:=h1 a
   omega
 have h3:=h2 (List.range F.length)
 rw[List.length_range] at h3
 exact h3
theorem J5 (F:List FrP): ∀l:List (Nat×Nat),(l.flatMap (eqK F)).length≤l.length*5
 |[]=>by simp
 |q::l=>by
  have:=J5 F l
  have:(eqK F q).length≤5:=RM (fr F q.1) (fr F q.2)
  rw[List.flatMap_cons,List.length_append,List.length_cons]
  omega
theorem Qi {rs:List (List Sd)} (h:tot rs≤24):(Bk rs).length≤10000:=by
 have h1:=GX ((MW (Az rs)).filter fun z=>decide (base rs<z)) (st0 rs)
 have h2:=List.length_filter_le (fun z=>decide (base rs<z)) (MW (Az rs))
 have h3:=J5 (Az rs) (prs (Az rs))
 have h4:=Nt (Az rs)
 have h5:=NK rs _ (Nat.le_refl _)
 rw[NN,List.length_flatten] at h5
 have h5:(st0 rs).length≤tot rs:=h5
 rw[Dm] at h4
 have h6:tot rs*tot rs≤24*24:=Nat.mul_le_mul h h
 have h7:(MW (Az rs)).length≤(prs (Az rs)).length*5:=h3
 show(Hh (st0 rs) _).length≤_
 omega
theorem Vj {rs:List (List Sd)} (h:tot rs≤24) {k:Nat} {E:List Rat} {j:Nat} (hE:E.length≤5):(lvU rs k E j).length≤20000:=by
 have h1:=GX ((((prs (Az rs)).take k).flatMap (eqK (Az rs))).filter fun z=>decide (base rs<z)) (st0 rs)
 have h2:=List.length_filter_le (fun z=>decide (base rs<z)) (((prs (Az rs)).take k).flatMap (eqK (Az rs)))
 have h3:=J5 (Az rs) ((prs (Az rs)).take k)
 have h4:=Nt (Az rs)
 have h5:=NK rs _ (Nat.le_refl _)
 rw[NN,List.length_flatten] at h5
 have h5:(st0 rs).length≤tot rs:=h5
 rw[Dm] at h4
 rw[List.length_take] at h3
 have h6:tot rs*tot rs≤24*24:=Nat.mul_le_mul h h
 have h7:=GX ((E.take j).filter fun z=>decide (base rs<z)) (lvT rs k)
 have h8:=List.length_filter_le (fun z=>decide (base rs<z)) (E.take j)
 rw[List.length_take] at h8
 have h9:(lvT rs k).length≤(st0 rs).length+_:=h1
 show(Hh (lvT rs k) _).length≤_
 omega
end
section
open Go Go.RowKit Go.Am
set_option maxRecDepth 10000
-- BOXES 1
def sgI (a:Int):Int:=if a<0 then -1 else if a>0 then 1 else 0
theorem LK (a:Int):AX Tryz.prog 194 [.int .i64 a] (.int .i64 (sgI a)):=by
 intro W
 refine Ad Tryz.func194 rfl rfl rfl ?_
 refine zA (zB (wP rfl (Aa (zE (zA (zA (zB (wP rfl (wP rfl (Aa (zE ?_)))))))))))
 refine Ak rfl (fun h=> ?_) (fun h=> ?_)
 ·refine zA (zB (wP rfl (Aa (zE (zO (zP ?_))))))
  have h':a<0:=by simpa using h
  exact Af tH rfl (.tmp rfl) () (by unfold sgI;rw[if_pos h']) trivial fun W _=>Ae.nil _ _
 have h1: ¬a<0:=by simpa using h
 refine zI (zE (zA (zA (zB (wP rfl (wP rfl (Aa (zE ?_))))))))
 refine Ak rfl (fun h2=> ?_) (fun h2=> ?_)
 ·refine zA (zB (wP rfl (Aa (zE (zO (zP ?_))))))
  have h':a>0:=by simpa using h2
  exact Af tH rfl (.tmp rfl) () (by unfold sgI;rw[if_neg h1,if_pos h']) trivial fun W _=>Ae.nil _ _
 have h3: ¬a>0:=by simpa using h2
 refine zI (zE (zA (zB (wP rfl (Aa (zE (zO ?_)))))))
 exact Af tH rfl (.tmp rfl) () (by unfold sgI;rw[if_neg h1,if_neg h3]) trivial fun W _=>Ae.nil _ _
def JE (n a b:Int):Bool:=decide (n<a)||decide (n>b)
theorem I4 (n a b:Int):JE n a b= !btw n a b:=by
 unfold JE btw
 rw[Bool.eq_iff_iff]
 simp only[Bool.or_eq_true,Bool.not_eq_true',Bool.and_eq_false_iff,decide_eq_true_eq,decide_eq_false_iff_not]
 omega
theorem CF (n a b:Int):AX Tryz.prog 117 [.int .i64 n, .int .i64 a, .int .i64 b] (.bool (JE n a b)):=by
 intro W
 refine Ad Tryz.func117 rfl rfl rfl ?_
 refine zA (zB (wP rfl (Aa (zE (zA (zB (wP rfl (wP rfl (wP rfl (wP rfl ?_))))))))))
 refine AM 10 rfl (fun h10=> ?_) (fun h10=> ?_)
 ·refine Ah rfl rfl ?_
  iterate 2 refine Ah rfl rfl ?_
  refine wP rfl (wP rfl (Aa (zE (zO ?_))))
  exact Af tH rfl (.tmp rfl) () (by simp_all [JE]<;>(intros;omega)) trivial fun W _=>Ae.nil _ _
 ·refine wP rfl (wP rfl (wP rfl (wP rfl (wP rfl (Aa (zE (zO ?_)))))))
  exact Af tH rfl (.tmp rfl) () (by simp_all [JE]<;>(intros;omega)) trivial fun W _=>Ae.nil _ _
theorem Mr (s:Sd):AX Tryz.prog 46 [s.val] (.bool (rgd s)):=by
 intro W
 refine Ad Tryz.func46 rfl rfl rfl ?_
 refine zA (zB ?_)
 (refine A8 rfl rfl rfl rfl ?_;intro)
 refine wP rfl (Aa ?_)
 rename_i b1
 have no:(JE s.x 0 65536||JE s.y 0 65536||JE s.plate 0 65536||JE s.over 0 65536)=true→rgd s=false:=fun h=>by
  simp only[I4] at h
  unfold rgd
  rw[show(btw s.x 0 65536&&btw s.y 0 65536&&btw s.plate 0 65536&&btw s.over 0 65536)=false by
   rw[Bool.eq_false_iff];intro h2;simp_all,Bool.and_false]
 have yes:JE s.x 0 65536=false→JE s.y 0 65536=false→JE s.plate 0 65536=false→JE s.over 0 65536=false→rgd s=(if s.gable then s.rise==0&&s.run==0 else btw s.rise 1 48&&btw s.run 1 48):=fun h1 h2 h3 h4=>by
  rw[I4,Bool.not_eq_false'] at h1 h2 h3 h4
  unfold rgd
  rw[h1,h2,h3,h4];simp
 refine zE (zA (zA (zB (wP rfl (wB 0 rfl rfl rfl ?_)))))
 refine Ac rfl rfl rfl rfl rfl rfl (by kernel_rfl) (fun W _=>(CF ..)) ?_
 refine wP rfl ?_
 refine AM 6 rfl (fun h6=> ?_) (fun h6=> ?_)
 ·refine Ah rfl rfl ?_
  iterate 2 refine Ah rfl rfl ?_
  refine wP rfl (wP rfl ?_)
  iterate 3 refine Ah rfl rfl ?_
  refine wP rfl (wP rfl ?_)
  iterate 3 refine Ah rfl rfl ?_
  refine wP rfl (Aa (zE (zR rfl (zA (zB (wP rfl (Aa (zE (zO (zP ?_))))))))))
  exact Af tH rfl (.tmp rfl) () (by rw[no (by simp_all)]) trivial fun W _=>Ae.nil _ _
 ·refine wP rfl (wB 0 rfl rfl rfl ?_)
  refine Ac rfl rfl rfl rfl rfl rfl (by kernel_rfl) (fun W _=>(CF ..)) ?_
  refine wP rfl (wP rfl ?_)
  refine AM 11 rfl (fun h11=> ?_) (fun h11=> ?_)
  ·refine Ah rfl rfl ?_
   iterate 2 refine Ah rfl rfl ?_
   refine wP rfl (wP rfl ?_)
   iterate 3 refine Ah rfl rfl ?_
   refine wP rfl (Aa (zE (zR rfl (zA (zB (wP rfl (Aa (zE (zO (zP ?_))))))))))
   exact Af tH rfl (.tmp rfl) () (by rw[no (by simp_all)]) trivial fun W _=>Ae.nil _ _
  ·refine wP rfl (wB 0 rfl rfl rfl ?_)
   refine Ac rfl rfl rfl rfl rfl rfl (by kernel_rfl) (fun W _=>(CF ..)) ?_
   refine wP rfl (wP rfl ?_)
   refine AM 16 rfl (fun h16=> ?_) (fun h16=> ?_)
   ·refine Ah rfl rfl ?_
    iterate 2 refine Ah rfl rfl ?_
    refine wP rfl (Aa (zE (zR rfl (zA (zB (wP rfl (Aa (zE (zO (zP ?_))))))))))
    exact Af tH rfl (.tmp rfl) () (by rw[no (by simp_all)]) trivial fun W _=>Ae.nil _ _
   ·refine wP rfl (wB 0 rfl rfl rfl ?_)
    refine Ac rfl rfl rfl rfl rfl rfl (by kernel_rfl) (fun W _=>(CF ..)) ?_
    refine wP rfl (Aa (zE ?_))
    refine Ak rfl (fun h=> ?_) (fun h=> ?_)
    ·refine zA (zB (wP rfl (Aa (zE (zO (zP ?_))))))
     exact Af tH rfl (.tmp rfl) () (by rw[no (by simp_all)]) trivial fun W _=>Ae.nil _ _
    refine zI (zE (zA (zA (zB ?_))))
    have e:=yes (by simp_all) (by simp_all) (by simp_all) (by simp_all)
    refine wP rfl (wB 0 rfl rfl rfl (Aa (zE ?_)))
    refine Ak rfl (fun hg=> ?_) (fun hg=> ?_)
    ·refine zA (zB (wP rfl (wB 0 rfl rfl rfl (wP rfl (wP rfl ?_)))))
     refine AM 26 rfl (fun h26=> ?_) (fun h26=> ?_)
     ·refine wP rfl (wB 0 rfl rfl rfl (wP rfl (wP rfl (wP rfl (Aa (zE (zO (zP ?_))))))))
      exact Af tH rfl (.tmp rfl) () (by rw[e,hg];simp_all) trivial fun W _=>Ae.nil _ _
     ·refine Ah rfl rfl ?_
      iterate 2 refine Ah rfl rfl ?_
      refine wP rfl (wP rfl (Aa (zE (zO (zP ?_)))))
      exact Af tH rfl (.tmp rfl) () (by rw[e,hg];simp_all) trivial fun W _=>Ae.nil _ _
    ·refine zI (zE (zA (zB (wP rfl (wB 0 rfl rfl rfl ?_)))))
     refine Ac rfl rfl rfl rfl rfl rfl (by kernel_rfl) (fun W _=>(CF ..)) ?_
     refine wP rfl (wP rfl ?_)
     refine AM 35 rfl (fun h35=> ?_) (fun h35=> ?_)
     ·refine wP rfl (wB 0 rfl rfl rfl ?_)
      refine Ac rfl rfl rfl rfl rfl rfl (by kernel_rfl) (fun W _=>(CF ..)) ?_
      refine wP rfl (wP rfl (wP rfl (Aa (zE (zO ?_)))))
      exact Af tH rfl (.tmp rfl) () (by rw[e,hg];simp_all [I4]) trivial fun W _=>Ae.nil _ _
     ·refine Ah rfl rfl ?_
      iterate 3 refine Ah rfl rfl ?_
      refine wP rfl (wP rfl (Aa (zE (zO ?_))))
      exact Af tH rfl (.tmp rfl) () (by rw[e,hg];simp_all [I4]) trivial fun W _=>Ae.nil _ _
theorem FU (W:World) (p:Option Addr) (cap:Nat) (l:List Sd) (i:Nat) (hn:l.length<4611686018427387904) (hR:BT W p l) (hi:i<l.length):
  Aj Tryz.prog 193 #[slv p l.length cap, .int .i64 (i:Nat)] W (fun _:Unit=> .tuple #[.int .i64 (sd l (nxt l.length i)).x, .int .i64 (sd l (nxt l.length i)).y]) (fun _=>True) (fun _=>[]):=by
 obtain⟨b,off,rfl,hrow⟩:=hR.row hi
 have hi2:=Ee hi
 refine Ad (args:=[slv (some ⟨b,off,none⟩) l.length cap, .int .i64 (i:Nat)]) Tryz.func193 rfl rfl rfl ?_
 refine zA (zB (wP rfl (wP rfl (Aa (zE (zA (zB (wP rfl (wP rfl ?_)))))))))
 refine Ab 8 (.int .i64 ((i+1:Nat):Int)) rfl (congrArg (Value.int .i64) (show w64 ((i:Nat)+1)=((i+1:Nat):Int) by rw[An (by omega) (by omega)];omega)) ?_
 refine wP rfl (wP rfl ?_)
 refine F4 rfl rfl rfl rfl rfl (by omega) ?_
 refine Ab 11 (.int .i64 (nxt l.length i:Nat)) rfl (congrArg (Value.int .i64) (show Int.tmod ((i+1:Nat):Int) (l.length:Nat)=(nxt l.length i:Nat) from(Int.ofNat_tmod _ _).symm)) ?_
 refine wP rfl (Aa (zE (zA ?_)))
 refine zT Tryz.mixed (by kernel_rfl) ?_
 refine qP rfl (qP rfl ?_)
 refine qJ ?_
 refine qP rfl ?_
 refine Ap rfl rfl rfl rfl (fun W hp=>Ag.load 0 tH rfl ((fun W hp=>(hrow (nxt l.length i) hi2).hp hp) W hp) rfl) ?_
 refine qP rfl (qP rfl ?_)
 refine qJ ?_
 refine qP rfl ?_
 refine Ap rfl rfl rfl rfl (fun W hp=>Ag.load 1 tH rfl ((fun W hp=>(hrow (nxt l.length i) hi2).hp hp) W hp) rfl) ?_
 refine qP rfl (qP rfl (AE (Aa (zE (zO ?_)))))
 exact Ar tH rfl (.tmp rfl) (.tmp rfl) () rfl trivial fun W _=>Ae.nil _ _
def L9 (l:List Sd) (i:Nat):Int:=sgI (w64 ((sd l (nxt l.length i)).x-(sd l i).x))
def KC (l:List Sd) (i:Nat):Int:=sgI (w64 ((sd l (nxt l.length i)).y-(sd l i).y))
theorem Ex (W:World) (p:Option Addr) (cap:Nat) (l:List Sd) (i:Nat) (hn:l.length<4611686018427387904) (hR:BT W p l) (hi:i<l.length):
  Aj Tryz.prog 118 #[slv p l.length cap, .int .i64 (i:Nat)] W (fun _:Unit=> .tuple #[.int .i64 (L9 l i), .int .i64 (KC l i)]) (fun _=>True) (fun _=>[]):=by
 obtain⟨b,off,rfl,hrow⟩:=hR.row hi
 refine Ad (args:=[slv (some ⟨b,off,none⟩) l.length cap, .int .i64 (i:Nat)]) Tryz.func118 rfl rfl rfl ?_
 refine zA (zB (wP rfl (wP rfl (Aa (zE (zA (zB (wP rfl (wP rfl ?_)))))))))
 refine Ac rfl rfl rfl rfl rfl rfl (by kernel_rfl) (fun W hp=>FU W _ cap l i hn (hR.hp hp) hi) ?_
 iterate 5 refine wP rfl ?_
 refine Aa (zE (zA ?_))
 refine zT Tryz.mixed (by kernel_rfl) ?_
 refine qP rfl (qP rfl (qP rfl ?_))
 refine qJ ?_
 refine qP rfl ?_
 refine Ap rfl rfl rfl rfl (fun W hp=>Ag.load 0 tH rfl ((fun W hp=>(hrow i hi).hp hp) W hp) rfl) ?_
 refine qP rfl ?_
 refine A9 rfl rfl rfl rfl rfl rfl (by kernel_rfl) (fun W _=>(LK ..)) ?_
 refine qP rfl (qP rfl (qP rfl ?_))
 refine qJ ?_
 refine qP rfl ?_
 refine Ap rfl rfl rfl rfl (fun W hp=>Ag.load 1 tH rfl ((fun W hp=>(hrow i hi).hp hp) W hp) rfl) ?_
 refine qP rfl ?_
 refine A9 rfl rfl rfl rfl rfl rfl (by kernel_rfl) (fun W _=>(LK ..)) ?_
 refine qP rfl (qP rfl (AE (Aa (zE (zO ?_)))))
 exact Ar tH rfl (.tmp rfl) (.tmp rfl) () rfl trivial fun W _=>Ae.nil _ _
def Jn (l:List Sd) (i:Nat):Int:=w64 (w64 (L9 l (prv l.length i)*KC l i)-w64 (KC l (prv l.length i)*L9 l i))
theorem LF (W:World) (p:Option Addr) (cap:Nat) (l:List Sd) (i:Nat) (hn:l.length<4611686018427387904) (hR:BT W p l) (hi:i<l.length):
  Aj Tryz.prog 119 #[slv p l.length cap, .int .i64 (i:Nat)] W (fun _:Unit=> .int .i64 (Jn l i)) (fun _=>True) (fun _=>[]):=by
 have hi2:=FC hi
 refine Ad (args:=[slv p l.length cap, .int .i64 (i:Nat)]) Tryz.func119 rfl rfl rfl ?_
 refine zA (zB (wP rfl (Aa (zE (zA (zB ?_))))))
 iterate 6 refine wP rfl ?_
 refine Ab 15 (.int .i64 ((i+l.length-1:Nat):Int)) rfl (congrArg (Value.int .i64) (show w64 (w64 ((i:Nat)+(l.length:Nat))-1)=((i+l.length-1:Nat):Int) by rw[An (x:=(i:Nat)+(l.length:Nat)) (by omega) (by omega),An (by omega) (by omega)];omega)) ?_
 refine wP rfl (wP rfl ?_)
 refine F4 rfl rfl rfl rfl rfl (by omega) ?_
 refine Ab 18 (.int .i64 (prv l.length i:Nat)) rfl (congrArg (Value.int .i64) (show Int.tmod ((i+l.length-1:Nat):Int) (l.length:Nat)=(prv l.length i:Nat) from(Int.ofNat_tmod _ _).symm)) ?_
 refine Ac rfl rfl rfl rfl rfl rfl (by kernel_rfl) (fun W hp=>Ex W _ cap l (prv l.length i) hn (hR.hp hp) hi2) ?_
 iterate 5 refine wP rfl ?_
 refine Aa (zE (zA (zB (wP rfl (wP rfl ?_)))))
 refine Ac rfl rfl rfl rfl rfl rfl (by kernel_rfl) (fun W hp=>Ex W _ cap l i hn (hR.hp hp) hi) ?_
 iterate 5 refine wP rfl ?_
 refine Aa (zE (zA (zB ?_)))
 iterate 8 refine wP rfl ?_
 refine Aa (zE (zO ?_))
 exact Af tH rfl (.tmp rfl) () rfl trivial fun W _=>Ae.nil _ _
def twR (l:List Sd):Nat→Int
 |0=>0
 |k+1=>w64 (w64 (twR l k+w64 ((sd l k).x*(sd l (nxt l.length k)).y))-w64 ((sd l (nxt l.length k)).x*(sd l k).y))
theorem Ke (W:World) (p:Option Addr) (cap:Nat) (l:List Sd) (hn:l.length<4611686018427387904) (hR:BT W p l):
  Aj Tryz.prog 121 #[slv p l.length cap] W (fun _:Unit=> .int .i64 (twR l l.length)) (fun _=>True) (fun _=>[]):=by
 refine Ad (args:=[slv p l.length cap]) Tryz.func121 rfl rfl rfl ?_
 refine zA (zB (wP rfl (Aa (zE (zA (zB (wP rfl (Aa (zE (zA (zA (zB (wP rfl ?_)))))))))))))
 refine Aa (zE (zH ?_))
 refine Av (X:=Nat) (fun k=>[(0,slv p l.length cap),(3, .int .i64 (twR l k)),(4, .int .i64 (k:Nat))]) (fun _=>[]) (fun k=>k≤l.length) (fun k=>l.length-k) 0 (Nat.zero_le _) ⟨rfl,rfl,rfl,trivial⟩ [] rfl ?_
 intro k hk
 refine zA (zA (zB (wP rfl (wP rfl (wP rfl (wP rfl (Aa (zE ?_))))))))
 refine Ak rfl (fun h=> ?_) (fun h=> ?_)
 rotate_left
 ·have e:k=l.length:=by simp at h;omega
  subst e
  refine zJ (zK (zK (zL (zE (zA (zB (wP rfl (wP rfl (Aa (zE (zO ?_)))))))))))
  exact Af tH rfl (.tmp rfl) () rfl trivial fun W _=>Ae.nil _ _
 have hk:k<l.length:=by simp at h;omega
 clear h
 obtain⟨b,off,rfl,hrow⟩:=hR.row hk
 refine zI (zE (zA (zH (zA (zB (wP rfl (wP rfl ?_)))))))
 refine Ac rfl rfl rfl rfl rfl rfl (by kernel_rfl) (fun W hp=>FU W _ cap l k hn (hR.hp hp) hk) ?_
 iterate 5 refine wP rfl ?_
 refine Aa (zE ?_)
 refine zT Tryz.mixed (by kernel_rfl) ?_
 refine qP rfl (qP rfl (qP rfl ?_))
 refine qJ ?_
 refine qP rfl ?_
 refine Ap rfl rfl rfl rfl (fun W hp=>Ag.load 0 tH rfl ((fun W hp=>(hrow k hk).hp hp) W hp) rfl) ?_
 iterate 6 refine qP rfl ?_
 refine qJ ?_
 refine qP rfl ?_
 refine Ap rfl rfl rfl rfl (fun W hp=>Ag.load 1 tH rfl ((fun W hp=>(hrow k hk).hp hp) W hp) rfl) ?_
 refine qP rfl (qP rfl (qP rfl (AE (Aa (zN (zE (zB (wP rfl (wP rfl (wP rfl (Aa ?_)))))))))))
 exact As (k+1) hk (by omega) ⟨rfl,rfl,congrArg (fun z=>some (Value.int .i64 z)) (AI (x:=(k:Int)+1) (by omega) (by omega)),trivial⟩ [] rfl
-- BOXES 1
def axR (l:List Sd) (i:Nat):Bool:=w64 (w64 (L9 l i*L9 l i)+w64 (KC l i*KC l i))==1
def okR (l:List Sd) (i:Nat):Bool:=axR l i&& !(Jn l i==0)
def Im (l:List Sd):Bool:=(List.range l.length).all (okR l)&&decide (l.length≥4)
theorem LD {l:List Sd} {k:Nat} (hk:k<l.length) (h:okR l k=false):Im l=false:=by
 unfold Im
 rw[BF hk h];rfl
theorem M2 (W:World) (p:Option Addr) (cap:Nat) (l:List Sd) (hn:l.length<4611686018427387904) (hR:BT W p l):
  Aj Tryz.prog 47 #[slv p l.length cap] W (fun _:Unit=> .bool (Im l)) (fun _=>True) (fun _=>[]):=by
 refine Ad (args:=[slv p l.length cap]) Tryz.func47 rfl rfl rfl ?_
 refine zA (zB (wP rfl (Aa (zE (zA (zA (zB (wP rfl (Aa (zE (zH ?_)))))))))))
 refine Av (X:=Nat) (fun k=>[(0,slv p l.length cap),(3, .int .i64 (k:Nat))]) (fun _=>[]) (fun k=>k≤l.length∧ ∀i,i<k→okR l i=true) (fun k=>l.length-k) 0 ⟨Nat.zero_le _,fun i hi=>absurd hi (Nat.not_lt_zero _)⟩ ⟨rfl,rfl,trivial⟩ [] rfl ?_
 rintro k ⟨hk,hok⟩
 refine zA (zA (zB (wP rfl (wP rfl (wP rfl (wP rfl (Aa (zE ?_))))))))
 refine Ak rfl (fun h=> ?_) (fun h=> ?_)
 rotate_left
 ·have e:k=l.length:=by simp at h;omega
  subst e
  refine zJ (zK (zK (zL (zE (zA (zB (wP rfl (wP rfl (wP rfl (wP rfl (Aa (zE (zO ?_)))))))))))))
  have hall:(List.range l.length).all (okR l)=true:=List.all_eq_true.2 fun i hi=>hok i (List.mem_range.1 hi)
  have e:Im l=decide ((l.length:Int)≥4):=by
   unfold Im
   rw[hall,Bool.true_and]
   by_cases h4:l.length≥4
   ·rw[decide_eq_true h4,decide_eq_true (by omega)]
   ·rw[decide_eq_false h4,decide_eq_false (by omega)]
  exact Af tH rfl (.tmp rfl) () (by rw[e]) trivial fun W _=>Ae.nil _ _
 have hk:k<l.length:=by simp at h;omega
 clear h
 refine zI (zE (zA (zH (zA (zB (wP rfl (wP rfl ?_)))))))
 refine Ac rfl rfl rfl rfl rfl rfl (by kernel_rfl) (fun W hp=>Ex W _ cap l k hn (hR.hp hp) hk) ?_
 iterate 5 refine wP rfl ?_
 refine Aa (zE (zA (zB ?_)))
 iterate 9 refine wP rfl ?_
 refine AM 26 rfl (fun h26=> ?_) (fun h26=> ?_)
 ·refine Ah rfl rfl ?_
  iterate 3 refine Ah rfl rfl ?_
  refine wP rfl (Aa (zE (zR rfl (zA (zB (wP rfl (Aa (zE (zO (zQ (zP (zP (zQ ?_)))))))))))))
  refine zP ?_
  have h':(w64 (w64 (L9 l k*L9 l k)+w64 (KC l k*KC l k)) !=1)=true:=h26
  have hf:okR l k=false:=by unfold okR axR;rw[bne_iff_ne] at h';rw[beq_eq_false_iff_ne.2 h'];rfl
  exact Af tH rfl (.tmp rfl) () (by rw[LD hk hf]) trivial fun W _=>Ae.nil _ _
 ·refine wP rfl (wP rfl ?_)
  refine Ac rfl rfl rfl rfl rfl rfl (by kernel_rfl) (fun W hp=>LF W _ cap l k hn (hR.hp hp) hk) ?_
  refine wP rfl (wP rfl (Aa ?_))
  have h':(w64 (w64 (L9 l k*L9 l k)+w64 (KC l k*KC l k)) !=1)=false:=h26
  have ha:axR l k=true:=by unfold axR;rw[bne_eq_false_iff_eq] at h';rw[beq_iff_eq];exact h'
  refine zE ?_
  refine Ak rfl (fun h=> ?_) (fun h=> ?_)
  ·refine zA (zB (wP rfl (Aa (zE (zO (zQ (zP (zP (zQ (zP ?_))))))))))
   have hf:okR l k=false:=by unfold okR;rw[show(Jn l k==0)=true from h,Bool.not_true,Bool.and_false]
   exact Af tH rfl (.tmp rfl) () (by rw[LD hk hf]) trivial fun W _=>Ae.nil _ _
  ·have hf:okR l k=true:=by unfold okR;rw[ha,show(Jn l k==0)=false from h];rfl
   refine zI (zN (zE (zB (wP rfl (wP rfl (wP rfl (Aa ?_)))))))
   refine As (k+1) ⟨hk,fun i hi=> ?_⟩ (by omega) ⟨rfl,congrArg (fun z=>some (Value.int .i64 z)) (AI (x:=(k:Int)+1) (by omega) (by omega)),trivial⟩ [] rfl
   by_cases e:i=k
   ·subst e;exact hf
   ·exact hok i (by omega)
theorem He (W:World) (p q:Option Addr) (cap caq:Nat) (l m:List Sd) (i k:Nat) (hn:l.length<4611686018427387904) (hm:m.length<4611686018427387904) (hR:BT W p l) (hS:BT W q m) (hi:i<l.length) (hk:k<m.length):
  Aj Tryz.prog 120 #[slv p l.length cap, .int .i64 (i:Nat),slv q m.length caq, .int .i64 (k:Nat)] W (fun _:Unit=> .bool (DT (sd l i) (sd l (nxt l.length i)) (sd m k) (sd m (nxt m.length k)))) (fun _=>True) (fun _=>[]):=by
 obtain⟨b,off,rfl,hrow⟩:=hR.row hi
 obtain⟨b',off',rfl,hrow'⟩:=hS.row hk
 refine Ad (args:=[slv (some ⟨b,off,none⟩) l.length cap, .int .i64 (i:Nat),slv (some ⟨b',off',none⟩) m.length caq, .int .i64 (k:Nat)]) Tryz.func120 rfl rfl rfl ?_
 refine zA (zB (wP rfl (Aa (zE (zA (zB (wP rfl (wP rfl ?_))))))))
 refine Ac rfl rfl rfl rfl rfl rfl (by kernel_rfl) (fun W hp=>FU W _ cap l i hn (hR.hp hp) hi) ?_
 iterate 5 refine wP rfl ?_
 refine Aa (zE (zA (zB (wP rfl (wP rfl ?_)))))
 refine Ac rfl rfl rfl rfl rfl rfl (by kernel_rfl) (fun W hp=>FU W _ caq m k hm (hS.hp hp) hk) ?_
 iterate 5 refine wP rfl ?_
 refine Aa ?_
 obtain⟨B1,e1⟩: ∃b,decide (lox (sd l i) (sd l (nxt l.length i))≤hix (sd m k) (sd m (nxt m.length k)))=b:=⟨_,rfl⟩
 obtain⟨B2,e2⟩: ∃b,decide (lox (sd m k) (sd m (nxt m.length k))≤hix (sd l i) (sd l (nxt l.length i)))=b:=⟨_,rfl⟩
 obtain⟨B3,e3⟩: ∃b,decide (loy (sd l i) (sd l (nxt l.length i))≤hiy (sd m k) (sd m (nxt m.length k)))=b:=⟨_,rfl⟩
 obtain⟨B4,e4⟩: ∃b,decide (loy (sd m k) (sd m (nxt m.length k))≤hiy (sd l i) (sd l (nxt l.length i)))=b:=⟨_,rfl⟩
 have hM:DT (sd l i) (sd l (nxt l.length i)) (sd m k) (sd m (nxt m.length k))=(B1&&B2&&B3&&B4):=by unfold DT;rw[e1,e2,e3,e4]
 refine zE (zA ?_)
 refine zT Tryz.mixed (by kernel_rfl) ?_
 refine qP rfl (qP rfl ?_)
 refine qJ ?_
 refine qP rfl ?_
 refine Ap rfl rfl rfl rfl (fun W hp=>Ag.load 0 tH rfl ((fun W hp=>(hrow i hi).hp hp) W hp) rfl) ?_
 refine qP rfl (qP rfl (qP rfl (qP rfl ?_)))
 refine qJ ?_
 refine qP rfl ?_
 refine Ap rfl rfl rfl rfl (fun W hp=>Ag.load 0 tH rfl ((fun W hp=>(hrow' k hk).hp hp) W hp) rfl) ?_
 refine qP rfl (qP rfl (qP rfl (qP rfl ?_)))
 refine G4 40 rfl (fun h40=> ?_) (fun h40=> ?_)
 ·refine qP rfl (qP rfl ?_)
  refine qJ ?_
  refine qP rfl ?_
  refine Ap rfl rfl rfl rfl (fun W hp=>Ag.load 0 tH rfl ((fun W hp=>(hrow' k hk).hp hp) W hp) rfl) ?_
  refine qP rfl (qP rfl (qP rfl (qP rfl ?_)))
  refine qJ ?_
  refine qP rfl ?_
  refine Ap rfl rfl rfl rfl (fun W hp=>Ag.load 0 tH rfl ((fun W hp=>(hrow i hi).hp hp) W hp) rfl) ?_
  iterate 5 refine qP rfl ?_
  refine G4 57 rfl (fun h57=> ?_) (fun h57=> ?_)
  ·refine qP rfl (qP rfl ?_)
   refine qJ ?_
   refine qP rfl ?_
   refine Ap rfl rfl rfl rfl (fun W hp=>Ag.load 1 tH rfl ((fun W hp=>(hrow i hi).hp hp) W hp) rfl) ?_
   refine qP rfl (qP rfl (qP rfl (qP rfl ?_)))
   refine qJ ?_
   refine qP rfl ?_
   refine Ap rfl rfl rfl rfl (fun W hp=>Ag.load 1 tH rfl ((fun W hp=>(hrow' k hk).hp hp) W hp) rfl) ?_
   iterate 5 refine qP rfl ?_
   refine G4 74 rfl (fun h74=> ?_) (fun h74=> ?_)
   ·refine qP rfl (qP rfl ?_)
    refine qJ ?_
    refine qP rfl ?_
    refine Ap rfl rfl rfl rfl (fun W hp=>Ag.load 1 tH rfl ((fun W hp=>(hrow' k hk).hp hp) W hp) rfl) ?_
    refine qP rfl (qP rfl (qP rfl (qP rfl ?_)))
    refine qJ ?_
    refine qP rfl ?_
    refine Ap rfl rfl rfl rfl (fun W hp=>Ag.load 1 tH rfl ((fun W hp=>(hrow i hi).hp hp) W hp) rfl) ?_
    iterate 5 refine qP rfl ?_
    refine AE (Aa (zE (zO ?_)))
    exact Af tH rfl (.tmp rfl) () (by rw[hM,show B1=true from e1.symm.trans h40,show B2=true from e2.symm.trans h57,show B3=true from e3.symm.trans h74];exact congrArg Value.bool e4) trivial fun W _=>Ae.nil _ _
   ·refine BC rfl rfl ?_
    iterate 14 refine BC rfl rfl ?_
    refine qP rfl (qP rfl (AE (Aa (zE (zO ?_)))))
    have e:(B1&&B2&&B3&&B4)=false:=by first|(rw[show B1=false from e1.symm.trans h40];rfl)|(rw[show B2=false from e2.symm.trans h57];cases B1<;>rfl)|(rw[show B3=false from e3.symm.trans h74];cases B1<;>cases B2<;>rfl)
    exact Af tH rfl (.tmp rfl) () (by rw[hM,e]) trivial fun W _=>Ae.nil _ _
  ·refine BC rfl rfl ?_
   iterate 14 refine BC rfl rfl ?_
   refine qP rfl (qP rfl ?_)
   iterate 15 refine BC rfl rfl ?_
   refine qP rfl (qP rfl (AE (Aa (zE (zO ?_)))))
   have e:(B1&&B2&&B3&&B4)=false:=by first|(rw[show B1=false from e1.symm.trans h40];rfl)|(rw[show B2=false from e2.symm.trans h57];cases B1<;>rfl)|(rw[show B3=false from e3.symm.trans h74];cases B1<;>cases B2<;>rfl)
   exact Af tH rfl (.tmp rfl) () (by rw[hM,e]) trivial fun W _=>Ae.nil _ _
 ·refine BC rfl rfl ?_
  iterate 14 refine BC rfl rfl ?_
  refine qP rfl (qP rfl ?_)
  iterate 15 refine BC rfl rfl ?_
  refine qP rfl (qP rfl ?_)
  iterate 15 refine BC rfl rfl ?_
  refine qP rfl (qP rfl (AE (Aa (zE (zO ?_)))))
  have e:(B1&&B2&&B3&&B4)=false:=by first|(rw[show B1=false from e1.symm.trans h40];rfl)|(rw[show B2=false from e2.symm.trans h57];cases B1<;>rfl)|(rw[show B3=false from e3.symm.trans h74];cases B1<;>cases B2<;>rfl)
  exact Af tH rfl (.tmp rfl) () (by rw[hM,e]) trivial fun W _=>Ae.nil _ _
def Kc (t u:Sd) (px py:Int):Bool:=(t.x==u.x)&&decide (u.x>px)&&decide (loy t u≤py)&&decide (py<hiy t u)
def FX (l:List Sd) (px py:Int):Nat→Bool
 |0=>false
 |k+1=>if Kc (sd l k) (sd l (nxt l.length k)) px py=true then !FX l px py k else FX l px py k
theorem Mu (W:World) (p:Option Addr) (cap:Nat) (l:List Sd) (px py:Int) (hn:l.length<4611686018427387904) (hR:BT W p l):
  Aj Tryz.prog 122 #[slv p l.length cap, .int .i64 px, .int .i64 py] W (fun _:Unit=> .bool (FX l px py l.length)) (fun _=>True) (fun _=>[]):=by
 refine Ad (args:=[slv p l.length cap, .int .i64 px, .int .i64 py]) Tryz.func122 rfl rfl rfl ?_
 refine zA (zB (wP rfl (Aa (zE (zA (zB (wP rfl (Aa (zE (zA (zA (zB (wP rfl ?_)))))))))))))
 refine Aa (zE (zH ?_))
 refine Av (X:=Nat) (fun k=>[(0,slv p l.length cap),(1, .int .i64 px),(2, .int .i64 py),(7, .bool (FX l px py k)),(8, .int .i64 (k:Nat))]) (fun _=>[]) (fun k=>k≤l.length) (fun k=>l.length-k) 0 (Nat.zero_le _) ⟨rfl,rfl,rfl,rfl,rfl,trivial⟩ [] rfl ?_
 intro k hk
 refine zA (zA (zB (wP rfl (wP rfl (wP rfl (wP rfl (Aa (zE ?_))))))))
 refine Ak rfl (fun h=> ?_) (fun h=> ?_)
 rotate_left
 ·have e:k=l.length:=by simp at h;omega
  subst e
  refine zJ (zK (zK (zL (zE (zA (zB (wP rfl (wP rfl (Aa (zE (zO ?_)))))))))))
  exact Af tH rfl (.tmp rfl) () rfl trivial fun W _=>Ae.nil _ _
 have hk:k<l.length:=by simp at h;omega
 clear h
 obtain⟨b,off,rfl,hrow⟩:=hR.row hk
 refine zI (zE (zA (zH (zA (zB (wP rfl (wP rfl ?_)))))))
 refine Ac rfl rfl rfl rfl rfl rfl (by kernel_rfl) (fun W hp=>FU W _ cap l k hn (hR.hp hp) hk) ?_
 iterate 5 refine wP rfl ?_
 refine Aa ?_
 obtain⟨B1,e1⟩: ∃b,((sd l k).x==(sd l (nxt l.length k)).x)=b:=⟨_,rfl⟩
 obtain⟨B2,e2⟩: ∃b,decide ((sd l (nxt l.length k)).x>px)=b:=⟨_,rfl⟩
 obtain⟨B3,e3⟩: ∃b,decide (loy (sd l k) (sd l (nxt l.length k))≤py)=b:=⟨_,rfl⟩
 obtain⟨B4,e4⟩: ∃b,decide (py<hiy (sd l k) (sd l (nxt l.length k)))=b:=⟨_,rfl⟩
 have hM:Kc (sd l k) (sd l (nxt l.length k)) px py=(B1&&B2&&B3&&B4):=by unfold Kc;rw[e1,e2,e3,e4]
 have no:(B1&&B2&&B3&&B4)=false→FX l px py (k+1)=FX l px py k:=fun h=>by
  show(if Kc (sd l k) (sd l (nxt l.length k)) px py=true then !FX l px py k else FX l px py k)=_
  rw[hM,h,if_neg (by decide)]
 have yes:(B1&&B2&&B3&&B4)=true→FX l px py (k+1)= !FX l px py k:=fun h=>by
  show(if Kc (sd l k) (sd l (nxt l.length k)) px py=true then !FX l px py k else FX l px py k)=_
  rw[hM,h,if_pos rfl]
 refine zE (zA (zB (wP rfl (wP rfl ?_))))
 refine wJ ?_
 refine wP rfl ?_
 refine Aw rfl rfl rfl rfl (fun W hp=>Ag.load 0 tH rfl ((fun W hp=>(hrow k hk).hp hp) W hp) rfl) ?_
 refine wP rfl (wP rfl (wP rfl ?_))
 refine AM 30 rfl (fun h30=> ?_) (fun h30=> ?_)
 ·refine wP rfl (wP rfl (wP rfl (wP rfl (wP rfl ?_))))
  refine AM 35 rfl (fun h35=> ?_) (fun h35=> ?_)
  ·refine wP rfl (wP rfl ?_)
   refine wJ ?_
   refine wP rfl ?_
   refine Aw rfl rfl rfl rfl (fun W hp=>Ag.load 1 tH rfl ((fun W hp=>(hrow k hk).hp hp) W hp) rfl) ?_
   iterate 6 refine wP rfl ?_
   refine AM 46 rfl (fun h46=> ?_) (fun h46=> ?_)
   ·refine wP rfl (wP rfl (wP rfl ?_))
    refine wJ ?_
    refine wP rfl ?_
    refine Aw rfl rfl rfl rfl (fun W hp=>Ag.load 1 tH rfl ((fun W hp=>(hrow k hk).hp hp) W hp) rfl) ?_
    refine wP rfl (wP rfl (wP rfl (wP rfl (Aa ?_))))
    have e:(B1&&B2&&B3&&B4)=B4:=by rw[show B1=true from e1.symm.trans h30,show B2=true from e2.symm.trans h35,show B3=true from e3.symm.trans h46];rfl
    refine zE ?_
    refine Ak rfl (fun h=> ?_) (fun h=> ?_)
    ·have e5:(B1&&B2&&B3&&B4)=true:=e.trans (e4.symm.trans h)
     refine zB (wP rfl (wP rfl (wP rfl (Aa (zN (zE (zB (wP rfl (wP rfl (wP rfl (Aa ?_)))))))))))
     exact As (k+1) hk (by omega) ⟨rfl,rfl,rfl,congrArg (fun z=>some (Value.bool z)) (yes e5).symm,congrArg (fun z=>some (Value.int .i64 z)) (AI (x:=(k:Int)+1) (by omega) (by omega)),trivial⟩ [] rfl
    ·have e5:(B1&&B2&&B3&&B4)=false:=e.trans (e4.symm.trans h)
     refine zI (zN (zE (zB (wP rfl (wP rfl (wP rfl (Aa ?_)))))))
     exact As (k+1) hk (by omega) ⟨rfl,rfl,rfl,congrArg (fun z=>some (Value.bool z)) (no e5).symm,congrArg (fun z=>some (Value.int .i64 z)) (AI (x:=(k:Int)+1) (by omega) (by omega)),trivial⟩ [] rfl
   ·refine Ah rfl rfl ?_
    iterate 8 refine Ah rfl rfl ?_
    refine wP rfl (Aa ?_)
    have e:(B1&&B2&&B3&&B4)=false:=by first|(rw[show B1=false from e1.symm.trans h30];rfl)|(rw[show B2=false from e2.symm.trans h35];cases B1<;>rfl)|(rw[show B3=false from e3.symm.trans h46];cases B1<;>cases B2<;>rfl)
    refine zE (zS rfl (zI (zN (zE (zB (wP rfl (wP rfl (wP rfl (Aa ?_)))))))))
    exact As (k+1) hk (by omega) ⟨rfl,rfl,rfl,congrArg (fun z=>some (Value.bool z)) (no e).symm,congrArg (fun z=>some (Value.int .i64 z)) (AI (x:=(k:Int)+1) (by omega) (by omega)),trivial⟩ [] rfl
  ·refine Ah rfl rfl ?_
   iterate 8 refine Ah rfl rfl ?_
   refine wP rfl (wP rfl ?_)
   iterate 9 refine Ah rfl rfl ?_
   refine wP rfl (Aa ?_)
   have e:(B1&&B2&&B3&&B4)=false:=by first|(rw[show B1=false from e1.symm.trans h30];rfl)|(rw[show B2=false from e2.symm.trans h35];cases B1<;>rfl)|(rw[show B3=false from e3.symm.trans h46];cases B1<;>cases B2<;>rfl)
   refine zE (zS rfl (zI (zN (zE (zB (wP rfl (wP rfl (wP rfl (Aa ?_)))))))))
   exact As (k+1) hk (by omega) ⟨rfl,rfl,rfl,congrArg (fun z=>some (Value.bool z)) (no e).symm,congrArg (fun z=>some (Value.int .i64 z)) (AI (x:=(k:Int)+1) (by omega) (by omega)),trivial⟩ [] rfl
 ·refine Ah rfl rfl ?_
  iterate 2 refine Ah rfl rfl ?_
  refine wP rfl (wP rfl ?_)
  iterate 9 refine Ah rfl rfl ?_
  refine wP rfl (wP rfl ?_)
  iterate 9 refine Ah rfl rfl ?_
  refine wP rfl (Aa ?_)
  have e:(B1&&B2&&B3&&B4)=false:=by first|(rw[show B1=false from e1.symm.trans h30];rfl)|(rw[show B2=false from e2.symm.trans h35];cases B1<;>rfl)|(rw[show B3=false from e3.symm.trans h46];cases B1<;>cases B2<;>rfl)
  refine zE (zS rfl (zI (zN (zE (zB (wP rfl (wP rfl (wP rfl (Aa ?_)))))))))
  exact As (k+1) hk (by omega) ⟨rfl,rfl,rfl,congrArg (fun z=>some (Value.bool z)) (no e).symm,congrArg (fun z=>some (Value.int .i64 z)) (AI (x:=(k:Int)+1) (by omega) (by omega)),trivial⟩ [] rfl
end
end Go.Proofs.YtlagebbefnnnnaaGreatDoor
