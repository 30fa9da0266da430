/-
  Lemmas that the theorem openingDormers_upto_card needs (part 5 of 8).
-/
import Derived.Test.YtlnjmcchddbogaaGreatDoorOdd
set_option maxHeartbeats 64000000
namespace Go.Proofs.YtlnjmcchddbogaaGreatDoor
section
open Go Go.RowKit Go.Am
theorem CQ {f:Nat->Int}: ∀n,(∀i,i<n->f i=0)->AO f n=0
 |0,_=>rfl
 |n+1,h=>by
  show AO f n+f n=0
  rw[CQ n (fun i hi=>h i (by omega)),h n (by omega)];rfl
theorem Mp {f:Nat->Int} {j:Nat}: ∀n,j<n->(∀i,i<n->i≠j->f i=0)->AO f n=f j
 |0,hj,_=>absurd hj (Nat.not_lt_zero _)
 |n+1,hj,h=>by
  show AO f n+f n=f j
  by_cases e:j=n
  ·subst e
   rw[CQ j (fun i hi=>h i (by omega) (by omega))];omega
  ·rw[Mp n (by omega) (fun i hi=>h i (by omega)),h n (by omega) (fun x=>e x.symm)];omega
theorem DI (f g:Nat->Int): ∀n,AO (fun i=>f i-g i) n=AO f n-AO g n
 |0=>rfl
 |n+1=>by
  show AO _ n+(f n-g n)=AO f n+f n-(AO g n+g n)
  rw[DI f g n];omega
theorem Kt (f:Nat->Nat->Int) (m:Nat): ∀n,AO (fun i=>AO (fun j=>f i j) m) n=AO (fun j=>AO (fun i=>f i j) n) m
 |0=>(CQ m (fun _ _=>rfl)).symm
 |n+1=>by
  show AO _ n+AO (fun j=>f n j) m=AO (fun j=>AO (fun i=>f i j) n+f n j) m
  rw[Kt f m n,QH]
theorem HB {f:Nat->Int}: ∀n,(∀i,i<n->0<=f i)->0<=AO f n
 |0,_=>Int.le_refl _
 |n+1,h=>by
  have h1:=HB n (fun i hi=>h i (by omega))
  have h2:=h n (by omega)
  show 0<=AO f n+f n
  omega
theorem LI {f:Nat->Int} {j:Nat}: ∀n,(∀i,i<n->0<=f i)->j<n->0<f j->0<AO f n
 |0,_,hj,_=>absurd hj (Nat.not_lt_zero _)
 |n+1,h,hj,h0=>by
  have h1:=HB n (fun i hi=>h i (by omega))
  have h2:=h n (by omega)
  show 0<AO f n+f n
  by_cases e:j=n
  ·subst e;omega
  ·have:=LI n (fun i hi=>h i (by omega)) (show j<n by omega) h0
   omega
def ind (a b:Int):Int:=if a>b then 1 else 0
theorem DA (a b:Int):(ind a b=1/\a>b)\/(ind a b=0/\a<=b):=by
 unfold ind
 by_cases h:a>b
 ·rw[if_pos h];exact .inl ⟨rfl,h⟩
 ·rw[if_neg h];exact .inr ⟨rfl,by omega⟩
theorem Gs {a b:Int} (h:a>b):ind a b=1:=if_pos h
theorem Gn {a b:Int} (h:a<=b):ind a b=0:=if_neg (by omega)
theorem Vr {a:Int} (h:0<=a): ∀m:Nat,AO (fun x=>ind a x) m=if a<=m then a else m
 |0=>by
  show(0:Int)=_
  split<;>omega
 |m+1=>by
  show AO (fun x=>ind a x) m+ind a m=_
  rw[Vr h m]
  rcases DA a m with⟨e,h1⟩|⟨e,h1⟩<;>rw[e]<;>split<;>split<;>omega
theorem Mb {a:Int} {m:Nat} (h:0<=a) (h2:a<=m):AO (fun x=>ind a x) m=a:=by rw[Vr h,if_pos h2]
def On (σ:Nat->Nat) (X Y:Nat->Int) (k:Nat) (px py:Int):Prop:=
 (X k<=px\/X (σ k)<=px)/\(px<=X k\/px<=X (σ k))/\(Y k<=py\/Y (σ k)<=py)/\(py<=Y k\/py<=Y (σ k))
structure Net (T:Nat) (σ:Nat->Nat) (X Y:Nat->Int):Prop where
 lt: ∀k,k<T->σ k<T
 sum: ∀f:Nat->Int,AO (fun k=>f (σ k)) T=AO f T
 side: ∀k,k<T->(X (σ k)=X k/\Y (σ k)≠Y k)\/(Y (σ k)=Y k/\X (σ k)≠X k)
 alt: ∀k,k<T->(X (σ k)=X k↔Y (σ (σ k))=Y (σ k))
 free: ∀j k,j<T->k<T-> ∀px py,On σ X Y j px py->On σ X Y k px py->j=k\/j=σ k\/k=σ j
def Wn (T:Nat) (σ:Nat->Nat) (X Y:Nat->Int) (x y:Int):Int:=AO (fun k=>ind (X k) x*(ind (Y (σ k)) y-ind (Y k) y)) T
def Vd (σ:Nat->Nat) (X Y:Nat->Int) (x y:Int) (k:Nat):Int:=(ind (X k) (x-1)-ind (X k) x)*(ind (Y (σ k)) y-ind (Y k) y)
def Hd (σ:Nat->Nat) (X Y:Nat->Int) (x y:Int) (k:Nat):Int:=(ind (X (σ k)) x-ind (X k) x)*(ind (Y (σ k)) (y-1)-ind (Y (σ k)) y)
def LC (σ:Nat->Nat) (X Y:Nat->Int) (k:Nat) (x y:Int):Prop:=
 (Y k<Y (σ k)/\x=X k-1/\Y k<=y/\y<Y (σ k))\/(Y (σ k)<Y k/\x=X k/\Y (σ k)<=y/\y<Y k)\/
 (X k<X (σ k)/\y=Y k/\X k<=x/\x<X (σ k))\/(X (σ k)<X k/\y=Y k-1/\X (σ k)<=x/\x<X k)
def RC (σ:Nat->Nat) (X Y:Nat->Int) (k:Nat) (x y:Int):Prop:=
 (Y k<Y (σ k)/\x=X k/\Y k<=y/\y<Y (σ k))\/(Y (σ k)<Y k/\x=X k-1/\Y (σ k)<=y/\y<Y k)\/
 (X k<X (σ k)/\y=Y k-1/\X k<=x/\x<X (σ k))\/(X (σ k)<X k/\y=Y k/\X (σ k)<=x/\x<X k)
def Lv (T:Nat) (σ:Nat->Nat) (X Y:Nat->Int) (k:Nat) (L:Int):Prop:=
 (∀x y,LC σ X Y k x y->Wn T σ X Y x y=L)/\ ∀x y,RC σ X Y k x y->Wn T σ X Y x y=L-1
section
variable {T:Nat} {σ:Nat->Nat} {X Y:Nat->Int}
theorem Z9 (x y:Int):Wn T σ X Y (x-1) y-Wn T σ X Y x y=AO (Vd σ X Y x y) T:=by
 unfold Wn
 rw[<-DI]
 exact Cb T fun k _=>by unfold Vd;rw[Int.sub_mul]
theorem fO (N:Net T σ X Y) (x y:Int):Wn T σ X Y x y-Wn T σ X Y x (y-1)=AO (Hd σ X Y x y) T:=by
 have h1:=N.sum fun k=>ind (X k) x*(ind (Y k) (y-1)-ind (Y k) y)
 unfold Wn
 rw[<-DI]
 have h2:AO (fun i=>ind (X i) x*(ind (Y (σ i)) y-ind (Y i) y)-ind (X i) x*(ind (Y (σ i)) (y-1)-ind (Y i) (y-1))) T=
   AO (fun k=>ind (X k) x*(ind (Y k) (y-1)-ind (Y k) y)-ind (X k) x*(ind (Y (σ k)) (y-1)-ind (Y (σ k)) y)) T:=
  Cb T fun k _=>by simp only[Int.mul_sub];omega
 rw[h2,DI, <-h1, <-DI]
 exact Cb T fun k _=>by unfold Hd;rw[Int.sub_mul]
theorem XS {x y:Int} {k:Nat} (h:Vd σ X Y x y k≠0):X k=x/\((Y k<=y/\y<Y (σ k))\/(Y (σ k)<=y/\y<Y k)):=by
 unfold Vd at h
 rcases DA (X k) (x-1) with⟨e1,h1⟩|⟨e1,h1⟩<;>rcases DA (X k) x with⟨e2,h2⟩|⟨e2,h2⟩<;>rcases DA (Y (σ k)) y with⟨e3,h3⟩|⟨e3,h3⟩<;>rcases DA (Y k) y with⟨e4,h4⟩|⟨e4,h4⟩<;>
  rw[e1,e2,e3,e4] at h<;>first|exact absurd rfl h|omega
theorem cG {x y:Int} {k:Nat} (h:Hd σ X Y x y k≠0):Y (σ k)=y/\((X k<=x/\x<X (σ k))\/(X (σ k)<=x/\x<X k)):=by
 unfold Hd at h
 rcases DA (X (σ k)) x with⟨e1,h1⟩|⟨e1,h1⟩<;>rcases DA (X k) x with⟨e2,h2⟩|⟨e2,h2⟩<;>rcases DA (Y (σ k)) (y-1) with⟨e3,h3⟩|⟨e3,h3⟩<;>rcases DA (Y (σ k)) y with⟨e4,h4⟩|⟨e4,h4⟩<;>
  rw[e1,e2,e3,e4] at h<;>first|exact absurd rfl h|omega
theorem fY {y:Int} {k:Nat} (h:Y k<=y/\y<Y (σ k)):Vd σ X Y (X k) y k=1:=by
 unfold Vd
 rw[Gs (show X k>X k-1 by omega),Gn (Int.le_refl _),Gs h.2,Gn h.1];rfl
theorem Zz {y:Int} {k:Nat} (h:Y (σ k)<=y/\y<Y k):Vd σ X Y (X k) y k= -1:=by
 unfold Vd
 rw[Gs (show X k>X k-1 by omega),Gn (Int.le_refl _),Gs h.2,Gn h.1];rfl
theorem aO {x:Int} {k:Nat} (e:Y (σ k)=Y k) (h:X k<=x/\x<X (σ k)):Hd σ X Y x (Y k) k=1:=by
 unfold Hd
 rw[e,Gs (show Y k>Y k-1 by omega),Gn (Int.le_refl (Y k)),Gs h.2,Gn h.1];rfl
theorem aQ {x:Int} {k:Nat} (e:Y (σ k)=Y k) (h:X (σ k)<=x/\x<X k):Hd σ X Y x (Y k) k= -1:=by
 unfold Hd
 rw[e,Gs (show Y k>Y k-1 by omega),Gn (Int.le_refl (Y k)),Gs h.2,Gn h.1];rfl
theorem Net.up_eq (N:Net T σ X Y) {k:Nat} (hk:k<T) (hv:X (σ k)=X k) {c y:Int} (hc:c=X k-1\/c=X k) (h1:(Y k<=y/\y+1<Y (σ k))\/(Y (σ k)<=y/\y+1<Y k)):Wn T σ X Y c (y+1)=Wn T σ X Y c y:=by
 have h2:=fO N c (y+1)
 rw[show y+1-1=y by omega] at h2
 rw[CQ (f:=Hd σ X Y c (y+1)) T (fun j hj=> ?_)] at h2
 ·omega
 ·refine Classical.byContradiction fun h=> ?_
  obtain⟨e,hx⟩:=cG h
  have e2:Y j=y+1:=by rcases N.side j hj with h|h<;>omega
  rcases N.free j k hj hk (X k) (y+1) ⟨by omega,by omega,by omega,by omega⟩ ⟨by omega,by omega,by omega,by omega⟩ with h|h|h
  ·subst h;omega
  ·subst h;omega
  ·rw[h] at h1 hv hc;rw[h] at*;omega
theorem Net.flat_eq (N:Net T σ X Y) {k:Nat} (hk:k<T) (hh:Y (σ k)=Y k) {c x:Int} (hc:c=Y k-1\/c=Y k) (h1:(X k<=x-1/\x<X (σ k))\/(X (σ k)<=x-1/\x<X k)):Wn T σ X Y (x-1) c=Wn T σ X Y x c:=by
 have h2:=Z9 (T:=T) (σ:=σ) (X:=X) (Y:=Y) x c
 rw[CQ (f:=Vd σ X Y x c) T (fun j hj=> ?_)] at h2
 ·omega
 ·refine Classical.byContradiction fun h=> ?_
  obtain⟨e,hx⟩:=XS h
  have e2:X (σ j)=x:=by rcases N.side j hj with h|h<;>omega
  rcases N.free j k hj hk x (Y k) ⟨by omega,by omega,by omega,by omega⟩ ⟨by omega,by omega,by omega,by omega⟩ with h|h|h
  ·subst h;omega
  ·subst h;omega
  ·rw[h] at h1;omega
theorem Net.up_const (N:Net T σ X Y) {k:Nat} (hk:k<T) (hv:X (σ k)=X k) {c lo:Int} (hc:c=X k-1\/c=X k) (hlo:lo=Y k\/lo=Y (σ k)) (hm:lo<=Y k/\lo<=Y (σ k)): ∀d:Nat,(lo+d<Y k\/lo+d<Y (σ k))->Wn T σ X Y c (lo+d)=Wn T σ X Y c lo
 |0,_=>by rw[show lo+((0:Nat):Int)=lo by omega]
 |d+1,h=>by
  rw[show lo+((d+1:Nat):Int)=lo+d+1 by omega,N.up_eq hk hv hc (by omega)]
  exact N.up_const hk hv hc hlo hm d (by omega)
theorem Net.flat_const (N:Net T σ X Y) {k:Nat} (hk:k<T) (hh:Y (σ k)=Y k) {c lo:Int} (hc:c=Y k-1\/c=Y k) (hlo:lo=X k\/lo=X (σ k)) (hm:lo<=X k/\lo<=X (σ k)): ∀d:Nat,(lo+d<X k\/lo+d<X (σ k))->Wn T σ X Y (lo+d) c=Wn T σ X Y lo c
 |0,_=>by rw[show lo+((0:Nat):Int)=lo by omega]
 |d+1,h=>by
  have h1:=N.flat_eq hk hh hc (x:=lo+((d+1:Nat):Int)) (by omega)
  rw[<-h1,show lo+((d+1:Nat):Int)-1=lo+d by omega]
  exact N.flat_const hk hh hc hlo hm d (by omega)
theorem Net.over_up (N:Net T σ X Y) {k:Nat} (hk:k<T) (hv:X (σ k)=X k) {y:Int} (h1:(Y k<=y/\y<Y (σ k))\/(Y (σ k)<=y/\y<Y k)):Wn T σ X Y (X k-1) y-Wn T σ X Y (X k) y=Vd σ X Y (X k) y k:=by
 rw[Z9]
 refine Mp T hk fun j hj hne=> ?_
 refine Classical.byContradiction fun h=> ?_
 obtain⟨e,hx⟩:=XS h
 have e2:X (σ j)=X j:=by rcases N.side j hj with h|h<;>omega
 rcases N.free j k hj hk (X k) y ⟨by omega,by omega,by omega,by omega⟩ ⟨by omega,by omega,by omega,by omega⟩ with h|h|h
 ·exact hne h
 ·have:=(N.alt k hk).1 hv
  rw[<-h] at this;omega
 ·have:=(N.alt j hj).1 e2
  rw[<-h] at this;omega
theorem Net.over_flat (N:Net T σ X Y) {k:Nat} (hk:k<T) (hh:Y (σ k)=Y k) {x:Int} (h1:(X k<=x/\x<X (σ k))\/(X (σ k)<=x/\x<X k)):Wn T σ X Y x (Y k)-Wn T σ X Y x (Y k-1)=Hd σ X Y x (Y k) k:=by
 rw[fO N]
 refine Mp T hk fun j hj hne=> ?_
 refine Classical.byContradiction fun h=> ?_
 obtain⟨e,hx⟩:=cG h
 have e2:Y (σ j)=Y j:=by rcases N.side j hj with h|h<;>omega
 rcases N.free j k hj hk x (Y k) ⟨by omega,by omega,by omega,by omega⟩ ⟨by omega,by omega,by omega,by omega⟩ with h|h|h
 ·exact hne h
 ·have:=N.alt k hk
  rw[<-h] at this h1
  have h9:=this.2 e2
  omega
 ·have:=N.alt j hj
  rw[<-h] at this hx
  have h9:=this.2 hh
  omega
theorem Net.lv_ex (N:Net T σ X Y) {k:Nat} (hk:k<T): ∃L,Lv T σ X Y k L:=by
 rcases N.side k hk with⟨hv,hd⟩|⟨hh,hd⟩
 ·have con: ∀c,(c=X k-1\/c=X k)-> ∀lo,(lo=Y k\/lo=Y (σ k))->lo<=Y k->lo<=Y (σ k)-> ∀y,lo<=y->(y<Y k\/y<Y (σ k))->Wn T σ X Y c y=Wn T σ X Y c lo:=fun c hc lo hlo m1 m2 y h1 h2=>by
   have:=N.up_const hk hv hc hlo ⟨m1,m2⟩ (y-lo).toNat (by omega)
   rw[show lo+((y-lo).toNat:Int)=y by omega] at this
   exact this
  by_cases hu:Y k<Y (σ k)
  ·refine⟨Wn T σ X Y (X k-1) (Y k),fun x y h=> ?_,fun x y h=> ?_⟩
   ·unfold LC at h
    obtain⟨rfl,h1,h2⟩:x=X k-1/\Y k<=y/\y<Y (σ k):=by omega
    exact con _ (.inl I) _ (.inl I) (Int.le_refl _) (by omega) y h1 (.inr h2)
   ·unfold RC at h
    obtain⟨rfl,h1,h2⟩:x=X k/\Y k<=y/\y<Y (σ k):=by omega
    have e1:=con _ (.inl rfl) _ (.inl rfl) (Int.le_refl _) (by omega) y h1 (.inr h2)
    have e2:=N.over_up hk hv (.inl ⟨h1,h2⟩)
    rw[fY ⟨h1,h2⟩] at e2
    omega
  ·refine⟨Wn T σ X Y (X k) (Y (σ k)),fun x y h=> ?_,fun x y h=> ?_⟩
   ·unfold LC at h
    obtain⟨rfl,h1,h2⟩:x=X k/\Y (σ k)<=y/\y<Y k:=by omega
    exact con _ (.inr I) _ (.inr I) (by omega) (Int.le_refl _) y h1 (.inl h2)
   ·unfold RC at h
    obtain⟨rfl,h1,h2⟩:x=X k-1/\Y (σ k)<=y/\y<Y k:=by omega
    have e1:=con _ (.inr rfl) _ (.inr rfl) (by omega) (Int.le_refl _) y h1 (.inl h2)
    have e2:=N.over_up hk hv (.inr ⟨h1,h2⟩)
    rw[Zz ⟨h1,h2⟩] at e2
    omega
 ·have con: ∀c,(c=Y k-1\/c=Y k)-> ∀lo,(lo=X k\/lo=X (σ k))->lo<=X k->lo<=X (σ k)-> ∀x,lo<=x->(x<X k\/x<X (σ k))->Wn T σ X Y x c=Wn T σ X Y lo c:=fun c hc lo hlo m1 m2 x h1 h2=>by
   have:=N.flat_const hk hh hc hlo ⟨m1,m2⟩ (x-lo).toNat (by omega)
   rw[show lo+((x-lo).toNat:Int)=x by omega] at this
   exact this
  by_cases hu:X k<X (σ k)
  ·refine⟨Wn T σ X Y (X k) (Y k),fun x y h=> ?_,fun x y h=> ?_⟩
   ·unfold LC at h
    obtain⟨rfl,h1,h2⟩:y=Y k/\X k<=x/\x<X (σ k):=by omega
    exact con _ (.inr I) _ (.inl I) (Int.le_refl _) (by omega) x h1 (.inr h2)
   ·unfold RC at h
    obtain⟨rfl,h1,h2⟩:y=Y k-1/\X k<=x/\x<X (σ k):=by omega
    have e1:=con _ (.inr rfl) _ (.inl rfl) (Int.le_refl _) (by omega) x h1 (.inr h2)
    have e2:=N.over_flat hk hh (.inl ⟨h1,h2⟩)
    rw[aO hh ⟨h1,h2⟩] at e2
    omega
  ·refine⟨Wn T σ X Y (X (σ k)) (Y k-1),fun x y h=> ?_,fun x y h=> ?_⟩
   ·unfold LC at h
    obtain⟨rfl,h1,h2⟩:y=Y k-1/\X (σ k)<=x/\x<X k:=by omega
    exact con _ (.inl I) _ (.inr I) (by omega) (Int.le_refl _) x h1 (.inl h2)
   ·unfold RC at h
    obtain⟨rfl,h1,h2⟩:y=Y k/\X (σ k)<=x/\x<X k:=by omega
    have e1:=con _ (.inl rfl) _ (.inr rfl) (by omega) (Int.le_refl _) x h1 (.inl h2)
    have e2:=N.over_flat hk hh (.inr ⟨h1,h2⟩)
    rw[aQ hh ⟨h1,h2⟩] at e2
    omega
theorem Net.share (N:Net T σ X Y) {k:Nat} (hk:k<T): ∃x y,(LC σ X Y k x y/\LC σ X Y (σ k) x y)\/(RC σ X Y k x y/\RC σ X Y (σ k) x y):=by
 have h1:=N.side k hk
 have h2:=N.side (σ k) (N.lt k hk)
 have h3:=N.alt k hk
 unfold LC RC
 generalize σ (σ k)=k2 at*
 generalize σ k=k1 at*
 by_cases a:Y k<Y k1
 ·by_cases b:X k1<X k2
  ·exact⟨X k1,Y k1-1, .inr ⟨by omega,by omega⟩⟩
  ·exact⟨X k1-1,Y k1-1, .inl ⟨by omega,by omega⟩⟩
 by_cases a2:Y k1<Y k
 ·by_cases b:X k1<X k2
  ·exact⟨X k1,Y k1, .inl ⟨by omega,by omega⟩⟩
  ·exact⟨X k1-1,Y k1, .inr ⟨by omega,by omega⟩⟩
 by_cases a3:X k<X k1
 ·by_cases b:Y k1<Y k2
  ·exact⟨X k1-1,Y k1, .inl ⟨by omega,by omega⟩⟩
  ·exact⟨X k1-1,Y k1-1, .inr ⟨by omega,by omega⟩⟩
 ·by_cases b:Y k1<Y k2
  ·exact⟨X k1,Y k1, .inr ⟨by omega,by omega⟩⟩
  ·exact⟨X k1,Y k1-1, .inl ⟨by omega,by omega⟩⟩
theorem Net.lv_next (N:Net T σ X Y) {k:Nat} (hk:k<T) {L:Int} (h:Lv T σ X Y k L):Lv T σ X Y (σ k) L:=by
 obtain⟨L',h'⟩:=N.lv_ex (N.lt k hk)
 obtain⟨x,y,⟨h1,h2⟩|⟨h1,h2⟩⟩:=N.share hk
 ·have e1:=h.1 x y h1
  have e2:=h'.1 x y h2
  rw[show L=L' by omega];exact h'
 ·have e1:=h.2 x y h1
  have e2:=h'.2 x y h2
  rw[show L=L' by omega];exact h'
theorem I9 {x:Int} (h: ∀k,k<T->X k<=x) (y:Int):Wn T σ X Y x y=0:=CQ T fun k hk=>by rw[Gn (h k hk),Int.zero_mul]
theorem VP {x y:Int} {j:Nat} (h:Vd σ X Y x y j≠0):(LC σ X Y j (x-1) y/\RC σ X Y j x y)\/(RC σ X Y j (x-1) y/\LC σ X Y j x y):=by
 obtain⟨e,hx⟩:=XS h
 rcases hx with⟨h1,h2⟩|⟨h1,h2⟩
 ·exact .inl ⟨.inl ⟨by omega,by omega,h1,h2⟩, .inl ⟨by omega,by omega,h1,h2⟩⟩
 ·exact .inr ⟨.inr (.inl ⟨by omega,by omega,h1,h2⟩), .inr (.inl ⟨by omega,by omega,h1,h2⟩)⟩
theorem Net.ray (N:Net T σ X Y) {M:Int} (hM: ∀k,k<T->X k<=M) (y:Int): ∀d:Nat,Wn T σ X Y (M-d) y=0\/ ∃k L,k<T/\Lv T σ X Y k L/\(Wn T σ X Y (M-d) y=L\/Wn T σ X Y (M-d) y=L-1)
 |0=> .inl (I9 (fun k hk=>by have:=hM k hk;omega) y)
 |d+1=>by
  have h1:=Z9 (T:=T) (σ:=σ) (X:=X) (Y:=Y) (M-d) y
  rw[show M-((d+1:Nat):Int)=M-d-1 by omega]
  by_cases h: ∃j,j<T/\Vd σ X Y (M-d) y j≠0
  ·obtain⟨j,hj,h⟩:=h
   obtain⟨L,hL⟩:=N.lv_ex hj
   refine .inr ⟨j,L,hj,hL, ?_⟩
   rcases VP h with⟨h,_⟩|⟨h,_⟩
   ·exact .inl (hL.1 _ _ h)
   ·exact .inr (hL.2 _ _ h)
  ·rw[CQ (f:=Vd σ X Y (M-d) y) T (fun j hj=>Classical.byContradiction fun e=>h ⟨j,hj,e⟩)] at h1
   rw[show Wn T σ X Y (M-d-1) y=Wn T σ X Y (M-d) y by omega]
   exact N.ray hM y d
theorem Net.values (N:Net T σ X Y) (x y:Int):Wn T σ X Y x y=0\/ ∃k L,k<T/\Lv T σ X Y k L/\(Wn T σ X Y x y=L\/Wn T σ X Y x y=L-1):=by
 have bound: ∀n, ∃M:Int, ∀k,k<n->X k<=M:=fun n=>by
  induction n with
  |zero=>exact⟨0,fun k hk=>absurd hk (Nat.not_lt_zero _)⟩
  |succ n ih=>
   obtain⟨M,hM⟩:=ih
   refine⟨if M<X n then X n else M,fun k hk=> ?_⟩
   by_cases e:k=n
   ·subst e;split<;>omega
   ·have:=hM k (by omega);split<;>omega
 obtain⟨M,hM⟩:=bound T
 by_cases h:x<=M
 ·have:=N.ray hM y (M-x).toNat
  rw[show M-((M-x).toNat:Int)=x by omega] at this
  exact this
 ·exact .inl (I9 (fun k hk=>by have:=hM k hk;omega) y)
theorem Net.first (N:Net T σ X Y) {M:Int} (hM: ∀k,k<T->X k<=M) (y:Int): ∀d:Nat,(∀x,M-d<=x->Wn T σ X Y x y=0)\/ ∃k x,k<T/\(∀x',x<=x'->Wn T σ X Y x' y=0)/\((LC σ X Y k (x-1) y/\RC σ X Y k x y)\/(RC σ X Y k (x-1) y/\LC σ X Y k x y))
 |0=> .inl fun x hx=>I9 (fun k hk=>by have:=hM k hk;omega) y
 |d+1=>by
  rcases N.first hM y d with h0|h0
  ·by_cases h: ∃j,j<T/\Vd σ X Y (M-d) y j≠0
   ·obtain⟨j,hj,h⟩:=h
    exact .inr ⟨j,M-d,hj,h0,VP h⟩
   ·left
    intro x hx
    have h1:=Z9 (T:=T) (σ:=σ) (X:=X) (Y:=Y) (M-d) y
    rw[CQ (f:=Vd σ X Y (M-d) y) T (fun j hj=>Classical.byContradiction fun e=>h ⟨j,hj,e⟩)] at h1
    have h2:=h0 (M-d) (Int.le_refl _)
    by_cases e:x=M-d-1
    ·subst e;omega
    ·exact h0 x (by omega)
  ·exact .inr h0
theorem Net.range (N:Net T σ X Y) {M:Int} (hX: ∀k,k<T->0<=X k/\X k<=M) (hY: ∀k,k<T->0<=Y k/\Y k<=M) {x y:Int} (h:Wn T σ X Y x y≠0):(0<=x/\x<M)/\0<=y/\y<M:=by
 refine Classical.byContradiction fun hn=>h ?_
 by_cases h1:M<=x
 ·exact I9 (fun k hk=>by have:=hX k hk;omega) y
 by_cases h2:x<0
 ·unfold Wn
  rw[Cb (g:=fun k=>ind (Y (σ k)) y-ind (Y k) y) T (fun k hk=>by rw[Gs (show X k>x by have:=hX k hk;omega),Int.one_mul]),DI,N.sum (fun k=>ind (Y k) y)];omega
 by_cases h3:M<=y
 ·exact CQ T fun k hk=>by rw[Gn (show Y k<=y by have:=hY k hk;omega),Gn (show Y (σ k)<=y by have:=hY _ (N.lt k hk);omega)];simp
 by_cases h4:y<0
 ·exact CQ T fun k hk=>by rw[Gs (show Y k>y by have:=hY k hk;omega),Gs (show Y (σ k)>y by have:=hY _ (N.lt k hk);omega)];simp
 omega
theorem Net.area (N:Net T σ X Y) {M:Nat} (hX: ∀k,k<T->0<=X k/\X k<=M) (hY: ∀k,k<T->0<=Y k/\Y k<=M):
  AO (fun k=>X k*Y (σ k)-Y k*X (σ k)) T=2*AO (fun x=>AO (fun y=>Wn T σ X Y x y) M) M:=by
 have h1:AO (fun k=>X k*(Y (σ k)-Y k)) T=AO (fun x=>AO (fun y=>Wn T σ X Y x y) M) M:=by
  unfold Wn
  rw[Cb (g:=fun k=>AO (fun x:Nat=>AO (fun y:Nat=>ind (X k) x*(ind (Y (σ k)) y-ind (Y k) y)) M) M) T fun k hk=> ?_]
  ·rw[Kt]
   refine Cb M fun x _=> ?_
   rw[Kt]
  ·have e1:=Mb (hX k hk).1 (hX k hk).2
   have e2:=Mb (hY k hk).1 (hY k hk).2
   have e3:=Mb (hY _ (N.lt k hk)).1 (hY _ (N.lt k hk)).2
   rw[Cb (g:=fun x:Nat=>(Y (σ k)-Y k)*ind (X k) x) M fun x _=> ?_]
   ·rw[FZ,e1,Int.mul_comm]
   ·show AO (fun y:Nat=>ind (X k) x*(ind (Y (σ k)) y-ind (Y k) y)) M=_
    rw[FZ,DI,e2,e3,Int.mul_comm]
 rw[<-h1, <-FZ]
 have h2:=N.sum fun k=>X k*Y k
 have h3:AO (fun k=>X k*Y (σ k)-Y k*X (σ k)-2*(X k*(Y (σ k)-Y k))) T=AO (fun k=>X k*Y k-X (σ k)*Y (σ k)) T:=Cb T fun k hk=>by
  rcases N.side k hk with⟨e,_⟩|⟨e,_⟩
  ·rw[e,Int.mul_sub,Int.mul_comm (Y k) (X k)];omega
  ·rw[e,Int.mul_sub,Int.mul_comm (Y k) (X (σ k))];omega
 rw[DI,DI (fun k=>X k*Y k),h2] at h3
 omega
end
theorem TC {n:Nat} {P:Nat->Prop} (h0:0<n->P 0) (h: ∀k,k<n->P k->P (nxt n k)): ∀k,k<n->P k
 |0,hk=>h0 hk
 |k+1,hk=>by
  have:=h k (by omega) (TC h0 h k (by omega))
  rw[show nxt n k=k+1 from Nat.mod_eq_of_lt hk] at this
  exact this
section
variable {n:Nat} {X Y:Nat->Int}
theorem Net.one (N:Net n (nxt n) X Y) (h0:0<n): ∃L:Int,(L=0\/L=1)/\(∀k,k<n->Lv n (nxt n) X Y k L)/\ ∀x y,Wn n (nxt n) X Y x y=0\/Wn n (nxt n) X Y x y=2*L-1:=by
 obtain⟨L,hL⟩:=N.lv_ex h0
 have all: ∀k,k<n->Lv n (nxt n) X Y k L:=TC (fun _=>hL) fun k hk h=>N.lv_next hk h
 have hb: ∀m, ∃M:Int, ∀k,k<m->X k<=M:=fun m=>by
  induction m with
  |zero=>exact⟨0,fun k hk=>absurd hk (Nat.not_lt_zero _)⟩
  |succ m ih=>
   obtain⟨M,hM⟩:=ih
   refine⟨if M<X m then X m else M,fun k hk=> ?_⟩
   by_cases e:k=m
   ·subst e;split<;>omega
   ·have:=hM k (by omega);split<;>omega
 obtain⟨M,hM⟩:=hb n
 have cell: ∃x y,LC (nxt n) X Y 0 x y/\ ∃x' y',RC (nxt n) X Y 0 x' y':=by
  have:=N.side 0 h0
  unfold LC RC
  by_cases a:Y 0<Y (nxt n 0)
  ·exact⟨X 0-1,Y 0,by omega,X 0,Y 0,by omega⟩
  by_cases a2:Y (nxt n 0)<Y 0
  ·exact⟨X 0,Y (nxt n 0),by omega,X 0-1,Y (nxt n 0),by omega⟩
  by_cases a3:X 0<X (nxt n 0)
  ·exact⟨X 0,Y 0,by omega,X 0,Y 0-1,by omega⟩
  ·exact⟨X (nxt n 0),Y 0-1,by omega,X (nxt n 0),Y 0,by omega⟩
 obtain⟨x1,y1,c1,x2,y2,c2⟩:=cell
 have e1:=hL.1 _ _ c1
 have e2:=hL.2 _ _ c2
 have try1: ∀x y,Wn n (nxt n) X Y x y≠0->L=0\/L=1:=fun x y h=>by
  have hx:x<M:=Classical.byContradiction fun e=>h (I9 (fun k hk=>by have:=hM k hk;omega) y)
  rcases N.first hM y (M-x).toNat with h1|⟨k,x',hk,h1,h2⟩
  ·exact absurd (h1 x (by omega)) h
  ·have z:=h1 x' (Int.le_refl _)
   rcases h2 with⟨_,h2⟩|⟨_,h2⟩
   ·have:=(all k hk).2 _ _ h2;omega
   ·have:=(all k hk).1 _ _ h2;omega
 have h01:L=0\/L=1:=by
  by_cases e:L=0
  ·exact .inl e
  ·exact try1 x1 y1 (by rw[e1];exact e)
 refine⟨L,h01,all,fun x y=> ?_⟩
 rcases N.values x y with h|⟨k,L',hk,h1,h2⟩
 ·exact .inl h
 ·have e:L'=L:=by
   have a:=all k hk
   have hc: ∃x y,LC (nxt n) X Y k x y:=by
    have:=N.side k hk
    unfold LC
    by_cases a:Y k<Y (nxt n k)
    ·exact⟨X k-1,Y k,by omega⟩
    by_cases a2:Y (nxt n k)<Y k
    ·exact⟨X k,Y (nxt n k),by omega⟩
    by_cases a3:X k<X (nxt n k)
    ·exact⟨X k,Y k,by omega⟩
    ·exact⟨X (nxt n k),Y k-1,by omega⟩
   obtain⟨x,y,hc⟩:=hc
   rw[<-h1.1 _ _ hc,a.1 _ _ hc]
  omega
theorem Net.area_one (N:Net n (nxt n) X Y) (h0:0<n) {M:Nat} (hX: ∀k,k<n->0<=X k/\X k<=M) (hY: ∀k,k<n->0<=Y k/\Y k<=M) {L:Int} (h01:L=0\/L=1) (hL: ∀k,k<n->Lv n (nxt n) X Y k L) (hv: ∀x y,Wn n (nxt n) X Y x y=0\/Wn n (nxt n) X Y x y=2*L-1):
  0<(2*L-1)*AO (fun k=>X k*Y (nxt n k)-Y k*X (nxt n k)) n:=by
 rw[N.area hX hY]
 have hsome: ∃x y,Wn n (nxt n) X Y x y=2*L-1:=by
  have:=N.side 0 h0
  have h:=hL 0 h0
  have cell:(∃x y,LC (nxt n) X Y 0 x y)/\ ∃x' y',RC (nxt n) X Y 0 x' y':=by
   unfold LC RC
   by_cases a:Y 0<Y (nxt n 0)
   ·exact⟨⟨X 0-1,Y 0,by omega⟩,X 0,Y 0,by omega⟩
   by_cases a2:Y (nxt n 0)<Y 0
   ·exact⟨⟨X 0,Y (nxt n 0),by omega⟩,X 0-1,Y (nxt n 0),by omega⟩
   by_cases a3:X 0<X (nxt n 0)
   ·exact⟨⟨X 0,Y 0,by omega⟩,X 0,Y 0-1,by omega⟩
   ·exact⟨⟨X (nxt n 0),Y 0-1,by omega⟩,X (nxt n 0),Y 0,by omega⟩
  obtain⟨⟨x1,y1,c1⟩,x2,y2,c2⟩:=cell
  have e1:=h.1 _ _ c1
  have e2:=h.2 _ _ c2
  rcases h01 with e|e
  ·exact⟨x2,y2,by omega⟩
  ·exact⟨x1,y1,by omega⟩
 obtain⟨x,y,hxy⟩:=hsome
 obtain⟨⟨r1,r2⟩,r3,r4⟩:=N.range hX hY (x:=x) (y:=y) (by rw[hxy];omega)
 have sq: ∀x y,0<=(2*L-1)*Wn n (nxt n) X Y x y:=fun x y=>by
  rcases hv x y with h|h<;>rw[h]
  ·simp
  ·rcases h01 with e|e<;>subst e<;>decide
 have pos:0<(2*L-1)*Wn n (nxt n) X Y x y:=by
  rw[hxy]
  rcases h01 with e|e<;>subst e<;>decide
 have hp:0<AO (fun i=>AO (fun j=>(2*L-1)*Wn n (nxt n) X Y i j) M) M:=by
  refine LI (j:=x.toNat) M (fun i _=>HB M fun j _=>sq i j) (by omega) ?_
  refine LI (j:=y.toNat) M (fun j _=>sq _ j) (by omega) ?_
  show 0<(2*L-1)*Wn n (nxt n) X Y (x.toNat:Nat) (y.toNat:Nat)
  rw[show((x.toNat:Nat):Int)=x by omega,show((y.toNat:Nat):Int)=y by omega]
  exact pos
 have e:AO (fun i:Nat=>AO (fun j:Nat=>(2*L-1)*Wn n (nxt n) X Y i j) M) M=(2*L-1)*AO (fun i:Nat=>AO (fun j:Nat=>Wn n (nxt n) X Y i j) M) M:=by
  rw[<-FZ]
  exact Cb M fun i _=>FZ _ _ M
 rw[e] at hp
 rcases h01 with e|e<;>subst e<;>omega
end
theorem S3 {rs:List (List Sd)} {m:Nat}: ∀k,k<=rs.length->m<tot (rs.take k)-> ∃r i,r<k/\i<(rg rs r).length/\m=tot (rs.take r)+i
 |0,_,h=>by simp[tot] at h
 |k+1,hk,h=>by
  rw[Bq (by omega)] at h
  by_cases e:m<tot (rs.take k)
  ·obtain⟨r,i,h1,h2,h3⟩:=S3 k (by omega) e
   exact⟨r,i,by omega,h2,h3⟩
  ·exact⟨k,m-tot (rs.take k),by omega,by omega,by omega⟩
theorem Wi {rs:List (List Sd)} {m:Nat} (h:m<tot rs): ∃r i,r<rs.length/\i<(rg rs r).length/\m=tot (rs.take r)+i:=S3 rs.length (Nat.le_refl _) (by rw[List.take_length];exact h)
theorem HN {n k:Nat} (h:k<n):nxt n k=if k+1=n then 0 else k+1:=by
 unfold nxt
 split
 ·rename_i e;rw[e,Nat.mod_self]
 ·exact Nat.mod_eq_of_lt (by omega)
theorem aD {n k:Nat} (h:k<n):prv n k=if k=0 then n-1 else k-1:=by
 unfold prv
 split
 ·rename_i e;subst e;rw[Nat.zero_add];exact Nat.mod_eq_of_lt (by omega)
 ·rw[show k+n-1=k-1+n by omega,Nat.add_mod_right];exact Nat.mod_eq_of_lt (by omega)
theorem aF {n k:Nat} (h:k<n):prv n (nxt n k)=k:=by
 rw[aD (Ei h),HN h];split<;>split<;>omega
theorem XY {n r a b:Nat} (hb:b<a) (ha:a<n):nbB n (r,a) (r,b)=true↔(a=nxt n b\/b=nxt n a):=by
 unfold nbB
 rw[HN ha,HN (show b<n by omega)]
 simp only[beq_self_eq_true,Bool.true_and,Bool.or_eq_true,beq_iff_eq]
 split<;>split<;>omega
def near (rs:List (List Sd)) (r i s k:Nat):Prop:=r=s/\(i=k\/i=nxt (rg rs r).length k\/k=nxt (rg rs r).length i)
theorem RG (rs:List (List Sd)):crs rs=false↔ ∀r i s k,r<rs.length->i<(rg rs r).length->s<rs.length->k<(rg rs s).length-> ¬near rs r i s k->EV (bsd rs (r,i)) (esd rs (r,i)) (bsd rs (s,k)) (esd rs (s,k))=false:=by
 constructor
 ·intro h r i s k hr hi hs hk hn
  by_cases e:r=s
  rotate_left
  ·exact WD h hr hi hs hk e
  subst e
  have one: ∀ {a b:Nat},a<(rg rs r).length->b<a-> ¬(a=nxt (rg rs r).length b\/b=nxt (rg rs r).length a)->EV (bsd rs (r,a)) (esd rs (r,a)) (bsd rs (r,b)) (esd rs (r,b))=false:=by
   intro a b ha hb hab
   have hj:=Vi hr ha
   have h2:Do rs (pl rs (tot (rs.take r)+a)) (pl rs (tot (rs.take r)+b))=false:=by
    cases he:Do rs (pl rs (tot (rs.take r)+a)) (pl rs (tot (rs.take r)+b)) with
    |false=>rfl
    |true=>
     have:crs rs=true:=List.any_eq_true.2 ⟨_,List.mem_range.2 hj,List.any_eq_true.2 ⟨_,List.mem_range.2 (by omega),he⟩⟩
     rw[h] at this;cases this
   rw[JH hr ha,JH hr (by omega)] at h2
   unfold Do at h2
   have h3:nbB (rg rs r).length (r,a) (r,b)=false:=Bool.eq_false_iff.2 fun e=>hab ((XY hb ha).1 e)
   rw[h3] at h2
   simpa using h2
  rcases Nat.lt_trichotomy i k with hlt|heq|hgt
  ·rw[Ml]
   exact one hk hlt fun h=>hn ⟨I,by omega⟩
  ·exact absurd ⟨I, .inl heq⟩ hn
  ·exact one hi hgt fun h=>hn ⟨I,by omega⟩
 ·intro h
  unfold crs
  refine Ea fun m hm=>Ea fun j hj=> ?_
  obtain⟨r,i,hr,hi,rfl⟩:=Wi hm
  obtain⟨s,k,hs,hk,rfl⟩:=Wi (show j<tot rs by omega)
  rw[JH hr hi,JH hs hk]
  unfold Do
  cases hb:nbB (rg rs r).length (r,i) (s,k) with
  |true=>rfl
  |false=>
   simp only[Bool.not_false,Bool.true_and]
   refine h r i s k hr hi hs hk fun hn=> ?_
   obtain⟨rfl,hn⟩:=hn
   have hik:k<i:=by omega
   have:=(XY (r:=r) hik hi).2 (by omega)
   rw[hb] at this;cases this
theorem Z7 {t u t' u':Sd} {px py:Int} (h:EV t u t' u'=false) (h1:(t.x<=px\/u.x<=px)/\(px<=t.x\/px<=u.x)/\(t.y<=py\/u.y<=py)/\(py<=t.y\/py<=u.y))
  (h2:(t'.x<=px\/u'.x<=px)/\(px<=t'.x\/px<=u'.x)/\(t'.y<=py\/u'.y<=py)/\(py<=t'.y\/py<=u'.y)):False:=by
 have e:EV t u t' u'=true:=by
  unfold EV lox hix loy hiy
  simp only[Bool.and_eq_true,decide_eq_true_eq]
  refine⟨⟨⟨?_, ?_⟩, ?_⟩, ?_⟩<;>split<;>split<;>omega
 rw[h] at e;cases e
theorem XX {rs:List (List Sd)} (hin:Wv rs) (hs: ∀l∈rs,shp l=true) (hc:crs rs=false) {r:Nat} (hr:r<rs.length):Net (rg rs r).length (nxt (rg rs r).length) (fun k=>(sd (rg rs r) k).x) (fun k=>(sd (rg rs r) k).y):=by
 have hm:rg rs r∈rs:=List.mem_of_getElem? (Bm hr)
 refine⟨fun k hk=>Ei hk,fun f=>W7 f _,fun k hk=> ?_,fun k hk=> ?_,fun j k hj hk px py h1 h2=> ?_⟩
 ·have:=(Fy (hin _ hm) (hs _ hm) hk).1
  omega
 ·have h1:=(Fy (hin _ hm) (hs _ hm) hk).1
  have h2:=(Fy (hin _ hm) (hs _ hm) (Ei hk))
  rw[aF hk] at h2
  omega
 ·refine Classical.byContradiction fun hn=> ?_
  have h:=(RG rs).1 hc r j r k hr hj hr hk fun h=>hn (by obtain⟨_,h⟩:=h;omega)
  exact Z7 h h1 h2
theorem Zi {rs:List (List Sd)} (hin:Wv rs) (hs: ∀l∈rs,shp l=true) (hc:crs rs=false) {r:Nat} (hr:r<rs.length):
  ∃L:Int,(L=0\/L=1)/\(∀k,k<(rg rs r).length->Lv (rg rs r).length (nxt (rg rs r).length) (fun k=>(sd (rg rs r) k).x) (fun k=>(sd (rg rs r) k).y) k L)/\
   (∀x y,Wn (rg rs r).length (nxt (rg rs r).length) (fun k=>(sd (rg rs r) k).x) (fun k=>(sd (rg rs r) k).y) x y=0\/Wn (rg rs r).length (nxt (rg rs r).length) (fun k=>(sd (rg rs r) k).x) (fun k=>(sd (rg rs r) k).y) x y=2*L-1)/\
   0<(2*L-1)*AO (Fj (rg rs r)) (rg rs r).length:=by
 have hm:rg rs r∈rs:=List.mem_of_getElem? (Bm hr)
 have N:=XX hin hs hc hr
 have h4:=Vu (hs _ hm)
 obtain⟨L,h01,hL,hv⟩:=N.one (by omega)
 refine⟨L,h01,hL,hv, ?_⟩
 have hi: ∀k,k<(rg rs r).length->inR (sd (rg rs r) k):=fun k hk=>Dq (hin _ hm) hk
 exact N.area_one (M:=65536) (by omega) (fun k hk=>⟨(hi k hk).1,(hi k hk).2.1⟩) (fun k hk=>⟨(hi k hk).2.2.1,(hi k hk).2.2.2⟩) h01 hL hv
theorem Zr {rs:List (List Sd)} (hin:Wv rs) (hs: ∀l∈rs,shp l=true) (hc:crs rs=false) {r:Nat} (hr:r<rs.length):AO (Fj (rg rs r)) (rg rs r).length≠0:=by
 obtain⟨L,_,_,_,h⟩:=Zi hin hs hc hr
 intro e
 rw[e,Int.mul_zero] at h
 exact absurd h (by decide)
end
section
open Go Go.RowKit Go.Am
set_option maxRecDepth 10000
def KQ (rs:List (List Sd)) (r i s k:Nat):Bool:=
 !((r==s)&&(decide (k<=i)||(k==i+1)||((i==0)&&(k+1==(rg rs r).length))))&&EV (sd (rg rs r) i) (sd (rg rs r) (nxt (rg rs r).length i)) (sd (rg rs s) k) (sd (rg rs s) (nxt (rg rs s).length k))
theorem OW {rs:List (List Sd)} {r i s k:Nat} (hr:r<rs.length) (hi:i<(rg rs r).length) (hs:s<rs.length) (hk:k<(rg rs s).length) (h:KQ rs r i s k=true):crs rs=true:=by
 unfold KQ at h
 obtain⟨h1,h2⟩:=Bool.and_eq_true_iff.1 h
 cases hc:crs rs with
 |true=>rfl
 |false=>
  have:=(RG rs).1 hc r i s k hr hi hs hk (fun hn=>by
   obtain⟨rfl,hn⟩:=hn
   rw[HN hi,HN hk] at hn
   have:((r==r)&&(decide (k<=i)||(k==i+1)||((i==0)&&(k+1==(rg rs r).length))))=true:=by
    simp only[beq_self_eq_true,Bool.true_and,Bool.or_eq_true,Bool.and_eq_true,decide_eq_true_eq,beq_iff_eq]
    revert hn
    split<;>split<;>intro hn<;>omega
   rw[this] at h1;cases h1)
  rw[show EV (bsd rs (r,i)) (esd rs (r,i)) (bsd rs (s,k)) (esd rs (s,k))=true from h2] at this
  cases this
theorem Xa {rs:List (List Sd)} (h: ∀r i s k,r<rs.length->i<(rg rs r).length->s<rs.length->k<(rg rs s).length->r<=s->KQ rs r i s k=false):crs rs=false:=by
 have one: ∀r i s k,r<rs.length->i<(rg rs r).length->s<rs.length->k<(rg rs s).length->(r<s\/(r=s/\i<k))-> ¬near rs r i s k->EV (bsd rs (r,i)) (esd rs (r,i)) (bsd rs (s,k)) (esd rs (s,k))=false:=fun r i s k hr hi hs hk ho hn=>by
  have hb:=h r i s k hr hi hs hk (by omega)
  unfold KQ at hb
  have:((r==s)&&(decide (k<=i)||(k==i+1)||((i==0)&&(k+1==(rg rs r).length))))=false:=by
   by_cases e:r=s
   ·subst e
    have hik:i<k:=by omega
    rw[beq_self_eq_true,Bool.true_and,Bool.eq_false_iff]
    intro h2
    refine hn ⟨I, ?_⟩
    rw[HN hi,HN hk]
    simp only[Bool.or_eq_true,Bool.and_eq_true,decide_eq_true_eq,beq_iff_eq] at h2
    split<;>split<;>omega
   ·rw[beq_eq_false_iff_ne.2 e];rfl
  rw[this,Bool.not_false,Bool.true_and] at hb
  exact hb
 refine(RG rs).2 fun r i s k hr hi hs hk hn=> ?_
 by_cases ho:r<s\/(r=s/\i<k)
 ·exact one r i s k hr hi hs hk ho hn
 ·rw[Ml]
  have hne: ¬(r=s/\i=k):=fun⟨e1,e2⟩=>hn ⟨e1, .inl e2⟩
  refine one s k r i hs hk hr hi (by omega) fun hn2=>hn ?_
  obtain⟨rfl,hn2⟩:=hn2
  exact⟨I,by omega⟩
theorem Pu (W:World) (p:Option Addr) (cap:Nat) (rs:List (List Sd)) (hn:rs.length<4611686018427387904) (hl: ∀l∈rs,l.length<4611686018427387904) (hR:AL W p rs):
  Ae Tryz.prog 166 #[slv p rs.length cap] W (fun _:Unit=> .bool (crs rs)) (fun _=>True) (fun _=>[]):=by
 refine Ab Tryz.func166 I I I<|xb<|wP I<|xk<|wP I<|xa<|zH<|?_
 refine Av (X:=Nat) (fun r=>[(0,slv p rs.length cap),(3, .int .i64 (r:Nat))]) (fun _=>[])
  (fun r=>r<=rs.length/\ ∀r' i s k,r'<r->r'<rs.length->i<(rg rs r').length->s<rs.length->k<(rg rs s).length->r'<=s->KQ rs r' i s k=false) (fun r=>rs.length-r) 0 ⟨Nat.zero_le _,fun r' i s k h=>absurd h (Nat.not_lt_zero _)⟩ ⟨rfl,rfl,trivial⟩ [] rfl ?_
 rintro r ⟨hr,P1⟩
 refine xd<|At I<|xa<|Ag I (fun h=> ?_) (fun h=> ?_)
 rotate_left
 ·have e:r=rs.length:=by simp at h;omega
  subst e
  refine xg<|xn<|wP I<|xc<|?_
  have hc:crs rs=false:=Xa fun r' i s k h1 h2 h3 h4 h5=>P1 r' i s k h1 h1 h2 h3 h4 h5
  exact wR1 I I (by rw[hc])
 have hr:r<rs.length:=by simp at h;omega
 clear h
 obtain⟨b,off,rfl,hrow⟩:=hR.row hr
 obtain⟨q,cap2,hq1,hq2⟩:=hrow r hr
 have hlr:=hl _ (List.mem_of_getElem? (Bm hr))
 refine xh<|wP I<|xa<|zH<|?_
 refine Av (X:=Nat) (fun i=>[(0,slv (some ⟨b,off,none⟩) rs.length cap),(3, .int .i64 (r:Nat)),(4, .int .i64 (i:Nat))]) (fun _=>[])
  (fun i=>i<=(rg rs r).length/\ ∀i' s k,i'<i->i'<(rg rs r).length->s<rs.length->k<(rg rs s).length->r<=s->KQ rs r i' s k=false) (fun i=>(rg rs r).length-i) 0 ⟨Nat.zero_le _,fun i' s k h=>absurd h (Nat.not_lt_zero _)⟩ ⟨rfl,rfl,rfl,trivial⟩ [] rfl ?_
 rintro i ⟨hi,P2⟩
 refine xd<|Ad I<|wJ ?_
 refine wL 0 I I (fun W hp=>hq1.hp hp) I<|Aa I<|xa<|Ag I (fun h=> ?_) (fun h=> ?_)
 rotate_left
 ·have e:i=(rg rs r).length:=by simp at h;omega
  subst e
  refine xg<|xi<|Ad I<|zC<|Al (r+1) ⟨hr,fun r' i' s k h0 h1 h2 h3 h4 h5=> ?_⟩ (by omega) ⟨I,congrArg (fun z=>some (Value.int .i64 z)) (AM (x:=(r:Int)+1) (by omega) (by omega)),tO⟩ [] I
  by_cases e:r'=r
  ·subst e;exact P2 i' s k h2 h2 h3 h4 h5
  ·exact P1 r' i' s k (by omega) h1 h2 h3 h4 h5
 have hi:i<(rg rs r).length:=by simp at h;omega
 clear h
 refine xh<|Aa I<|xa<|zH<|?_
 refine Av (X:=Nat) (fun s=>[(0,slv (some ⟨b,off,none⟩) rs.length cap),(3, .int .i64 (r:Nat)),(4, .int .i64 (i:Nat)),(5, .int .i64 (s:Nat))]) (fun _=>[])
  (fun s=>s<=rs.length/\r<=s/\ ∀s' k,s'<s->s'<rs.length->k<(rg rs s').length->r<=s'->KQ rs r i s' k=false) (fun s=>rs.length-s) r ⟨by omega,Nat.le_refl _,fun s' k h0 _ _ h5=>absurd h0 (by omega)⟩ ⟨rfl,rfl,rfl,rfl,trivial⟩ [] rfl ?_
 rintro s ⟨hs,hrs,P3⟩
 refine xd<|At I<|xa<|Ag I (fun h=> ?_) (fun h=> ?_)
 rotate_left
 ·have e:s=rs.length:=by simp at h;omega
  subst e
  refine xg<|xi<|Ad I<|zC<|Al (i+1) ⟨hi,fun i' s k h0 h2 h3 h4 h5=> ?_⟩ (by omega) ⟨I,I,congrArg (fun z=>some (Value.int .i64 z)) (AM (x:=(i:Int)+1) (by omega) (by omega)),tO⟩ [] I
  by_cases e:i'=i
  ·subst e;exact P3 s k h3 h3 h4 h5
  ·exact P2 i' s k (by omega) h2 h3 h4 h5
 have hs:s<rs.length:=by simp at h;omega
 clear h
 obtain⟨q',cap3,hq3,hq4⟩:=hrow s hs
 have hls:=hl _ (List.mem_of_getElem? (Bm hs))
 refine xh<|wP I<|xa<|zH<|?_
 refine Av (X:=Nat) (fun k=>[(0,slv (some ⟨b,off,none⟩) rs.length cap),(3, .int .i64 (r:Nat)),(4, .int .i64 (i:Nat)),(5, .int .i64 (s:Nat)),(6, .int .i64 (k:Nat))]) (fun _=>[])
  (fun k=>k<=(rg rs s).length/\ ∀k',k'<k->KQ rs r i s k'=false) (fun k=>(rg rs s).length-k) 0 ⟨Nat.zero_le _,fun k' h=>absurd h (Nat.not_lt_zero _)⟩ ⟨rfl,rfl,rfl,rfl,rfl,trivial⟩ [] rfl ?_
 rintro k ⟨hk,P4⟩
 refine xd<|Ad I<|wJ ?_
 refine wL 0 I I (fun W hp=>hq3.hp hp) I<|Aa I<|xa<|Ag I (fun h=> ?_) (fun h=> ?_)
 rotate_left
 ·have e:k=(rg rs s).length:=by simp at h;omega
  subst e
  refine xg<|xi<|Ad I<|zC<|Al (s+1) ⟨hs,by omega,fun s' k h0 h3 h4 h5=> ?_⟩ (by omega) ⟨I,I,I,congrArg (fun z=>some (Value.int .i64 z)) (AM (x:=(s:Int)+1) (by omega) (by omega)),tO⟩ [] I
  by_cases e:s'=s
  ·subst e;exact P4 k h4
  ·exact P3 s' k (by omega) h3 h4 h5
 have hk:k<(rg rs s).length:=by simp at h;omega
 clear h
 have fin:KQ rs r i s k=false-> ∀k',k'<k+1->KQ rs r i s k'=false:=fun h k' hk'=>by
  by_cases e:k'=k
  ·subst e;exact h
  ·exact P4 k' (by omega)
 have e1: ∀z:Int,z=(k:Int)+1->w64 z=((k+1:Nat):Int):=fun z h=>by rw[h,Ar (by omega) (by omega)];omega
 have skip:((r==s)&&(decide (k<=i)||(k==i+1)||((i==0)&&(k+1==(rg rs r).length))))=true->KQ rs r i s k=false:=fun h=>by unfold KQ;rw[h];rfl
 have test:((r==s)&&(decide (k<=i)||(k==i+1)||((i==0)&&(k+1==(rg rs r).length))))=false->KQ rs r i s k=EV (sd (rg rs r) i) (sd (rg rs r) (nxt (rg rs r).length i)) (sd (rg rs s) k) (sd (rg rs s) (nxt (rg rs s).length k)):=fun h=>by unfold KQ;rw[h];rfl
 obtain⟨C1,c1⟩: ∃b,((r:Int)==(s:Int))=b:=⟨_,rfl⟩
 obtain⟨C2,c2⟩: ∃b,decide ((k:Int)<=(i:Int))=b:=⟨_,rfl⟩
 obtain⟨C3,c3⟩: ∃b,((k:Int)==w64 ((i:Int)+1))=b:=⟨_,rfl⟩
 obtain⟨C4,c4⟩: ∃b,((i:Int)==0)=b:=⟨_,rfl⟩
 obtain⟨C5,c5⟩: ∃b,((k:Int)==w64 (((rg rs r).length:Nat)-1))=b:=⟨_,rfl⟩
 have hC:((r==s)&&(decide (k<=i)||(k==i+1)||((i==0)&&(k+1==(rg rs r).length))))=(C1&&(C2||C3||(C4&&C5))):=by
  rw[Ar (by omega) (by omega)] at c3 c5
  rw[<-c1, <-c2, <-c3, <-c4, <-c5,CN]
  have a2:decide (k<=i)=decide ((k:Int)<=(i:Int)):=by by_cases h:k<=i;rw[dT h,dT (by omega)];rw[dF h,dF (by omega)]
  have a3:(k==i+1)=((k:Int)==(i:Int)+1):=by rw[Bool.eq_iff_iff,beq_iff_eq,beq_iff_eq];omega
  have a4:(i==0)=((i:Int)==0):=by rw[Bool.eq_iff_iff,beq_iff_eq,beq_iff_eq];omega
  have a5:(k+1==(rg rs r).length)=((k:Int)==((rg rs r).length:Nat)-1):=by rw[Bool.eq_iff_iff,beq_iff_eq,beq_iff_eq];omega
  rw[a2,a3,a4,a5]
 refine xh<|Aa I<|wJ ?_
 refine wL 0 I I (fun W hp=>hq1.hp hp) I<|Aa I<|xk<|At I<|AI 47 I (fun h47=> ?_) (fun h47=> ?_)
 ·refine At I<|AI 51 I (fun h51=> ?_) (fun h51=> ?_)
  ·refine Af I I ?_
   iterate 3 refine Af I I ?_
   refine Aa I<|?_
   iterate 8 refine Af I I ?_
   refine Aa I<|zC<|?_
   have e:(C1&&(C2||C3||(C4&&C5)))=true:=by first|(rw[show C1=true from c1.symm.trans h47,show C2=true from c2.symm.trans h51];rfl)|(rw[show C1=true from c1.symm.trans h47,show C3=true from c3.symm.trans h57];cases C2<;>rfl)
   exact zE<|zR I<|zJ<|zK<|zL<|zE<|zB<|Ad I<|zC<|Al (k+1) ⟨hk,fin (skip (hC.trans e))⟩ (by omega) ⟨I,I,I,I,congrArg (fun z=>some (Value.int .i64 z)) (AM (x:=(k:Int)+1) (by omega) (by omega)),tO⟩ [] I
  ·refine AE I<|AI 57 I (fun h57=> ?_) (fun h57=> ?_)
   ·refine Af I I ?_
    iterate 7 refine Af I I ?_
    refine Aa I<|zC<|?_
    have e:(C1&&(C2||C3||(C4&&C5)))=true:=by first|(rw[show C1=true from c1.symm.trans h47,show C2=true from c2.symm.trans h51];rfl)|(rw[show C1=true from c1.symm.trans h47,show C3=true from c3.symm.trans h57];cases C2<;>rfl)
    exact zE<|zR I<|zJ<|zK<|zL<|zE<|zB<|Ad I<|zC<|Al (k+1) ⟨hk,fin (skip (hC.trans e))⟩ (by omega) ⟨I,I,I,I,congrArg (fun z=>some (Value.int .i64 z)) (AM (x:=(k:Int)+1) (by omega) (by omega)),tO⟩ [] I
   ·refine Ad I<|AI 60 I (fun h60=> ?_) (fun h60=> ?_)
    ·refine AE I<|wP I<|xa<|Ag I (fun hx=> ?_) (fun hx=> ?_)
     ·have e:(C1&&(C2||C3||(C4&&C5)))=true:=by first|(rw[show C1=true from c1.symm.trans h47,show C3=true from c3.symm.trans h57];cases C2<;>rfl)|(rw[show C1=true from c1.symm.trans h47,show C4=true from c4.symm.trans h60,show C5=true from c5.symm.trans hx];cases C2<;>cases C3<;>rfl)|(rw[show C1=true from c1.symm.trans h47,show C3=true from c3.symm.trans hx];cases C2<;>rfl)
      exact zJ<|zK<|zL<|zE<|zB<|Ad I<|zC<|Al (k+1) ⟨hk,fin (skip (hC.trans e))⟩ (by omega) ⟨I,I,I,I,congrArg (fun z=>some (Value.int .i64 z)) (AM (x:=(k:Int)+1) (by omega) (by omega)),tO⟩ [] I
     ·have e:(C1&&(C2||C3||(C4&&C5)))=false:=by first|(rw[show C2=false from c2.symm.trans h51,show C3=false from c3.symm.trans h57,show C5=false from c5.symm.trans hx,Bool.and_false];cases C1<;>rfl)
      refine xe<|zA<|zU<|Ay I<|qJ ?_
      refine qL 0 I I (fun W hp=>hq1.hp hp) I<|AY I<|qJ ?_
      refine qL 0 I I (fun W hp=>hq3.hp hp) I<|qP I<|qC I I (fun W hp=>I0 W q q' cap2 cap3 (rg rs r) (rg rs s) i k hlr hls (hq2.hp hp) (hq4.hp hp) hi hk)<|zD<|xa<|Ag I (fun h=> ?_) (fun h=> ?_)
      ·refine xb<|wP I<|xc<|xj<|xj<|xj<|xj<|zP<|?_
       have hc:crs rs=true:=OW hr hi hs hk ((test (hC.trans e)).trans h)
       exact wR1 I I (by rw[hc])
      ·exact zI<|xi<|Ad I<|zC<|Al (k+1) ⟨hk,fin ((test (hC.trans e)).trans h)⟩ (by omega) ⟨I,I,I,I,congrArg (fun z=>some (Value.int .i64 z)) (AM (x:=(k:Int)+1) (by omega) (by omega)),tO⟩ [] I
    ·refine Af I I ?_
     iterate 3 refine Af I I ?_
     refine Ad I<|zC<|?_
     have e:(C1&&(C2||C3||(C4&&C5)))=false:=by first|(rw[show C1=false from c1.symm.trans h47];rfl)|(rw[show C2=false from c2.symm.trans h51,show C3=false from c3.symm.trans h57,show C4=false from c4.symm.trans h60,Bool.false_and];cases C1<;>rfl)
     refine zE<|zS I<|xe<|zA<|zU<|Ay I<|qJ ?_
     refine qL 0 I I (fun W hp=>hq1.hp hp) I<|AY I<|qJ ?_
     refine qL 0 I I (fun W hp=>hq3.hp hp) I<|qP I<|qC I I (fun W hp=>I0 W q q' cap2 cap3 (rg rs r) (rg rs s) i k hlr hls (hq2.hp hp) (hq4.hp hp) hi hk)<|zD<|xa<|Ag I (fun h=> ?_) (fun h=> ?_)
     ·refine xb<|wP I<|xc<|xj<|xj<|xj<|xj<|zP<|?_
      have hc:crs rs=true:=OW hr hi hs hk ((test (hC.trans e)).trans h)
      exact wR1 I I (by rw[hc])
     ·exact zI<|xi<|Ad I<|zC<|Al (k+1) ⟨hk,fin ((test (hC.trans e)).trans h)⟩ (by omega) ⟨I,I,I,I,congrArg (fun z=>some (Value.int .i64 z)) (AM (x:=(k:Int)+1) (by omega) (by omega)),tO⟩ [] I
 ·refine Af I I ?_
  iterate 18 refine Af I I ?_
  refine wP I<|zC<|?_
  have e:(C1&&(C2||C3||(C4&&C5)))=false:=by first|(rw[show C1=false from c1.symm.trans h47];rfl)|(rw[show C2=false from c2.symm.trans h51,show C3=false from c3.symm.trans h57,show C4=false from c4.symm.trans h60,Bool.false_and];cases C1<;>rfl)
  refine zE<|zS I<|xe<|zA<|zU<|Ay I<|qJ ?_
  refine qL 0 I I (fun W hp=>hq1.hp hp) I<|AY I<|qJ ?_
  refine qL 0 I I (fun W hp=>hq3.hp hp) I<|qP I<|qC I I (fun W hp=>I0 W q q' cap2 cap3 (rg rs r) (rg rs s) i k hlr hls (hq2.hp hp) (hq4.hp hp) hi hk)<|zD<|xa<|Ag I (fun h=> ?_) (fun h=> ?_)
  ·refine xb<|wP I<|xc<|xj<|xj<|xj<|xj<|zP<|?_
   have hc:crs rs=true:=OW hr hi hs hk ((test (hC.trans e)).trans h)
   exact wR1 I I (by rw[hc])
  ·exact zI<|xi<|Ad I<|zC<|Al (k+1) ⟨hk,fin ((test (hC.trans e)).trans h)⟩ (by omega) ⟨I,I,I,I,congrArg (fun z=>some (Value.int .i64 z)) (AM (x:=(k:Int)+1) (by omega) (by omega)),tO⟩ [] I
def PU (rs:List (List Sd)) (r s:Nat):Bool:=(s==r)||(Hj (rg rs s) (sd (rg rs r) 0).x (sd (rg rs r) 0).y (rg rs s).length==(s==0))
def Us (rs:List (List Sd)) (r:Nat):Bool:=(r==0)||(!decide (twR (rg rs r) (rg rs r).length≥0)&&(List.range rs.length).all (PU rs r))
def Iq (rs:List (List Sd)):Bool:= !decide (twR (rg rs 0) (rg rs 0).length<=0)&&(List.range rs.length).all (Us rs)
theorem PL (W:World) (p:Option Addr) (cap:Nat) (rs:List (List Sd)) (hn:rs.length<4611686018427387904) (hl: ∀l∈rs,l.length<4611686018427387904) (hne: ∀l∈rs,l≠[]) (h0:0<rs.length) (hR:AL W p rs):
  Ae Tryz.prog 167 #[slv p rs.length cap] W (fun _:Unit=> .bool (Iq rs)) (fun _=>True) (fun _=>[]):=by
 obtain⟨b,off,rfl,hrow⟩:=hR.row h0
 obtain⟨q0,cap0,hq1,hq2⟩:=hrow 0 h0
 refine Ab Tryz.func167 I I I<|xb<|wP I<|xk<|wP I<|wJ ?_
 refine wL 0 I I (fun W hp=>hq1.hp hp) I<|wC I I (fun W hp=>M7 W q0 cap0 (rg rs 0) (hl _ (List.mem_of_getElem? (Bm h0))) (hq2.hp hp))<|wP I<|xa<|Ag I (fun h=> ?_) (fun h=> ?_)
 ·refine xb<|wP I<|xo<|?_
  have hf:Iq rs=false:=by unfold Iq;rw[show decide (twR (rg rs 0) (rg rs 0).length<=0)=true from h];rfl
  exact wR1 I I (by rw[hf])
 have hA:decide (twR (rg rs 0) (rg rs 0).length<=0)=false:=h
 clear h
 refine xe<|xd<|wP I<|xa<|zH<|?_
 refine Av (X:=Nat) (fun r=>[(0,slv (some ⟨b,off,none⟩) rs.length cap),(3, .int .i64 (r:Nat))]) (fun _=>[]) (fun r=>1<=r/\r<=rs.length/\ ∀j,j<r->Us rs j=true) (fun r=>rs.length-r) 1
  ⟨Nat.le_refl _,h0,fun j hj=>by rw[show j=0 by omega];rfl⟩ ⟨rfl,rfl,trivial⟩ [] rfl ?_
 rintro r ⟨hr1,hr,hok⟩
 refine xd<|At I<|xa<|Ag I (fun h=> ?_) (fun h=> ?_)
 rotate_left
 ·have e:r=rs.length:=by simp at h;omega
  subst e
  refine xg<|xn<|wP I<|xc<|?_
  have ht:Iq rs=true:=by unfold Iq;rw[hA,List.all_eq_true.2 fun j hj=>hok j (List.mem_range.1 hj)];rfl
  exact wR1 I I (by rw[ht])
 have hr:r<rs.length:=by simp at h;omega
 clear h
 obtain⟨q,cap2,hq3,hq4⟩:=hrow r hr
 have hlr:=hl _ (List.mem_of_getElem? (Bm hr))
 have hner:0<(rg rs r).length:=List.length_pos_iff.2 (hne _ (List.mem_of_getElem? (Bm hr)))
 have hr0:(r==0)=false:=beq_eq_false_iff_ne.2 (by omega)
 refine xe<|zA<|zH<|xd<|Aa I<|wJ ?_
 refine wL 0 I I (fun W hp=>hq3.hp hp) I<|wC I I (fun W hp=>M7 W q cap2 (rg rs r) hlr (hq4.hp hp))<|wP I<|xa<|Ag I (fun h=> ?_) (fun h=> ?_)
 ·refine xb<|wP I<|xo<|xj<|zP<|?_
  have hf:Iq rs=false:=by unfold Iq;rw[BQ hr (by unfold Us;rw[hr0,show decide (twR (rg rs r) (rg rs r).length≥0)=true from h];rfl),Bool.and_false]
  exact wR1 I I (by rw[hf])
 have hB:decide (twR (rg rs r) (rg rs r).length≥0)=false:=h
 clear h
 refine xm<|wP I<|xa<|zH<|?_
 refine Av (X:=Nat) (fun s=>[(0,slv (some ⟨b,off,none⟩) rs.length cap),(3, .int .i64 (r:Nat)),(4, .int .i64 (s:Nat))]) (fun _=>[]) (fun s=>s<=rs.length/\ ∀j,j<s->PU rs r j=true) (fun s=>rs.length-s) 0
  ⟨Nat.zero_le _,fun j hj=>absurd hj (Nat.not_lt_zero _)⟩ ⟨rfl,rfl,rfl,trivial⟩ [] rfl ?_
 rintro s ⟨hs,hoks⟩
 refine xd<|At I<|xa<|Ag I (fun h=> ?_) (fun h=> ?_)
 rotate_left
 ·have e:s=rs.length:=by simp at h;omega
  subst e
  refine xg<|xi<|Ad I<|zC<|Al (r+1) ⟨by omega,hr,fun j hj=> ?_⟩ (by omega) ⟨I,congrArg (fun z=>some (Value.int .i64 z)) (AM (x:=(r:Int)+1) (by omega) (by omega)),tO⟩ [] I
  by_cases e:j=r
  ·subst e
   unfold Us
   rw[hB,List.all_eq_true.2 fun m hm=>hoks m (List.mem_range.1 hm),hr0];rfl
  ·exact hok j (by omega)
 have hs:s<rs.length:=by simp at h;omega
 clear h
 obtain⟨q',cap3,hq5,hq6⟩:=hrow s hs
 have hls:=hl _ (List.mem_of_getElem? (Bm hs))
 have next:PU rs r s=true-> ∀j,j<s+1->PU rs r j=true:=fun h j hj=>by
  by_cases e:j=s
  ·subst e;exact h
  ·exact hoks j (by omega)
 obtain⟨b3,off3,rfl,hrow3⟩:=hq4.row hner
 refine xe<|zA<|zH<|zA<|zU<|Cd I<|HD 31 I (fun h31=> ?_) (fun h31=> ?_)
 ·refine Ay I<|qJ ?_
  refine qL 0 I I (fun W hp=>hq5.hp hp) I<|Ay I<|qJ ?_
  refine qL 0 I I (fun W hp=>hq3.hp hp) I<|qJ ?_
  refine qP I<|qL 0 I I (fun W hp=>(hrow3 0 hner).hp hp) I<|Ay I<|qJ ?_
  refine qL 0 I I (fun W hp=>hq3.hp hp) I<|qJ ?_
  refine qP I<|qL 1 I I (fun W hp=>(hrow3 0 hner).hp hp) I<|qC I I (fun W hp=>PN W q' cap3 (rg rs s) _ _ hls (hq6.hp hp))<|Ay I<|Vc Tryz.underlying4 I I I I I I ?_
  refine qP I<|zD<|zC<|?_
  have e:(s==r)=false:=by have h':((s:Int) !=(r:Int))=true:=h31;rw[bne_iff_ne] at h';rw[beq_eq_false_iff_ne];omega
  refine zE<|Ag I (fun h=> ?_) (fun h=> ?_)
  ·refine xb<|wP I<|xc<|xj<|xj<|zP<|?_
   have h':(Hj (rg rs s) (sd (rg rs r) 0).x (sd (rg rs r) 0).y (rg rs s).length==(s==0))=false:=by
    rw[<-CN s 0]
    have h2:(!(Hj (rg rs s) (sd (rg rs r) 0).x (sd (rg rs r) 0).y (rg rs s).length==((s:Int)==0)))=true:=h
    simpa using h2
   have hf:Iq rs=false:=by unfold Iq;rw[BQ hr (by unfold Us;rw[hr0,BQ hs (by unfold PU;rw[e,h'];rfl),Bool.and_false];rfl),Bool.and_false]
   exact wR1 I I (by rw[hf])
  ·have h':(Hj (rg rs s) (sd (rg rs r) 0).x (sd (rg rs r) 0).y (rg rs s).length==(s==0))=true:=by
    rw[<-CN s 0]
    have h2:(!(Hj (rg rs s) (sd (rg rs r) 0).x (sd (rg rs r) 0).y (rg rs s).length==((s:Int)==0)))=false:=h
    simpa using h2
   exact zI<|xi<|Ad I<|zC<|Al (s+1) ⟨hs,next (by unfold PU;rw[h',Bool.or_true])⟩ (by omega) ⟨I,I,congrArg (fun z=>some (Value.int .i64 z)) (AM (x:=(s:Int)+1) (by omega) (by omega)),tO⟩ [] I
 ·refine Bi I I ?_
  iterate 21 refine Bi I I ?_
  refine qP I<|zD<|zC<|?_
  have e:(s==r)=true:=by have h':((s:Int) !=(r:Int))=false:=h31;rw[bne_eq_false_iff_eq] at h';rw[beq_iff_eq];omega
  exact zE<|zS I<|zI<|xi<|Ad I<|zC<|Al (s+1) ⟨hs,next (by unfold PU;rw[e];rfl)⟩ (by omega) ⟨I,I,congrArg (fun z=>some (Value.int .i64 z)) (AM (x:=(s:Int)+1) (by omega) (by omega)),tO⟩ [] I
def Iu (l:List Sd) (k:Nat):Bool:= !(decide (LL l k<0)&&((sd l (prv l.length k)).gable||(sd l k).gable||((sd l (prv l.length k)).plate !=(sd l k).plate)))
def LQ (rs:List (List Sd)):Bool:=rs.all (fun l=>(List.range l.length).all (Iu l))&&Bs rs rs.length
theorem Ri (W:World) (p:Option Addr) (cap:Nat) (rs:List (List Sd)) (hn:rs.length<4611686018427387904) (hl: ∀l∈rs,l.length<4611686018427387904) (hR:AL W p rs):
  Ae Tryz.prog 168 #[slv p rs.length cap] W (fun _:Unit=> .bool (LQ rs)) (fun _=>True) (fun _=>[]):=by
 refine Ab Tryz.func168 I I I<|xb<|wP I<|xf<|wP I<|xk<|wP I<|xa<|zH<|?_
 refine Av (X:=Nat) (fun r=>[(0,slv p rs.length cap),(3, .bool (Bs rs r)),(4, .int .i64 (r:Nat))]) (fun _=>[]) (fun r=>r<=rs.length/\ ∀j,j<r->(List.range (rg rs j).length).all (Iu (rg rs j))=true) (fun r=>rs.length-r) 0
  ⟨Nat.zero_le _,fun j hj=>absurd hj (Nat.not_lt_zero _)⟩ ⟨rfl,rfl,rfl,trivial⟩ [] rfl ?_
 rintro r ⟨hr,hok⟩
 refine xd<|At I<|xa<|Ag I (fun h=> ?_) (fun h=> ?_)
 rotate_left
 ·have e:r=rs.length:=by simp at h;omega
  subst e
  refine xg<|xn<|Aa I<|xc<|?_
  have ht:LQ rs=Bs rs rs.length:=by
   unfold LQ
   rw[List.all_eq_true.2 fun l hl=> ?_,Bool.true_and]
   obtain⟨j,hj,e⟩:=List.getElem_of_mem hl
   have:=hok j hj
   rw[show rg rs j=l by simp[rg,hj,e]] at this
   exact this
  exact wR1 I I (by rw[ht])
 have hr:r<rs.length:=by simp at h;omega
 clear h
 obtain⟨b,off,rfl,hrow⟩:=hR.row hr
 obtain⟨q,cap2,hq1,hq2⟩:=hrow r hr
 have hlr:=hl _ (List.mem_of_getElem? (Bm hr))
 refine xh<|Aa I<|wJ ?_
 refine wL 0 I I (fun W hp=>hq1.hp hp) I<|wP I<|xf<|wP I<|xa<|zH<|?_
 refine Av (X:=Nat) (fun i=>[(0,slv (some ⟨b,off,none⟩) rs.length cap),(3, .bool (B9 (rg rs r) (Bs rs r) i)),(4, .int .i64 (r:Nat)),(5,slv q (rg rs r).length cap2),(6, .int .i64 (i:Nat))]) (fun _=>[]) (fun i=>i<=(rg rs r).length/\ ∀j,j<i->Iu (rg rs r) j=true) (fun i=>(rg rs r).length-i) 0
  ⟨Nat.zero_le _,fun j hj=>absurd hj (Nat.not_lt_zero _)⟩ ⟨rfl,rfl,rfl,rfl,rfl,trivial⟩ [] rfl ?_
 rintro i ⟨hi,hoki⟩
 refine xd<|At I<|xa<|Ag I (fun h=> ?_) (fun h=> ?_)
 rotate_left
 ·have e:i=(rg rs r).length:=by simp at h;omega
  subst e
  refine xg<|xi<|Ad I<|zC<|Al (r+1) ⟨hr,fun j hj=> ?_⟩ (by omega) ⟨I,I,congrArg (fun z=>some (Value.int .i64 z)) (AM (x:=(r:Int)+1) (by omega) (by omega)),tO⟩ [] I
  by_cases e:j=r
  ·subst e;exact List.all_eq_true.2 fun m hm=>hoki m (List.mem_range.1 hm)
  ·exact hok j (by omega)
 have hi:i<(rg rs r).length:=by simp at h;omega
 clear h
 have hi2:=Ha hi
 obtain⟨b3,off3,rfl,hrow3⟩:=hq2.row hi
 have bad:Iu (rg rs r) i=false->LQ rs=false:=fun h=>by
  unfold LQ
  have:rs.all (fun l=>(List.range l.length).all (Iu l))=false:=Bool.eq_false_iff.2 fun e=>by
   have:=List.all_eq_true.1 e _ (List.mem_of_getElem? (Bm hr))
   rw[BQ hi h] at this;cases this
  rw[this];rfl
 have good:Iu (rg rs r) i=true-> ∀j,j<i+1->Iu (rg rs r) j=true:=fun h j hj=>by
  by_cases e:j=i
  ·subst e;exact h
  ·exact hoki j (by omega)
 refine xe<|zA<|zH<|?_
 repeat refine Ba ?_
 refine NI (X:=Nat×Nat) (fun y=>[(0,slv (some ⟨b,off,none⟩) rs.length cap),(3, .bool (B9 (rg rs r) (Bs rs r) i)),(4, .int .i64 (r:Nat)),(5,slv (some ⟨b3,off3,none⟩) (rg rs r).length cap2),(6, .int .i64 (i:Nat)),(7, .pointer (some ⟨y.1,0,none⟩)),(8, .pointer (some ⟨y.2,0,none⟩))])
  (fun y=>[⟨y.1,82,(sd (rg rs r) (prv (rg rs r).length i)).cells,true,none⟩,⟨y.2,82,(sd (rg rs r) i).cells,true,none⟩]) 4 Tryz.mixed (by kernel_rfl) ?_ ?_
 ·refine Mc I<|qV 30 ((i+(rg rs r).length-1:Nat):Int) I (show w64 (w64 ((i:Nat)+((rg rs r).length:Nat))-1)=((i+(rg rs r).length-1:Nat):Int) by rw[Ar (x:=(i:Nat)+((rg rs r).length:Nat)) (by omega) (by omega),Ar (by omega) (by omega)];omega)<|Ay I<|DO I I I I I (by omega) ?_
  refine qV 33 (prv (rg rs r).length i:Nat) I (show Int.tmod ((i+(rg rs r).length-1:Nat):Int) ((rg rs r).length:Nat)=(prv (rg rs r).length i:Nat) from(Int.ofNat_tmod _ _).symm)<|qJ ?_
  refine qL 0 I I (fun W hp=>(hrow3 _ hi2).hp hp) I<|Ay I<|qJ ?_
  refine qL 0 I I (fun W hp=>(hrow3 i hi).hp hp) I<|BR<|wX<|RS.cons ?_ (RS.cons ?_ (RS.nil))
  ·refine B5 Tryz.hZ rfl rfl rfl rfl ?_;intro b7
   refine zC<|Ah<|wX<|wZ<|?_
   refine B5 Tryz.hZ rfl rfl rfl rfl ?_;intro b8
   refine zC<|Ah<|wX<|wZ<|wS 0 I I I<|zC<|Ah<|wX<|wZ<|wS 1 I I I<|zC<|Ah<|?_
   (first|refine AF rfl (by((repeat (first|refine AK.same ?_|refine AK.off rfl ?_));exact trivial)) ?_|refine AR rfl (by kernel_rfl) ?_);(first|exact A7 (b7,b8) ⟨rfl,rfl,rfl,rfl,rfl,rfl,rfl,trivial⟩ [0,1] (by decide) rfl|exact A7 (b7,b8) ⟨rfl,rfl,rfl,rfl,rfl,rfl,rfl,trivial⟩ [1,0] (by decide) rfl)
  ·refine B5 Tryz.hZ rfl rfl rfl rfl ?_;intro b8
   refine zC<|Ah<|wX<|wZ<|?_
   refine B5 Tryz.hZ rfl rfl rfl rfl ?_;intro b7
   refine zC<|Ah<|wX<|wZ<|wS 1 I I I<|zC<|Ah<|wX<|wZ<|wS 0 I I I<|zC<|Ah<|?_
   (first|refine AF rfl (by((repeat (first|refine AK.same ?_|refine AK.off rfl ?_));exact trivial)) ?_|refine AR rfl (by kernel_rfl) ?_);(first|exact A7 (b7,b8) ⟨rfl,rfl,rfl,rfl,rfl,rfl,rfl,trivial⟩ [0,1] (by decide) rfl|exact A7 (b7,b8) ⟨rfl,rfl,rfl,rfl,rfl,rfl,rfl,trivial⟩ [1,0] (by decide) rfl)
 rintro⟨b7,b8⟩
 obtain⟨C1,c1⟩: ∃b,decide (LL (rg rs r) i<0)=b:=⟨_,rfl⟩
 obtain⟨C4,c4⟩: ∃b,((sd (rg rs r) (prv (rg rs r).length i)).plate !=(sd (rg rs r) i).plate)=b:=⟨_,rfl⟩
 have hC:Iu (rg rs r) i= !(C1&&((sd (rg rs r) (prv (rg rs r).length i)).gable||(sd (rg rs r) i).gable||C4)):=by unfold Iu;rw[c1,c4]
 refine zE<|xd<|Aa I<|wC I I (fun W hp=>NH W _ cap2 (rg rs r) i hlr (hq2.hp hp) hi)<|Aa I<|AI 44 I (fun h44=> ?_) (fun h44=> ?_)
 ·refine wP I<|wB 0 I I I<|wP I<|AI 47 I (fun h47=> ?_) (fun h47=> ?_)
  ·refine Af I I ?_
   refine Af I I ?_
   refine Aa I<|?_
   iterate 5 refine Af I I ?_
   refine Aa I<|zC<|?_
   have e:Iu (rg rs r) i=false:=by
    rw[hC,show C1=true from c1.symm.trans h44]
    first
    |(rw[show(sd (rg rs r) (prv (rg rs r).length i)).gable=true from h47];rfl)
    |(rw[show(sd (rg rs r) i).gable=true from h51];cases(sd (rg rs r) (prv (rg rs r).length i)).gable<;>rfl)
   exact zE<|zR I<|xb<|wP I<|xo<|xj<|xj<|zP<|wR1 I I (by rw[bad e])
  ·refine wP I<|wB 1 I I I<|Aa I<|AI 51 I (fun h51=> ?_) (fun h51=> ?_)
   ·refine Af I I ?_
    iterate 4 refine Af I I ?_
    refine Aa I<|zC<|?_
    have e:Iu (rg rs r) i=false:=by
     rw[hC,show C1=true from c1.symm.trans h44]
     first
     |(rw[show(sd (rg rs r) (prv (rg rs r).length i)).gable=true from h47];rfl)
     |(rw[show(sd (rg rs r) i).gable=true from h51];cases(sd (rg rs r) (prv (rg rs r).length i)).gable<;>rfl)
    exact zE<|zR I<|xb<|wP I<|xo<|xj<|xj<|zP<|wR1 I I (by rw[bad e])
   ·refine wP I<|wB 0 I I I<|wP I<|wB 1 I I I<|Ad I<|xa<|Ag I (fun hx=> ?_) (fun hx=> ?_)
    ·have e:Iu (rg rs r) i=false:=by
      rw[hC,show C1=true from c1.symm.trans h44,show C4=true from c4.symm.trans hx]
      cases(sd (rg rs r) (prv (rg rs r).length i)).gable<;>cases(sd (rg rs r) i).gable<;>rfl
     exact xb<|wP I<|xo<|xj<|xj<|zP<|wR1 I I (by rw[bad e])
    ·have e:Iu (rg rs r) i=true:=by
      rw[hC,show(sd (rg rs r) (prv (rg rs r).length i)).gable=false from h47]
      rw[show(sd (rg rs r) i).gable=false from h51,show C4=false from c4.symm.trans hx]
      cases C1<;>rfl
     refine xe<|zB<|Aa I<|AI 60 I (fun h60=> ?_) (fun h60=> ?_)
     ·refine Af I I ?_
      iterate 2 refine Af I I ?_
      exact Aa I<|zC<|xi<|Ad I<|zC<|Al (i+1) ⟨hi,good e⟩ (by omega) ⟨I,congrArg (fun z=>some (Value.bool z)) (show _=(B9 (rg rs r) (Bs rs r) i|| !(sd (rg rs r) i).gable) by first|(rw[show B9 (rg rs r) (Bs rs r) i=true from h60];rfl)|(rw[show B9 (rg rs r) (Bs rs r) i=false from h60];rfl)),I,I,congrArg (fun z=>some (Value.int .i64 z)) (AM (x:=(i:Int)+1) (by omega) (by omega)),tO⟩ [_,_] I
     ·exact wP I<|wB 1 I I I<|Ad I<|zC<|xi<|Ad I<|zC<|Al (i+1) ⟨hi,good e⟩ (by omega) ⟨I,congrArg (fun z=>some (Value.bool z)) (show _=(B9 (rg rs r) (Bs rs r) i|| !(sd (rg rs r) i).gable) by first|(rw[show B9 (rg rs r) (Bs rs r) i=true from h60];rfl)|(rw[show B9 (rg rs r) (Bs rs r) i=false from h60];rfl)),I,I,congrArg (fun z=>some (Value.int .i64 z)) (AM (x:=(i:Int)+1) (by omega) (by omega)),tO⟩ [_,_] I
 ·refine Af I I ?_
  iterate 12 refine Af I I ?_
  refine wP I<|zC<|?_
  have e:Iu (rg rs r) i=true:=by rw[hC,show C1=false from c1.symm.trans h44];rfl
  refine zE<|zS I<|xe<|zB<|Aa I<|AI 60 I (fun h60=> ?_) (fun h60=> ?_)
  ·refine Af I I ?_
   iterate 2 refine Af I I ?_
   exact Aa I<|zC<|xi<|Ad I<|zC<|Al (i+1) ⟨hi,good e⟩ (by omega) ⟨I,congrArg (fun z=>some (Value.bool z)) (show _=(B9 (rg rs r) (Bs rs r) i|| !(sd (rg rs r) i).gable) by first|(rw[show B9 (rg rs r) (Bs rs r) i=true from h60];rfl)|(rw[show B9 (rg rs r) (Bs rs r) i=false from h60];rfl)),I,I,congrArg (fun z=>some (Value.int .i64 z)) (AM (x:=(i:Int)+1) (by omega) (by omega)),tO⟩ [_,_] I
  ·exact wP I<|wB 1 I I I<|Ad I<|zC<|xi<|Ad I<|zC<|Al (i+1) ⟨hi,good e⟩ (by omega) ⟨I,congrArg (fun z=>some (Value.bool z)) (show _=(B9 (rg rs r) (Bs rs r) i|| !(sd (rg rs r) i).gable) by first|(rw[show B9 (rg rs r) (Bs rs r) i=true from h60];rfl)|(rw[show B9 (rg rs r) (Bs rs r) i=false from h60];rfl)),I,I,congrArg (fun z=>some (Value.int .i64 z)) (AM (x:=(i:Int)+1) (by omega) (by omega)),tO⟩ [_,_] I
def OC (rs:List (List Sd)):Int:=
 if rs.any (fun l=>l.length==0)=true then 5
 else if tot rs=0 then 5
 else if tot rs>24 then 4
 else if rs.flatten.any (fun s=> !rgd s)=true then 2
 else if rs.any (fun l=> !Ky l)=true then 14
 else if crs rs=true then 15
 else if (!Iq rs|| !LQ rs)=true then 14
 else 0
theorem Sr (W:World) (p:Option Addr) (cap:Nat) (rs:List (List Sd)) (hn:rs.length<4611686018427387904) (hT:tot rs<1099511627776) (hR:AL W p rs):
  Ae Tryz.prog 101 #[B0 p rs.length cap] W (fun _:Unit=> .int .i64 (OC rs)) (fun _=>True) (fun _=>[]):=by
 have hl: ∀l∈rs,l.length<4611686018427387904:=fun l h=>by have:=H8 h;omega
 refine Ab Tryz.func101 I I I<|xb<|wF I I fun _=>wP I<|zC<|?_
 rename_i b1
 refine zE<|xd<|wP I<|wB 0 I I I<|Aa I<|xa<|Ag I (fun h=> ?_) (fun h=> ?_)
 ·refine xb<|wP I<|xo<|?_
  have h0:rs=[]:=by have h':(((rs.length:Nat):Int)==0)=true:=h;rw[beq_iff_eq] at h';exact List.length_eq_zero_iff.1 (by omega)
  exact wR1 rfl rfl (by subst h0;rfl)
 have hpos:0<rs.length:=by have h':(((rs.length:Nat):Int)==0)=false:=h;rw[beq_eq_false_iff_ne] at h';omega
 clear h
 obtain⟨b,off,rfl,hrow⟩:=hR.row hpos
 refine xm<|wP I<|xk<|wP I<|xa<|zH<|?_
 refine Av (X:=Nat) (fun k=>[(1, .pointer (some ⟨b1,0,none⟩)),(3, .int .i64 (tot (rs.take k):Nat)),(4, .int .i64 (k:Nat))]) (fun _=>[⟨b1,24,[slv (some ⟨b,off,none⟩) rs.length cap],true,none⟩])
  (fun k=>k<=rs.length/\ ∀j,j<k->(rg rs j).length≠0) (fun k=>rs.length-k) 0 ⟨Nat.zero_le _,fun j hj=>absurd hj (Nat.not_lt_zero _)⟩ ⟨rfl,rfl,rfl,trivial⟩ [] rfl ?_
 rintro k ⟨hk,hok⟩
 refine xd<|Aa I<|wB 0 I I I<|Aa I<|xa<|Ag I (fun h=> ?_) (fun h=> ?_)
 ·have hk:k<rs.length:=by simp at h;omega
  clear h
  obtain⟨q,cap2,hq1,hq2⟩:=hrow k hk
  refine xe<|zA<|zH<|xd<|wP I<|wB 0 I I I<|wP I<|wJ ?_
  refine wL 0 I I (fun W hp=>hq1.hp hp) I<|Aa I<|xa<|Ag I (fun h=> ?_) (fun h=> ?_)
  ·refine xb<|wP I<|xo<|xj<|zP<|?_
   have he:rs.any (fun l=>l.length==0)=true:=List.any_eq_true.2 ⟨_,List.mem_of_getElem? (Bm hk),by have h':((((rg rs k).length:Nat):Int)==0)=true:=h;rw[beq_iff_eq] at h'⊢;omega⟩
   exact wR1 I I (by unfold OC;rw[if_pos he])
  have hz:(rg rs k).length≠0:=by
   have h':((((rg rs k).length:Nat):Int)==0)=false:=h
   rw[beq_eq_false_iff_ne] at h';omega
  clear h
  refine xe<|zB<|Aa I<|wB 0 I I I<|wP I<|wJ ?_
  refine wL 0 I I (fun W hp=>hq1.hp hp) I<|Ad I<|zC<|?_
  have hs:w64 ((tot (rs.take k):Nat)+((rg rs k).length:Nat))=(tot (rs.take (k+1)):Nat):=by
   have h1:=Bq hk
   have h2:=Cs rs (k+1)
   rw[Ar (by omega) (by omega)];omega
  refine xi<|Ap 3 _ I (congrArg (Value.int .i64) hs)<|Ad I<|zC<|Al (k+1) ⟨hk,fun j hj=> ?_⟩ (by omega) ⟨I,I,congrArg (fun z=>some (Value.int .i64 z)) (AM (x:=(k:Int)+1) (by omega) (by omega)),tO⟩ [] I
  by_cases e:j=k
  ·subst e;exact hz
  ·exact hok j (by omega)
 have e:k=rs.length:=by simp at h;omega
 subst e
 clear h
 rw[List.take_length]
 have hne: ∀l∈rs,l≠[]:=fun l hl e=>by
  obtain⟨i,hi,e2⟩:=List.getElem_of_mem hl
  have:=hok i hi
  rw[show rg rs i=rs[i] by simp[rg,hi],e2,e] at this
  exact this I
 have he:rs.any (fun l=>l.length==0)=false:=Bool.eq_false_iff.2 fun h2=>by
  obtain⟨l,h3,h4⟩:=List.any_eq_true.1 h2
  rw[beq_iff_eq] at h4
  exact hne l h3 (List.length_eq_zero_iff.1 h4)
 have hN: ¬(rs.any (fun l=>l.length==0)=true):=by rw[he];decide
 have h0: ¬tot rs=0:=by
  have h1:=H8 (List.mem_of_getElem? (Bm hpos))
  have h2:=hok 0 hpos
  omega
 refine xg<|zE<|xd<|Aa I<|xa<|Ag I (fun h=> ?_) (fun h=> ?_)
 ·refine xb<|wP I<|xo<|?_
  have h1:tot rs>24:=by have h':decide (((tot rs:Nat):Int)>24)=true:=h;rw[decide_eq_true_iff] at h';omega
  exact wR1 I I (by unfold OC;rw[if_neg hN,if_neg h0,if_pos h1])
 have h1: ¬tot rs>24:=by have h':decide (((tot rs:Nat):Int)>24)=false:=h;rw[decide_eq_false_iff_not] at h';omega
 clear h
 refine xe<|xd<|wP I<|xa<|zH<|?_
 refine Av (X:=Nat) (fun k=>[(1, .pointer (some ⟨b1,0,none⟩)),(5, .int .i64 (k:Nat))]) (fun _=>[⟨b1,24,[slv (some ⟨b,off,none⟩) rs.length cap],true,none⟩])
  (fun k=>k<=rs.length/\ ∀j,j<k-> ∀s∈rg rs j,rgd s=true) (fun k=>rs.length-k) 0 ⟨Nat.zero_le _,fun j hj=>absurd hj (Nat.not_lt_zero _)⟩ ⟨rfl,rfl,trivial⟩ [] rfl ?_
 rintro k ⟨hk,hok2⟩
 refine xd<|Aa I<|wB 0 I I I<|Aa I<|xa<|Ag I (fun h=> ?_) (fun h=> ?_)
 ·have hk:k<rs.length:=by simp at h;omega
  clear h
  obtain⟨q,cap2,hq1,hq2⟩:=hrow k hk
  have hlk:=hl _ (List.mem_of_getElem? (Bm hk))
  refine xh<|wP I<|xa<|zH<|?_
  refine Av (X:=Nat) (fun i=>[(1, .pointer (some ⟨b1,0,none⟩)),(5, .int .i64 (k:Nat)),(6, .int .i64 (i:Nat))]) (fun _=>[⟨b1,24,[slv (some ⟨b,off,none⟩) rs.length cap],true,none⟩])
   (fun i=>i<=(rg rs k).length/\ ∀j,j<i->rgd (sd (rg rs k) j)=true) (fun i=>(rg rs k).length-i) 0 ⟨Nat.zero_le _,fun j hj=>absurd hj (Nat.not_lt_zero _)⟩ ⟨rfl,rfl,rfl,trivial⟩ [] rfl ?_
  rintro i ⟨hi,hoki⟩
  refine xd<|Aa I<|wB 0 I I I<|wP I<|wJ ?_
  refine wL 0 I I (fun W hp=>hq1.hp hp) I<|Aa I<|xa<|Ag I (fun h=> ?_) (fun h=> ?_)
  ·have hi:i<(rg rs k).length:=by simp at h;omega
   clear h
   obtain⟨b4,off4,rfl,hrow4⟩:=hq2.row hi
   refine xh<|wP I<|wB 0 I I I<|wP I<|wJ ?_
   refine wL 0 I I (fun W hp=>hq1.hp hp) I<|wP I<|wJ ?_
   refine wL 0 I I (fun W hp=>(hrow4 i hi).hp hp) I<|wC I I (fun W _=>PH (sd (rg rs k) i) W)<|wP I<|xa<|Ag I (fun h=> ?_) (fun h=> ?_)
   ·refine xb<|wP I<|xc<|xj<|xj<|zP<|?_
    have h2:rs.flatten.any (fun s=> !rgd s)=true:=List.any_eq_true.2 ⟨sd (rg rs k) i,List.mem_flatten.2 ⟨rg rs k,List.mem_of_getElem? (Bm hk),List.mem_of_getElem? (GL hi)⟩,h⟩
    exact wR1 I I (by unfold OC;rw[if_neg hN,if_neg h0,if_neg h1,if_pos h2])
   ·have hg:rgd (sd (rg rs k) i)=true:=by have h':(!rgd (sd (rg rs k) i))=false:=h;simpa using h'
    refine zI<|xi<|Ad I<|zC<|Al (i+1) ⟨hi,fun j hj=> ?_⟩ (by omega) ⟨I,I,congrArg (fun z=>some (Value.int .i64 z)) (AM (x:=(i:Int)+1) (by omega) (by omega)),tO⟩ [] I
    by_cases e:j=i
    ·subst e;exact hg
    ·exact hoki j (by omega)
  ·have e:i=(rg rs k).length:=by simp at h;omega
   subst e
   refine xg<|xi<|Ad I<|zC<|Al (k+1) ⟨hk,fun j hj s hs=> ?_⟩ (by omega) ⟨I,congrArg (fun z=>some (Value.int .i64 z)) (AM (x:=(k:Int)+1) (by omega) (by omega)),tO⟩ [] I
   by_cases e:j=k
   ·subst e
    obtain⟨m,hm,e⟩:=List.getElem_of_mem hs
    have:=hoki m hm
    rw[show sd (rg rs j) m=s by simp[sd,hm,e]] at this
    exact this
   ·exact hok2 j (by omega) s hs
 have e:k=rs.length:=by simp at h;omega
 subst e
 clear h
 have hrg: ∀l∈rs, ∀s∈l,rgd s=true:=fun l hl s hs=>by
  obtain⟨i,hi,e2⟩:=List.getElem_of_mem hl
  have:=hok2 i hi
  rw[show rg rs i=l by simp[rg,hi,e2]] at this
  exact this s hs
 have h2: ¬(rs.flatten.any (fun s=> !rgd s)=true):=fun h=>by
  obtain⟨s,hs,h⟩:=List.any_eq_true.1 h
  obtain⟨l,hl,hs⟩:=List.mem_flatten.1 hs
  rw[hrg l hl s hs] at h;cases h
 refine xg<|zE<|xd<|wP I<|xa<|zH<|?_
 refine Av (X:=Nat) (fun k=>[(1, .pointer (some ⟨b1,0,none⟩)),(7, .int .i64 (k:Nat))]) (fun _=>[⟨b1,24,[slv (some ⟨b,off,none⟩) rs.length cap],true,none⟩])
  (fun k=>k<=rs.length/\ ∀j,j<k->Ky (rg rs j)=true) (fun k=>rs.length-k) 0 ⟨Nat.zero_le _,fun j hj=>absurd hj (Nat.not_lt_zero _)⟩ ⟨rfl,rfl,trivial⟩ [] rfl ?_
 rintro k ⟨hk,hok3⟩
 refine xd<|Aa I<|wB 0 I I I<|Aa I<|xa<|Ag I (fun h=> ?_) (fun h=> ?_)
 ·have hk:k<rs.length:=by simp at h;omega
  clear h
  obtain⟨q,cap2,hq1,hq2⟩:=hrow k hk
  have hlk:=hl _ (List.mem_of_getElem? (Bm hk))
  refine xh<|wP I<|wB 0 I I I<|wP I<|wJ ?_
  refine wL 0 I I (fun W hp=>hq1.hp hp) I<|wC I I (fun W hp=>PZ W q cap2 (rg rs k) hlk (hq2.hp hp))<|wP I<|xa<|Ag I (fun h=> ?_) (fun h=> ?_)
  ·refine xb<|wP I<|xc<|xj<|zP<|?_
   have h3:rs.any (fun l=> !Ky l)=true:=List.any_eq_true.2 ⟨_,List.mem_of_getElem? (Bm hk),h⟩
   exact wR1 I I (by unfold OC;rw[if_neg hN,if_neg h0,if_neg h1,if_neg h2,if_pos h3])
  ·have hg:Ky (rg rs k)=true:=by have h':(!Ky (rg rs k))=false:=h;simpa using h'
   refine zI<|xi<|Ad I<|zC<|Al (k+1) ⟨hk,fun j hj=> ?_⟩ (by omega) ⟨I,congrArg (fun z=>some (Value.int .i64 z)) (AM (x:=(k:Int)+1) (by omega) (by omega)),tO⟩ [] I
   by_cases e:j=k
   ·subst e;exact hg
   ·exact hok3 j (by omega)
 have e:k=rs.length:=by simp at h;omega
 subst e
 clear h
 have h3: ¬(rs.any (fun l=> !Ky l)=true):=fun h=>by
  obtain⟨l,hl,h⟩:=List.any_eq_true.1 h
  obtain⟨i,hi,e2⟩:=List.getElem_of_mem hl
  have:=hok3 i hi
  rw[show rg rs i=l by simp[rg,hi,e2]] at this
  rw[this] at h;cases h
 refine xg<|zE<|xd<|wP I<|wB 0 I I I<|wC I I (fun W hp=>Pu W _ cap rs hn hl (hR.below (Nat.le_refl _) hp.below))<|xa<|Ag I (fun h=> ?_) (fun h=> ?_)
 ·exact xb<|wP I<|xo<|wR1 I I (by unfold OC;rw[if_neg hN,if_neg h0,if_neg h1,if_neg h2,if_neg h3,if_pos h])
 have h4: ¬(crs rs=true):=by rw[h];decide
 clear h
 refine xe<|xd<|wP I<|wB 0 I I I<|wC I I (fun W hp=>PL W _ cap rs hn hl hne hpos (hR.below (Nat.le_refl _) hp.below))<|Aa I<|AI 84 I (fun h84=> ?_) (fun h84=> ?_)
 ·refine Af I I ?_
  iterate 3 refine Af I I ?_
  refine wP I<|zC<|?_
  have h5:(!Iq rs|| !LQ rs)=true:=by rw[show(!Iq rs)=true from h84];rfl
  exact zE<|zR I<|xb<|wP I<|xo<|wR1 I I (by unfold OC;rw[if_neg hN,if_neg h0,if_neg h1,if_neg h2,if_neg h3,if_neg h4,if_pos h5])
 ·refine wP I<|wB 0 I I I<|wC I I (fun W hp=>Ri W _ cap rs hn hl (hR.below (Nat.le_refl _) hp.below))<|Aa I<|zC<|?_
  have h':(!Iq rs)=false:=h84
  refine zE<|Ag I (fun h=> ?_) (fun h=> ?_)
  ·refine xb<|wP I<|xo<|?_
   have h5:(!Iq rs|| !LQ rs)=true:=by rw[h',show(!LQ rs)=true from h];rfl
   exact wR1 I I (by unfold OC;rw[if_neg hN,if_neg h0,if_neg h1,if_neg h2,if_neg h3,if_neg h4,if_pos h5])
  ·refine xm<|wP I<|xc<|?_
   have h5: ¬((!Iq rs|| !LQ rs)=true):=by rw[h',show(!LQ rs)=false from h];decide
   exact wR1 I I (by unfold OC;rw[if_neg hN,if_neg h0,if_neg h1,if_neg h2,if_neg h3,if_neg h4,if_neg h5])
end
section
open Go Go.RowKit Go.Am
theorem FU (a:Int):(sgI a= -1/\a<0)\/(sgI a=0/\a=0)\/(sgI a=1/\a>0):=by
 unfold sgI
 rcases Int.lt_trichotomy a 0 with h|h|h
 ·rw[if_pos h];exact .inl ⟨rfl,h⟩
 ·rw[if_neg (by omega),if_neg (by omega)];exact .inr (.inl ⟨rfl,h⟩)
 ·rw[if_neg (by omega),if_pos h];exact .inr (.inr ⟨rfl,h⟩)
theorem Vk {l:List Sd} (hr: ∀s∈l,inR s) {i:Nat} (hi:i<l.length):OQ l i=sgI ((sd l (nxt l.length i)).x-(sd l i).x)/\NP l i=sgI ((sd l (nxt l.length i)).y-(sd l i).y):=by
 obtain⟨s1,s2,s3,s4⟩:=Dq hr hi
 obtain⟨n1,n2,n3,n4⟩:=Dq hr (Ei hi)
 unfold OQ NP
 rw[d64 ⟨n1,n2⟩ ⟨s1,s2⟩,d64 ⟨n3,n4⟩ ⟨s3,s4⟩]
 exact⟨I,I⟩
theorem Pp {l:List Sd} (hr: ∀s∈l,inR s) {i:Nat} (hi:i<l.length):axR l i=true↔ ¬(((sd l (nxt l.length i)).x-(sd l i).x=0)↔((sd l (nxt l.length i)).y-(sd l i).y=0)):=by
 obtain⟨e1,e2⟩:=Vk hr hi
 unfold axR
 rw[e1,e2]
 generalize (sd l (nxt l.length i)).x-(sd l i).x=a
 generalize (sd l (nxt l.length i)).y-(sd l i).y=b
 rcases FU a with⟨ea,ha⟩|⟨ea,ha⟩|⟨ea,ha⟩<;>rcases FU b with⟨eb,hb⟩|⟨eb,hb⟩|⟨eb,hb⟩<;>rw[ea,eb]
 ·rw[show(w64 (w64 (-1* -1)+w64 (-1* -1))==1)=false by decide];constructor<;>intro h;cases h;omega
 ·rw[show(w64 (w64 (-1* -1)+w64 (0*0))==1)=true by decide];constructor<;>intro h;omega;rfl
 ·rw[show(w64 (w64 (-1* -1)+w64 (1*1))==1)=false by decide];constructor<;>intro h;cases h;omega
 ·rw[show(w64 (w64 (0*0)+w64 (-1* -1))==1)=true by decide];constructor<;>intro h;omega;rfl
 ·rw[show(w64 (w64 (0*0)+w64 (0*0))==1)=false by decide];constructor<;>intro h;cases h;omega
 ·rw[show(w64 (w64 (0*0)+w64 (1*1))==1)=true by decide];constructor<;>intro h;omega;rfl
 ·rw[show(w64 (w64 (1*1)+w64 (-1* -1))==1)=false by decide];constructor<;>intro h;cases h;omega
 ·rw[show(w64 (w64 (1*1)+w64 (0*0))==1)=true by decide];constructor<;>intro h;omega;rfl
 ·rw[show(w64 (w64 (1*1)+w64 (1*1))==1)=false by decide];constructor<;>intro h;cases h;omega
theorem L8 {l:List Sd} (hr: ∀s∈l,inR s) {i:Nat} (hi:i<l.length) (h1:axR l i=true) (h2:axR l (prv l.length i)=true):
  (LL l i≠0↔ ¬(((sd l i).x-(sd l (prv l.length i)).x=0)↔((sd l (nxt l.length i)).x-(sd l i).x=0)))/\(LL l i≠0->(LL l i<0↔Ir (sd l (prv l.length i)) (sd l i) (sd l (nxt l.length i))=false)):=by
 have a1:=(Pp hr hi).1 h1
 have a2:=(Pp hr (Ha hi)).1 h2
 obtain⟨e1,e2⟩:=Vk hr hi
 obtain⟨e3,e4⟩:=Vk hr (Ha hi)
 rw[Zx hi] at a2 e3 e4
 have i1:=Dq hr hi
 have i2:=Dq hr (Ei hi)
 have i3:=Dq hr (Ha hi)
 rw[XO i3 i1 i2,decide_eq_false_iff_not]
 unfold LL
 rw[e1,e2,e3,e4]
 generalize (sd l (nxt l.length i)).x-(sd l i).x=c at*
 generalize (sd l (nxt l.length i)).y-(sd l i).y=d at*
 generalize (sd l i).x-(sd l (prv l.length i)).x=a at*
 generalize (sd l i).y-(sd l (prv l.length i)).y=b at*
 have pp: ∀x y:Int,x>0->y>0->x*y>0:=fun x y h h'=>Int.mul_pos h h'
 have pn: ∀x y:Int,x>0->y<0->x*y<0:=fun x y h h'=>Int.mul_neg_of_pos_of_neg h h'
 have np: ∀x y:Int,x<0->y>0->x*y<0:=fun x y h h'=>Int.mul_neg_of_neg_of_pos h h'
 have nn: ∀x y:Int,x<0->y<0->x*y>0:=fun x y h h'=>Int.mul_pos_of_neg_of_neg h h'
 by_cases ha:a=0
 ·subst ha
  have hb:b≠0:=by omega
  rw[show sgI 0=0 from rfl,Int.zero_mul,Int.zero_mul]
  by_cases hd:d=0
  ·subst hd
   have hc:c≠0:=by omega
   rcases FU b with⟨eb,hb'⟩|⟨eb,hb'⟩|⟨eb,hb'⟩<;>rcases FU c with⟨ec,hc'⟩|⟨ec,hc'⟩|⟨ec,hc'⟩<;>first|omega|skip
   ·rw[eb,ec,show w64 (w64 0-w64 (-1* -1))= -1 by decide];have:=nn b c hb' hc';omega
   ·rw[eb,ec,show w64 (w64 0-w64 (-1*1))=1 by decide];have:=np b c hb' hc';omega
   ·rw[eb,ec,show w64 (w64 0-w64 (1* -1))=1 by decide];have:=pn b c hb' hc';omega
   ·rw[eb,ec,show w64 (w64 0-w64 (1*1))= -1 by decide];have:=pp b c hb' hc';omega
  ·have hc:c=0:=by omega
   subst hc
   rw[show sgI 0=0 from rfl,Int.mul_zero,show w64 (w64 0-w64 0)=0 by decide]
   omega
 ·have hb:b=0:=by omega
  subst hb
  rw[show sgI 0=0 from rfl,Int.zero_mul,Int.zero_mul]
  by_cases hc:c=0
  ·subst hc
   have hd:d≠0:=by omega
   rcases FU a with⟨eb,hb'⟩|⟨eb,hb'⟩|⟨eb,hb'⟩<;>rcases FU d with⟨ec,hc'⟩|⟨ec,hc'⟩|⟨ec,hc'⟩<;>first|omega|skip
   ·rw[eb,ec,show w64 (w64 (-1* -1)-w64 0)=1 by decide];have:=nn a d hb' hc';omega
   ·rw[eb,ec,show w64 (w64 (-1*1)-w64 0)= -1 by decide];have:=np a d hb' hc';omega
   ·rw[eb,ec,show w64 (w64 (1* -1)-w64 0)= -1 by decide];have:=pn a d hb' hc';omega
   ·rw[eb,ec,show w64 (w64 (1*1)-w64 0)=1 by decide];have:=pp a d hb' hc';omega
  ·have hd:d=0:=by omega
   subst hd
   rw[show sgI 0=0 from rfl,Int.mul_zero,show w64 (w64 0-w64 0)=0 by decide]
   omega
theorem YE {l:List Sd} (hr: ∀s∈l,inR s):Ky l=shp l:=by
 rw[Bool.eq_iff_iff]
 constructor
 ·intro h
  unfold Ky at h
  obtain⟨h1,h2⟩:=Bool.and_eq_true_iff.1 h
  have ok: ∀i,i<l.length->axR l i=true/\LL l i≠0:=fun i hi=>by
   have:=List.all_eq_true.1 h1 i (List.mem_range.2 hi)
   unfold okR at this
   obtain⟨a,b⟩:=Bool.and_eq_true_iff.1 this
   exact⟨a,by simpa using b⟩
  exact dZ hr (of_decide_eq_true h2) fun i hi=>⟨(Pp hr hi).1 (ok i hi).1,(L8 hr hi (ok i hi).1 (ok _ (Ha hi)).1).1.1 (ok i hi).2⟩
 ·intro h
  have ax: ∀i,i<l.length->axR l i=true:=fun i hi=>(Pp hr hi).2 (Fy hr h hi).1
  unfold Ky
  rw[dT (Vu h),Bool.and_true]
  refine List.all_eq_true.2 fun i hi=> ?_
  have hi:=List.mem_range.1 hi
  have:=(L8 hr hi (ax i hi) (ax _ (Ha hi))).1.2 (Fy hr h hi).2
  unfold okR
  rw[ax i hi,beq_eq_false_iff_ne.2 this];rfl
theorem Y7 {l:List Sd} (hr: ∀s∈l,inR s) (h:shp l=true) {i:Nat} (hi:i<l.length):LL l i≠0/\(LL l i<0↔Ir (sd l (prv l.length i)) (sd l i) (sd l (nxt l.length i))=false):=by
 have ax: ∀i,i<l.length->axR l i=true:=fun i hi=>(Pp hr hi).2 (Fy hr h hi).1
 have t:=L8 hr hi (ax i hi) (ax _ (Ha hi))
 have hne:=t.1.2 (Fy hr h hi).2
 exact⟨hne,t.2 hne⟩
theorem dY {l:List Sd} (hr: ∀s∈l,inR s) (h:shp l=true) {i:Nat} (hi:i<l.length):Iu l i=Df l i:=by
 have t:=(Y7 hr h hi).2
 unfold Iu Df Pn
 cases hl:Ir (sd l (prv l.length i)) (sd l i) (sd l (nxt l.length i)) with
 |true=>rw[dF (fun e=>by rw[t.1 e] at hl;cases hl)];rfl
 |false=>
  rw[dT (t.2 hl),Bool.true_and,Bool.false_or]
  have e: ∀a b:Int,(!(false||false||(a !=b)))=(!false&& !false&&(b==a)):=fun a b=>by
   by_cases h:a=b
   ·subst h;simp
   ·rw[bne_iff_ne.2 h,beq_eq_false_iff_ne.2 (fun x=>h x.symm)];rfl
  cases(sd l i).gable<;>cases(sd l (prv l.length i)).gable<;>first|rfl|exact e _ _
theorem fD {rs:List (List Sd)} (hin:Wv rs) (hs: ∀l∈rs,shp l=true):LQ rs=jnd rs:=by
 unfold LQ jnd
 congr 1
 rw[Bool.eq_iff_iff,List.all_eq_true,List.all_eq_true]
 have e: ∀l∈rs,((List.range l.length).all (Iu l))=Ht l:=fun l hl=>Qv fun i hi=>dY (hin l hl) (hs l hl) hi
 constructor<;>intro h l hl
 ·rw[<-e l hl];exact h l hl
 ·rw[e l hl];exact h l hl
theorem cR {l:List Sd} (h: ∀s∈l,inR s): ∀k,k<=l.length->k<=1000000->twR l k=AO (Fj l) k/\ -(k*4294967296:Int)<=twR l k/\twR l k<=k*4294967296
 |0,_,_=>⟨rfl,by simp[twR],by simp[twR]⟩
 |k+1,hk,hm=>by
  obtain⟨h1,h2,h3⟩:=cR h k (by omega) (by omega)
  have hs:=Dq h (show k<l.length by omega)
  have hn:=Dq h (Ei (show k<l.length by omega))
  obtain⟨a1,a2⟩:=Jw hs.1 hs.2.1 hn.2.2.1 hn.2.2.2
  obtain⟨b1,b2⟩:=Jw hs.2.2.1 hs.2.2.2 hn.1 hn.2.1
  have e:twR l (k+1)=twR l k+Fj l k:=by
   show w64 (w64 (twR l k+w64 ((sd l k).x*(sd l (nxt l.length k)).y))-w64 ((sd l (nxt l.length k)).x*(sd l k).y))=_
   unfold Fj
   rw[Int.mul_comm (sd l (nxt l.length k)).x,Ar (x:=(sd l k).x*_) (by omega) (by omega),Ar (x:=(sd l k).y*_) (by omega) (by omega),Ar (x:=twR l k+_) (by omega) (by omega)]
   rw[Ar (by omega) (by omega)];omega
  have ec:Fj l k=(sd l k).x*(sd l (nxt l.length k)).y-(sd l k).y*(sd l (nxt l.length k)).x:=rfl
  refine⟨by rw[e,h1];rfl, ?_, ?_⟩<;>rw[e,ec]<;>push_cast<;>omega
theorem Zd {l:List Sd} (h: ∀s∈l,inR s) (px py:Int): ∀k,k<=l.length->Hj l px py k=Ew l px py k
 |0,_=>rfl
 |k+1,hk=>by
  have hs:=Dq h (show k<l.length by omega)
  have hn:=Dq h (Ei (show k<l.length by omega))
  have e:MB (sd l k) (sd l (nxt l.length k)) px py=JJ (sd l k) (sd l (nxt l.length k)) px py:=by
   unfold MB JJ
   rw[d64 ⟨hn.1,hn.2.1⟩ ⟨hs.1,hs.2.1⟩]
   generalize sd l k=t
   generalize sd l (nxt l.length k)=u
   by_cases hx:t.x=u.x
   ·rw[beq_iff_eq.2 hx,beq_iff_eq.2 (show u.x-t.x=0 by omega),hx]
    rw[Bool.true_and,Bool.and_assoc]
    congr 1
    unfold loy hiy
    by_cases h1:t.y>py<;>by_cases h2:u.y>py
    ·rw[dT h1,dT h2,dF (by split<;>omega)];rfl
    ·rw[dT h1,dF h2,dT (by split<;>omega),dT (by split<;>omega)];rfl
    ·rw[dF h1,dT h2,dT (by split<;>omega),dT (by split<;>omega)];rfl
    ·rw[dF h1,dF h2,dF (p:=py<_) (by split<;>omega),Bool.and_false];rfl
   ·rw[beq_eq_false_iff_ne.2 hx,beq_eq_false_iff_ne.2 (show u.x-t.x≠0 by omega)];rfl
  show(if MB (sd l k) (sd l (nxt l.length k)) px py=true then !Hj l px py k else Hj l px py k)=(if JJ (sd l k) (sd l (nxt l.length k)) px py=true then !Ew l px py k else Ew l px py k)
  rw[e,Zd h px py k (by omega)]
theorem dK {rs:List (List Sd)} (hin:Wv rs) (hs: ∀l∈rs,shp l=true) (hc:crs rs=false) (hT:tot rs<=24) (hpos:0<rs.length):Iq rs=plc rs:=by
 have ar: ∀r,r<rs.length->twR (rg rs r) (rg rs r).length=Dc (rg rs r) (rg rs r).length/\Dc (rg rs r) (rg rs r).length≠0:=fun r hr=>by
  have hm:rg rs r∈rs:=List.mem_of_getElem? (Bm hr)
  have hlen:=H8 hm
  rw[(cR (hin _ hm) _ (Nat.le_refl _) (by omega)).1,(Q8 (hin _ hm) _ (Nat.le_refl _) (by omega)).1]
  exact⟨I,Zr hin hs hc hr⟩
 have pk: ∀r s,r<rs.length->s<rs.length->r≠0->PU rs r s=Gk rs r s:=fun r s hr hs' h0=>by
  unfold PU Gk
  rw[Zd (hin _ (List.mem_of_getElem? (Bm hs'))) _ _ _ (Nat.le_refl _),beq_eq_false_iff_ne.2 h0,Bool.or_false]
 have all: ∀r,r<rs.length->r≠0->((List.range rs.length).all (PU rs r))=((List.range rs.length).all (Gk rs r)):=fun r hr h0=>Qv fun s hs'=>pk r s hr hs' h0
 rw[Bool.eq_iff_iff]
 constructor
 ·intro h
  unfold Iq at h
  obtain⟨h1,h2⟩:=Bool.and_eq_true_iff.1 h
  refine List.all_eq_true.2 fun r hr=> ?_
  have hr:=List.mem_range.1 hr
  have hr2:=List.all_eq_true.1 h2 r (List.mem_range.2 hr)
  obtain⟨a1,a2⟩:=ar r hr
  unfold DH
  by_cases e:r=0
  ·subst e
   rw[a1] at h1
   have h1: ¬Dc (rg rs 0) (rg rs 0).length<=0:=by simpa using h1
   rw[dT (by omega)]
   exact Bool.and_eq_true_iff.2 ⟨I,List.all_eq_true.2 fun k _=>by unfold Gk;simp⟩
  ·unfold Us at hr2
   rw[beq_eq_false_iff_ne.2 e,Bool.false_or,a1] at hr2
   obtain⟨b1,b2⟩:=Bool.and_eq_true_iff.1 hr2
   have b1: ¬Dc (rg rs r) (rg rs r).length≥0:=by simpa using b1
   rw[dF (by omega),beq_eq_false_iff_ne.2 e, <-all r hr e,b2];rfl
 ·intro h
  have pr: ∀r,r<rs.length->DH rs r=true:=fun r hr=>List.all_eq_true.1 h r (List.mem_range.2 hr)
  unfold Iq
  have h0:=pr 0 hpos
  unfold DH at h0
  obtain⟨c1,_⟩:=Bool.and_eq_true_iff.1 h0
  obtain⟨a1,a2⟩:=ar 0 hpos
  have c2:Dc (rg rs 0) (rg rs 0).length>0:=by simpa using c1
  rw[a1,dF (by omega),Bool.not_false,Bool.true_and]
  refine List.all_eq_true.2 fun r hr=> ?_
  have hr:=List.mem_range.1 hr
  unfold Us
  by_cases e:r=0
  ·subst e;rfl
  ·have h1:=pr r hr
   unfold DH at h1
   obtain⟨d1,d2⟩:=Bool.and_eq_true_iff.1 h1
   obtain⟨a1,a2⟩:=ar r hr
   rw[beq_eq_false_iff_ne.2 e,beq_iff_eq,decide_eq_false_iff_not] at d1
   rw[a1,dF (by omega),all r hr e,d2]
   simp
theorem ZZ (rs:List (List Sd)):OC rs=chk rs:=by
 unfold OC chk
 by_cases hN:rs.any (fun l=>l.length==0)=true
 ·rw[if_pos hN,if_pos hN]
 rw[if_neg hN,if_neg hN]
 by_cases h0:tot rs=0
 ·rw[if_pos h0,if_pos h0]
 rw[if_neg h0,if_neg h0]
 by_cases h1:tot rs>24
 ·rw[if_pos h1,if_pos h1]
 rw[if_neg h1,if_neg h1]
 by_cases h2:rs.flatten.any (fun s=> !rgd s)=true
 ·rw[if_pos h2,if_pos h2]
 rw[if_neg h2,if_neg h2]
 have hg: ∀l∈rs, ∀s∈l,rgd s=true:=bV (by simpa using h2)
 have hin:Wv rs:=fun l hl s hs=>VD (hg l hl s hs)
 have e3:rs.any (fun l=> !Ky l)=rs.any (fun l=> !shp l):=by
  rw[Bool.eq_iff_iff,List.any_eq_true,List.any_eq_true]
  constructor<;>rintro⟨l,hl,h⟩
  ·exact⟨l,hl,by rw[<-YE (hin l hl)];exact h⟩
  ·exact⟨l,hl,by rw[YE (hin l hl)];exact h⟩
 rw[e3]
 by_cases h3:rs.any (fun l=> !shp l)=true
 ·rw[if_pos h3,if_pos h3]
 rw[if_neg h3,if_neg h3]
 have hs: ∀l∈rs,shp l=true:=fun l hl=>by
  cases h:shp l with
  |true=>rfl
  |false=>exact absurd (List.any_eq_true.2 ⟨l,hl,by rw[h];rfl⟩) h3
 by_cases h4:crs rs=true
 ·rw[if_pos h4,if_pos h4]
 rw[if_neg h4,if_neg h4]
 have hpos:0<rs.length:=by
  cases rs with
  |nil=>exact absurd rfl h0
  |cons x rs=>simp
 rw[dK hin hs (by simpa using h4) (by omega) hpos,fD hin hs]
end
section
open Go Go.RowKit Go.Am Go.Lib
set_option maxRecDepth 10000
theorem ZC {rs:List (List Sd)} {r:Nat} (hr:r<rs.length) (i:Nat) (hi:i<(rg rs r).length):rs.flatten[tot (rs.take r)+i]? =some (sd (rg rs r) i):=by
 have e:rs.flatten=(rs.take r).flatten++(rg rs r++(rs.drop (r+1)).flatten):=by
  conv=>lhs;rw[<-List.take_append_drop r rs,List.drop_eq_getElem_cons hr,List.flatten_append,List.flatten_cons]
  rw[show rs[r]=rg rs r by unfold rg;rw[List.getD_eq_getElem?_getD,List.getElem?_eq_getElem hr];rfl]
 have hl:(rs.take r).flatten.length=tot (rs.take r):=List.length_flatten
 rw[e,List.getElem?_append_right (by omega),hl,Nat.add_sub_cancel_left,List.getElem?_append_left hi]
 exact GL hi
theorem ZF {rs:List (List Sd)} {r:Nat} (hr:r<rs.length) {i:Nat} (hi:i<(rg rs r).length):sd rs.flatten (tot (rs.take r)+i)=sd (rg rs r) i:=by
 have h1:=ZC hr i hi
 have h2:=GL (l:=rs.flatten) (List.getElem?_eq_some_iff.1 h1).1
 rw[h1] at h2
 exact(Option.some.inj h2).symm
theorem Vec.frs {V:Vec} {l:List FrP} (hV:V.OK 5 l.length (frC l)) (h0:0<l.length): ∃g cap,V.val l.length= .slice (some ⟨g,0,none⟩) l.length cap/\
  ∀ {W0 W:World} {bxs:List Bx},Hp W0 bxs W-> ∀k,nth bxs k=some (V.bx 59 (frC l))-> ∀m f,l[m]? =some f->Aj W g (0+m*5) (frV f).cells.toList:=by
 obtain⟨p,cap,junk⟩:=V
 cases p with
 |none=>have:=hV.nil rfl;omega
 |some g=>
  refine⟨g,cap,I,fun {W0 W bxs} hp k hk m f hf=> ?_⟩
  obtain⟨hm,rfl⟩:=List.getElem?_eq_some_iff.1 hf
  refine H4 hp k (A:=frC (l.take m)) (C:=frC (l.drop (m+1))++junk) hk ?_ (by rw[Z8,List.length_take];omega)
  have e:frC l=frC (l.take m)++((frV l[m]).cells.toList++frC (l.drop (m+1))):=by
   conv=>lhs;rw[<-List.take_append_drop m l,List.drop_eq_getElem_cons hm,Sh]
   rfl
  rw[e,List.append_assoc,List.append_assoc]
theorem Vec.sds {V:Vec} {l:List Sd} (hV:V.OK 7 l.length (cellsOf l)) (h0:0<l.length): ∃g cap,V.val l.length=slv (some ⟨g,0,none⟩) l.length cap/\
  ∀ {W0 W:World} {bxs:List Bx},Hp W0 bxs W-> ∀k,nth bxs k=some (V.bx 82 (cellsOf l))-> ∀m,m<l.length->Aj W g (0+m*7) (sd l m).cells:=by
 obtain⟨p,cap,junk⟩:=V
 cases p with
 |none=>have:=hV.nil rfl;omega
 |some g=>
  refine⟨g,cap,I,fun {W0 W bxs} hp k hk m hm=> ?_⟩
  have hrow:=Aj.of_bx hp k hk rfl
  have hring:Gg W g 0 l:=Gg.of_cells hrow.lt fun j u hj=>by
   refine hrow.get j u ?_
   show(cellsOf l++junk)[j]? =some u
   rw[List.getElem?_append_left (List.getElem?_eq_some_iff.1 hj).1]
   exact hj
  exact hring.get m _ (GL hm)
def rdQ (a:List UInt8):Rat:=match frm a with
 |some (z,d)=>nrm z d
 |none=>0
theorem Fp (q:Rat):rdQ (Ac q)=q:=by
 have hd:=q.den_pos
 unfold rdQ Ac
 rw[Gd q.num q.den_pos]
 show nrm q.num q.den=q
 rw[GB _ (by omega)]
 exact Rat.num_divInt_den q
def flt (rs:List (List Sd)) (m:Nat):Sd:=sd rs.flatten m
def frs (rs:List (List Sd)) (m:Nat):FrP:=(EH rs).getD m ⟨false,0,1,0,0⟩
theorem K9 {rs:List (List Sd)} {m:Nat} (h:m<tot rs):(EH rs)[m]? =some (frs rs m):=by
 have hl:=KX rs
 unfold frs
 rw[List.getD_eq_getElem?_getD,List.getElem?_eq_getElem (by omega)]
 rfl
theorem Uz {rs:List (List Sd)} (hc:chk rs=0) {m:Nat} (h:m<tot rs) (hg:(flt rs m).gable=false):(frs rs m).Go:=by
 obtain⟨hrg,_⟩:=Hr hc
 obtain⟨r,i,hr,hi,rfl⟩:=Wi h
 have e:=K9 h
 rw[Sm hr hi] at e
 have e:=(Option.some.inj e).symm
 have hs: ∀s∈rg rs r,rgd s=true:=hrg _ (List.mem_of_getElem? (Bm hr))
 have h1:=hs _ (List.mem_of_getElem? (GL hi))
 unfold flt at hg
 rw[ZF hr hi] at hg
 obtain⟨_,_,hp,hb⟩:=FY h1
 have hb:=hb hg
 rw[e]
 unfold OL
 refine⟨dV h1, ?_, ?_,fun h0=> ?_⟩
 ·show szQ (if _ then(0:Rat) else nrm _ _) 2
  rw[if_neg (by rw[hg];decide)]
  exact DE hb.2 hb.1
 ·exact HS (by show(sd (rg rs r) i).plate.natAbs<100000;omega) (by decide)
 ·have:=(fB h1).1 h0
  rw[hg] at this
  cases this
def Ez (q:Rat):Bool:= !(decide (q.num.natAbs<10^12)&&decide (q.den<10^12))
theorem Yh {q:Rat} (h:Ez q=false):szQ q 12:=by
 unfold Ez at h
 rw[Bool.not_eq_false',Bool.and_eq_true] at h
 exact⟨of_decide_eq_true h.1,of_decide_eq_true h.2⟩
theorem Tz {q:Rat} (h:szQ q 12):Ez q=false:=by
 unfold Ez
 rw[dT h.1,dT h.2];rfl
theorem Ti (u:Nat):(decDigits u).length<=12↔u<10^12:=⟨fun h=>Nat.lt_of_lt_of_le (Fq u) (Nat.pow_le_pow_right (by decide) h),fun h=>Cy 12 u (by decide) h⟩
theorem SN (q:Rat) (hk:okQ q) (W:World) (hv:AH W) (ht:A9 W):
  Ae Tryz.prog 94 #[str (Ac q)] W (fun _:Unit=> .int .i64 (if Ez q=true then 4 else 0)) (fun _=>True) (fun _=>[]):=by
 refine Ab Tryz.func94 I I I<|xb<|wP I<|xf<|wP I<|wC I I (fun W hp=>EI q hk W (hv.hp hp) (ht.hp hp))<|AE I<|wP I<|xk<|Aa I<|?_
 refine xa<|zS I<|xe<|xd<|wP I<|wC I I (fun W _=>(BH (itoa q.num) [45] W).cast (by rw[Bf]))<|wP I<|Ap 17 (.int .i64 ((decDigits q.num.natAbs).length:Nat)) I (congrArg (fun n:Nat=>Value.int .i64 (n:Int)) (A5 _))<|wP I<|?_
 by_cases h1:q.num.natAbs<10^12
 rotate_left
 ·have hb:Ez q=true:=by unfold Ez;rw[dF h1];rfl
  refine wU 18 true I (dT (by have:=mt (Ti _).1 h1;omega))<|wP I<|?_
  iterate 3 refine Af I I ?_
  exact wP I<|xa<|zR I<|xb<|wP I<|xo<|wR1 I I (by rw[if_pos hb])
 refine wU 18 false I (dF (by have:=(Ti _).2 h1;omega))<|Ad I<|Ap 21 (.int .i64 ((decDigits q.den).length:Nat)) I (congrArg (fun n:Nat=>Value.int .i64 (n:Int)) ((A5 _).trans (by rw[Ff])))<|wP I<|?_
 by_cases h2:q.den<10^12
 rotate_left
 ·have hb:Ez q=true:=by unfold Ez;rw[dF h2,Bool.and_false];rfl
  exact wU 22 true I (dT (by have:=mt (Ti _).1 h2;omega))<|wP I<|xa<|zR I<|xb<|wP I<|xo<|wR1 I I (by rw[if_pos hb])
 have hb:Ez q=false:=Tz ⟨h1,h2⟩
 exact wU 22 false I (dF (by have:=(Ti _).2 h2;omega))<|wP I<|xa<|zS I<|xm<|wP I<|xc<|wR1 I I (by rw[hb];rfl)
def HF (a:List UInt8):Bool:=Ez (rdQ a)
def nrs (l:List (List UInt8)):Int:=if ner l≠0 then ner l else if l.any HF then 4 else 0
theorem Qi {α:Type} {p:α->Bool} {l:List α} {i:Nat} (hi:i<l.length):(l.drop i).any p=(p l[i]||(l.drop (i+1)).any p):=by
 rw[List.drop_eq_getElem_cons hi,List.any_cons]
theorem IT {l:List (List UInt8)} (h:nrs l=0): ∀a∈l, ∃q,a=Ac q/\okQ q/\szQ q 12:=by
 intro a ha
 unfold nrs at h
 by_cases h1:ner l=0
 rotate_left
 ·rw[if_pos h1] at h;exact absurd h h1
 rw[if_neg (fun h=>h h1)] at h
 obtain⟨q,hq,rfl⟩:=Ls (IV h1 a ha)
 refine⟨q,I,hq,Yh ?_⟩
 cases hb:Ez q with
 |false=>rfl
 |true=>
  have:l.any HF=true:=List.any_eq_true.2 ⟨_,ha,by unfold HF;rw[Fp];exact hb⟩
  rw[if_pos this] at h
  cases h
theorem Le (W:World) (p:Option Addr) (cap:Nat) (l:List (List UInt8)) (hA:EJ W p l) (hn:l.length<=100000) (hs: ∀a∈l,a.length<=4000000) (hv:AH W) (ht:A9 W):
  Ae Tryz.prog 50 #[slv p l.length cap] W (fun _:Unit=> .int .i64 (nrs l)) (fun _=>True) (fun _=>[]):=by
 refine Ab Tryz.func50 I I I<|xb<|wP I<|xk<|Ad I<|xa<|zH<|Av (X:=Nat) (fun i=>[(0,slv p l.length cap),(2, .int .i64 0),(9,slv p l.length cap),(10, .int .i64 (l.length:Nat)),(11, .int .i64 (i:Nat))]) (fun _=>[]) (fun i=>i<=l.length/\ner l=ner (l.drop i)) (fun i=>l.length-i) 0 ⟨Nat.zero_le _,I⟩ ⟨I,I,I,I,I,tO⟩ [] I ?_
 rintro i ⟨hi,he⟩
 have hi:i<=l.length:=hi
 have he:ner l=ner (l.drop i):=he
 refine xb<|wP I<|?_
 by_cases hlt:i<l.length
 ·refine wU 12 true I (dT (by omega))<|xl<|zR I<|xh<|?_
  obtain⟨b,off,rfl,hrow⟩:=hA.row hlt
  have hr:=hrow i hlt
  have hz:=hs l[i] (List.getElem_mem _)
  rw[NC hlt] at he
  obtain⟨x,hx⟩: ∃x,x=l[i]:=⟨_,rfl⟩
  rw[<-hx] at hr hz he
  refine wJ ?_
  refine wL 0 I I (fun W1 hp=>hr.hp hp) I<|wP I<|xf<|wP I<|wC I I (fun W1 hp=>BE x (by omega) W1 (hv.hp hp) (ht.hp hp))<|wP I<|xf<|Aa I<|?_
  by_cases h1:(rdR x).2=0
  rotate_left
  ·refine wU 18 true I (bne_iff_ne.2 h1)<|xa<|zR I<|xb<|Aa I<|xc<|xj<|zP<|?_
   rw[if_neg h1] at he
   exact wR1 I I (by rw[nrs,he,if_pos h1])
  rw[if_pos h1] at he
  exact wU 18 false I (bne_eq_false_iff_eq.2 h1)<|xa<|zS I<|zI<|xi<|wP I<|wV 20 ((i+1:Nat):Int) I (A0 (by omega))<|wP I<|zC<|Al (i+1) ⟨hlt,he⟩ (by show l.length-(i+1)<l.length-i;omega) ⟨I,I,I,I,I,tO⟩ [] I
 refine wU 12 false I (dF (by omega))<|xl<|zS I<|xg<|zE<|xd<|?_
 rw[List.drop_of_length_le (by omega)] at he
 have he:ner l=0:=he
 have hall:=IV he
 have hN:nrs l=if l.any HF then 4 else 0:=by unfold nrs;rw[if_neg (fun h=>h he)]
 refine Ad I<|xa<|zH<|Av (X:=Nat) (fun i=>[(2, .int .i64 0),(21,slv p l.length cap),(22, .int .i64 (l.length:Nat)),(23, .int .i64 (i:Nat))]) (fun _=>[]) (fun i=>i<=l.length/\l.any HF=(l.drop i).any HF) (fun i=>l.length-i) 0 ⟨Nat.zero_le _,by rw[List.drop_zero]⟩ ⟨I,I,I,I,tO⟩ [] I ?_
 rintro i ⟨hi,hB⟩
 have hi:i<=l.length:=hi
 have hB:l.any HF=(l.drop i).any HF:=hB
 refine xb<|wP I<|?_
 by_cases hlt:i<l.length
 ·refine wU 24 true I (dT (by omega))<|xl<|zR I<|xh<|?_
  obtain⟨b,off,rfl,hrow⟩:=hA.row hlt
  have hr:=hrow i hlt
  obtain⟨q,hq,hx⟩:=Ls (hall l[i] (List.getElem_mem _))
  rw[Qi hlt] at hB
  rw[hx] at hr hB
  have hB:l.any HF=(Ez q||(l.drop (i+1)).any HF):=by rw[hB];unfold HF;rw[Fp]
  refine wJ ?_
  refine wL 0 I I (fun W1 hp=>hr.hp hp) I<|wP I<|xf<|wP I<|wC I I (fun W1 hp=>SN q hq W1 (hv.hp hp) (ht.hp hp))<|?_
  cases hb:Ez q with
  |true=>
   rw[hb] at hB
   exact wP I<|xf<|Aa I<|xa<|zR I<|xb<|Aa I<|xc<|xj<|zP<|wR1 I I (by rw[hN,hB];rfl)
  |false=>
   rw[hb,Bool.false_or] at hB
   exact wP I<|xf<|Aa I<|xa<|zS I<|zI<|xi<|wP I<|wV 32 ((i+1:Nat):Int) I (A0 (by omega))<|wP I<|zC<|Al (i+1) ⟨hlt,hB⟩ (by show l.length-(i+1)<l.length-i;omega) ⟨I,I,I,I,tO⟩ [] I
 refine wU 24 false I (dF (by omega))<|xl<|zS I<|xg<|xn<|?_
 rw[List.drop_of_length_le (by omega)] at hB
 exact wP I<|xc<|wR1 I I (by rw[hN,hB];rfl)
theorem Yl (b:UInt8):decide (((b.toNat:Nat):Int)<48)=decide (b.toNat<48):=decide_eq_decide.2 (by omega)
theorem XF (b:UInt8):decide (((b.toNat:Nat):Int)>57)=decide (57<b.toNat):=decide_eq_decide.2 (by omega)
def dgB (s:List UInt8):Bool:=decide (s=decDigits (AP s))
theorem HA {s:List UInt8}:dgB s=true↔PP s:=by unfold dgB;rw[decide_eq_true_iff];exact TF.symm
theorem UD {s:List UInt8} (h: ¬PP s):dgB s=false:=by
 cases e:dgB s
 ·rfl
 ·exact absurd (HA.1 e) h
theorem IA (s:List UInt8) (hs:s.length<4611686018427387904):Be Tryz.prog 118 [str s] (.bool (dgB s)):=by
 intro W
 refine Ab Tryz.func118 I I I<|xb<|wP I<|xl<|zA<|AA (X:=Unit) (fun _=>[(0,str s),(16, .bool (decide (s=[]\/(1<s.length/\s[0]? =some 48))))]) (fun _=>[]) (fun _=>True) ?_ ?_
 ·refine zB<|Aa I<|Ap 5 (.int .i64 (s.length:Nat)) I (congrArg (fun n:Nat=>Value.int .i64 (n:Int)) (A5 s))<|wP I<|?_
  by_cases h0:s=[]
  ·refine wU 6 true I (by rw[h0];rfl)<|wP I<|?_
   iterate 8 refine Af I I ?_
   exact wP I<|zC<|Ao () tO ⟨I,by rw[dT (Or.inl h0)];rfl,tO⟩ [] I
  ·have hpos:0<s.length:=List.length_pos_iff.2 h0
   refine wU 6 false I (by rw[beq_eq_false_iff_ne];omega)<|Ad I<|Ap 9 (.int .i64 (s.length:Nat)) I (congrArg (fun n:Nat=>Value.int .i64 (n:Int)) (A5 s))<|wP I<|?_
   by_cases h1:1<s.length
   ·refine wU 10 true I (dT (by omega)) ?_
    obtain⟨b,hb⟩: ∃b,s[0]? =some b:=⟨s[0],List.getElem?_eq_getElem hpos⟩
    refine Aa I<|Bc 0 tH I I I I I I I I hb<|wP I<|wU 14 (decide (b=48)) I (DK b 48)<|Aa I<|zC<|Ao () tO ⟨I, ?_,tO⟩ [] I
    have e:decide (s=[]\/(1<s.length/\s[0]? =some 48))=decide (b=48):=by
     rw[decide_eq_decide,hb]
     constructor
     ·rintro(h|⟨_,h⟩)
      ·exact absurd h h0
      ·exact Option.some.inj h
     ·intro h;exact .inr ⟨h1,by rw[h]⟩
    rw[e];rfl
   ·refine wU 10 false I (dF (by omega))<|wP I<|?_
    iterate 3 refine Af I I ?_
    exact Aa I<|zC<|Ao () tO ⟨I,by rw[show decide (s=[]\/1<s.length/\s[0]? =some 48)=false from dF (fun h=>h.elim h0 (fun h=>h1 h.1))];rfl,tO⟩ [] I
 intro _ _
 refine Ag I (fun hc=> ?_) (fun hc=> ?_)
 ·have hc:=of_decide_eq_true hc
  refine xb<|wP I<|xo<|wR1 I I ?_
  rw[UD fun h=> ?_]
  rcases hc with hc|⟨h1,h2⟩
  ·exact h.ne hc
  ·exact h.lead h1 h2
 have hc:=of_decide_eq_false hc
 have hne:s≠[]:=fun h=>hc (.inl h)
 have hlead:1<s.length->s[0]? ≠some 48:=fun h1 h2=>hc (.inr ⟨h1,h2⟩)
 refine xe<|xd<|wP I<|xa<|zH<|Av (X:=Nat) (fun i=>[(0,str s),(3, .int .i64 (i:Nat))]) (fun _=>[]) (fun i=>i<=s.length/\ ∀b∈s.take i,E0 b=true) (fun i=>s.length-i) 0 ⟨Nat.zero_le _,fun b hb=>by simp at hb⟩ ⟨I,I,tO⟩ [] I ?_
 rintro i ⟨hi,hdg⟩
 have hi:i<=s.length:=hi
 have hdg: ∀b∈s.take i,E0 b=true:=hdg
 refine xd<|Ad I<|Ap 19 (.int .i64 (s.length:Nat)) I (congrArg (fun n:Nat=>Value.int .i64 (n:Int)) (A5 s))<|wP I<|?_
 by_cases hlt:i<s.length
 ·refine wU 20 true I (dT (by omega))<|xa<|zR I<|xh<|?_
  obtain⟨b,hb⟩: ∃b,s[i]? =some b:=⟨s[i],List.getElem?_eq_getElem hlt⟩
  have hbm:b∈s:=List.mem_of_getElem? hb
  refine Aa I<|Bc i tH I I I I I I I I hb<|wP I<|?_
  by_cases h48:b.toNat<48
  ·refine wU 26 true I ((Yl b).trans (dT h48))<|wP I<|?_
   iterate 4 refine Af I I ?_
   refine wP I<|xa<|zR I<|xb<|wP I<|xc<|xj<|zP<|wR1 I I ?_
   rw[UD fun h=>by have:=CS.1 (h.all b hbm);omega]
  ·refine wU 26 false I ((Yl b).trans (dF h48))<|Ad I<|Bc i tH I I I I I I I I hb<|wP I<|?_
   by_cases h57:57<b.toNat
   ·refine wU 31 true I ((XF b).trans (dT h57))<|wP I<|xa<|zR I<|xb<|wP I<|xc<|xj<|zP<|wR1 I I ?_
    rw[UD fun h=>by have:=CS.1 (h.all b hbm);omega]
   ·refine wU 31 false I ((XF b).trans (dF h57))<|wP I<|xa<|zS I<|zI<|xi<|Aa I<|wV 22 ((i+1:Nat):Int) I (A0 (by omega))<|wP I<|zC<|?_
    refine Al (i+1) ⟨hlt,fun c hc=> ?_⟩ (by show s.length-(i+1)<s.length-i;omega) ⟨I,I,tO⟩ [] I
    rw[List.take_add_one,hb,List.mem_append] at hc
    rcases hc with hc|hc
    ·exact hdg c hc
    ·obtain rfl:c=b:=by simpa using hc
     exact CS.2 ⟨by omega,by omega⟩
 ·refine wU 20 false I (dF (by omega))<|xa<|zS I<|xg<|xn<|wP I<|xc<|wR1 I I ?_
  rw[List.take_of_length_le (by omega)] at hdg
  rw[HA.2 ⟨hne,hdg,hlead⟩]
theorem MF (a b:Nat) (ha:a<9223372036854775808) (hb:b<9223372036854775808):Be Tryz.prog 119 [.int .i64 (a:Nat), .int .i64 (b:Nat)] (.int .i64 (Nat.gcd a b:Nat)):=by
 intro W
 refine Ab Tryz.func119 I I I<|xb<|wP I<|xl<|zH<|Av (X:=Nat×Nat) (fun x=>[(0, .int .i64 (x.1:Nat)),(1, .int .i64 (x.2:Nat))]) (fun _=>[]) (fun x=>x.1<9223372036854775808/\x.2<9223372036854775808/\Nat.gcd x.1 x.2=Nat.gcd a b) (fun x=>x.2) (a,b) ⟨ha,hb,I⟩ ⟨I,I,tO⟩ [] I ?_
 rintro⟨x,y⟩ ⟨hx,hy,hg⟩
 have hx:x<9223372036854775808:=hx
 have hy:y<9223372036854775808:=hy
 have hg:Nat.gcd x y=Nat.gcd a b:=hg
 refine xd<|Aa I<|xa<|?_
 by_cases h0:y=0
 ·refine Bh 6 (.bool false) I (congrArg Value.bool (by rw[bne_eq_false_iff_eq];omega)) ?_
  exact zS I<|xg<|xn<|Aa I<|xc<|wR1 I I (by rw[<-hg,h0,Nat.gcd_zero_right])
 ·refine Bh 6 (.bool true) I (congrArg Value.bool (by rw[bne_iff_ne];omega)) ?_
  refine zR I<|xe<|zH<|zU<|AY I<|DO I I I I I (by omega) ?_
  refine Ay I<|zD<|zC<|zN<|?_
  have hr:x%y<y:=Nat.mod_lt _ (by omega)
  exact Al (y,x%y) ⟨hy,Nat.lt_trans hr hy,by show Nat.gcd y (x%y)=_;rw[Nat.gcd_comm, <-Nat.gcd_rec,Nat.gcd_comm];exact hg⟩ hr ⟨I,I,tO⟩ [] I
theorem Ct (s:List UInt8) (hs:s.length<=18) (hd: ∀b∈s,E0 b=true):Be Tryz.prog 120 [str s] (.int .i64 (AP s:Nat)):=by
 intro W
 have hlt: ∀i,AP (s.take i)<1000000000000000000:=fun i=>by
  have h1:=G3 (s.take i).length (s:=s.take i) rfl fun b hb=>hd b (List.mem_of_mem_take hb)
  have h2:(s.take i).length<=18:=by rw[List.length_take];omega
  exact Nat.lt_of_lt_of_le h1 (Nat.pow_le_pow_right (by decide) h2)
 refine Ab Tryz.func120 I I I<|xb<|wP I<|xf<|wP I<|xk<|wP I<|xa<|zH<|Av (X:=Nat) (fun i=>[(0,str s),(3, .int .i64 (AP (s.take i):Nat)),(4, .int .i64 (i:Nat))]) (fun _=>[]) (fun i=>i<=s.length) (fun i=>s.length-i) 0 (Nat.zero_le _) ⟨I,I,I,tO⟩ [] I ?_
 intro i hi
 have hi:i<=s.length:=hi
 refine xd<|Ad I<|Ap 7 (.int .i64 (s.length:Nat)) I (congrArg (fun n:Nat=>Value.int .i64 (n:Int)) (A5 s))<|wP I<|?_
 by_cases h:i<s.length
 ·refine wU 8 true I (dT (by omega))<|xa<|zR I<|xe<|zA<|zH<|zB<|?_
  obtain⟨b,hb⟩: ∃b,s[i]? =some b:=⟨s[i],List.getElem?_eq_getElem h⟩
  have hdb:=CS.1 (hd b (List.mem_of_getElem? hb))
  have e1:AP (s.take (i+1))=10*AP (s.take i)+(b.toNat-48):=by
   rw[List.take_add_one,hb];exact DD _ _
  have l1:=hlt i
  have l2:=hlt (i+1)
  refine Aa I<|wV 12 ((10*AP (s.take i):Nat):Int) I (show w64 (10*(AP (s.take i):Nat))=_ by rw[Ar (by omega) (by omega)];omega)<|Aa I<|Bc i tH I I I I I I I I hb<|wP I<|?_
  refine Ap 16 (.int .u8 ((b.toNat-48:Nat):Int)) I (congrArg (Value.int .u8) (show IntKind.u8.wrap ((b.toNat:Nat)-48)=_ by
   simp only[IntKind.wrap,IntKind.signed,IntKind.bits];simp;omega)) ?_
  refine LE Tryz.underlying5 Tryz.underlying3 I I I I ?_
  exact wV 17 ((b.toNat-48:Nat):Int) I (BN (by omega))<|wP I<|wV 18 ((AP (s.take (i+1)):Nat):Int) I (show w64 (((10*AP (s.take i):Nat):Int)+((b.toNat-48:Nat):Int))=_ by rw[Ar (by omega) (by omega),e1];omega)<|wP I<|zC<|xi<|Aa I<|wV 10 ((i+1:Nat):Int) I (A0 (by omega))<|wP I<|zC<|Al (i+1) h (by show s.length-(i+1)<s.length-i;omega) ⟨I,I,I,tO⟩ [] I
 ·exact wU 8 false I (dF (by omega))<|xa<|zS I<|xg<|xn<|Aa I<|xc<|wR1 I I (by rw[List.take_of_length_le (by omega)])
section
variable {r:Option Nat} {n:Nat} {P:Program} {N:Nat} {D:List Deferred} {ops:List Oper} {Q:Exit->Act->World->Prop} {o:Oper} {rest:List Oper} {env:Env} {A:World->Prop} {A2:World->Prop} {R:Act->World->Prop}
theorem YN {T:Tbl} {i:TI} {ρ:Operand->Value} {a:List UInt8} {t:TypeId} {x y:Operand} {k:IntKind} (l:Nat) (hT:Go.Am.okB P T=true) (ho:o.op= .slice t x none (some y) none) (ht:Cw T t=some i) (hk:i.kind=1)
  (hx:ρ x=str a) (hy:ρ y= .int k l) (h1:l<=a.length) (W:World):(execOp ρ o).run P W= .ok (.value (str (a.take l))) W:=by
 have hu:=Hq (BA hT ht) hk
 have hsz:(⟨a.toArray⟩:ByteArray).size=a.length:=by show a.toArray.size=_;simp
 have e:(⟨a.toArray⟩:ByteArray).extract 0 l=⟨(a.take l).toArray⟩:=by
  apply ByteArray.ext
  rw[ByteArray.data_extract]
  apply Array.toList_inj.1
  simp[List.extract_eq_take_drop]
 simp[execOp,ho,Instr.sliceAt,Instr.slice,Instr.sliceBounds,Instr.sliceBound,hx,hy,asIntOf,run_underlying hu,hsz,h1,e]
theorem aY (l:Nat) {T:Tbl} {i:TI} {a:List UInt8} {d:Nat} {t:TypeId} {x y:Operand} {k:IntKind} {z:Int} (hT:Go.Am.okB P T=true) (hg:Aw ops N env o=some true) (hd:o.dst=some d) (ho:o.op= .slice t x none (some y) none) (ht:Cw T t=some i) (hk:i.kind=1)
  (hx:evO N env x=some (str a)) (hy:evO N env y=some (.int k z)) (hz:z=l) (h1:l<=a.length)
  (hn:WQ P N D ops A2 R rest ((d,str (a.take l))::env) A):WQ P N D ops A2 R (o::rest) env A:=
 Eh hg hd (fun c e=>by rw[ho] at e;cases e) (fun ρ W hρ _=>YN l hT ho ht hk (hρ _ _ hx) (by rw[<-hz];exact hρ _ _ hy) h1 W) hn
end
section
variable {n:Nat} {P:Program} {W0:World} {N:Nat} {env:Env} {bxs:List Bx}
theorem VE {fn:Func} {T:Tbl} {r1 r2 r3 r4:ResultVar} {v1 v2 v3 v4:Value} {X:Type} {val:X->Value} {Φ:X->Prop} {nb:X->List Bx} (hT:Go.Am.okB P T=true) (hr:fn.results= #[r1,r2,r3,r4])
  (h1:Res P T env bxs N r1 v1) (h2:Res P T env bxs N r2 v2) (h3:Res P T env bxs N r3 v3) (h4:Res P T env bxs N r4 v4)
  (x:X) (hv: .tuple #[v1,v2,v3,v4]=val x) (hx:Φ x) (hnb: ∀W,Hp W0 bxs W->Au W0 W (nb x)):NE N [] (Hx P fn W0 val Φ nb) .ret env (Hp W0 bxs):=
 OU (rvs:=[r1,r2,r3,r4]) (vs:=[v1,v2,v3,v4]) hT hr rfl (fun i h _=>by
  match i,h with
  |0,_=>exact h1
  |1,_=>exact h2
  |2,_=>exact h3
  |3,_=>exact h4
  |i+4,h=>exact absurd h (by show¬i+4<4;omega)) x (by simpa using hv) hx hnb
end
def TT (a:List UInt8):Value:= .tuple #[.bool (hasPrefix a [45]),str (cut (trimPrefix a [45]) [47]).1,str (cut (trimPrefix a [45]) [47]).2.1, .bool (cut (trimPrefix a [45]) [47]).2.2]
theorem GE (a:List UInt8) (ha:a.length<4611686018427387904):Be Tryz.prog 117 [str a] (TT a):=by
 intro W
 refine Ab Tryz.func117 I I I<|xb<|At I<|xf<|Aa I<|xl<|AA (X:=Unit) (fun _=>[(6,str a),(7, .bool (hasPrefix a [45]))]) (fun _=>[]) (fun _=>True) ?_ ?_
 ·refine zB<|Aa I<|Ap 11 (.int .i64 (a.length:Nat)) I (congrArg (fun n:Nat=>Value.int .i64 (n:Int)) (A5 a))<|wP I<|?_
  cases ea:a with
  |nil=>
   refine Ap 12 (.bool false) I I<|wP I<|?_
   iterate 3 refine Af I I ?_
   exact Aa I<|zC<|Ao () tO ⟨I,I,tO⟩ [] I
  |cons b t=>
   exact wU 12 true I (dT (by show(((b::t).length:Nat):Int)>0;rw[List.length_cons];omega))<|Aa I<|Bc 0 tH I I I I I I I I (show(b::t)[0]? =some b from I)<|wP I<|wU 16 (hasPrefix (b::t) [45]) I ((DK b 45).trans (by rw[Bj];exact decide_eq_decide.2 (by simp)))<|Aa I<|zC<|Ao () tO ⟨I,I,tO⟩ [] I
 intro _ _
 refine xd<|wP I<|xa<|?_
 try refine Ba ?_
 obtain⟨b,hb⟩: ∃b,b=trimPrefix a [45]:=⟨_,rfl⟩
 have hbl:b.length<=a.length:=by rw[hb,AZ];split<;>simp
 refine AA (X:=Unit) (fun _=>[(6,str b),(7, .bool (hasPrefix a [45]))]) (fun _=>[]) (fun _=>True) ?_ ?_
 ·refine Ag I (fun hm=> ?_) (fun hm=> ?_)
  ·have hm:a[0]? =some 45:=by rw[Bj] at hm;exact of_decide_eq_true hm
   have h1:1<=a.length:=(List.getElem?_eq_some_iff.1 hm).1
   refine zB<|wP I<|FL 1 tH I I I I I I I I h1 ?_
   exact wP I<|zC<|Ao () tO ⟨by rw[hb,AZ,if_pos hm];rfl,I,tO⟩ [] I
  ·have hm: ¬a[0]? =some 45:=by rw[Bj] at hm;exact of_decide_eq_false hm
   exact zI<|Ao () tO ⟨by rw[hb,AZ,if_neg hm];rfl,I,tO⟩ [] I
 intro _ _
 refine xd<|wP I<|xa<|zH<|Av (X:=Nat) (fun i=>[(6,str b),(7, .bool (hasPrefix a [45])),(8, .int .i64 (i:Nat))]) (fun _=>[]) (fun i=>i<=b.length/\47∉b.take i) (fun i=>b.length-i) 0 ⟨Nat.zero_le _,by simp⟩ ⟨I,I,I,tO⟩ [] I ?_
 rintro i ⟨hi,hno⟩
 have hi:i<=b.length:=hi
 have hno:47∉b.take i:=hno
 refine xd<|Ad I<|Ap 23 (.int .i64 (b.length:Nat)) I (congrArg (fun n:Nat=>Value.int .i64 (n:Int)) (A5 b))<|wP I<|?_
 by_cases hlt:i<b.length
 ·refine wU 24 true I (dT (by omega))<|xa<|zR I<|xh<|?_
  obtain⟨c,hc⟩: ∃c,b[i]? =some c:=⟨b[i],List.getElem?_eq_getElem hlt⟩
  refine Aa I<|Bc i tH I I I I I I I I hc<|wP I<|wU 30 (decide (c=47)) I (DK c 47)<|xa<|Ag I (fun h47=> ?_) (fun h47=> ?_)
  ·have h47:c=47:=of_decide_eq_true h47
   have eb:b=b.take i++47::b.drop (i+1):=by
    conv=>lhs;rw[<-List.take_append_drop i b]
    rw[List.drop_eq_getElem_cons hlt]
    have:b[i]=47:=by rw[List.getElem?_eq_getElem hlt] at hc;rw[Option.some.inj hc];exact h47
    rw[this]
   have ec:=GY (b.drop (i+1)) hno
   rw[<-eb,hb] at ec
   refine zA<|zU<|AY I<|aY i tH I I I I I I I I (by omega) ?_
   refine AY I<|qV 37 ((i+1:Nat):Int) I (A0 (by omega))<|Rp (i+1) tH I I I I I I I I (by omega) ?_
   exact Cd I<|zD<|xc<|xj<|zP<|VE tH I (.tmp I) (.tmp I) (.tmp I) (.tmp I) () (by rw[TT,ec,hb]) tO fun W _=>Au.nil _ _
  ·have h47: ¬c=47:=of_decide_eq_false h47
   refine zI<|xi<|Aa I<|wV 26 ((i+1:Nat):Int) I (A0 (by omega))<|wP I<|zC<|?_
   refine Al (i+1) ⟨hlt,fun h=> ?_⟩ (by show b.length-(i+1)<b.length-i;omega) ⟨I,I,I,tO⟩ [] I
   rw[List.take_add_one,hc,List.mem_append] at h
   rcases h with h|h
   ·exact hno h
   ·exact h47 (by simpa using h:(47:UInt8)=c).symm
 ·refine wU 24 false I (dF (by omega))<|xa<|zS I<|xg<|xn<|?_
  rw[List.take_of_length_le (by omega)] at hno
  have ec:=Fs hno
  rw[hb] at ec
  exact AE I<|xc<|VE tH I (.tmp I) (.tmp I) (.tmp I) (.tmp I) () (by rw[TT,ec,hb]) tO fun W _=>Au.nil _ _
theorem Ln {z:Int} {d:Nat} (_hd:1<=d):hasPrefix (F1 z d) [45]=decide (z<0)/\cut (trimPrefix (F1 z d) [45]) [47]=(decDigits z.natAbs,if d=1 then[] else decDigits d,decide (d≠1)):=by
 have hn47:(47:UInt8)∉decDigits z.natAbs:=fun h=>by have:=FV _ _ h;exact absurd this.1 (by decide)
 have hp: ∀r,hasPrefix (itoa z++r) [45]=decide (z<0):=fun r=>by
  rw[Bj]
  unfold itoa
  split
  ·rename_i h;rw[dT h];rfl
  ·rename_i h
   rw[dF h]
   obtain⟨b,t,hb,h3,_⟩:=CU z.toNat
   rw[hb]
   refine dF fun e=> ?_
   have e:b=45:=by simpa using e
   rw[e] at h3;exact absurd h3 (by decide)
 have ht: ∀r,trimPrefix (itoa z++r) [45]=decDigits z.natAbs++r:=fun r=>by
  have h1:=hp r
  rw[AZ]
  rw[Bj] at h1
  by_cases hz:z<0
  ·rw[dT hz] at h1
   rw[if_pos (of_decide_eq_true h1)]
   unfold itoa
   rw[if_pos hz];rfl
  ·rw[dF hz] at h1
   rw[if_neg (of_decide_eq_false h1)]
   unfold itoa
   rw[if_neg hz,show z.toNat=z.natAbs by omega]
 unfold F1
 by_cases h1:d=1
 ·rw[if_pos h1]
  have e1:=hp []
  have e2:=ht []
  rw[List.append_nil] at e1 e2
  rw[List.append_nil] at e2
  exact⟨e1,by rw[e2,Fs hn47,if_pos h1,h1];rfl⟩
 ·rw[if_neg h1]
  exact⟨hp _,by rw[ht,GY _ hn47,if_neg h1,dT (show d≠1 from h1)]⟩
theorem R8 (q:Rat):TT (Ac q)= .tuple #[.bool (decide (q.num<0)),str (decDigits q.num.natAbs),str (if q.den=1 then[] else decDigits q.den), .bool (decide (q.den≠1))]:=by
 obtain⟨h1,h2⟩:=Ln (z:=q.num) q.den_pos
 unfold TT Ac
 rw[h1,h2]
def FA (q:Rat):Bool:=decide ((decDigits q.num.natAbs).length<=9)&&(decide (q.den=1)||decide ((decDigits q.den).length<=9))
theorem Oy {n:Nat} (h:(decDigits n).length<=9):n<1000000000:=Nat.lt_of_lt_of_le (Fq n) (Nat.pow_le_pow_right (by decide) h)
theorem L9 {q:Rat} (h:FA q=true):q.num.natAbs<1000000000/\q.den<1000000000:=by
 unfold FA at h
 simp only[Bool.and_eq_true,Bool.or_eq_true,decide_eq_true_eq] at h
 refine⟨Oy h.1, ?_⟩
 rcases h.2 with e|e
 ·rw[e];decide
 ·exact Oy e
theorem Vj (q:Rat) (hl:(Ac q).length<4611686018427387904):Be Tryz.prog 107 [str (Ac q)] (if FA q=true then .tuple #[.int .i64 q.num, .int .i64 (q.den:Nat), .bool true] else .tuple #[.int .i64 0, .int .i64 0, .bool false]):=by
 intro W
 obtain⟨n,hn⟩: ∃n,n=decDigits q.num.natAbs:=⟨_,rfl⟩
 obtain⟨e,he⟩: ∃e,e=(if q.den=1 then[] else decDigits q.den):=⟨_,rfl⟩
 have hsp:Ae Tryz.prog 117 #[str (Ac q)] W (fun _:Unit=> .tuple #[.bool (decide (q.num<0)),str n,str e, .bool (decide (q.den≠1))]) (fun _=>True) (fun _=>[]):=(GE (Ac q) hl W).cast (by rw[R8,hn,he])
 have hsh:FA q=(decide (n.length<=9)&&decide (e.length<=9)):=by
  unfold FA
  rw[hn,he]
  by_cases h1:q.den=1
  ·rw[if_pos h1,dT h1];rfl
  ·rw[if_neg h1,dF h1,Bool.false_or]
 have hnd: ∀b∈n,E0 b=true:=by rw[hn];exact(Gr _).all
 refine Ab Tryz.func107 I I I<|xb<|Ad I<|xf<|wP I<|wC I I (fun W1 hp=>(GE (Ac q) hl W1).cast (v':= .tuple #[.bool (decide (q.num<0)),str n,str e, .bool (decide (q.den≠1))]) (by rw[R8,hn,he]))<|?_
 iterate 9 refine wP I ?_
 refine Kj ?_
 by_cases hs:FA q=true
 ·rw[if_pos hs]
  have hs2:=hs
  rw[hsh,Bool.and_eq_true,decide_eq_true_eq,decide_eq_true_eq] at hs2
  obtain⟨hs2,hs3⟩:=hs2
  obtain⟨l1,l2⟩:=L9 hs
  refine zE<|xd<|Aa I<|Ap 19 (.int .i64 (n.length:Nat)) I (congrArg (fun n:Nat=>Value.int .i64 (n:Int)) (A5 n))<|wP I<|wU 20 false I (dF (by omega))<|Ad I<|Ap 23 (.int .i64 (e.length:Nat)) I (congrArg (fun n:Nat=>Value.int .i64 (n:Int)) (A5 e))<|wP I<|wU 24 false I (dF (by omega))<|wP I<|xa<|zS I<|xm<|wP I<|?_
  refine wC I I (fun W1 hp=>(Ct n (by omega) hnd W1).cast (v':= .int .i64 (q.num.natAbs:Nat)) (by rw[hn,BX]))<|Aa I<|xk<|wP I<|xa<|?_
  try refine Ba ?_
  refine AA (X:=Unit) (fun _=>[(5, .bool (decide (q.num<0))),(9, .int .i64 (q.num.natAbs:Nat)),(10, .int .i64 (q.den:Nat))]) (fun _=>[]) (fun _=>True) ?_ ?_
  ·refine Ag I (fun h1=> ?_) (fun h1=> ?_)
   ·have h1:q.den≠1:=of_decide_eq_true h1
    have e1:e=decDigits q.den:=by rw[he,if_neg h1]
    exact zB<|wP I<|wC I I (fun W1 hp=>(Ct e (by omega) (by rw[e1];exact(Gr _).all) W1).cast (v':= .int .i64 (q.den:Nat)) (by rw[e1,BX]))<|wP I<|zC<|Ao () tO ⟨I,I,I,tO⟩ [] I
   ·have h1:q.den=1:=Decidable.byContradiction fun h=>absurd h1 (by rw[dT h];decide)
    exact zI<|Ao () tO ⟨I,I,by rw[h1];rfl,tO⟩ [] I
  intro _ _
  refine xd<|wP I<|xa<|?_
  try refine Ba ?_
  refine AA (X:=Unit) (fun _=>[(9, .int .i64 q.num),(10, .int .i64 (q.den:Nat))]) (fun _=>[]) (fun _=>True) ?_ ?_
  ·refine Ag I (fun h1=> ?_) (fun h1=> ?_)
   ·have h1:q.num<0:=of_decide_eq_true h1
    exact zB<|Aa I<|wV 33 q.num I (by show w64 (0-((q.num.natAbs:Nat):Int))=_;rw[Ar (by omega) (by omega)];omega)<|wP I<|zC<|Ao () tO ⟨I,I,tO⟩ [] I
   ·have h1: ¬q.num<0:=of_decide_eq_false h1
    exact zI<|Ao () tO ⟨congrArg (fun z=>some (Value.int .i64 z)) (by omega),I,tO⟩ [] I
  intro _ _
  exact xb<|Ak I<|xc<|wR3 I I I
 ·rw[if_neg hs]
  have hs2: ¬(n.length<=9/\e.length<=9):=fun h=>hs (by rw[hsh,dT h.1,dT h.2];rfl)
  refine zE<|zA<|zA<|AA (X:=Unit) (fun _=>[(25, .bool true)]) (fun _=>[]) (fun _=>True) ?_ ?_
  ·refine zB<|Aa I<|Ap 19 (.int .i64 (n.length:Nat)) I (congrArg (fun n:Nat=>Value.int .i64 (n:Int)) (A5 n))<|wP I<|?_
   by_cases h1:n.length<=9
   ·exact wU 20 false I (dF (by omega))<|Ad I<|Ap 23 (.int .i64 (e.length:Nat)) I (congrArg (fun n:Nat=>Value.int .i64 (n:Int)) (A5 e))<|wP I<|wU 24 true I (dT (by omega))<|wP I<|zC<|Ao () tO ⟨I,tO⟩ [] I
   ·refine wU 20 true I (dT (by omega))<|wP I<|?_
    iterate 3 refine Af I I ?_
    exact wP I<|zC<|Ao () tO ⟨I,tO⟩ [] I
  intro _ _
  exact zR I<|xb<|Ad I<|xo<|wR3 I I I
theorem M1 (q:Rat) (hl:(Ac q).length<=1000):Be Tryz.prog 108 [str (Ac q)] (.tuple #[str (itoa q.num),str (decDigits q.den)]):=by
 intro W
 have hlen:(decDigits q.num.natAbs).length<=1000:=by
  have:=V8 (a:=Ac q) (Gd q.num q.den_pos)
  omega
 refine Ab Tryz.func108 I I I<|xb<|Aa I<|xf<|wP I<|wC I I (fun W1 hp=>(GE (Ac q) (by omega) W1).cast (R8 q))<|?_
 iterate 9 refine wP I ?_
 refine xk<|wP I<|xa<|?_
 try refine Ba ?_
 refine AA (X:=Unit) (fun _=>[(5,str (itoa q.num)),(6,str (if q.den=1 then[] else decDigits q.den)),(7, .bool (decide (q.den≠1)))]) (fun _=>[]) (fun _=>True) ?_ ?_
 ·refine Ag I (fun h1=> ?_) (fun h1=> ?_)
  ·have h1:q.num<0:=of_decide_eq_true h1
   refine zB<|wP I<|Ci I I I I I (a:=[45]) (b:=decDigits q.num.natAbs) (by decide) (by omega) ?_
   exact wP I<|zC<|Ao () tO ⟨by unfold itoa;rw[if_pos h1];rfl,I,I,tO⟩ [] I
  ·have h1: ¬q.num<0:=of_decide_eq_false h1
   exact zI<|Ao () tO ⟨by unfold itoa;rw[if_neg h1,show q.num.toNat=q.num.natAbs by omega];rfl,I,I,tO⟩ [] I
 intro _ _
 refine xd<|Aa I<|xa<|?_
 try refine Ba ?_
 refine AA (X:=Unit) (fun _=>[(5,str (itoa q.num)),(6,str (decDigits q.den))]) (fun _=>[]) (fun _=>True) ?_ ?_
 ·refine Ag I (fun h1=> ?_) (fun h1=> ?_)
  ·have h1:q.den=1:=Decidable.byContradiction fun h=>absurd h1 (by rw[dT h];decide)
   exact zB<|wP I<|zC<|Ao () tO ⟨I,by rw[h1,G0];rfl,tO⟩ [] I
  ·have h1:q.den≠1:=Decidable.byContradiction fun h=>absurd h1 (by rw[dF h];decide)
   exact zI<|Ao () tO ⟨I,by rw[if_neg h1];rfl,tO⟩ [] I
 intro _ _
 exact xb<|At I<|xc<|wR2 I I I
abbrev br:Nat:=1000000
theorem br2:2<=br:=by decide
theorem Ek {g cap:Nat} {junk:List Value} {l:List Nat} (h:(⟨some g,cap,junk⟩:Vec).OK 1 l.length (nI l)) (hl: ∀x∈l,x<br):
  ∃junk',(⟨some g,cap,junk'⟩:Vec).OK 1 (lbs br (lv br l)).length (nI (lbs br (lv br l)))/\nI l++junk=nI (lbs br (lv br l))++junk':=by
 obtain⟨h1,h2,h3⟩:=h.cap (by simp)
 have e:=O4 br2 hl
 have hlen:=(BZ br2).2 (Gu br2 hl)
 have e2:nI l=nI (lbs br (lv br l))++nI (l.drop (lbs br (lv br l)).length):=by
  conv=>lhs;rw[<-List.take_append_drop (lbs br (lv br l)).length l]
  rw[Kz, <-e]
 have h3':(nI l).length+junk.length=cap*1:=h3
 have h2':cap<=maxLen:=h2
 refine⟨nI (l.drop (lbs br (lv br l)).length)++junk,⟨Fg _,(fun h=>by cases h),fun _=>⟨by show _<=cap;rw[BJ] at h3';omega,h2', ?_⟩⟩, ?_⟩
 ·show(nI (lbs br (lv br l))).length+(nI (l.drop (lbs br (lv br l)).length)++junk).length=cap*1
  rw[List.length_append,BJ,BJ,List.length_drop]
  rw[BJ] at h3';omega
 ·rw[<-List.append_assoc, <-e2]
theorem Dy (W:World) (p:Option Addr) (cap n:Nat) (l:List Nat) (i x:Nat) (h:A6 W p l) (hn:l.length=n) (hi:i<4611686018427387904) (hx:lim l i=x):Ae Tryz.prog 254 #[slv p n cap, .int .i64 (i:Nat)] W (fun _:Unit=> .int .i64 (x:Nat)) (fun _=>True) (fun _=>[]):=by
 subst hn hx
 refine Ab Tryz.func254 I I I<|xb<|wP I<|xk<|At I<|xa<|Ag I (fun hc=> ?_) (fun hc=> ?_)
 ·have hl:i<l.length:=by simp at hc;omega
  obtain⟨b,off,rfl,hrow⟩:=h.row hl
  refine xb<|Aa I<|wJ ?_
  exact wL 0 I I (fun W hp=>(hrow i hl).hp hp) I<|wP I<|xo<|wR1 I I I
 ·have hl:l.length<=i:=by simp at hc;omega
  exact xm<|wP I<|xc<|wR1 I I (by rw[Sx hl];rfl)
theorem CW (W:World) (p:Option Addr) (cap:Nat) (l:List Nat) (h:A6 W p l) (hl: ∀x∈l,x<br) (hc:l.length<=cap) (hn:l.length<4611686018427387904):
  Ae Tryz.prog 250 #[slv p l.length cap] W (fun _:Unit=>slv p (lbs br (lv br l)).length cap) (fun _=>True) (fun _=>[]):=by
 refine Ab Tryz.func250 I I I<|xb<|wP I<|xf<|Ad I<|xl<|zH<|Av (X:=Nat) (fun k=>[(0,slv p l.length cap),(3, .int .i64 (k:Nat))]) (fun _=>[]) (fun k=>k<=l.length/\ ∀i,k<=i->i<l.length->l[i]? =some 0) (fun k=>k) l.length ⟨Nat.le_refl _,fun i h1 h2=>by omega⟩ ⟨I,I,tO⟩ [] I ?_
 rintro k ⟨hk,hz⟩
 have hk:k<=l.length:=hk
 have hend:(k=0\/l[k-1]? ≠some 0)->(lbs br (lv br l)).length=k:=fun h0=>by
  rw[<-Td br2 hk hl hz h0,List.length_take];omega
 by_cases h0:k=0
 ·subst h0
  refine xd<|Aa I<|Ap 7 (.bool false) I I<|wP I<|?_
  iterate 6 refine Af I I ?_
  refine wP I<|xa<|zS I<|xg<|xn<|Aa I<|BG 0 tH I I I I I I I I (by omega) ?_
  exact wP I<|xc<|wR1 I I (by rw[hend (.inl I)])
 ·refine xd<|Aa I<|wU 7 true I (by simp;omega)<|?_
  obtain⟨b,off,rfl,hrow⟩:=h.row (show k-1<l.length by omega)
  refine At I<|wV 11 ((k-1:Nat):Int) I (by show w64 ((k:Int)-1)=_;rw[Ar (by omega) (by omega)];omega)<|wJ ?_
  refine wL 0 I I (fun W hp=>(hrow (k-1) (by omega)).hp hp) I<|Aa I<|xa<|?_
  have e1:((lim l (k-1):Int)==0)=decide (l[k-1]? =some 0):=by
   rw[DM (show k-1<l.length by omega),Ug]
   simp
  refine Ag I (fun hc=> ?_) (fun hc=> ?_)
  ·have hz0:l[k-1]? =some 0:=by simpa[e1] using hc
   refine xe<|zH<|zB<|Aa I<|wV 17 ((k-1:Nat):Int) I (by show w64 ((k:Int)-1)=_;rw[Ar (by omega) (by omega)];omega)<|wP I<|zC<|zN<|?_
   refine Al (k-1) ⟨by show k-1<=_;omega,fun i h1 h2=> ?_⟩ (by show k-1<k;omega) ⟨I,I,tO⟩ [] I
   by_cases hi:i=k-1
   ·rw[hi];exact hz0
   ·exact hz i (by have h1:k-1<=i:=h1;omega) h2
  ·have hz0:l[k-1]? ≠some 0:=by simpa[e1] using hc
   refine xg<|xn<|Aa I<|BG k tH I I I I I I I I (by omega) ?_
   exact wP I<|xc<|wR1 I I (by rw[hend (.inr hz0)])
theorem N2 {a b:Nat} (h:(lbs br a).length<(lbs br b).length):a<b:=by
 rcases Nat.lt_or_ge a b with h1|h1
 ·exact h1
 ·have:=(BZ br2 (n:=b)).2 (Nat.lt_of_le_of_lt h1 (AJ br2 a))
  omega
theorem dN {B:Nat} (_hB:2<=B) {a b:Nat} {k:Nat} (h:a/B^(k+1)=b/B^(k+1)):(a/B^k<b/B^k↔a/B^k%B<b/B^k%B)/\(a/B^k=b/B^k↔a/B^k%B=b/B^k%B):=by
 have h1:=Nat.mod_add_div (a/B^k) B
 have h2:=Nat.mod_add_div (b/B^k) B
 rw[Nat.div_div_eq_div_mul,show B^k*B=B^(k+1) from(Nat.pow_succ ..).symm] at h1 h2
 rw[h] at h1
 constructor<;>constructor<;>intro<;>omega
theorem Qu {a b c:Nat} (h:a/c<b/c):a<b:=by
 rcases Nat.lt_or_ge a b with h1|h1
 ·exact h1
 ·exact absurd (Nat.div_le_div_right (c:=c) h1) (by omega)
def Ps (a b:Nat):Int:=if a<b then -1 else if b<a then 1 else 0
theorem Mw (W:World) (p q:Option Addr) (cap cap2:Nat) (a b:Nat) (hA:A6 W p (lbs br a)) (hB:A6 W q (lbs br b)) (hna:(lbs br a).length<=1000000) (_hnb:(lbs br b).length<=1000000):
  Ae Tryz.prog 248 #[slv p (lbs br a).length cap,slv q (lbs br b).length cap2] W (fun _:Unit=> .int .i64 (Ps a b)) (fun _=>True) (fun _=>[]):=by
 have hal:=AJ br2 a
 have hbl:=AJ br2 b
 refine Ab Tryz.func248 I I I<|xb<|wP I<|xk<|Ak I<|?_
 by_cases hl:(lbs br a).length=(lbs br b).length
 rotate_left
 ·refine wU 10 true I (bne_iff_ne.2 (by omega))<|xa<|zR I<|xd<|Ak I<|?_
  by_cases h:(lbs br a).length<(lbs br b).length
  ·have hlt:=N2 h
   exact wU 15 true I (dT (by omega))<|xa<|zR I<|xb<|wP I<|xo<|zP<|wR1 I I (by unfold Ps;rw[if_pos hlt])
  ·have hlt:=N2 (a:=b) (b:=a) (by omega)
   exact wU 15 false I (dF (by omega))<|xa<|zS I<|xm<|wP I<|xo<|wR1 I I (by unfold Ps;rw[if_neg (by omega),if_pos hlt])
 obtain⟨K,hK⟩: ∃K,(lbs br b).length=K:=⟨_,rfl⟩
 rw[hl,hK] at hal
 rw[hK] at hbl hl
 rw[hl,hK]
 refine wU 10 false I (by simp)<|xa<|zS I<|xe<|xd<|Ad I<|wV 18 ((K:Int)-1) I (Ar (by omega) (by omega))<|wP I<|xa<|zH<|Av (X:=Nat) (fun k=>[(0,slv p K cap),(1,slv q K cap2),(5, .int .i64 ((k:Nat)-1:Int))]) (fun _=>[]) (fun k=>k<=K/\a/br^k=b/br^k) (fun k=>k) K ⟨Nat.le_refl _,by rw[Nat.div_eq_of_lt hal,Nat.div_eq_of_lt hbl]⟩ ⟨I,I,I,tO⟩ [] I ?_
 rintro k ⟨hk,hq⟩
 have hk:k<=K:=hk
 refine xd<|Aa I<|?_
 cases k with
 |zero=>
  have e:a=b:=by have hq:a/br^0=b/br^0:=hq;simpa using hq
  exact wU 20 false I (dF (by show¬(((0:Nat):Int)-1≥0);omega))<|xa<|zS I<|xg<|xn<|wP I<|xc<|wR1 I I (by unfold Ps;rw[e,if_neg (Nat.lt_irrefl _),if_neg (Nat.lt_irrefl _)])
 |succ k=>
  have hq:a/br^(k+1)=b/br^(k+1):=hq
  obtain⟨h1,h2⟩:=dN br2 hq
  obtain⟨b1,o1,rfl,r1⟩:=hA.row (show k<(lbs br a).length by omega)
  obtain⟨b2,o2,rfl,r2⟩:=hB.row (show k<(lbs br b).length by omega)
  have r1:=r1 k (by omega)
  have r2:=r2 k (by omega)
  obtain⟨x,hx⟩: ∃x,lim (lbs br a) k=x:=⟨_,rfl⟩
  obtain⟨y,hy⟩: ∃y,lim (lbs br b) k=y:=⟨_,rfl⟩
  rw[hx] at r1
  rw[hy] at r2
  rw[Bo br2] at hx hy
  rw[hx,hy] at h1 h2
  have hxb:x<br:=by rw[<-hx];exact Nat.mod_lt _ (by decide)
  have hyb:y<br:=by rw[<-hy];exact Nat.mod_lt _ (by decide)
  have hxb:x<1000000:=hxb
  have hyb:y<1000000:=hyb
  refine wU 20 true I (dT (by show(((k+1:Nat):Int)-1≥0);omega))<|xa<|zR I<|xe<|zA<|zH<|zA<|zA<|zU<|Ay I<|qV 24 (k:Nat) I (by show((k+1:Nat):Int)-1=_;omega)<|qJ ?_
  refine qL 0 I I (fun W hp=>r1.hp hp) I<|Ay I<|qV 28 (k:Nat) I (by show((k+1:Nat):Int)-1=_;omega)<|qJ ?_
  refine qL 0 I I (fun W hp=>r2.hp hp) I<|qP I<|?_
  by_cases hlt:x<y
  ·have:=Qu (h1.2 hlt)
   exact qU 31 true I (dT (by omega))<|zD<|xa<|zR I<|xb<|wP I<|xo<|xj<|zP<|wR1 I I (by unfold Ps;rw[if_pos this])
  refine qU 31 false I (dF (by omega))<|zD<|xa<|zS I<|xe<|zA<|zU<|Ay I<|qV 33 (k:Nat) I (by show((k+1:Nat):Int)-1=_;omega)<|qJ ?_
  refine qL 0 I I (fun W hp=>r1.hp hp) I<|Ay I<|qV 37 (k:Nat) I (by show((k+1:Nat):Int)-1=_;omega)<|qJ ?_
  refine qL 0 I I (fun W hp=>r2.hp hp) I<|qP I<|?_
  by_cases hgt:y<x
  ·have h3: ¬a/br^k<b/br^k:=fun h=>hlt (h1.1 h)
   have h4: ¬a/br^k=b/br^k:=fun h=>by have:=h2.1 h;omega
   have:=Qu (a:=b) (b:=a) (c:=br^k) (by omega)
   exact qU 40 true I (dT (by show((x:Nat):Int)>(y:Nat);omega))<|zD<|xa<|zR I<|xb<|wP I<|xc<|xj<|zP<|wR1 I I (by unfold Ps;rw[if_neg (by omega),if_pos this])
  exact qU 40 false I (dF (by show¬((x:Nat):Int)>(y:Nat);omega))<|zD<|xa<|zS I<|zI<|xi<|wP I<|wV 21 (k:Nat) I (by show((k+1:Nat):Int)-1=_;omega)<|wP I<|wV 22 ((k:Nat)-1:Int) I (Ar (by omega) (by omega))<|wP I<|zC<|Al k ⟨by show k<=K;omega,h2.2 (by omega)⟩ (by show k<k+1;omega) ⟨I,I,I,tO⟩ [] I
def GZ (a b:List Nat):Nat->List Nat×Nat
 |0=>([],0)
 |i+1=>((GZ a b i).1++[(lim a i+lim b i+(GZ a b i).2)%br],(lim a i+lim b i+(GZ a b i).2)/br)
theorem OO (a b:List Nat): ∀i,(GZ a b i).1.length=i
 |0=>rfl
 |i+1=>by show(_++[_]).length=_;rw[List.length_append,OO a b i];rfl
theorem Vy {a b:List Nat} (ha: ∀x∈a,x<br) (hb: ∀x∈b,x<br): ∀i,(∀x∈(GZ a b i).1,x<br)/\(GZ a b i).2<=1
 |0=>⟨fun x h=>(by cases h),Nat.zero_le _⟩
 |i+1=>by
  obtain⟨h1,h2⟩:=Vy ha hb i
  have l1:lim a i<1000000:=Bk br2 ha i
  have l2:lim b i<1000000:=Bk br2 hb i
  refine⟨fun x hx=> ?_, ?_⟩
  ·rcases List.mem_append.1 hx with hx|hx
   ·exact h1 x hx
   ·obtain rfl:=List.mem_singleton.1 hx;exact Nat.mod_lt _ (by decide)
  ·show _/1000000<=1;omega
theorem Ol (a b:Nat): ∀i,lv br (GZ (lbs br a) (lbs br b) i).1+br^i*(GZ (lbs br a) (lbs br b) i).2=a%br^i+b%br^i
 |0=>by show 0+br^0*0=_;rw[Nat.pow_zero,Nat.mod_one,Nat.mod_one]
 |i+1=>Qh (OO _ _ i) (Ol a b i) (by rw[Bo br2,Bo br2])
theorem SU (W:World) (p q:Option Addr) (cap cap2:Nat) (a b:Nat) (hA:A6 W p (lbs br a)) (hB:A6 W q (lbs br b)) (hna:(lbs br a).length<=1000000) (hnb:(lbs br b).length<=1000000):
  Ae Tryz.prog 247 #[slv p (lbs br a).length cap,slv q (lbs br b).length cap2] W (fun x:NV=>B8 x (lbs br (a+b)).length) (fun x=>C0 x (lbs br (a+b))) (fun x=>[BM x (lbs br (a+b))]):=by
 have hla:=Br br2 a
 have hlb:=Br br2 b
 have hal:=AJ br2 a
 have hbl:=AJ br2 b
 obtain⟨na,hna'⟩: ∃n,(lbs br a).length=n:=⟨_,rfl⟩
 obtain⟨nb,hnb'⟩: ∃n,(lbs br b).length=n:=⟨_,rfl⟩
 rw[hna'] at hna hal
 rw[hnb'] at hnb hbl
 obtain⟨M,hM⟩: ∃M,M=max na nb:=⟨_,rfl⟩
 have ham:a<br^M:=Nat.lt_of_lt_of_le hal (Nat.pow_le_pow_right (by decide) (by omega))
 have hbm:b<br^M:=Nat.lt_of_lt_of_le hbl (Nat.pow_le_pow_right (by decide) (by omega))
 refine Ab Tryz.func247 I I I ?_
 rw[hna',hnb']
 refine xb<|wP I<|xf<|DT tH I I I I I ?_
 intro g
 refine wP I<|xf<|wP I<|xk<|wP I<|xa<|zH<|?_
 refine Av (X:=Nat×NV) (fun x=>[(0,slv p na cap),(1,slv q nb cap2),(5,B8 x.2 x.1),(6, .int .i64 ((GZ (lbs br a) (lbs br b) x.1).2:Nat)),(7, .int .i64 (x.1:Nat))]) (fun x=>[BM x.2 (GZ (lbs br a) (lbs br b) x.1).1])
  (fun x=>x.1<=M+1/\C0 x.2 (GZ (lbs br a) (lbs br b) x.1).1/\(x.1=M+1->(GZ (lbs br a) (lbs br b) (M+1)).2=0)) (fun x=>M+1-x.1) (0,g,0,[]) ⟨Nat.zero_le _,⟨rfl,(fun h=>by cases h),fun _=>⟨Nat.le_refl _,Nat.zero_le _,rfl⟩⟩,fun h=>by have h:0=M+1:=h;omega⟩ ⟨rfl,rfl,rfl,rfl,rfl,trivial⟩ [] rfl ?_
 rintro⟨i,x⟩ ⟨hi,hx,hend⟩
 have hi:i<=M+1:=hi
 have hx:C0 x (GZ (lbs br a) (lbs br b) i).1:=hx
 have hlen:=OO (lbs br a) (lbs br b) i
 obtain⟨hob,hc1⟩:=Vy hla hlb i
 have hval:=Ol a b i
 obtain⟨out,hout⟩: ∃out,(GZ (lbs br a) (lbs br b) i).1=out:=⟨_,rfl⟩
 obtain⟨c,hc⟩: ∃c,(GZ (lbs br a) (lbs br b) i).2=c:=⟨_,rfl⟩
 rw[hout] at hx hlen hob hval
 rw[hc] at hc1 hval
 have eout:BM x (GZ (lbs br a) (lbs br b) i).1=BM x out:=by rw[hout]
 simp only[hc,hout]
 refine zA<|zA<|AA (X:=Unit) (fun _=>[(0,slv p na cap),(1,slv q nb cap2),(5,B8 x i),(6, .int .i64 (c:Nat)),(7, .int .i64 (i:Nat)),(23, .bool (decide (i<na\/i<nb\/0<c)))]) (fun _=>[BM x out]) (fun _=>True) ?_ ?_
 ·refine zB<|At I<|?_
  by_cases h1:i<na
  ·refine wU 13 true I (dT (by omega))<|wP I<|?_
   iterate 4 refine Af I I ?_
   refine Aa I<|?_
   iterate 2 refine Af I I ?_
   exact wP I<|zC<|Ao () tO ⟨I,I,I,I,I,by rw[dT (Or.inl h1)];rfl,tO⟩ [] I
  refine wU 13 false I (dF (by omega))<|Ak I<|?_
  by_cases h2:i<nb
  ·refine wU 18 true I (dT (by omega))<|Aa I<|?_
   iterate 2 refine Af I I ?_
   exact wP I<|zC<|Ao () tO ⟨I,I,I,I,I,by rw[dT (Or.inr (Or.inl h2))];rfl,tO⟩ [] I
  exact wU 18 false I (dF (by omega))<|At I<|wU 22 (decide (i<na\/i<nb\/0<c)) I (decide_eq_decide.2 (by omega))<|wP I<|zC<|Ao () tO ⟨I,I,I,I,I,I,tO⟩ [] I
 intro _ _
 refine Ag I (fun hcd=> ?_) (fun hcd=> ?_)
 ·have hcd:i<na\/i<nb\/0<c:=of_decide_eq_true hcd
  have hiM:i<=M:=by
   rcases Nat.lt_or_ge M i with h|h
   ·have h1:i=M+1:=by omega
    have h2:=hend h1
    rw[<-h1,hc] at h2
    omega
   ·exact h
  obtain⟨u,hu⟩: ∃u,lim (lbs br a) i=u:=⟨_,rfl⟩
  obtain⟨v,hv⟩: ∃v,lim (lbs br b) i=v:=⟨_,rfl⟩
  have hub:u<1000000:=by rw[<-hu];exact Bk br2 hla i
  have hvb:v<1000000:=by rw[<-hv];exact Bk br2 hlb i
  have e1:(GZ (lbs br a) (lbs br b) (i+1)).1=out++[(u+v+c)%br]:=by show _++[_]=_;rw[hout,hu,hv,hc]
  have e2:(GZ (lbs br a) (lbs br b) (i+1)).2=(u+v+c)/br:=by show _/_=_;rw[hu,hv,hc]
  refine xh<|Aa I<|wC I I (fun W' hp=>Dy W' p cap na (lbs br a) i u (hA.hp hp) hna' (by omega) hu)<|Aa I<|wC I I (fun W' hp=>Dy W' q cap2 nb (lbs br b) i v (hB.hp hp) hnb' (by omega) hv)<|Ad I<|wV 34 ((u+v+c:Nat):Int) I (by show w64 (w64 ((u:Int)+v)+c)=_;rw[AU (by omega),AU (by omega)])<|wP I<|xf<|Aa I<|FC I I I I I (by decide) ?_
  refine As Tryz.hZ tH I I I I I I I I I I I fun bN=> ?_
  refine AN (V:=nvV x) (len:=i) (xs:=nI out) 0 1 Tryz.vec172 (i+1) (nI (out++[(u+v+c)%br])) I I I I I I I I I I I (by rw[<-hlen];exact hx) I I I (by rw[Kz];rfl) (by simp only[maxLen];omega) (by omega) I ?_
  intro g1 c1 j1 hV1
  refine wP I<|xa<|zB<|wP I<|Ef I I I I I (by decide) ?_
  refine wV 41 (((u+v+c)/br:Nat):Int) I (BN (show(u+v+c)/1000000<9223372036854775808 by omega))<|wP I<|zC<|xi<|Aa I<|wV 25 ((i+1:Nat):Int) I (A0 (by omega))<|wP I<|zC<|?_
  refine Al (i+1,g1,c1,j1) ⟨by show i+1<=M+1;omega, ?_,fun h=> ?_⟩ (by show M+1-(i+1)<M+1-i;omega) ⟨I,I,I,by rw[e2];rfl,I,tO⟩ _ (by show _=[BM _ (GZ _ _ (i+1)).1]++_;rw[e1];rfl)
  ·show C0 _ (GZ (lbs br a) (lbs br b) (i+1)).1
   rw[e1]
   show Vec.OK _ 1 (out++[_]).length _
   rw[List.length_append,hlen]
   exact hV1
  ·have h:i+1=M+1:=h
   have h9:=Ol a b (M+1)
   have hp1:br^(M+1)=br^M*br:=Nat.pow_succ ..
   have hp2:br^M*2<=br^M*br:=Nat.mul_le_mul_left _ br2
   rw[Nat.mod_eq_of_lt (by omega),Nat.mod_eq_of_lt (by omega)] at h9
   rcases Nat.eq_zero_or_pos (GZ (lbs br a) (lbs br b) (M+1)).2 with h0|h0
   ·exact h0
   ·have:=Nat.mul_le_mul_left (br^(M+1)) h0
    omega
 ·have hcd: ¬(i<na\/i<nb\/0<c):=of_decide_eq_false hcd
  have ev:lv br out=a+b:=by
   have hc0:c=0:=by omega
   rw[hc0,Nat.mul_zero,Nat.add_zero] at hval
   have h3:br^M<=br^i:=Nat.pow_le_pow_right (by decide) (by omega)
   rw[Nat.mod_eq_of_lt (by omega),Nat.mod_eq_of_lt (by omega)] at hval
   exact hval
  obtain⟨j2,hj1,hj2⟩:=Ek hx hob
  rw[ev] at hj1 hj2
  exact xg<|xn<|wP I<|Ap 42 (slv (some ⟨x.1,0,none⟩) out.length x.2.1) I (by rw[hlen])<|wC I I (fun W' hp=>CW W' (some ⟨x.1,0,none⟩) x.2.1 out (A6.of_bx hp 0 I) hob (by have:=(hx.cap (by simp)).1;exact this) (by omega))<|wP I<|xc<|A3 tH I (.tmp I) ((x.1,x.2.1,j2):NV) (by rw[ev]) hj1 fun W hp=>Au.of_hp1 hp 0 (by show some (⟨x.1,3,nI out++x.2.2,true,none⟩:Bx)=some ⟨x.1,3,nI (lbs br (a+b))++j2,true,none⟩;rw[hj2])
def I6 (x y c:Nat):Nat×Nat:=if y+c<=x then(x-y-c,0) else(x+br-y-c,1)
theorem Vx {x y c:Nat} (hx:x<br) (hy:y<br) (hc:c<=1):(I6 x y c).1<br/\(I6 x y c).2<=1/\(I6 x y c).1+y+c=x+br*(I6 x y c).2:=by
 have hx:x<1000000:=hx
 have hy:y<1000000:=hy
 unfold I6
 split
 ·exact⟨by show x-y-c<1000000;omega,Nat.zero_le _,by show x-y-c+y+c=x+1000000*0;omega⟩
 ·exact⟨by show x+1000000-y-c<1000000;omega,Nat.le_refl _,by show x+1000000-y-c+y+c=x+1000000*1;omega⟩
def Il (a b:List Nat):Nat->List Nat×Nat
 |0=>([],0)
 |i+1=>((Il a b i).1++[(I6 (lim a i) (lim b i) (Il a b i).2).1],(I6 (lim a i) (lim b i) (Il a b i).2).2)
theorem O9 (a b:List Nat): ∀i,(Il a b i).1.length=i
 |0=>rfl
 |i+1=>by show(_++[_]).length=_;rw[List.length_append,O9 a b i];rfl
theorem QZ {a b:List Nat} (ha: ∀x∈a,x<br) (hb: ∀x∈b,x<br): ∀i,(∀x∈(Il a b i).1,x<br)/\(Il a b i).2<=1
 |0=>⟨fun x h=>(by cases h),Nat.zero_le _⟩
 |i+1=>by
  obtain⟨h1,h2⟩:=QZ ha hb i
  obtain⟨h3,h4,_⟩:=Vx (Bk br2 ha i) (Bk br2 hb i) h2
  refine⟨fun x hx=> ?_,h4⟩
  rcases List.mem_append.1 hx with hx|hx
  ·exact h1 x hx
  ·obtain rfl:=List.mem_singleton.1 hx;exact h3
theorem TL (a b:Nat): ∀i,lv br (Il (lbs br a) (lbs br b) i).1+b%br^i=a%br^i+br^i*(Il (lbs br a) (lbs br b) i).2
 |0=>by show 0+_=_+br^0*0;rw[Nat.pow_zero,Nat.mod_one,Nat.mod_one]
 |i+1=>by
  have hc:=(QZ (Br br2 a) (Br br2 b) i).2
  exact Pi (O9 _ _ i) (TL a b i) (by rw[<-Bo br2 b i, <-Bo br2 a i];exact(Vx (Bk br2 (Br br2 a) i) (Bk br2 (Br br2 b) i) hc).2.2)
theorem FE (W:World) (p q:Option Addr) (cap cap2:Nat) (a b:Nat) (hba:b<=a) (hA:A6 W p (lbs br a)) (hB:A6 W q (lbs br b)) (hna:(lbs br a).length<=1000000):
  Ae Tryz.prog 249 #[slv p (lbs br a).length cap,slv q (lbs br b).length cap2] W (fun x:NV=>B8 x (lbs br (a-b)).length) (fun x=>C0 x (lbs br (a-b))) (fun x=>[BM x (lbs br (a-b))]):=by
 have hla:=Br br2 a
 have hlb:=Br br2 b
 have hal:=AJ br2 a
 obtain⟨na,hna'⟩: ∃n,(lbs br a).length=n:=⟨_,rfl⟩
 obtain⟨nb,hnb'⟩: ∃n,(lbs br b).length=n:=⟨_,rfl⟩
 rw[hna'] at hna hal
 refine Ab Tryz.func249 I I I ?_
 rw[hna',hnb']
 refine xb<|wP I<|xf<|DT tH I I I I I ?_
 intro g
 refine wP I<|xf<|wP I<|xk<|wP I<|xa<|zH<|?_
 refine Av (X:=Nat×NV) (fun x=>[(0,slv p na cap),(1,slv q nb cap2),(5,B8 x.2 x.1),(6, .int .i64 ((Il (lbs br a) (lbs br b) x.1).2:Nat)),(7, .int .i64 (x.1:Nat))]) (fun x=>[BM x.2 (Il (lbs br a) (lbs br b) x.1).1])
  (fun x=>x.1<=na/\C0 x.2 (Il (lbs br a) (lbs br b) x.1).1) (fun x=>na-x.1) (0,g,0,[]) ⟨Nat.zero_le _,⟨rfl,(fun h=>by cases h),fun _=>⟨Nat.le_refl _,Nat.zero_le _,rfl⟩⟩⟩ ⟨rfl,rfl,rfl,rfl,rfl,trivial⟩ [] rfl ?_
 rintro⟨i,x⟩ ⟨hi,hx⟩
 have hi:i<=na:=hi
 have hx:C0 x (Il (lbs br a) (lbs br b) i).1:=hx
 have hlen:=O9 (lbs br a) (lbs br b) i
 obtain⟨hob,hc1⟩:=QZ hla hlb i
 have hval:=TL a b i
 obtain⟨out,hout⟩: ∃out,(Il (lbs br a) (lbs br b) i).1=out:=⟨_,rfl⟩
 obtain⟨c,hc⟩: ∃c,(Il (lbs br a) (lbs br b) i).2=c:=⟨_,rfl⟩
 rw[hout] at hx hlen hob hval
 rw[hc] at hc1 hval
 simp only[hc,hout]
 refine xd<|At I<|?_
 by_cases h1:i<na
 ·refine wU 13 true I (dT (by omega))<|xa<|zR I<|xe<|zA<|zH<|zA<|zU<|?_
  obtain⟨u,hu⟩: ∃u,lim (lbs br a) i=u:=⟨_,rfl⟩
  obtain⟨v,hv⟩: ∃v,lim (lbs br b) i=v:=⟨_,rfl⟩
  have hub:u<1000000:=by rw[<-hu];exact Bk br2 hla i
  have hvb:v<1000000:=by rw[<-hv];exact Bk br2 hlb i
  obtain⟨b1,o1,rfl,r1⟩:=hA.row (show i<(lbs br a).length by omega)
  have r1:=r1 i (by omega)
  rw[hu] at r1
  have e1:(Il (lbs br a) (lbs br b) (i+1)).1=out++[(I6 u v c).1]:=by show _++[_]=_;rw[hout,hu,hv,hc]
  have e2:(Il (lbs br a) (lbs br b) (i+1)).2=(I6 u v c).2:=by show(I6 _ _ _).2=_;rw[hu,hv,hc]
  refine Ay I<|qJ ?_
  refine qL 0 I I (fun W hp=>r1.hp hp) I<|Ay I<|qC I I (fun W' hp=>Dy W' q cap2 nb (lbs br b) i v (hB.hp hp) hnb' (by omega) hv)<|AY I<|qV 25 ((u:Int)-v-c) I (by show w64 (w64 ((u:Int)-v)-c)=_;rw[Ar (x:=(u:Int)-v) (by omega) (by omega),Ar (by omega) (by omega)])<|qP I<|zD<|xf<|wP I<|xk<|Aa I<|Ap 27 (.bool (decide ((u:Int)-v-c<0))) I I<|zC<|?_
  refine KD ?_
  try refine Ba ?_
  refine AA (X:=Unit) (fun _=>[(0,slv (some ⟨b1,o1,none⟩) na cap),(1,slv q nb cap2),(5,B8 x i),(6, .int .i64 ((I6 u v c).2:Nat)),(7, .int .i64 (i:Nat)),(8, .int .i64 ((I6 u v c).1:Nat))]) (fun _=>[BM x out]) (fun _=>True) ?_ ?_
  ·refine Ag I (fun hn=> ?_) (fun hn=> ?_)
   ·have hn:(u:Int)-v-c<0:=of_decide_eq_true hn
    have em:I6 u v c=(u+br-v-c,1):=by unfold I6;rw[if_neg (by omega)]
    exact xb<|Aa I<|wV 29 ((u+br-v-c:Nat):Int) I (by show w64 (((u:Int)-v-c)+((1000000:Nat):Int))=_;rw[Ar (by omega) (by omega)];show _=((u+1000000-v-c:Nat):Int);omega)<|wP I<|xa<|zB<|wP I<|zC<|Ao () tO ⟨I,I,I,by rw[em];rfl,I,by rw[em];rfl,tO⟩ [] I
   ·have hn: ¬(u:Int)-v-c<0:=of_decide_eq_false hn
    have em:I6 u v c=(u-v-c,0):=by unfold I6;rw[if_pos (by omega)]
    exact zI<|Ao () tO ⟨I,I,I,by rw[em];rfl,I,by rw[em];exact congrArg (fun z=>some (Value.int .i64 z)) (by show(u:Int)-v-c=((u-v-c:Nat):Int);omega),tO⟩ [] I
  intro _ _
  refine zB<|Aa I<|As Tryz.hZ tH I I I I I I I I I I I fun bN=> ?_
  refine AN (V:=nvV x) (len:=i) (xs:=nI out) 0 1 Tryz.vec172 (i+1) (nI (out++[(I6 u v c).1])) I I I I I I I I I I I (by rw[<-hlen];exact hx) I I I (by rw[Kz];rfl) (by simp only[maxLen];omega) (by omega) I ?_
  intro g1 c1 j1 hV1
  refine wP I<|zC<|xi<|Aa I<|wV 15 ((i+1:Nat):Int) I (A0 (by omega))<|wP I<|zC<|?_
  refine Al (i+1,g1,c1,j1) ⟨h1, ?_⟩ (by show na-(i+1)<na-i;omega) ⟨I,I,I,by rw[e2];rfl,I,tO⟩ _ (by show _=[BM _ (Il _ _ (i+1)).1]++_;rw[e1];rfl)
  show C0 _ (Il (lbs br a) (lbs br b) (i+1)).1
  rw[e1]
  show Vec.OK _ 1 (out++[_]).length _
  rw[List.length_append,hlen]
  exact hV1
 ·have e:i=na:=by omega
  subst e
  have ev:lv br out=a-b:=QG br2 hlen hob hval hal hba
  obtain⟨j2,hj1,hj2⟩:=Ek hx hob
  rw[ev] at hj1 hj2
  exact wU 13 false I (dF (by omega))<|xa<|zS I<|xg<|xn<|wP I<|Ap 34 (slv (some ⟨x.1,0,none⟩) out.length x.2.1) I (by rw[hlen])<|wC I I (fun W' hp=>CW W' (some ⟨x.1,0,none⟩) x.2.1 out (A6.of_bx hp 0 I) hob (by have:=(hx.cap (by simp)).1;exact this) (by omega))<|wP I<|xc<|A3 tH I (.tmp I) ((x.1,x.2.1,j2):NV) (by rw[ev]) hj1 fun W hp=>Au.of_hp1 hp 0 (by show some (⟨x.1,3,nI out++x.2.2,true,none⟩:Bx)=some ⟨x.1,3,nI (lbs br (a-b))++j2,true,none⟩;rw[hj2])
theorem YI {x y:Nat} (hx:x<br) (hy:y<br):x*y<=999998000001:=(Nat.mul_le_mul (Nat.le_of_lt_succ hx) (Nat.le_of_lt_succ hy):x*y<=999999*999999)
theorem JE (W:World) (p q:Option Addr) (cap cap2:Nat) (a:Nat) (lb:List Nat) (hlb: ∀x∈lb,x<br) (hA:A6 W p (lbs br a)) (hB:A6 W q lb) (hna:(lbs br a).length<=1000000) (hnb:lb.length<=1000000):
  Ae Tryz.prog 255 #[slv p (lbs br a).length cap,slv q lb.length cap2] W (fun x:NV=>B8 x (lbs br (a*lv br lb)).length) (fun x=>C0 x (lbs br (a*lv br lb))) (fun x=>[BM x (lbs br (a*lv br lb))]):=by
 have hla:=Br br2 a
 have hal:=AJ br2 a
 have hbl:=Gu br2 hlb
 obtain⟨b,hbv⟩: ∃b,lv br lb=b:=⟨_,rfl⟩
 rw[hbv] at hbl⊢
 obtain⟨na,hna'⟩: ∃n,(lbs br a).length=n:=⟨_,rfl⟩
 obtain⟨nb,hnb'⟩: ∃n,lb.length=n:=⟨_,rfl⟩
 obtain⟨M,hM⟩: ∃M,M=na+nb+1:=⟨_,rfl⟩
 rw[hna'] at hna hal
 rw[hnb'] at hnb hbl
 refine Ab Tryz.func255 I I I ?_
 rw[hna',hnb']
 refine xb<|wP I<|xf<|AE I<|wV 15 (M:Nat) I (by show w64 (w64 ((na:Int)+nb)+1)=_;rw[AU (by omega),A0 (by omega),hM])<|?_
 refine Cr Tryz.vec172 M I I I I I I I (by simp only[maxLen];omega) (by omega) ?_
 intro g
 have ez:Cf (Value.cells (.int .i64 0)).toList M=nI (List.replicate M 0)++[]:=by rw[List.append_nil];exact Gx M
 rw[ez]
 refine wP I<|xk<|wP I<|xa<|zH<|?_
 refine Av (X:=Nat×List Nat) (fun x=>[(0,slv p na cap),(1,slv q nb cap2),(5,slv (some ⟨g,0,none⟩) M M),(6, .int .i64 (x.1:Nat))]) (fun x=>[⟨g,3,nI x.2++[],true,none⟩])
  (fun x=>x.1<=na/\x.2.length=M/\(∀y∈x.2,y<br)/\lv br x.2=a%br^x.1*b) (fun x=>na-x.1) (0,List.replicate M 0) ⟨Nat.zero_le _,List.length_replicate,fun y hy=>by rw[List.eq_of_mem_replicate hy];decide,by rw[Fx];show 0=a%br^0*b;rw[Nat.pow_zero,Nat.mod_one,Nat.zero_mul]⟩ ⟨rfl,rfl,rfl,rfl,trivial⟩ [] rfl ?_
 rintro⟨i,out⟩ ⟨hi,hlen,hob,hov⟩
 have hi:i<=na:=hi
 have hlen:out.length=M:=hlen
 refine xd<|At I<|?_
 by_cases hi':i<na
 ·refine wU 20 true I (dT (by omega))<|xa<|zR I<|xh<|?_
  obtain⟨pb,po,rfl,hrow⟩:=hA.row (show i<(lbs br a).length by omega)
  obtain⟨x,hx⟩: ∃x,lim (lbs br a) i=x:=⟨_,rfl⟩
  have hrx: ∀W' bx,Hp W bx W'->Aj W' pb (po+i*1) [.int .i64 (x:Nat)]:=fun W' bx hp=>by
   have:=(hrow i (by omega)).hp hp
   rwa [hx] at this
  have hxb:x<br:=by rw[<-hx];exact Bk br2 hla i
  have hxe:x=a/br^i%br:=by rw[<-hx];exact Bo br2 a i
  refine wP I<|xf<|wP I<|xa<|zH<|?_
  refine Av (X:=Nat×List Nat×Nat) (fun x'=>[(0,slv (some ⟨pb,po,none⟩) na cap),(1,slv q nb cap2),(5,slv (some ⟨g,0,none⟩) M M),(6, .int .i64 (i:Nat)),(7, .int .i64 (x'.2.2:Nat)),(8, .int .i64 (x'.1:Nat))]) (fun x'=>[⟨g,3,nI x'.2.1++[],true,none⟩])
   (fun x'=>x'.1<=nb+1/\x'.2.1.length=M/\(∀y∈x'.2.1,y<br)/\x'.2.2<br/\lv br x'.2.1+br^(i+x'.1)*x'.2.2=lv br out+br^i*(x*(b%br^x'.1))) (fun x'=>nb+1-x'.1) (0,out,0) ⟨Nat.zero_le _,hlen,hob,show 0<br by decide,by show lv br out+br^(i+0)*0=lv br out+br^i*(x*(b%br^0));rw[Nat.pow_zero,Nat.mod_one];simp⟩ ⟨rfl,rfl,rfl,rfl,rfl,rfl,trivial⟩ [] rfl ?_
  rintro⟨k,u,c⟩ ⟨hk,hul,hub,hcb,huv⟩
  have hk:k<=nb+1:=hk
  have hul:u.length=M:=hul
  have hcb:c<1000000:=hcb
  have huv:lv br u+br^(i+k)*c=lv br out+br^i*(x*(b%br^k)):=huv
  have hlast:k=nb+1->c=0:=fun e=>by
   subst e
   exact(QD br2 huv hbl hxb (by rw[hov];exact MD br2 hbl)).2
  refine zA<|zA<|AA (X:=Unit) (fun _=>[(0,slv (some ⟨pb,po,none⟩) na cap),(1,slv q nb cap2),(5,slv (some ⟨g,0,none⟩) M M),(6, .int .i64 (i:Nat)),(7, .int .i64 (c:Nat)),(8, .int .i64 (k:Nat)),(30, .bool (decide (k<nb\/0<c)))]) (fun _=>[⟨g,3,nI u++[],true,none⟩]) (fun _=>True) ?_ ?_
  ·refine zB<|At I<|?_
   by_cases h1:k<nb
   ·refine wU 26 true I (dT (by omega))<|wP I<|?_
    iterate 2 refine Af I I ?_
    exact wP I<|zC<|Ao () tO ⟨I,I,I,I,I,I,by rw[dT (Or.inl h1)];rfl,tO⟩ [] I
   ·exact wU 26 false I (dF (by omega))<|Ad I<|wU 29 (decide (k<nb\/0<c)) I (decide_eq_decide.2 (by show((c:Nat):Int)>0↔(k<nb\/0<c);omega))<|wP I<|zC<|Ao () tO ⟨I,I,I,I,I,I,I,tO⟩ [] I
  intro _ _
  refine Ag I (fun hc=> ?_) (fun hc=> ?_)
  ·have hc:k<nb\/0<c:=of_decide_eq_true hc
   have hk':k<nb+1:=by
    rcases Nat.lt_or_ge k (nb+1) with h|h
    ·exact h
    ·have:=hlast (by omega);omega
   have hik:i+k<u.length:=by rw[hul];omega
   obtain⟨o,ho⟩: ∃o,lim u (i+k)=o:=⟨_,rfl⟩
   obtain⟨y,hy⟩: ∃y,lim lb k=y:=⟨_,rfl⟩
   have hob':o<br:=by rw[<-ho];exact Bk br2 hub _
   have hyb:y<br:=by rw[<-hy];exact Bk br2 hlb _
   have hou:u[i+k]? =some o:=by rw[DM hik,ho]
   obtain⟨n,hn⟩: ∃n,n=o+x*y+c:=⟨_,rfl⟩
   have hnb2:=MK hxb hyb hob' hcb hn
   have hn63:n<1000000000000:=hnb2.2
   have hxy:=YI hxb hyb
   have hyy:=hy
   rw[CI br2 k hlb,hbv] at hyy
   have hstep:=Kq (n:=n) hou huv (by rw[hn,hyy])
   have hrx':=hrx
   refine xe<|zA<|zH<|zA<|zU<|Cd I<|qV 36 ((i+k:Nat):Int) I (AU (by omega))<|qJ ?_
   refine qL 0 I I (fun W' hp=>Aj.of_intsX hp 0 I hik ho) I<|Ay I<|qJ ?_
   refine qL 0 I I (fun W' hp=>hrx W' _ hp) I<|Ay I<|qC I I (fun W' hp=>Dy W' q cap2 nb lb k y (hB.hp hp) hnb' (by omega) hy)<|Cd I<|qV 49 (n:Nat) I (by show w64 (w64 ((o:Int)+w64 ((x:Int)*y))+c)=_;rw[Cx (by omega),AU (by omega),AU (by omega),hn])<|qP I<|zD<|xf<|At I<|wV 53 ((i+k:Nat):Int) I (AU (by omega))<|wP I<|FC I I I I I (by decide) ?_
   refine wJ ?_
   refine AG 0 (nI (u.set (i+k) (n%br))++[]) tH I I I I I I I I I I (by show 0+(i+k)*1+1<=(nI u++[]).length;rw[List.append_nil,BJ];omega) (CH hik (n%br)) ?_
   refine xa<|zB<|wP I<|Ef I I I I I (by decide) ?_
   exact wV 58 ((n/br:Nat):Int) I (BN (show n/1000000<9223372036854775808 by omega))<|wP I<|zC<|xi<|Aa I<|wV 32 ((k+1:Nat):Int) I (A0 (by omega))<|wP I<|zC<|Al (k+1,u.set (i+k) (n%br),n/br) ⟨hk',by rw[List.length_set];exact hul,Dd hub (Nat.mod_lt _ (by decide)),hnb2.1,hstep⟩ (by show nb+1-(k+1)<nb+1-k;omega) ⟨I,I,I,I,I,I,tO⟩ [] I
  ·have hc: ¬(k<nb\/0<c):=of_decide_eq_false hc
   have hc0:c=0:=by omega
   have h1:lv br u=lv br out+br^i*(x*b):=by
    rw[hc0,Nat.mul_zero,Nat.add_zero] at huv
    have h3:br^nb<=br^k:=Nat.pow_le_pow_right (by decide) (by omega)
    rw[Nat.mod_eq_of_lt (show b<br^k by omega)] at huv
    exact huv
   have h2:=O8 (a:=a) (b:=b) (i:=i) hov
   rw[<-hxe, <-h1] at h2
   exact xg<|xi<|Aa I<|wV 22 ((i+1:Nat):Int) I (A0 (by omega))<|wP I<|zC<|Al (i+1,u) ⟨hi',hul,hub,h2⟩ (by show na-(i+1)<na-i;omega) ⟨I,I,I,I,tO⟩ [] I
 ·have hi':i=na:=by omega
  subst hi'
  rw[Nat.mod_eq_of_lt hal] at hov
  refine wU 20 false I (dF (by omega))<|xa<|zS I<|xg<|xn<|?_
  have hV0:(⟨some g,M,[]⟩:Vec).OK 1 out.length (nI out):=⟨Fg _,(fun h=>by cases h),fun _=>⟨by show _<=M;omega,by show M<=maxLen;simp only[maxLen];omega,by show(nI out).length+0=M*1;rw[BJ];omega⟩⟩
  obtain⟨j',hV2,he⟩:=Ek hV0 hob
  refine wP I<|Ap 59 (slv (some ⟨g,0,none⟩) out.length M) I (by rw[hlen])<|wC I I (fun W hp=>CW W _ M _ (A6.of_bx hp 0 I) hob (by omega) (by omega))<|wP I<|xc<|?_
  rw[hov] at hV2 he
  exact A3 tH I (.tmp I) ((g,M,j'):NV) (by rw[hov]) hV2 fun W hp=>Au.of_hp1 hp 0 (by show some (⟨g,3,nI out++[],true,none⟩:Bx)=some ⟨g,3,nI (lbs br (a*b))++j',true,none⟩;rw[he])
theorem Lb (W:World) (p q:Option Addr) (cap cap2:Nat) (a b:Nat) (hA:A6 W p (lbs br a)) (hB:A6 W q (lbs br b)) (hna:(lbs br a).length<=1000000) (hnb:(lbs br b).length<=1000000):
  Ae Tryz.prog 255 #[slv p (lbs br a).length cap,slv q (lbs br b).length cap2] W (fun x:NV=>B8 x (lbs br (a*b)).length) (fun x=>C0 x (lbs br (a*b))) (fun x=>[BM x (lbs br (a*b))]):=by
 have h:=JE W p q cap cap2 a (lbs br b) (Br br2 b) hA hB hna hnb
 rwa [Mj br2] at h
def JA (z:Int):List UInt8:=if z<0 then[45] else[]
theorem Dj (z:Int):itoa z=JA z++decDigits z.natAbs:=by
 unfold itoa JA
 split
 ·rfl
 ·rw[show z.toNat=z.natAbs by omega];rfl
theorem Rm (z:Int):(JA z).length<=1:=by unfold JA;split<;>decide
theorem Ga (z:Int): ∃c,(itoa z)[0]? =some c/\decide (c=45)=decide (z<0):=by
 have h:=Ms z
 rw[Bj] at h
 cases e:itoa z with
 |nil=>
  rw[Dj] at e
  exact absurd (List.append_eq_nil_iff.1 e).2 (F5 _)
 |cons c t=>
  rw[e] at h
  exact⟨c,I,by rw[<-h];exact decide_eq_decide.2 (by simp)⟩
theorem Yz {n:Nat} (h:(decDigits n)[0]? =some 48):n=0:=by
 rcases Nat.eq_zero_or_pos n with h0|h0
 ·exact h0
 ·obtain⟨b,r,h1,h2⟩:=Na n (by omega)
  rw[h1] at h
  have h:b=48:=by simpa using h
  rw[h] at h2;exact absurd rfl h2
theorem H9 (z:Int) (hl:(decDigits z.natAbs).length<=300):Be Tryz.prog 245 [str (itoa z)] (.int .i64 0):=by
 intro W
 obtain⟨s,hs⟩: ∃s,s=itoa z:=⟨_,rfl⟩
 obtain⟨dd,hdd⟩: ∃dd,dd=decDigits z.natAbs:=⟨_,rfl⟩
 obtain⟨f,hf⟩: ∃f,f=(JA z).length:=⟨_,rfl⟩
 have hss:s=JA z++dd:=by rw[hs,hdd];exact Dj z
 have hf1:f<=1:=hf▸Rm z
 have hsl:s.length=f+dd.length:=by rw[hss,List.length_append,hf]
 have hd0:0<dd.length:=by rw[hdd];exact List.length_pos_iff.2 (F5 _)
 have hget: ∀i,f<=i->s[i]? =dd[i-f]? :=fun i hi=>by rw[hss,List.getElem?_append_right (by omega),hf]
 obtain⟨c0,hc0,hc45⟩:=Ga z
 rw[<-hs] at hc0⊢
 rw[<-hdd] at hl
 have hdg: ∀b∈dd,E0 b=true:=by rw[hdd];exact(Gr _).all
 refine Ab Tryz.func245 I I I<|xb<|wP I<|xf<|wP I<|xk<|Aa I<|Ap 6 (.int .i64 (s.length:Nat)) I (congrArg (fun n:Nat=>Value.int .i64 (n:Int)) (A5 s))<|wP I<|wU 7 true I (dT (by omega))<|Aa I<|Bc 0 tH I I I I I I I I hc0<|wP I<|wU 11 (decide (z<0)) I ((DK c0 45).trans hc45)<|?_
 refine wP I<|xa<|?_
 try refine Ba ?_
 refine AA (X:=Unit) (fun _=>[(0,str s),(3, .int .i64 (f:Nat))]) (fun _=>[]) (fun _=>True) ?_ ?_
 ·refine Ag I (fun h=> ?_) (fun h=> ?_)
  ·have h:z<0:=of_decide_eq_true h
   exact zB<|wP I<|zC<|Ao () tO ⟨I,by rw[hf];unfold JA;rw[if_pos h];rfl,tO⟩ [] I
  ·have h: ¬z<0:=of_decide_eq_false h
   exact zI<|Ao () tO ⟨I,by rw[hf];unfold JA;rw[if_neg h];rfl,tO⟩ [] I
 intro _ _
 refine zA<|zA<|AA (X:=Unit) (fun _=>[(0,str s),(3, .int .i64 (f:Nat)),(27, .bool false)]) (fun _=>[]) (fun _=>True) ?_ ?_
 ·refine zB<|Ad I<|Ap 15 (.int .i64 (s.length:Nat)) I (congrArg (fun n:Nat=>Value.int .i64 (n:Int)) (A5 s))<|wP I<|wU 16 false I (by rw[beq_eq_false_iff_ne];omega)<|?_
  obtain⟨b,hb⟩: ∃b,dd[0]? =some b:=⟨dd[0],List.getElem?_eq_getElem hd0⟩
  have hsb:s[f]? =some b:=by rw[hget f (Nat.le_refl _),Nat.sub_self];exact hb
  refine Ad I<|Bc f tH I I I I I I I I hsb<|wP I<|?_
  by_cases h48:b=48
  ·rw[h48,hdd] at hb
   have h0:=Yz hb
   have hz:z=0:=by omega
   have hs1:s.length=1:=by rw[hs,hz,CC];rfl
   exact wU 21 true I ((DK b 48).trans (dT h48))<|Ad I<|Ap 24 (.int .i64 (s.length:Nat)) I (congrArg (fun n:Nat=>Value.int .i64 (n:Int)) (A5 s))<|wP I<|wU 25 false I (dF (by omega))<|Aa I<|zC<|Ao () tO ⟨I,I,I,tO⟩ [] I
  ·refine wU 21 false I ((DK b 48).trans (dF h48))<|wP I<|?_
   iterate 3 refine Af I I ?_
   exact Aa I<|zC<|Ao () tO ⟨I,I,I,tO⟩ [] I
 intro _ _
 refine zS I<|xe<|xd<|Aa I<|xa<|zH<|Av (X:=Nat) (fun i=>[(0,str s),(3, .int .i64 (f:Nat)),(4, .int .i64 (i:Nat))]) (fun _=>[]) (fun i=>i<=s.length/\f<=i) (fun i=>s.length-i) f ⟨by omega,Nat.le_refl _⟩ ⟨I,I,I,tO⟩ [] I ?_
 rintro i ⟨hi,hfi⟩
 have hi:i<=s.length:=hi
 have hfi:f<=i:=hfi
 refine xd<|Ad I<|Ap 31 (.int .i64 (s.length:Nat)) I (congrArg (fun n:Nat=>Value.int .i64 (n:Int)) (A5 s))<|wP I<|?_
 by_cases hlt:i<s.length
 ·refine wU 32 true I (dT (by omega))<|xa<|zR I<|xh<|?_
  obtain⟨b,hb⟩: ∃b,dd[i-f]? =some b:=⟨dd[i-f]'(by omega),List.getElem?_eq_getElem (by omega)⟩
  have hsb:s[i]? =some b:=by rw[hget i hfi];exact hb
  have hbd:=CS.1 (hdg b (List.mem_of_getElem? hb))
  exact Aa I<|Bc i tH I I I I I I I I hsb<|wP I<|wU 38 false I ((Yl b).trans (dF (by omega)))<|Ad I<|Bc i tH I I I I I I I I hsb<|wP I<|wU 43 false I ((XF b).trans (dF (by omega)))<|wP I<|xa<|zS I<|zI<|xi<|Aa I<|wV 34 ((i+1:Nat):Int) I (A0 (by omega))<|wP I<|zC<|Al (i+1) ⟨hlt,by show f<=i+1;omega⟩ (by show s.length-(i+1)<s.length-i;omega) ⟨I,I,I,tO⟩ [] I
 ·refine wU 32 false I (dF (by omega))<|xa<|zS I<|xg<|zE<|xd<|Aa I<|Ap 46 (.int .i64 (s.length:Nat)) I (congrArg (fun n:Nat=>Value.int .i64 (n:Int)) (A5 s))<|Aa I<|wV 48 (dd.length:Nat) I (by show w64 ((s.length:Int)-f)=_;rw[Ar (by omega) (by omega)];omega)<|wP I<|wU 49 false I (dF (by omega))<|xa<|zS I<|zI<|?_
  exact xn<|wP I<|xc<|wR1 I I I
theorem Ft (a b:Int) (ha:(decDigits a.natAbs).length<=300) (hb:(decDigits b.natAbs).length<=300):Be Tryz.prog 172 [str (itoa a),str (itoa b)] (.int .i64 0):=by
 intro W
 refine Ab Tryz.func172 I I I<|xb<|wP I<|xk<|wP I<|wC I I (fun W _=>H9 a ha W)<|wP I<|xf<|Aa I<|xa<|zS I<|xe<|zA<|?_
 exact zB<|wP I<|wC I I (fun W _=>H9 b hb W)<|wP I<|xc<|wR1 I I I
def smI (z:Int):Bool:=decide ((itoa z).length<=17)
theorem LV {z:Int} (h:smI z=true):z.natAbs<100000000000000000:=by
 have h:(itoa z).length<=17:=of_decide_eq_true h
 rw[Dj,List.length_append] at h
 exact Nat.lt_of_lt_of_le (Fq _) (show _<=10^17 from Nat.pow_le_pow_right (by decide) (by omega))
theorem K3 (z:Int) (hl:(itoa z).length<4611686018427387904):Be Tryz.prog 246 [str (itoa z)] (.tuple #[.int .i64 (if smI z=true then z else 0), .bool (smI z)]):=by
 intro W
 obtain⟨s,hs⟩: ∃s,s=itoa z:=⟨_,rfl⟩
 obtain⟨dd,hdd⟩: ∃dd,dd=decDigits z.natAbs:=⟨_,rfl⟩
 obtain⟨f,hf⟩: ∃f,f=(JA z).length:=⟨_,rfl⟩
 have hss:s=JA z++dd:=by rw[hs,hdd];exact Dj z
 have hf1:f<=1:=hf▸Rm z
 have hsl:s.length=f+dd.length:=by rw[hss,List.length_append,hf]
 have hd0:0<dd.length:=by rw[hdd];exact List.length_pos_iff.2 (F5 _)
 have hget: ∀i,f<=i->s[i]? =dd[i-f]? :=fun i hi=>by rw[hss,List.getElem?_append_right (by omega),hf]
 have hneg: ∀i,i<f->s[i]? =some 45:=fun i hi=>by
  have h0:i=0:=by omega
  subst h0
  rw[hss]
  unfold JA at hf⊢
  split
  ·rfl
  ·rename_i h;rw[if_neg h] at hf;simp at hf;omega
 obtain⟨c0,hc0,hc45⟩:=Ga z
 have hsm:smI z=decide (s.length<=17):=by rw[hs];rfl
 rw[<-hs] at hc0 hl⊢
 have hdg: ∀b∈dd,E0 b=true:=by rw[hdd];exact(Gr _).all
 refine Ab Tryz.func246 I I I<|xb<|Aa I<|xk<|Aa I<|Ap 7 (.int .i64 (s.length:Nat)) I (congrArg (fun n:Nat=>Value.int .i64 (n:Int)) (A5 s))<|wP I<|?_
 by_cases h17:s.length<=17
 rotate_left
 ·exact wU 8 true I (dT (by show((s.length:Nat):Int)>17;omega))<|xa<|zR I<|xb<|Aa I<|xo<|wR2 I I (by rw[hsm,dF h17];rfl)
 have hlt: ∀i,AP (dd.take i)<100000000000000000:=fun i=>by
  have h1:=G3 (dd.take i).length (s:=dd.take i) rfl fun b hb=>hdg b (List.mem_of_mem_take hb)
  have h2:(dd.take i).length<=17:=by rw[List.length_take];omega
  exact Nat.lt_of_lt_of_le h1 (show _<=10^17 from Nat.pow_le_pow_right (by decide) h2)
 refine wU 8 false I (dF (by show¬((s.length:Nat):Int)>17;omega))<|xa<|zS I<|xm<|wP I<|xk<|wP I<|xa<|zH<|?_
 refine Av (X:=Nat) (fun i=>[(0,str s),(4, .int .i64 (AP (dd.take (i-f)):Nat)),(5, .int .i64 (i:Nat))]) (fun _=>[]) (fun i=>i<=s.length) (fun i=>s.length-i) 0 (Nat.zero_le _) ⟨I,by show some _=some (Value.int .i64 (AP (dd.take (0-f)):Nat));rw[Nat.zero_sub,List.take_zero];rfl,I,tO⟩ [] I ?_
 intro i hi
 have hi:i<=s.length:=hi
 refine xd<|Ad I<|Ap 11 (.int .i64 (s.length:Nat)) I (congrArg (fun n:Nat=>Value.int .i64 (n:Int)) (A5 s))<|wP I<|?_
 by_cases hlt':i<s.length
 ·refine wU 12 true I (dT (by omega))<|xa<|zR I<|xe<|?_
  try refine Ba ?_
  refine AA (X:=Unit) (fun _=>[(0,str s),(4, .int .i64 (AP (dd.take (i+1-f)):Nat)),(5, .int .i64 (i:Nat))]) (fun _=>[]) (fun _=>True) ?_ ?_
  ·refine zH<|xb<|Aa I<|?_
   by_cases hif:i<f
   ·exact Bc i tH I I I I I I I I (hneg i hif)<|wP I<|xa<|zS I<|zI<|zN<|Ao () tO ⟨I,by rw[show i+1-f=0 by omega,show i-f=0 by omega];rfl,I,tO⟩ [] I
   obtain⟨b,hb⟩: ∃b,dd[i-f]? =some b:=⟨dd[i-f]'(by omega),List.getElem?_eq_getElem (by omega)⟩
   have hsb:s[i]? =some b:=by rw[hget i (by omega)];exact hb
   have hbd:=CS.1 (hdg b (List.mem_of_getElem? hb))
   have e1:AP (dd.take (i+1-f))=10*AP (dd.take (i-f))+(b.toNat-48):=by
    rw[show i+1-f=i-f+1 by omega,List.take_add_one,hb];exact DD _ _
   have l1:=hlt (i-f)
   have l2:=hlt (i+1-f)
   refine Bc i tH I I I I I I I I hsb<|wP I<|?_
   refine Ap 18 (.bool true) I (congrArg Value.bool (by
    show(!((((b.toNat:Nat):Int))==(45:Int)))=true
    rw[Bool.not_eq_true',beq_eq_false_iff_ne];omega)) ?_
   refine xa<|zR I<|zB<|Aa I<|wV 20 ((10*AP (dd.take (i-f)):Nat):Int) I (show w64 (10*(AP (dd.take (i-f)):Nat))=_ by rw[Ar (by omega) (by omega)];omega)<|Aa I<|Bc i tH I I I I I I I I hsb<|wP I<|Ap 24 (.int .u8 ((b.toNat-48:Nat):Int)) I (congrArg (Value.int .u8) (by show IntKind.u8.wrap (((b.toNat:Nat):Int)-48)=_;rw[show((b.toNat:Nat):Int)-48=((b.toNat-48:Nat):Int) by omega,SD (by omega) (by omega)]))<|LE Tryz.underlying5 Tryz.underlying3 I I I I ?_
   exact wV 25 ((b.toNat-48:Nat):Int) I (BN (by omega))<|wP I<|wV 26 ((AP (dd.take (i+1-f)):Nat):Int) I (show w64 (((10*AP (dd.take (i-f)):Nat):Int)+((b.toNat-48:Nat):Int))=_ by rw[Ar (by omega) (by omega),e1];omega)<|wP I<|zC<|zN<|Ao () tO ⟨I,I,I,tO⟩ [] I
  intro _ _
  exact zB<|Aa I<|wV 14 ((i+1:Nat):Int) I (A0 (by omega))<|wP I<|zC<|Al (i+1) hlt' (by show s.length-(i+1)<s.length-i;omega) ⟨I,I,I,tO⟩ [] I
 ·refine wU 12 false I (dF (by omega))<|xa<|zS I<|xg<|zE<|xd<|?_
  have hv:AP (dd.take (i-f))=z.natAbs:=by rw[List.take_of_length_le (by omega),hdd,BX]
  have hzl:z.natAbs<100000000000000000:=by rw[<-hv];exact hlt _
  refine wP I<|Bc 0 tH I I I I I I I I hc0<|wP I<|wU 29 (decide (z<0)) I ((DK c0 45).trans hc45)<|xa<|?_
  try refine Ba ?_
  refine AA (X:=Unit) (fun _=>[(4, .int .i64 z)]) (fun _=>[]) (fun _=>True) ?_ ?_
  ·refine Ag I (fun h=> ?_) (fun h=> ?_)
   ·have h:z<0:=of_decide_eq_true h
    exact zB<|Aa I<|wV 31 z I (by rw[hv];show w64 (0-((z.natAbs:Nat):Int))=_;rw[Ar (by omega) (by omega)];omega)<|wP I<|zC<|Ao () tO ⟨I,tO⟩ [] I
   ·have h: ¬z<0:=of_decide_eq_false h
    exact zI<|Ao () tO ⟨congrArg (fun z=>some (Value.int .i64 z)) (by rw[hv];omega),tO⟩ [] I
  intro _ _
  exact xb<|Ad I<|xc<|wR2 I I (by rw[hsm,dT h17,if_pos I])
theorem Pt (a b:Int) (ha:(itoa a).length<4611686018427387904) (hb:(itoa b).length<4611686018427387904):Be Tryz.prog 173 [str (itoa a),str (itoa b)] (.tuple #[.int .i64 (if smI a=true then a else 0), .int .i64 (if smI a=true then(if smI b=true then b else 0) else 0), .bool (smI a&&smI b)]):=by
 intro W
 refine Ab Tryz.func173 I I I<|xb<|Ad I<|xf<|wP I<|wC I I (fun W _=>K3 a ha W)<|Ak I<|zC<|?_
 cases hsa:smI a with
 |false=>
  exact zE<|xd<|Aa I<|xa<|zR I<|xb<|Ad I<|xo<|wR3 I I I
 |true=>
  refine zE<|xd<|Aa I<|xa<|zS I<|xm<|wP I<|wC I I (fun W _=>K3 b hb W)<|Ak I<|xf<|?_
  exact AE I<|xc<|wR3 I I I
def byV (l:List UInt8):List Value:=l.map fun b=> .int .u8 (b.toNat:Int)
def zrV (k:Nat):List Value:=Cf [.int .u8 0] k
theorem KE (k:Nat):(zrV k).length=k:=by unfold zrV;rw[Fv];simp
theorem Zj (k:Nat):zrV (k+1)=zrV k++[.int .u8 0]:=by
 induction k with
 |zero=>rfl
 |succ k ih=>
  have e: ∀j,zrV (j+1)=[.int .u8 0]++zrV j:=fun j=>rfl
  rw[e,ih, <-List.append_assoc, <-e,ih]
theorem VZ {k:Nat} {c:UInt8} {suf:List UInt8}:BF (zrV (k+1)++byV suf) (0+k*1) [.int .u8 (c.toNat:Int)]=zrV k++byV (c::suf):=by
 rw[Zj,show 0+k*1=(zrV k).length+0 by rw[KE];omega,List.append_assoc,E6]
 rfl
theorem Vs {k:Nat} {l:List UInt8} {j:Nat} (hj:j<l.length):(zrV k++byV l)[k+j]? =some (.int .u8 (l[j].toNat:Int)):=by
 rw[List.getElem?_append_right (by rw[KE];omega),KE,Nat.add_sub_cancel_left]
 unfold byV
 rw[List.getElem?_map,List.getElem?_eq_getElem hj];rfl
theorem XL (u:Nat):IntKind.u8.wrap ((48+u%10:Nat):Int)=((UInt8.ofNat (48+u%10)).toNat:Int):=by
 rw[SD (by omega) (by omega),DJ (Nat.mod_lt _ (by omega))]
theorem QF (a:List UInt8): ∀(n:Nat) (b:List UInt8),b.length=n->AP (a++b)=AP a*10^n+AP b
 |0,b,h=>by
  rw[List.length_eq_zero_iff.1 h,List.append_nil,Nat.pow_zero,Nat.mul_one];rfl
 |n+1,b,h=>by
  obtain⟨c,d,rfl⟩: ∃c d,b=c++[d]:=⟨b.dropLast,b.getLast (fun e=>by rw[e] at h;cases h),(List.dropLast_concat_getLast _).symm⟩
  have hc:c.length=n:=by rw[List.length_append] at h;exact Nat.succ.inj h
  rw[<-List.append_assoc,DD,QF a n c hc,DD,Nat.pow_succ]
  grind
theorem Tg (a b:List UInt8):AP (a++b)=AP a*10^b.length+AP b:=QF a b.length b rfl
theorem XK {m lo e:Nat} (_h1:lo<=e) (h2:e<=(decDigits m).length):AP (((decDigits m).take e).drop lo)=m/10^((decDigits m).length-e)%10^(e-lo):=by
 obtain⟨dd,hdd⟩: ∃dd,dd=decDigits m:=⟨_,rfl⟩
 have hdg: ∀b∈dd,E0 b=true:=by rw[hdd];exact(Gr m).all
 have hv:AP dd=m:=by rw[hdd];exact BX m
 rw[<-hdd] at h2⊢
 have a1:=Tg (dd.take e) (dd.drop e)
 rw[List.take_append_drop,hv,List.length_drop] at a1
 have b1:=G3 (dd.drop e).length (s:=dd.drop e) rfl fun b hb=>hdg b (List.mem_of_mem_drop hb)
 rw[List.length_drop] at b1
 have c1:m/10^(dd.length-e)=AP (dd.take e):=by
  rw[a1,Nat.mul_comm,Nat.mul_add_div (Nat.pow_pos (by decide)),Nat.div_eq_of_lt b1,Nat.add_zero]
 rw[c1]
 have a2:=Tg ((dd.take e).take lo) ((dd.take e).drop lo)
 have b2:=G3 ((dd.take e).drop lo).length (s:=(dd.take e).drop lo) rfl fun b hb=>hdg b (List.mem_of_mem_take (List.mem_of_mem_drop hb))
 rw[List.take_append_drop] at a2
 have hl:((dd.take e).drop lo).length=e-lo:=by rw[List.length_drop,List.length_take,Nat.min_eq_left h2]
 rw[hl] at a2 b2
 rw[a2,Nat.mul_comm,Nat.mul_add_mod,Nat.mod_eq_of_lt b2]
def rdL (m:Nat) (j:Nat):List Nat:=(List.range j).map fun i=>m/br^i%br
theorem T3 (m j:Nat):rdL m (j+1)=rdL m j++[m/br^j%br]:=by unfold rdL;rw[List.range_succ,List.map_append];rfl
theorem Ni (m j:Nat):(rdL m j).length=j:=by unfold rdL;rw[List.length_map,List.length_range]
theorem XD (m j:Nat): ∀x∈rdL m j,x<br:=fun x hx=>by
 obtain⟨i,_,rfl⟩:=List.mem_map.1 hx
 exact Nat.mod_lt _ (by decide)
theorem Wa (m:Nat): ∀j,lv br (rdL m j)=m%br^j
 |0=>by show 0=_;rw[Nat.pow_zero,Nat.mod_one]
 |j+1=>by rw[T3,Rt (Ni m j),Wa m j, <-ED]
theorem Mn (j:Nat):br^j=10^(6*j):=by rw[Nat.pow_mul]
theorem X6 {m k:Nat} (h:m<10^(6*k)):(lbs br m).length<=k:=(BZ br2).2 (by rw[Mn];exact h)
theorem eQ {m e k:Nat} (h:(decDigits m).length<=e) (he:e=6*k):(lbs br m).length<=k:=by
 subst he
 exact X6 (Nat.lt_of_lt_of_le (Fq m) (Nat.pow_le_pow_right (by decide) h))
theorem Dw {m:Nat} (h:(decDigits m).length<=606):(lbs br m).length<=101:=eQ h rfl
abbrev aU (z:Int) (x:NV):Value:= .agg #[.bool (decide (z<0)),B8 x (lbs br z.natAbs).length]
theorem Zy (y:Int):(if y>0 then y else 0)=max 0 y:=by omega
theorem BP (z:Int) (hl:(decDigits z.natAbs).length<=1000) (W:World):
  Ae Tryz.prog 176 #[str (itoa z)] W (fun x:NV=>aU z x) (fun x=>C0 x (lbs br z.natAbs)) (fun x=>[BM x (lbs br z.natAbs)]):=by
 obtain⟨m,hm⟩: ∃m,m=z.natAbs:=⟨_,rfl⟩
 obtain⟨c0,hc0,hc45⟩:=Ga z
 have hzl:=Dj z
 refine Ab Tryz.func176 I I I<|xb<|wG I I fun _=>zC<|?_
 rename_i b2
 refine xn<|An Tryz.hZ tH I I I I I I I I ?_
 refine wG I I fun _=>wS 1 I I I<|zC<|?_
 rename_i b3
 refine zE<|xd<|wP I<|Bc 0 tH I I I I I I I I hc0<|wP I<|wU 10 (decide (z<0)) I ((DK c0 45).trans hc45)<|xa<|?_
 try refine Ba ?_
 refine AA (X:=Unit) (fun _=>[(0,str (decDigits m)),(2,Ai b2),(3,Ai b3)]) (fun _=>[⟨b2,204,[.bool false, .slice none 0 0],true,none⟩,⟨b3,204,[.bool (decide (z<0)), .slice none 0 0],true,none⟩]) (fun _=>True) ?_ ?_
 ·refine Ag I (fun h=> ?_) (fun h=> ?_)
  ·have h:z<0:=of_decide_eq_true h
   have e:itoa z=45::decDigits m:=by rw[hzl,hm];unfold JA;rw[if_pos h];rfl
   refine xb<|wP I<|wS 1 I I I<|xa<|zB<|wP I<|?_
   refine FL 1 tH I I I I I I I I (by rw[e,List.length_cons];omega) ?_
   exact wP I<|zC<|Ao () tO ⟨by rw[e];rfl,I,I,tO⟩ [] (by rw[dT h];rfl)
  ·have h: ¬z<0:=of_decide_eq_false h
   have e:itoa z=decDigits m:=by rw[hzl,hm];unfold JA;rw[if_neg h];rfl
   exact zI<|Ao () tO ⟨by rw[e];rfl,I,I,tO⟩ [] (by rw[dF h];rfl)
 intro _ _
 rw[<-hm] at hl⊢
 obtain⟨dd,hdd⟩: ∃dd,dd=decDigits m:=⟨_,rfl⟩
 have hdg: ∀b∈dd,E0 b=true:=by rw[hdd];exact(Gr m).all
 have hd0:0<dd.length:=by rw[hdd];exact List.length_pos_iff.2 (F5 _)
 have hmid: ∀lo e,lo<=e->e<=dd.length->AP ((dd.take e).drop lo)=m/10^(dd.length-e)%10^(e-lo):=fun lo e h1 h2=>by
  rw[hdd] at h2⊢;exact XK h1 h2
 have hmlt:m<10^dd.length:=by rw[hdd];exact Fq m
 rw[<-hdd] at hl⊢
 refine xd<|Aa I<|Ap 15 (.int .i64 (dd.length:Nat)) I (congrArg (fun n:Nat=>Value.int .i64 (n:Int)) (A5 dd))<|wP I<|xa<|zH<|C9 ?_
 refine Av (X:=Nat×Vec) (fun x=>[(0,str dd),(2,Ai b2),(3,Ai b3),(4, .int .i64 ((dd.length:Int)-6*(x.1:Nat)))])
  (fun x=>[⟨b2,204,[.bool false, .slice none 0 0],true,none⟩,⟨b3,204,[.bool (decide (z<0)),x.2.val x.1],true,none⟩,x.2.bx 3 (nI (rdL m x.1))])
  (fun x=>x.2.OK 1 x.1 (nI (rdL m x.1))/\6*x.1<dd.length+6) (fun x=>dd.length+6-6*x.1) (0,Vec.empty) ⟨Vec.OK.empty 1,by show 6*0<_;omega⟩ ⟨rfl,rfl,rfl,congrArg (fun z=>some (Value.int .i64 z)) (by show((dd.length:Nat):Int)=(dd.length:Int)-6*((0:Nat):Int);omega),trivial⟩ [] rfl ?_
 rintro⟨j,V⟩ ⟨hV,hj⟩
 have hV:V.OK 1 j (nI (rdL m j)):=hV
 have hj:6*j<dd.length+6:=hj
 refine xd<|Aa I<|?_
 by_cases hlt:6*j<dd.length
 ·refine wU 17 true I (dT (by show(dd.length:Int)-6*(j:Nat)>0;omega))<|xa<|zR I<|xh<|?_
  obtain⟨e,he⟩: ∃e,e=dd.length-6*j:=⟨_,rfl⟩
  have hev:(dd.length:Int)-6*(j:Nat)=(e:Nat):=by omega
  obtain⟨lo,hlo⟩: ∃lo,lo=e-6:=⟨_,rfl⟩
  have hlim:AP ((dd.take e).drop lo)=m/br^j%br:=by
   rw[hmid lo e (by omega) (by omega),Mn,show dd.length-e=6*j by omega]
   by_cases h6:6<=e
   ·rw[show e-lo=6 by omega]
   ·have hl0:lo=0:=by omega
    have h1:m/10^(6*j)<10^e:=by
     apply Nat.div_lt_of_lt_mul
     rw[<-Nat.pow_add,show 6*j+e=dd.length by omega];exact hmlt
    have h2:(10:Nat)^e<=10^6:=Nat.pow_le_pow_right (by decide) (by omega)
    rw[hl0,Nat.sub_zero,Nat.mod_eq_of_lt h1,Nat.mod_eq_of_lt (show m/10^(6*j)<br by show _<10^6;omega)]
  refine wP I<|xk<|Aa I<|wV 21 ((e:Int)-6) I (by show w64 ((dd.length:Int)-6*(j:Nat)-6)=_;rw[hev,Ar (by omega) (by omega)])<|wP I<|wV 22 (lo:Nat) I (by show(if (e:Int)-6>0 then(e:Int)-6 else 0)=_;rw[Zy];omega)<|wP I<|xa<|zH<|?_
  refine Av (X:=Nat) (fun i=>[(0,str dd),(2,Ai b2),(3,Ai b3),(4, .int .i64 (e:Nat)),(5, .int .i64 (AP ((dd.take i).drop lo):Nat)),(6, .int .i64 (i:Nat))])
   (fun _=>[⟨b2,204,[.bool false, .slice none 0 0],true,none⟩,⟨b3,204,[.bool (decide (z<0)),V.val j],true,none⟩,V.bx 3 (nI (rdL m j))])
   (fun i=>lo<=i/\i<=e) (fun i=>e-i) lo ⟨Nat.le_refl _,by omega⟩ ⟨rfl,rfl,rfl,(by rw[hev];rfl),by show some _=some (Value.int .i64 (AP ((dd.take lo).drop lo):Nat));rw[List.drop_of_length_le (by rw[List.length_take];omega)];rfl,rfl,trivial⟩ [] rfl ?_
  rintro i ⟨hi1,hi2⟩
  have hi1:lo<=i:=hi1
  have hi2:i<=e:=hi2
  refine xd<|Ad I<|?_
  by_cases hie:i<e
  ·refine wU 25 true I (dT (by omega))<|xa<|zR I<|xe<|zA<|zH<|zB<|?_
   obtain⟨b,hb⟩: ∃b,dd[i]? =some b:=⟨dd[i]'(by omega),List.getElem?_eq_getElem (by omega)⟩
   have hbd:=CS.1 (hdg b (List.mem_of_getElem? hb))
   have e1:AP ((dd.take (i+1)).drop lo)=10*AP ((dd.take i).drop lo)+(b.toNat-48):=by
    rw[List.take_add_one,hb,List.drop_append_of_le_length (by rw[List.length_take];omega)]
    exact DD _ _
   have hbnd: ∀k,k<=e->AP ((dd.take k).drop lo)<1000000:=fun k hk=>by
    have h1:=G3 ((dd.take k).drop lo).length (s:=(dd.take k).drop lo) rfl fun b hb=>hdg b (List.mem_of_mem_take (List.mem_of_mem_drop hb))
    have h2:((dd.take k).drop lo).length<=6:=by rw[List.length_drop,List.length_take];omega
    exact Nat.lt_of_lt_of_le h1 (show _<=10^6 from Nat.pow_le_pow_right (by decide) h2)
   have l1:=hbnd i hi2
   have l2:=hbnd (i+1) hie
   refine Aa I<|wV 29 ((10*AP ((dd.take i).drop lo):Nat):Int) I (show w64 (10*(AP ((dd.take i).drop lo):Nat))=_ by rw[Ar (by omega) (by omega)];omega)<|Aa I<|Bc i tH I I I I I I I I hb<|wP I<|Ap 33 (.int .u8 ((b.toNat-48:Nat):Int)) I (congrArg (Value.int .u8) (by show IntKind.u8.wrap (((b.toNat:Nat):Int)-48)=_;rw[show((b.toNat:Nat):Int)-48=((b.toNat-48:Nat):Int) by omega,SD (by omega) (by omega)]))<|LE Tryz.underlying5 Tryz.underlying3 I I I I ?_
   exact wV 34 ((b.toNat-48:Nat):Int) I (BN (by omega))<|wP I<|wV 35 ((AP ((dd.take (i+1)).drop lo):Nat):Int) I (show w64 (((10*AP ((dd.take i).drop lo):Nat):Int)+((b.toNat-48:Nat):Int))=_ by rw[Ar (by omega) (by omega),e1];omega)<|wP I<|zC<|xi<|Aa I<|wV 27 ((i+1:Nat):Int) I (A0 (by omega))<|wP I<|zC<|Al (i+1) ⟨by show lo<=i+1;omega,hie⟩ (by show e-(i+1)<e-i;omega) ⟨I,I,I,I,I,I,tO⟩ [] I
  ·have hie:i=e:=by omega
   subst hie
   refine wU 25 false I (dF (by omega))<|xa<|zS I<|xg<|zE<|zB<|?_
   rw[hlim]
   refine wP I<|wB 1 I I I<|wP I<|As Tryz.hZ tH I I I I I I I I I I I fun bN=> ?_
   refine AN (V:=V) (len:=j) (xs:=nI (rdL m j)) 2 3 Tryz.vec172 (j+1) (nI (rdL m (j+1))) I I I I I I I I I I I hV I I I (by rw[T3,Kz];rfl) (by simp only[maxLen];omega) (by omega) I ?_
   intro g1 c1 j1 hV1
   exact wP I<|wS 1 I I I<|zC<|xi<|Aa I<|wV 19 ((dd.length:Int)-6*((j+1:Nat):Int)) I (by show w64 (((i:Nat):Int)-6)=_;rw[Ar (by omega) (by omega)];omega)<|wP I<|zC<|Al (j+1,⟨some g1,c1,j1⟩) ⟨hV1,by show 6*(j+1)<_;omega⟩ (by show dd.length+6-6*(j+1)<dd.length+6-6*j;omega) ⟨I,I,I,I,tO⟩ _ I
 ·refine wU 17 false I (dF (by show¬(dd.length:Int)-6*(j:Nat)>0;omega))<|xa<|zS I<|xg<|xn<|?_
  obtain⟨pV,cV,jV⟩:=V
  cases pV with
  |none=>have:=hV.nil rfl;omega
  |some g=>
  have hval:lv br (rdL m j)=m:=by
   rw[Wa,Mn]
   exact Nat.mod_eq_of_lt (Nat.lt_of_lt_of_le hmlt (Nat.pow_le_pow_right (by decide) (by omega)))
  have hV2:(⟨some g,cV,jV⟩:Vec).OK 1 (rdL m j).length (nI (rdL m j)):=by rw[Ni];exact hV
  obtain⟨j2,hj1,hj2⟩:=Ek hV2 (XD m j)
  rw[hval] at hj1 hj2
  refine wP I<|wB 1 I I I<|Ap 43 (slv (some ⟨g,0,none⟩) (rdL m j).length cV) I (by rw[Ni];rfl)<|wC I I (fun W' hp=>(CW W' (some ⟨g,0,none⟩) cV (rdL m j) (A6.of_bx hp 2 I) (XD m j) (by have:=(hV2.cap (by simp)).1;exact this) (by rw[Ni];omega)).cast (v':=slv (some ⟨g,0,none⟩) (lbs br m).length cV) (by rw[hval]))<|wP I<|wS 1 I I I<|xf<|wB 1 I I I<|wS 0 I I I<|xc<|?_
  subst hm
  exact A3 tH I (.cell 0 I I I I I) ((g,cV,j2):NV) I hj1 fun W hp=>Au.of_hp1 hp 2 (by
   show some (⟨g,3,nI (rdL z.natAbs j)++jV,true,none⟩:Bx)=some (⟨g,3,nI (lbs br z.natAbs)++j2,true,none⟩:Bx)
   rw[hj2])
def GS (m:Nat):Nat->List UInt8
 |0=>[]
 |d+1=>UInt8.ofNat (48+m/10^d%10)::GS m d
theorem K2 (m:Nat): ∀d,(GS m d).length=d
 |0=>rfl
 |d+1=>by show(GS m d).length+1=_;rw[K2 m d]
theorem SP (m:Nat): ∀(d i:Nat),i<d->(GS m d)[d-1-i]? =some (UInt8.ofNat (48+m/10^i%10))
 |0,_,h=>absurd h (Nat.not_lt_zero _)
 |d+1,i,h=>by
  by_cases e:i=d
  ·subst e
   rw[show i+1-1-i=0 by omega];rfl
  ·rw[show d+1-1-i=(d-1-i)+1 by omega]
   show(_::GS m d)[_+1]? =_
   rw[List.getElem?_cons_succ]
   exact SP m d i (by omega)
theorem aT {m d:Nat} (h:(decDigits m).length<=d):GS m d=List.replicate (d-(decDigits m).length) 48++decDigits m:=by
 apply List.ext_getElem?
 intro t
 by_cases ht:t<d
 ·have h1:=SP m d (d-1-t) (by omega)
  rw[show d-1-(d-1-t)=t by omega] at h1
  rw[h1]
  by_cases h2:t<d-(decDigits m).length
  ·rw[List.getElem?_append_left (by rw[List.length_replicate];exact h2),List.getElem?_replicate_of_lt h2]
   have h3:m/10^(d-1-t)=0:=Nat.div_eq_of_lt (Nat.lt_of_lt_of_le (Fq m) (Nat.pow_le_pow_right (by decide) (by omega)))
   rw[h3];rfl
  ·rw[List.getElem?_append_right (by rw[List.length_replicate];omega),List.length_replicate]
   have h3:=Yf (n:=m) (i:=d-1-t) (by omega)
   rw[<-h3]
   congr 1;omega
 ·rw[List.getElem?_eq_none (by rw[K2];omega),List.getElem?_eq_none (by rw[List.length_append,List.length_replicate];omega)]
theorem XV {m i k:Nat} (hk:k<6):m/br^i%br/10^k%10=m/10^(6*i+k)%10:=by
 rw[Nat.pow_add, <-Mn, <-Nat.div_div_eq_div_mul]
 generalize m/br^i=x
 have h:k=0\/k=1\/k=2\/k=3\/k=4\/k=5:=by omega
 show x%1000000/10^k%10=x/10^k%10
 rcases h with rfl|rfl|rfl|rfl|rfl|rfl<;>simp only[Nat.reducePow,Nat.div_one]<;>omega
theorem HW (z:Int) (hl:(decDigits z.natAbs).length<=606) (W:World) (p:Option Addr) (cap:Nat) (hA:A6 W p (lbs br z.natAbs)):
  Ae Tryz.prog 182 #[.agg #[.bool (decide (z<0)),slv p (lbs br z.natAbs).length cap]] W (fun _:Unit=>str (itoa z)) (fun _=>True) (fun _=>[]):=by
 obtain⟨m,hm⟩: ∃m,z.natAbs=m:=⟨_,rfl⟩
 rw[hm] at hl hA⊢
 obtain⟨L,hL⟩: ∃L,(lbs br m).length=L:=⟨_,rfl⟩
 have hL101:L<=101:=by rw[<-hL];exact Dw hl
 have hml:m<br^L:=by rw[<-hL];exact AJ br2 m
 refine Ab Tryz.func182 I I I ?_
 rw[hL]
 refine xb<|wF I I fun _=>wP I<|zC<|?_
 rename_i b1
 refine zE<|xd<|wP I<|wB 0 I I I<|Aa I<|?_
 by_cases hm0:m=0
 ·have hL0:L=0:=by rw[<-hL,hm0,Bg];rfl
  have hz:z=0:=by omega
  exact wU 10 true I (by rw[beq_iff_eq,hL0];rfl)<|xa<|zR I<|xb<|wP I<|xo<|wR1 I I (by rw[hz,CC])
 have hL0:L≠0:=fun e=>hm0 ((DG br2).1 (List.length_eq_zero_iff.1 (hL.trans e)))
 refine wU 10 false I (by rw[beq_eq_false_iff_ne];omega)<|xa<|zS I<|xm<|?_
 obtain⟨K,hK⟩: ∃K,K=6*L:=⟨_,rfl⟩
 refine wP I<|wB 0 I I I<|Aa I<|wV 14 (K:Nat) I (by show w64 (6*(L:Int))=_;rw[Ar (by omega) (by omega)];omega)<|?_
 refine Cr Tryz.vec285 K I I I I I I I (by simp only[maxLen];omega) (by omega) ?_
 intro g
 refine wP I<|xk<|wP I<|xa<|?_
 try refine Ba ?_
 refine AA (X:=Unit) (fun _=>[(1,Ai b1),(3, .slice (some ⟨g,0,none⟩) K K)]) (fun _=>[⟨b1,204,[.bool (decide (z<0)),slv p L cap],true,none⟩,⟨g,5,zrV 0++byV (GS m K),true,none⟩]) (fun _=>True) ?_ ?_
 ·refine zH ?_
  refine Av (X:=Nat) (fun i=>[(1,Ai b1),(3, .slice (some ⟨g,0,none⟩) K K),(4, .int .i64 (i:Nat))]) (fun i=>[⟨b1,204,[.bool (decide (z<0)),slv p L cap],true,none⟩,⟨g,5,zrV (K-6*i)++byV (GS m (6*i)),true,none⟩]) (fun i=>i<=L) (fun i=>L-i) 0 (Nat.zero_le _) ⟨I,I,I,tO⟩ [] (by show _=[_,(⟨g,5,zrV (K-0)++[],true,none⟩:Bx)]++[];simp only[List.append_nil,Nat.sub_zero];rfl) ?_
  intro i hi
  have hi:i<=L:=hi
  refine xd<|Aa I<|wB 0 I I I<|Aa I<|?_
  by_cases hiL:i<L
  ·refine wU 20 true I (dT (by omega))<|xa<|zR I<|xh<|?_
   obtain⟨bA,oA,rfl,rA⟩:=hA.row (show i<(lbs br m).length by omega)
   have rA:=rA i (by omega)
   rw[Bo br2] at rA
   obtain⟨v,hv⟩: ∃v,v=m/br^i%br:=⟨_,rfl⟩
   rw[<-hv] at rA
   have hvb:v<1000000:=by rw[hv];exact Nat.mod_lt _ (by decide)
   refine wP I<|wB 0 I I I<|wP I<|wJ ?_
   refine wL 0 I I (fun W hp=>rA.hp hp) I<|wP I<|xf<|wP I<|xa<|zH<|?_
   refine Av (X:=Nat) (fun k=>[(1,Ai b1),(3, .slice (some ⟨g,0,none⟩) K K),(4, .int .i64 (i:Nat)),(5, .int .i64 ((v/10^k:Nat):Int)),(6, .int .i64 ((k+1:Nat):Int))]) (fun k=>[⟨b1,204,[.bool (decide (z<0)),slv (some ⟨bA,oA,none⟩) L cap],true,none⟩,⟨g,5,zrV (K-(6*i+k))++byV (GS m (6*i+k)),true,none⟩]) (fun k=>k<=6) (fun k=>6-k) 0 (by decide) ⟨I,I,I,by show some _=some (Value.int .i64 ((v/1:Nat):Int));rw[Nat.div_one],I,tO⟩ [] I ?_
   intro k hk
   have hk:k<=6:=hk
   refine xd<|Aa I<|?_
   by_cases hk6:k<6
   ·refine wU 29 true I (dT (by show((k+1:Nat):Int)<=6;omega))<|xa<|zR I<|xh<|?_
    obtain⟨u,hu⟩: ∃u,u=v/10^k:=⟨_,rfl⟩
    have hub:u<1000000:=by rw[hu];exact Nat.lt_of_le_of_lt (Nat.div_le_self ..) hvb
    have hdig:u%10=m/10^(6*i+k)%10:=by rw[hu,hv];exact XV hk6
    have hu2:v/10^(k+1)=u/10:=by rw[hu,Nat.pow_succ,Nat.div_div_eq_div_mul]
    obtain⟨d,hd⟩: ∃d,d=6*i+k:=⟨_,rfl⟩
    have hdK:d<K:=by omega
    rw[<-hu, <-hd]
    rw[<-hd] at hdig
    refine Ak I<|wV 36 ((6*i:Nat):Int) I (by show w64 (6*(i:Int))=_;rw[Ar (by omega) (by omega)];omega)<|wP I<|wV 37 ((K-6*i:Nat):Int) I (by show w64 ((K:Int)-((6*i:Nat):Int))=_;rw[Ar (by omega) (by omega)];omega)<|Aa I<|wV 39 ((K-d-1:Nat):Int) I (by show w64 (((K-6*i:Nat):Int)-((k+1:Nat):Int))=_;rw[Ar (by omega) (by omega)];omega)<|wP I<|FC I I I I I (by decide) ?_
    refine wV 41 ((u%10:Nat):Int) I (show Int.tmod (u:Nat) ((10:Nat):Int)=_ from(Int.ofNat_tmod _ _).symm)<|wP I<|wV 42 ((48+u%10:Nat):Int) I (show w64 (48+((u%10:Nat):Int))=_ by rw[Ar (by omega) (by omega)];omega)<|XW Tryz.underlying3 Tryz.underlying5 I I I I ?_
    refine Ap 43 (.int .u8 ((UInt8.ofNat (48+m/10^d%10)).toNat:Int)) I (congrArg (Value.int .u8) (by rw[XL u,hdig]))<|wJ ?_
    refine AG 1 (zrV (K-d-1)++byV (GS m (d+1))) tH I I I I I I I I I I (by show 0+(K-d-1)*1+1<=(zrV (K-d)++byV (GS m d)).length;rw[List.length_append,KE];omega) (by
     show BF (zrV (K-d)++byV (GS m d)) _ _=_
     rw[show K-d=K-d-1+1 by omega]
     exact VZ) ?_
    refine xa<|zB<|wP I<|Ef I I I I I (by decide) ?_
    exact wV 46 ((u/10:Nat):Int) I (show w64 (Int.tdiv (u:Nat) ((10:Nat):Int))=_ by rw[<-Int.ofNat_tdiv,Ar (by omega) (by omega)])<|wP I<|zC<|xi<|Aa I<|wV 31 ((k+1+1:Nat):Int) I (A0 (by omega))<|wP I<|zC<|Al (k+1) hk6 (by show 6-(k+1)<6-k;omega) ⟨I,I,I,by show some _=some (Value.int .i64 ((v/10^(k+1):Nat):Int));rw[hu2],I,tO⟩ [] (by show _=[_,(⟨g,5,zrV (K-(6*i+(k+1)))++byV (GS m (6*i+(k+1))),true,none⟩:Bx)]++[];rw[show 6*i+(k+1)=d+1 by omega,show K-(d+1)=K-d-1 by omega];rfl)
   ·have hk6:k=6:=by omega
    subst hk6
    exact wU 29 false I (dF (by decide))<|xa<|zS I<|xg<|xi<|Aa I<|wV 22 ((i+1:Nat):Int) I (A0 (by omega))<|wP I<|zC<|Al (i+1) hiL (by show L-(i+1)<L-i;omega) ⟨I,I,I,tO⟩ [] (by show _=[_,(⟨g,5,zrV (K-6*(i+1))++byV (GS m (6*(i+1))),true,none⟩:Bx)]++[];rw[show 6*(i+1)=6*i+6 by omega];rfl)
  ·have hiL:i=L:=by omega
   subst hiL
   exact wU 20 false I (dF (by omega))<|xa<|zS I<|xg<|Ao () tO ⟨I,I,tO⟩ [] (by rw[<-hK,Nat.sub_self];rfl)
 intro _ _
 obtain⟨nd,hnd⟩: ∃nd,(decDigits m).length=nd:=⟨_,rfl⟩
 have hndK:nd<=K:=by
  rw[<-hnd]
  refine Cy K m (by omega) ?_
  rw[hK, <-Mn];exact hml
 have hnd0:0<nd:=by rw[<-hnd];exact List.length_pos_iff.2 (F5 _)
 have hlow:=aT (m:=m) (d:=K) (by rw[hnd];exact hndK)
 rw[hnd] at hlow
 have hgetB: ∀j,j<K-> ∃b,(GS m K)[j]? =some b/\(zrV 0++byV (GS m K))[0+j]? =some (.int .u8 (b.toNat:Int)):=fun j hj=>by
  refine⟨(GS m K)[j]'(by rw[K2];exact hj),List.getElem?_eq_getElem _, ?_⟩
  exact Vs (k:=0) (by rw[K2];exact hj)
 try refine KD ?_
 try refine Ba ?_
 refine AA (X:=Unit) (fun _=>[(1,Ai b1),(3, .slice (some ⟨g,K-nd,none⟩) nd nd)]) (fun _=>[⟨b1,204,[.bool (decide (z<0)),slv p L cap],true,none⟩,⟨g,5,zrV 0++byV (GS m K),true,none⟩]) (fun _=>True) ?_ ?_
 ·refine zH<|Av (X:=Nat) (fun j=>[(1,Ai b1),(3, .slice (some ⟨g,j,none⟩) (K-j) (K-j))]) (fun _=>[⟨b1,204,[.bool (decide (z<0)),slv p L cap],true,none⟩,⟨g,5,zrV 0++byV (GS m K),true,none⟩]) (fun j=>j<=K-nd) (fun j=>K-nd-j) 0 (Nat.zero_le _) ⟨I,I,tO⟩ [] I ?_
  intro j hj
  have hj:j<=K-nd:=hj
  obtain⟨b,hb,hbc⟩:=hgetB j (by omega)
  rw[Nat.zero_add] at hbc
  have hrow: ∀W1 bxs,Hp W bxs W1->nth bxs 1=some (⟨g,5,zrV 0++byV (GS m K),true,none⟩:Bx)->Aj W1 g j [.int .u8 (b.toNat:Int)]:=fun W1 bxs hp h1=>by
   have h:=Aj.of_bx hp 1 h1 rfl
   exact⟨h.lt,fun t u hu=>by
    have ht:t=0:=by have:=(List.getElem?_eq_some_iff.1 hu).1;simpa using this
    subst ht
    have hu:u= .int .u8 (b.toNat:Int):=by simpa using hu.symm
    rw[hu]
    have:=h.get j _ hbc
    rwa [Nat.zero_add] at this⟩
  refine xd<|wP I<|wI I I (by decide) (by show(0:Int)<((K-j:Nat):Int);omega)<|Ap 48 (.pointer (some ⟨g,j,none⟩)) I I<|wL 0 I I (fun W1 hp=>hrow W1 _ hp I) I<|wP I<|wU 50 (decide (b=48)) I (DK b 48)<|xa<|Ag I (fun h48=> ?_) (fun h48=> ?_)
  ·have h48:b=48:=of_decide_eq_true h48
   have hjl:j<K-nd:=by
    rcases Nat.lt_or_ge j (K-nd) with h|h
    ·exact h
    ·have e:j=K-nd:=by omega
     rw[hlow,List.getElem?_append_right (by rw[List.length_replicate];omega),List.length_replicate,e,Nat.sub_self,h48] at hb
     exact absurd (Yz hb) hm0
   refine xe<|zH<|zB<|wP I<|?_
   refine Dv 1 tH I I I I I I I I (by show 1<=K-j;omega) (Nat.le_refl _) ?_
   exact Ap 52 (.slice (some ⟨g,j+1,none⟩) (K-(j+1)) (K-(j+1))) I (by rw[if_neg (show¬K-j=1 by omega)];show Value.slice (some ⟨g,j+1*1,none⟩) (K-j-1) (K-j-1)=_;rw[show K-(j+1)=K-j-1 by omega])<|wP I<|zC<|zN<|Al (j+1) hjl (by show K-nd-(j+1)<K-nd-j;omega) ⟨I,I,tO⟩ [] I
  ·have h48: ¬b=48:=of_decide_eq_false h48
   have e:j=K-nd:=by
    rcases Nat.lt_or_ge j (K-nd) with h|h
    ·rw[hlow,List.getElem?_append_left (by rw[List.length_replicate];exact h),List.getElem?_replicate_of_lt h] at hb
     exact absurd (Option.some.inj hb).symm h48
    ·omega
   exact xg<|Ao () tO ⟨I,by rw[e,show K-(K-nd)=nd by omega];rfl,tO⟩ [] I
 intro _ _
 have hbytes: ∀j (hj:j<(decDigits m).length),(zrV 0++byV (GS m K))[K-nd+j]? =some (.int .u8 ((decDigits m)[j].toNat:Int)):=fun j hj=>by
  obtain⟨b,hb,hbc⟩:=hgetB (K-nd+j) (by omega)
  rw[Nat.zero_add] at hbc
  rw[hbc]
  rw[hlow,List.getElem?_append_right (by rw[List.length_replicate];omega),List.length_replicate,Nat.add_sub_cancel_left,List.getElem?_eq_getElem hj] at hb
  rw[Option.some.inj hb]
 refine xd<|wP I<|wB 0 I I I<|xa<|Ag I (fun hn=> ?_) (fun hn=> ?_)
 ·have hn:z<0:=of_decide_eq_true hn
  refine xb<|wP I<|IW 1 (decDigits m) (e:=5) (by kernel_rfl) Tryz.underlying5 (by kernel_rfl) I I I I I I hnd.symm hbytes ?_
  refine Ci I I I I I (a:=[45]) (b:=decDigits m) (by decide) (by omega) ?_
  exact wP I<|xo<|wR1 I I (by rw[Dj,hm];unfold JA;rw[if_pos hn])
 ·have hn: ¬z<0:=of_decide_eq_false hn
  refine xm<|wP I<|IW 1 (decDigits m) (e:=5) (by kernel_rfl) Tryz.underlying5 (by kernel_rfl) I I I I I I hnd.symm hbytes ?_
  exact wP I<|xc<|wR1 I I (by rw[Dj,hm];unfold JA;rw[if_neg hn];rfl)
theorem Fm (z:Int) (hl:(decDigits z.natAbs).length<=300) (W:World) (p:Option Addr) (cap:Nat) (hA:A6 W p (lbs br z.natAbs)):
  Ae Tryz.prog 174 #[.agg #[.bool (decide (z<0)),slv p (lbs br z.natAbs).length cap]] W (fun _:Unit=> .tuple #[str (itoa z), .int .i64 0]) (fun _=>True) (fun _=>[]):=by
 refine Ab Tryz.func174 I I I<|xb<|wF I I fun _=>Aa I<|xf<|wB 0 I I I<|wC I I (fun W hp=>HW z (by omega) W p cap (hA.hp hp))<|wP I<|xk<|wP I<|wC I I (fun W _=>H9 z hl W)<|wP I<|xa<|zS I<|?_
 exact xm<|Ad I<|xc<|wR2 I I I
abbrev Sl (z:Int) (p:Option Addr) (cap:Nat):Value:= .agg #[.bool (decide (z<0)),slv p (lbs br z.natAbs).length cap]
abbrev Pz (b:Nat) (z:Int) (p:Option Addr) (cap:Nat):Bx:=⟨b,204,[.bool (decide (z<0)),slv p (lbs br z.natAbs).length cap],true,none⟩
theorem UI (z:Int) (W:World) (p:Option Addr) (cap:Nat):Ae Tryz.prog 183 #[Sl z p cap] W (fun _:Unit=>Sl (-z) p cap) (fun _=>True) (fun _=>[]):=by
 obtain⟨n,hn⟩: ∃n,z.natAbs=n:=⟨_,rfl⟩
 refine Ab Tryz.func183 I I I ?_
 unfold Sl
 rw[Int.natAbs_neg,hn]
 refine xb<|wF I I fun _=>wG I I fun _=>xk<|wP I<|wB 0 I I I<|Aa I<|?_
 by_cases h0:n=0
 ·have hz:z=0:=by omega
  exact wU 6 true I (by rw[h0,Bg];rfl)<|xa<|zR I<|xb<|wB 0 I I I<|wS 1 I I I<|xo<|A3 tH I (.cell 1 I I I I I) () (by rw[hz];rfl) tO fun W _=>Au.nil _ _
 ·have hL:(lbs br n).length≠0:=fun e=>h0 ((DG br2).1 (List.length_eq_zero_iff.1 e))
  refine wU 6 false I (by rw[beq_eq_false_iff_ne];omega)<|xa<|zS I<|xm<|wP I<|wB 0 I I I<|Aa I<|wB 0 I I I<|An Tryz.hZ tH I I I I I I I I ?_
  refine wS 1 I I I<|xc<|?_
  exact A3 tH I (.cell 1 I I I I I) () (by
   show Value.agg #[.bool (!decide (z<0)),_]=_
   have e:(!decide (z<0))=decide (-z<0):=by
    by_cases h:z<0
    ·rw[dT h,dF (by omega)];rfl
    ·rw[dF h,dT (by omega)];rfl
   rw[e]) trivial fun W _=>Au.nil _ _
theorem OY (a b:Int) (W:World) (p q:Option Addr) (cap cap2:Nat) (hA:A6 W p (lbs br a.natAbs)) (hB:A6 W q (lbs br b.natAbs)) (hna:(lbs br a.natAbs).length<=1000) (hnb:(lbs br b.natAbs).length<=1000):
  Ae Tryz.prog 175 #[Sl a p cap,Sl b q cap2] W (fun x:NV=>aU (a+b) x) (fun x=>C0 x (lbs br (a+b).natAbs)) (fun x=>[BM x (lbs br (a+b).natAbs)]):=by
 refine Ab Tryz.func175 I I I<|xb<|wF I I fun _=>wF I I fun _=>wG I I fun _=>zC<|?_
 rename_i b2 b3 b4
 refine zE<|xd<|wP I<|wB 0 I I I<|wP I<|wB 1 I I I<|?_
 by_cases hs:decide (a<0)=decide (b<0)
 ·refine EE (c:=true) Tryz.underlying4 I I I I I (congrArg some (by rw[hs];exact beq_self_eq_true _)) ?_
  refine Kj ?_
  have en:(a+b).natAbs=a.natAbs+b.natAbs:=by
   by_cases h1:a<0<;>by_cases h2:b<0<;>simp[h1,h2] at hs<;>omega
  have es:decide (a<0)=decide (a+b<0):=by
   by_cases h1:a<0<;>by_cases h2:b<0<;>simp[h1,h2] at hs⊢ <;>omega
  refine zE<|zR I<|zA<|?_
  refine AV (X:= { x:NV//C0 x (lbs br (a+b).natAbs) }) [true,true,true,true,true,true,false,false,false] (fun _=>[(4,Ai b4)]) (fun x=>[Pz b2 a p cap,Pz b3 b q cap2,⟨b4,204,[.bool (decide (a+b<0)),B8 x.1 (lbs br (a+b).natAbs).length],true,none⟩,BM x.1 (lbs br (a+b).natAbs)])
   3 [Pz b2 a p cap,Pz b3 b q cap2,⟨b4,204,[.bool false, .slice none 0 0],true,none⟩] Tryz.mixed (by kernel_rfl) ?_ ?_
  ·refine qP I<|qB 0 I I I<|qP I<|qB 0 I I I<|qP I<|qB 1 I I I<|BR<|wX<|wZ<|?_
   refine wD (X:=NV) rfl rfl (fun W' hp=>SU W' p q cap cap2 a.natAbs b.natAbs (hA.hp hp) (hB.hp hp) (by omega) (by omega)) ?_;intro x hx
   refine zC<|Ah<|wX<|wZ<|An Tryz.hZ tH I I I I I I I I ?_
   refine zC<|Ah<|wX<|wZ<|wS 2 I I I<|zC<|Ah<|?_
   rw[<-en] at hx⊢;first|refine AF rfl (by((repeat (first|refine AK.same ?_|refine AK.off rfl ?_));exact trivial)) ?_|refine AR rfl (by kernel_rfl) ?_
   exact A7 ⟨x,hx⟩ ⟨I,tO⟩ [0,1,2,3] (by decide) (by rw[es];rfl)
  rintro⟨x,hx⟩
  exact zE<|zO<|zP<|A3 tH I (.cell 2 I I I I I) x I hx fun W hp=>Au.of_hp1 hp 3 I
 refine EE (c:=false) Tryz.underlying4 I I I I I (congrArg some (beq_eq_false_iff_ne.2 hs)) ?_
 refine xa<|zS I<|xe<|xd<|wP I<|wB 0 I I I<|wP I<|wB 1 I I I<|wC I I (fun W' hp=>Mw W' p q cap cap2 a.natAbs b.natAbs (hA.hp hp) (hB.hp hp) (by omega) (by omega))<|wP I<|wU 24 (decide (a.natAbs<b.natAbs)) I (decide_eq_decide.2 (by unfold Ps;split<;>(try split)<;>omega))<|xa<|?_
 try refine Ba ?_
 refine AA (X:=(Int×Option Addr×Nat)×(Int×Option Addr×Nat)) (fun _=>[(2,Ai b2),(3,Ai b3),(4,Ai b4)]) (fun x=>[Pz b2 x.1.1 x.1.2.1 x.1.2.2,Pz b3 x.2.1 x.2.2.1 x.2.2.2,⟨b4,204,[.bool false, .slice none 0 0],true,none⟩])
  (fun x=>A6 W x.1.2.1 (lbs br x.1.1.natAbs)/\A6 W x.2.2.1 (lbs br x.2.1.natAbs)/\x.2.1.natAbs<=x.1.1.natAbs/\x.1.1+x.2.1=a+b/\(decide (x.1.1<0)≠decide (x.2.1<0))/\(lbs br x.1.1.natAbs).length<=1000) ?_ ?_
 ·refine Ag I (fun h=> ?_) (fun h=> ?_)
  ·have h:a.natAbs<b.natAbs:=of_decide_eq_true h
   exact zB<|wB 1 I I I<|wB 0 I I I<|wS 0 I I I<|wS 1 I I I<|zC<|Ao ((b,q,cap2),(a,p,cap)) ⟨hB,hA,Nat.le_of_lt h,Int.add_comm ..,Ne.symm hs,hnb⟩ ⟨I,I,I,tO⟩ [] I
  ·have h: ¬a.natAbs<b.natAbs:=of_decide_eq_false h
   exact zI<|Ao ((a,p,cap),(b,q,cap2)) ⟨hA,hB,by show b.natAbs<=a.natAbs;omega,I,hs,hna⟩ ⟨I,I,I,tO⟩ [] I
 rintro⟨⟨u,pu,cu⟩,⟨v,pv,cv⟩⟩ ⟨hU,hV,hle,hsum,hsg,hul⟩
 have hU:A6 W pu (lbs br u.natAbs):=hU
 have hV:A6 W pv (lbs br v.natAbs):=hV
 have hle:v.natAbs<=u.natAbs:=hle
 have hsum:u+v=a+b:=hsum
 have hsg:decide (u<0)≠decide (v<0):=hsg
 have hul:(lbs br u.natAbs).length<=1000:=hul
 have en:(a+b).natAbs=u.natAbs-v.natAbs:=by
  rw[<-hsum]
  by_cases h1:u<0<;>by_cases h2:v<0<;>simp[h1,h2] at hsg<;>omega
 have es:(a+b).natAbs≠0->decide (u<0)=decide (a+b<0):=fun h0=>by
  rw[<-hsum] at h0⊢
  by_cases h1:u<0<;>by_cases h2:v<0<;>simp[h1,h2] at hsg⊢ <;>omega
 refine Ba ?_
 refine AV (X:= { y:Nat×NV//C0 y.2 (lbs br (a+b).natAbs) }) [true,true,true,true,true,true,false,false,false,false] (fun y=>[(4,Ai b4),(5,Ai y.1.1)]) (fun y=>[⟨b4,204,[.bool false, .slice none 0 0],true,none⟩,⟨y.1.1,204,[.bool (decide (u<0)),B8 y.1.2 (lbs br (a+b).natAbs).length],true,none⟩,BM y.1.2 (lbs br (a+b).natAbs)])
  4 [Pz b2 u pu cu,Pz b3 v pv cv,⟨b4,204,[.bool false, .slice none 0 0],true,none⟩] Tryz.mixed (by kernel_rfl) ?_ ?_
 ·refine qP I<|qB 0 I I I<|qP I<|qB 0 I I I<|qP I<|qB 1 I I I<|BR<|wX<|RS.cons ?_ (RS.cons ?_ (RS.nil))
  ·refine wD (X:=NV) rfl rfl (fun W' hp=>FE W' pu pv cu cv u.natAbs v.natAbs hle (hU.hp hp) (hV.hp hp) (by omega)) ?_;intro x hx
   refine zC<|Ah<|wX<|RS.cons ?_ (RS.cons ?_ (RS.nil))
   ·refine An Tryz.hZ tH I I I I I I I I ?_
    refine zC<|Ah<|wX<|wZ<|?_
    refine B5 Tryz.hZ rfl rfl rfl rfl ?_;intro b5
    refine zC<|Ah<|wX<|wZ<|wS 4 I I I<|zC<|Ah<|?_
    rw[<-en] at hx⊢;first|refine AF rfl (by((repeat (first|refine AK.same ?_|refine AK.off rfl ?_));exact trivial)) ?_|refine AR rfl (by kernel_rfl) ?_
    exact A7 ⟨(b5,x),hx⟩ ⟨I,I,tO⟩ [2,4,3] (by decide) I
   ·refine B5 Tryz.hZ rfl rfl rfl rfl ?_;intro b5
    refine zC<|Ah<|wX<|wZ<|An Tryz.hZ tH I I I I I I I I ?_
    refine zC<|Ah<|wX<|wZ<|wS 4 I I I<|zC<|Ah<|?_
    rw[<-en] at hx⊢;first|refine AF rfl (by((repeat (first|refine AK.same ?_|refine AK.off rfl ?_));exact trivial)) ?_|refine AR rfl (by kernel_rfl) ?_
    exact A7 ⟨(b5,x),hx⟩ ⟨I,I,tO⟩ [2,4,3] (by decide) I
  ·refine B5 Tryz.hZ rfl rfl rfl rfl ?_;intro b5
   refine zC<|Ah<|wX<|wZ<|?_
   refine wD (X:=NV) rfl rfl (fun W' hp=>FE W' pu pv cu cv u.natAbs v.natAbs hle (hU.hp hp) (hV.hp hp) (by omega)) ?_;intro x hx
   refine zC<|Ah<|wX<|wZ<|An Tryz.hZ tH I I I I I I I I ?_
   refine zC<|Ah<|wX<|wZ<|wS 3 I I I<|zC<|Ah<|?_
   rw[<-en] at hx⊢;first|refine AF rfl (by((repeat (first|refine AK.same ?_|refine AK.off rfl ?_));exact trivial)) ?_|refine AR rfl (by kernel_rfl) ?_
   exact A7 ⟨(b5,x),hx⟩ ⟨I,I,tO⟩ [2,3,4] (by decide) I
 rintro⟨⟨b5,x⟩,hx⟩
 have hx:C0 x (lbs br (a+b).natAbs):=hx
 refine zE<|xd<|wP I<|wB 1 I I I<|Aa I<|?_
 refine Ap 38 (.bool (decide ((a+b).natAbs=0))) I (congrArg Value.bool (by
  by_cases h0:(a+b).natAbs=0
  ·rw[dT h0,h0,Bg];rfl
  ·have hL:(lbs br (a+b).natAbs).length≠0:=fun e=>h0 ((DG br2).1 (List.length_eq_zero_iff.1 e))
   rw[dF h0,beq_eq_false_iff_ne];omega)) ?_
 refine xa<|?_
 try refine Ba ?_
 refine AA (X:=Unit) (fun _=>[(4,Ai b4),(5,Ai b5)]) (fun _=>[⟨b4,204,[.bool false, .slice none 0 0],true,none⟩,⟨b5,204,[.bool (decide (a+b<0)),B8 x (lbs br (a+b).natAbs).length],true,none⟩,BM x (lbs br (a+b).natAbs)]) (fun _=>True) ?_ ?_
 ·refine Ag I (fun h=> ?_) (fun h=> ?_)
  ·have h:(a+b).natAbs=0:=of_decide_eq_true h
   exact zB<|wP I<|wS 1 I I I<|zC<|Ao () tO ⟨I,I,tO⟩ [] (by rw[dF (show¬a+b<0 by omega)];rfl)
  ·have h: ¬(a+b).natAbs=0:=of_decide_eq_false h
   exact zI<|Ao () tO ⟨I,I,tO⟩ [] (by rw[<-es h];rfl)
 intro _ _
 exact xb<|wB 1 I I I<|wS 0 I I I<|xc<|A3 tH I (.cell 0 I I I I I) x I hx fun W hp=>Au.of_hp1 hp 2 I
theorem OP (a b:Int) (W:World) (p q:Option Addr) (cap cap2:Nat) (hA:A6 W p (lbs br a.natAbs)) (hB:A6 W q (lbs br b.natAbs)) (hna:(lbs br a.natAbs).length<=1000) (hnb:(lbs br b.natAbs).length<=1000):
  Ae Tryz.prog 244 #[Sl a p cap,Sl b q cap2] W (fun x:NV=>aU (a*b) x) (fun x=>C0 x (lbs br (a*b).natAbs)) (fun x=>[BM x (lbs br (a*b).natAbs)]):=by
 have en:(a*b).natAbs=a.natAbs*b.natAbs:=Int.natAbs_mul a b
 have es:(a*b).natAbs≠0->(decide (a<0) !=decide (b<0))=decide (a*b<0):=fun h0=>by
  rw[en] at h0
  have ha:a≠0:=fun e=>h0 (by rw[e];simp)
  have hb:b≠0:=fun e=>h0 (by rw[e];simp)
  by_cases h1:a<0<;>by_cases h2:b<0
  ·rw[dT h1,dT h2,dF (by have:=Int.mul_pos_of_neg_of_neg h1 h2;omega)];rfl
  ·rw[dT h1,dF h2,dT (Int.mul_neg_of_neg_of_pos h1 (by omega))];rfl
  ·rw[dF h1,dT h2,dT (Int.mul_neg_of_pos_of_neg (by omega) h2)];rfl
  ·rw[dF h1,dF h2,dF (by have:=Int.mul_pos (show 0<a by omega) (show 0<b by omega);omega)];rfl
 refine Ab Tryz.func244 I I I<|xb<|wF I I fun _=>wF I I fun _=>wG I I fun _=>zC<|?_
 rename_i b2 b3 b4
 refine zE<|zA<|?_
 refine AV (X:= { y:Nat×NV//C0 y.2 (lbs br (a*b).natAbs) }) [true,true,true,true,true,true,true,true,true,false,false,false,false] (fun y=>[(4,Ai b4),(5,Ai y.1.1)]) (fun y=>[⟨b4,204,[.bool false, .slice none 0 0],true,none⟩,⟨y.1.1,204,[.bool (decide (a<0) !=decide (b<0)),B8 y.1.2 (lbs br (a*b).natAbs).length],true,none⟩,BM y.1.2 (lbs br (a*b).natAbs)])
  4 [Pz b2 a p cap,Pz b3 b q cap2,⟨b4,204,[.bool false, .slice none 0 0],true,none⟩] Tryz.mixed (by kernel_rfl) ?_ ?_
 ·refine qP I<|qB 0 I I I<|qP I<|qB 1 I I I<|Vc Tryz.underlying4 I I I I I I ?_
  refine qP I<|qB 0 I I I<|qP I<|qB 1 I I I<|BR<|wX<|RS.cons ?_ (RS.cons ?_ (RS.nil))
  ·refine wD (X:=NV) rfl rfl (fun W' hp=>Lb W' p q cap cap2 a.natAbs b.natAbs (hA.hp hp) (hB.hp hp) (by omega) (by omega)) ?_;intro x hx
   refine zC<|Ah<|wX<|RS.cons ?_ (RS.cons ?_ (RS.nil))
   ·refine An Tryz.hZ tH I I I I I I I I ?_
    refine zC<|Ah<|wX<|wZ<|?_
    refine B5 Tryz.hZ rfl rfl rfl rfl ?_;intro b5
    refine zC<|Ah<|wX<|wZ<|wS 4 I I I<|zC<|Ah<|?_
    rw[<-en] at hx⊢;first|refine AF rfl (by((repeat (first|refine AK.same ?_|refine AK.off rfl ?_));exact trivial)) ?_|refine AR rfl (by kernel_rfl) ?_
    exact A7 ⟨(b5,x),hx⟩ ⟨I,I,tO⟩ [2,4,3] (by decide) I
   ·refine B5 Tryz.hZ rfl rfl rfl rfl ?_;intro b5
    refine zC<|Ah<|wX<|wZ<|An Tryz.hZ tH I I I I I I I I ?_
    refine zC<|Ah<|wX<|wZ<|wS 4 I I I<|zC<|Ah<|?_
    rw[<-en] at hx⊢;first|refine AF rfl (by((repeat (first|refine AK.same ?_|refine AK.off rfl ?_));exact trivial)) ?_|refine AR rfl (by kernel_rfl) ?_
    exact A7 ⟨(b5,x),hx⟩ ⟨I,I,tO⟩ [2,4,3] (by decide) I
  ·refine B5 Tryz.hZ rfl rfl rfl rfl ?_;intro b5
   refine zC<|Ah<|wX<|wZ<|?_
   refine wD (X:=NV) rfl rfl (fun W' hp=>Lb W' p q cap cap2 a.natAbs b.natAbs (hA.hp hp) (hB.hp hp) (by omega) (by omega)) ?_;intro x hx
   refine zC<|Ah<|wX<|wZ<|An Tryz.hZ tH I I I I I I I I ?_
   refine zC<|Ah<|wX<|wZ<|wS 3 I I I<|zC<|Ah<|?_
   rw[<-en] at hx⊢;first|refine AF rfl (by((repeat (first|refine AK.same ?_|refine AK.off rfl ?_));exact trivial)) ?_|refine AR rfl (by kernel_rfl) ?_
   exact A7 ⟨(b5,x),hx⟩ ⟨I,I,tO⟩ [2,3,4] (by decide) I
 rintro⟨⟨b5,x⟩,hx⟩
 have hx:C0 x (lbs br (a*b).natAbs):=hx
 refine zE<|xd<|wP I<|wB 1 I I I<|Aa I<|?_
 refine Ap 20 (.bool (decide ((a*b).natAbs=0))) I (congrArg Value.bool (by
  by_cases h0:(a*b).natAbs=0
  ·rw[dT h0,h0,Bg];rfl
  ·have hL:(lbs br (a*b).natAbs).length≠0:=fun e=>h0 ((DG br2).1 (List.length_eq_zero_iff.1 e))
   rw[dF h0,beq_eq_false_iff_ne];omega)) ?_
 refine xa<|?_
 try refine Ba ?_
 refine AA (X:=Unit) (fun _=>[(4,Ai b4),(5,Ai b5)]) (fun _=>[⟨b4,204,[.bool false, .slice none 0 0],true,none⟩,⟨b5,204,[.bool (decide (a*b<0)),B8 x (lbs br (a*b).natAbs).length],true,none⟩,BM x (lbs br (a*b).natAbs)]) (fun _=>True) ?_ ?_
 ·refine Ag I (fun h=> ?_) (fun h=> ?_)
  ·have h:(a*b).natAbs=0:=of_decide_eq_true h
   exact zB<|wP I<|wS 1 I I I<|zC<|Ao () tO ⟨I,I,tO⟩ [] (by rw[dF (show¬a*b<0 by omega)];rfl)
  ·have h: ¬(a*b).natAbs=0:=of_decide_eq_false h
   exact zI<|Ao () tO ⟨I,I,tO⟩ [] (by rw[<-es h];rfl)
 intro _ _
 exact xb<|wB 1 I I I<|wS 0 I I I<|xc<|A3 tH I (.cell 0 I I I I I) x I hx fun W hp=>Au.of_hp1 hp 2 I
theorem HX {z:Int} (h:(decDigits z.natAbs).length<=300):(itoa z).length<=301:=by
 rw[Dj,List.length_append]
 have:=Rm z
 omega
theorem KN {a b:Int} (h:(smI a&&smI b)=true):Be Tryz.prog 173 [str (itoa a),str (itoa b)] (.tuple #[.int .i64 a, .int .i64 b, .bool true]):=fun W=>by
 obtain⟨h1,h2⟩:=Bool.and_eq_true_iff.1 h
 have l1:(itoa a).length<=17:=of_decide_eq_true h1
 have l2:(itoa b).length<=17:=of_decide_eq_true h2
 have:=Pt a b (by omega) (by omega) W
 rw[h1,h2] at this
 exact this
theorem KS {a b:Int} (h:(smI a&&smI b)=false) (ha:(decDigits a.natAbs).length<=300) (hb:(decDigits b.natAbs).length<=300): ∃x y:Int,Be Tryz.prog 173 [str (itoa a),str (itoa b)] (.tuple #[.int .i64 x, .int .i64 y, .bool false]):=
 ⟨_,_,fun W=>by
  have l1:=HX ha
  have l2:=HX hb
  have:=Pt a b (by omega) (by omega) W
  rw[h] at this
  exact this⟩
theorem Of (a b:Int) (ha:(decDigits a.natAbs).length<=300) (hb:(decDigits b.natAbs).length<=300) (hab:(decDigits (a*b).natAbs).length<=300) (W:World) (ht:A9 W):
  Ae Tryz.prog 171 #[str (itoa a),str (itoa b)] W (fun _:Unit=> .tuple #[str (itoa (a*b)), .int .i64 0]) (fun _=>True) (fun _=>[]):=by
 have la:=Dw (m:=a.natAbs) (by omega)
 have lb:=Dw (m:=b.natAbs) (by omega)
 have l1:=HX ha
 have l2:=HX hb
 refine Ab Tryz.func171 I I I<|xb<|Aa I<|xk<|Aa I<|wC I I (fun W _=>Ft a b ha hb W)<|wP I<|xf<|Aa I<|xa<|zS I<|zI<|?_
 refine zE<|xd<|?_
 cases hs:smI a&&smI b with
 |true=>
  refine Aa I<|wC I I (fun W _=>KN hs W)<|AE I<|wP I<|xf<|At I<|Ap 26 (.int .i64 ((itoa a).length:Nat)) I (congrArg (fun n:Nat=>Value.int .i64 (n:Int)) (A5 _))<|Aa I<|Ap 28 (.int .i64 ((itoa b).length:Nat)) I (congrArg (fun n:Nat=>Value.int .i64 (n:Int)) (A5 _))<|wP I<|wV 29 (((itoa a).length+(itoa b).length:Nat):Int) I (AU (by omega))<|?_
  refine wP I<|wU 30 (decide ((itoa a).length+(itoa b).length<=18)) I (decide_eq_decide.2 (by omega))<|wP I<|xa<|Ag I (fun h18=> ?_) (fun h18=> ?_)
  ·have h18:(itoa a).length+(itoa b).length<=18:=of_decide_eq_true h18
   have hm:(a*b).natAbs<1000000000000000000:=by
    have p1:=Fq a.natAbs
    have p2:=Fq b.natAbs
    have q1:(decDigits a.natAbs).length<=(itoa a).length:=by rw[Dj,List.length_append];omega
    have q2:(decDigits b.natAbs).length<=(itoa b).length:=by rw[Dj,List.length_append];omega
    rw[Int.natAbs_mul]
    have r1:=Nat.mul_lt_mul'' p1 p2
    rw[<-Nat.pow_add] at r1
    exact Nat.lt_of_lt_of_le r1 (show _<=10^18 from Nat.pow_le_pow_right (by decide) (by omega))
   exact xb<|Ad I<|wV 34 (a*b) I (Ar (by omega) (by omega))<|wC I I (fun W hp=>Bt (a*b) (by omega) (by omega) W (ht.hp hp))<|Aa I<|xo<|wR2 I I I
  ·refine xm<|wP I<|wD (X:=NV) I I (fun W' _=>BP a (by omega) W') ?_
   intro x hx
   refine wP I<|wD (X:=NV) I I (fun W' _=>BP b (by omega) W') ?_
   intro y hy
   refine wD (X:=NV) I I (fun W' hp=>OP a b W' (some ⟨x.1,0,none⟩) (some ⟨y.1,0,none⟩) x.2.1 y.2.1 (A6.of_bx hp 0 I) (A6.of_bx hp 1 I) (by omega) (by omega)) ?_
   intro w hw
   exact wC I I (fun W' hp=>Fm (a*b) hab W' (some ⟨w.1,0,none⟩) w.2.1 (A6.of_bx hp 2 I))<|At I<|xc<|wR2 I I I
 |false=>
  obtain⟨x0,y0,h2⟩:=KS hs ha hb
  refine Aa I<|wC I I (fun W _=>h2 W)<|AE I<|wP I<|xf<|Aa I<|?_
  iterate 6 refine Af I I ?_
  refine wP I<|xa<|zS I<|xm<|wP I<|wD (X:=NV) I I (fun W' _=>BP a (by omega) W') ?_
  intro x hx
  refine wP I<|wD (X:=NV) I I (fun W' _=>BP b (by omega) W') ?_
  intro y hy
  refine wD (X:=NV) I I (fun W' hp=>OP a b W' (some ⟨x.1,0,none⟩) (some ⟨y.1,0,none⟩) x.2.1 y.2.1 (A6.of_bx hp 0 I) (A6.of_bx hp 1 I) (by omega) (by omega)) ?_
  intro w hw
  exact wC I I (fun W' hp=>Fm (a*b) hab W' (some ⟨w.1,0,none⟩) w.2.1 (A6.of_bx hp 2 I))<|At I<|xc<|wR2 I I I
theorem UR (a b:Int) (ha:(decDigits a.natAbs).length<=300) (hb:(decDigits b.natAbs).length<=300) (W:World):
  Ae Tryz.prog 122 #[str (itoa a),str (itoa b)] W (fun _:Unit=> .tuple #[.int .i64 (Hb a b), .int .i64 0]) (fun _=>True) (fun _=>[]):=by
 have la:=Dw (m:=a.natAbs) (by omega)
 have lb:=Dw (m:=b.natAbs) (by omega)
 refine Ab Tryz.func122 I I I<|xb<|Aa I<|xk<|Aa I<|wC I I (fun W _=>Ft a b ha hb W)<|wP I<|xf<|Aa I<|xa<|zS I<|zI<|?_
 refine zE<|xd<|?_
 cases hs:smI a&&smI b with
 |true=>
  refine Aa I<|wC I I (fun W _=>KN hs W)<|AE I<|wP I<|xf<|wP I<|xa<|zR I<|xd<|Ad I<|?_
  by_cases h1:a<b
  ·exact wU 27 true I (dT h1)<|xa<|zR I<|xb<|Aa I<|xo<|zP<|wR2 I I (by rw[Hb,if_pos h1])
  refine wU 27 false I (dF h1)<|xa<|zS I<|xe<|xd<|Ad I<|?_
  by_cases h2:b<a
  ·exact wU 30 true I (dT h2)<|xa<|zR I<|xb<|Aa I<|xo<|zP<|wR2 I I (by rw[Hb,if_neg h1,if_neg (by omega)])
  exact wU 30 false I (dF h2)<|xa<|zS I<|xm<|Aa I<|xo<|wR2 I I (by rw[Hb,if_neg h1,if_pos (by omega)])
 |false=>
  obtain⟨x0,y0,h2⟩:=KS hs ha hb
  refine Aa I<|wC I I (fun W _=>h2 W)<|AE I<|wP I<|xf<|wP I<|xa<|zS I<|xm<|wP I<|wD (X:=NV) I I (fun W' _=>BP a (by omega) W') ?_
  intro x hx
  refine wP I<|wD (X:=NV) I I (fun W' _=>BP b (by omega) W') ?_
  intro y hy
  refine wC I I (fun W' hp=>UI b W' (some ⟨y.1,0,none⟩) y.2.1) ?_
  refine wD (X:=NV) I I (fun W' hp=>OY a (-b) W' (some ⟨x.1,0,none⟩) (some ⟨y.1,0,none⟩) x.2.1 y.2.1 (A6.of_bx hp 0 I) (by rw[Int.natAbs_neg];exact A6.of_bx hp 1 I) (by omega) (by rw[Int.natAbs_neg];omega)) ?_
  intro w hw
  refine wG I I fun _=>wS 3 I I I<|zC<|?_
  rename_i b10
  refine zE<|xd<|wP I<|wB 3 I I I<|Aa I<|?_
  refine Ap 40 (.bool (decide (a=b))) I (congrArg Value.bool (by
   by_cases h0:a=b
   ·rw[dT h0,show(a+ -b).natAbs=0 by omega,Bg];rfl
   ·have hL:(lbs br (a+ -b).natAbs).length≠0:=fun e=>by have:=(DG br2).1 (List.length_eq_zero_iff.1 e);omega
    rw[dF h0,beq_eq_false_iff_ne];omega)) ?_
  refine xa<|Ag I (fun h0=> ?_) (fun h0=> ?_)
  ·have h0:a=b:=of_decide_eq_true h0
   exact xb<|Aa I<|xo<|wR2 I I (by rw[Hb,if_neg (by omega),if_pos h0])
  have h0: ¬a=b:=of_decide_eq_false h0
  refine xe<|xd<|wP I<|wB 3 I I I<|xa<|Ag I (fun h1=> ?_) (fun h1=> ?_)
  ·have h1:a+ -b<0:=of_decide_eq_true h1
   exact xb<|Aa I<|xo<|wR2 I I (by rw[Hb,if_pos (by omega)])
  ·have h1: ¬a+ -b<0:=of_decide_eq_false h1
   exact xm<|Aa I<|xc<|wR2 I I (by rw[Hb,if_neg (by omega),if_neg h0])
theorem RT (r:Nat):lv br [r]=r:=by show r+br*0=r;rw[Nat.mul_zero,Nat.add_zero]
theorem Rk (W:World) (p:Option Addr) (cap a dv:Nat) (hA:A6 W p (lbs br a)) (hna:(lbs br a).length<=1000000) (hd0:0<dv) (hd1:dv<br):
  Ae Tryz.prog 253 #[slv p (lbs br a).length cap, .int .i64 (dv:Nat)] W (fun x:NV×NV=> .tuple #[B8 x.1 (lbs br (a/dv)).length,B8 x.2 (lbs br (a%dv)).length]) (fun x=>C0 x.1 (lbs br (a/dv))/\C0 x.2 (lbs br (a%dv))) (fun x=>[BM x.1 (lbs br (a/dv)),BM x.2 (lbs br (a%dv))]):=by
 obtain⟨K,hK⟩: ∃K,(lbs br a).length=K:=⟨_,rfl⟩
 have hd1':dv<1000000:=hd1
 have hal:=AJ br2 a
 rw[hK] at hna hal
 refine Ab Tryz.func253 I I I ?_
 rw[hK]
 refine xb<|Aa I<|xf<|Aa I<|?_
 refine Cr Tryz.vec172 K I I I I I I I (by simp only[maxLen];omega) (by omega) ?_
 intro g
 have ez:Cf (Value.cells (.int .i64 0)).toList K=nI (List.replicate K 0)++[]:=by rw[List.append_nil];exact Gx K
 rw[ez]
 refine wP I<|xf<|wP I<|xk<|Ad I<|wV 14 ((K:Int)-1) I (Ar (by omega) (by omega))<|wP I<|xa<|zH<|?_
 refine Av (X:=Nat×List Nat×Nat×Nat) (fun x=>[(0,slv p K cap),(1, .int .i64 (dv:Nat)),(6,slv (some ⟨g,0,none⟩) K K),(7, .int .i64 (x.2.2.2:Nat)),(8, .int .i64 ((x.1:Nat)-1:Int))]) (fun x=>[⟨g,3,nI x.2.1++[],true,none⟩])
  (fun x=>x.1<=K/\x.2.1.length=K/\(∀y∈x.2.1,y<br)/\lv br x.2.1=br^x.1*x.2.2.1/\a/br^x.1=x.2.2.1*dv+x.2.2.2/\x.2.2.2<dv) (fun x=>x.1) (K,List.replicate K 0,0,0) ⟨Nat.le_refl _,List.length_replicate,Is (by decide) K,by rw[Fx];show 0=br^K*0;rw[Nat.mul_zero],by show a/br^K=0*dv+0;rw[Nat.div_eq_of_lt hal];omega,hd0⟩ ⟨rfl,rfl,rfl,rfl,rfl,trivial⟩ [] rfl ?_
 rintro⟨k,l,qh,rs⟩ ⟨hk,hl,hlb,hlv,hq,hr⟩
 have hk:k<=K:=hk
 have hl:l.length=K:=hl
 have hlv:lv br l=br^k*qh:=hlv
 have hq:a/br^k=qh*dv+rs:=hq
 have hr:rs<dv:=hr
 refine xd<|Aa I<|?_
 cases k with
 |zero=>
  have hq:a=qh*dv+rs:=by simpa using hq
  have hlv:lv br l=qh:=by rw[hlv];simp
  have eq1:a/dv=qh:=by rw[hq,Nat.mul_comm,Nat.mul_add_div hd0,Nat.div_eq_of_lt hr,Nat.add_zero]
  have eq2:a%dv=rs:=by rw[hq,Nat.mul_comm,Nat.mul_add_mod,Nat.mod_eq_of_lt hr]
  refine wU 16 false I (dF (by show¬(((0:Nat):Int)-1≥0);omega))<|xa<|zS I<|xg<|xn<|?_
  have hV0:(⟨some g,K,[]⟩:Vec).OK 1 l.length (nI l):=⟨Fg _,(fun h=>by cases h),fun _=>⟨by show _<=K;omega,by show K<=maxLen;simp only[maxLen];omega,by show(nI l).length+0=K*1;rw[BJ];omega⟩⟩
  obtain⟨j1,hV1,he1⟩:=Ek hV0 hlb
  have hrb: ∀x∈[rs],x<br:=fun x hx=>by obtain rfl:=List.mem_singleton.1 hx;show x<1000000;omega
  refine wP I<|Ap 35 (slv (some ⟨g,0,none⟩) l.length K) I (by rw[hl])<|wC I I (fun W hp=>CW W _ K _ (A6.of_bx hp 0 I) hlb (by omega) (by omega))<|wP I<|As Tryz.hZ tH I I I I I I I I I I I fun bN=> ?_
  have hV2:(⟨some bN,1,[]⟩:Vec).OK 1 [rs].length (nI [rs]):=⟨rfl,(fun h=>by cases h),fun _=>⟨Nat.le_refl _,(by show 1<=maxLen;decide),rfl⟩⟩
  obtain⟨j2,hV3,he2⟩:=Ek hV2 hrb
  refine wC I I (fun W hp=>CW W (some ⟨bN,0,none⟩) 1 [rs] (A6.of_bx (junk:=[]) hp 1 I) hrb (by show 1<=1;omega) (by show 1<_;decide))<|Aa I<|xc<|?_
  rw[hlv, <-eq1] at hV1 he1
  rw[RT, <-eq2] at hV3 he2
  exact A4 tH I (.tmp I) (.tmp I) (((g,K,j1):NV),((bN,1,j2):NV)) (by rw[hlv, <-eq1,RT, <-eq2]) ⟨hV1,hV3⟩ fun W hp=>Au.of_hp (hp.pick (l:=[BM (g,K,j1) (lbs br (a/dv)),BM (bN,1,j2) (lbs br (a%dv))]) [0,1] (by decide) (by
   show some [(⟨g,3,nI l++[],true,none⟩:Bx),⟨bN,3,nI [rs]++[],true,none⟩]=some [⟨g,3,nI (lbs br (a/dv))++j1,true,none⟩,⟨bN,3,nI (lbs br (a%dv))++j2,true,none⟩]
   rw[he1, <-eq2,he2]))
 |succ k=>
  have hq:a/br^(k+1)=qh*dv+rs:=hq
  have hi:k<l.length:=by rw[hl];omega
  obtain⟨b1,o1,rfl,r1⟩:=hA.row (show k<(lbs br a).length by omega)
  have r1:=r1 k (by omega)
  obtain⟨v,hv⟩: ∃v,lim (lbs br a) k=v:=⟨_,rfl⟩
  rw[hv] at r1
  have hvb:v<br:=by rw[<-hv];exact Bk br2 (Br br2 a) _
  have hvb':v<1000000:=hvb
  have hve:v=a/br^k%br:=by rw[<-hv];exact Bo br2 a _
  obtain⟨n,hn⟩: ∃n,n=v+rs*br:=⟨_,rfl⟩
  have hn':n=v+rs*1000000:=hn
  have hn63:n<1000000000000:=by omega
  have hnq:=Ui (B:=br) (d:=dv) hvb hr hn
  have hnq':n/dv<1000000:=hnq
  have hs:=Kn (B:=br) (d:=dv) (q:=qh) (r:=rs) (i:=k) hq (n:=n) (by rw[hn,hve])
  have hzero:l[k]? =some 0:=by
   rw[DM hi,CI br2 _ hlb,hlv,Nat.pow_succ,Nat.mul_assoc,Nat.mul_div_cancel_left _ (Nat.pow_pos (by decide)),Nat.mul_mod_right]
  have hset:=IR (B:=br) (n/dv) hzero
  rw[Nat.mul_zero,Nat.add_zero,hlv,Nat.pow_succ,Nat.mul_assoc, <-Nat.mul_add] at hset
  have hrm:n%dv<dv:=Nat.mod_lt _ hd0
  refine wU 16 true I (dT (by show(((k+1:Nat):Int)-1≥0);omega))<|xa<|zR I<|xh<|At I<|wV 22 (k:Nat) I (by show((k+1:Nat):Int)-1=_;omega)<|wJ ?_
  refine wL 0 I I (fun W hp=>r1.hp hp) I<|wP I<|wV 25 (n:Nat) I (by show w64 (w64 ((rs:Int)*((1000000:Nat):Int))+v)=_;rw[Cx (by omega),AU (by omega),hn',Nat.add_comm])<|wP I<|xf<|Aa I<|wV 27 (k:Nat) I (by show((k+1:Nat):Int)-1=_;omega)<|Aa I<|Ef I I I I I (by omega) ?_
  refine wV 30 ((n/dv:Nat):Int) I (BN (by omega))<|wJ ?_
  refine AG 0 (nI (l.set k (n/dv))++[]) tH I I I I I I I I I I (by show 0+k*1+1<=(nI l++[]).length;rw[List.append_nil,BJ];omega) (CH hi (n/dv)) ?_
  refine xa<|zB<|Aa I<|FC I I I I I (by omega) ?_
  exact Ap 34 (.int .i64 ((n%dv:Nat):Int)) I I<|wP I<|zC<|xi<|wP I<|wV 17 (k:Nat) I (by show((k+1:Nat):Int)-1=_;omega)<|wP I<|wV 18 ((k:Nat)-1:Int) I (Ar (by omega) (by omega))<|wP I<|zC<|Al (k,l.set k (n/dv),qh*br+n/dv,n%dv) ⟨by show k<=K;omega,by rw[List.length_set];exact hl,Dd hlb hnq,by show lv br (l.set k (n/dv))=br^k*(qh*br+n/dv);rw[hset,Nat.mul_comm qh],by show a/br^k=_;exact hs,hrm⟩ (by show k<k+1;omega) ⟨I,I,I,I,I,tO⟩ [] I
end
end Go.Proofs.YtlnjmcchddbogaaGreatDoor
