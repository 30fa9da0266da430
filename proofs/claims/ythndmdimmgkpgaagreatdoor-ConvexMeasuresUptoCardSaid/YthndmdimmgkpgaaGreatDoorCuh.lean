/-
  Lemmas that the theorem convexMeasures_upto_card needs (part 8 of 8).
-/
import Derived.Test.YthndmdimmgkpgaaGreatDoorCug
import Derived.Test.YthndmdimmgkpgaaGreatDoorRows
import Derived.Test.YthndmdimmgkpgaaGreatDoorCards
import Derived.Test.YthndmdimmgkpgaaGreatDoorTie
import Derived.Deep.Slices
import Derived.ChangeArms
import Derived.ChangeShapes
import Derived.WideShapes
import Derived.Carry
import Derived.ProofKit
import Derived.OpenShut
import Derived.Deep.DeepHandedRow
import Derived.Lib.LaidTab
import Derived.Stop.LaidErr
import Derived.Lay
import Derived.SevenTiedAt
import Derived.Shelf.Vars
import Derived.ChangeMaps5
set_option maxHeartbeats 64000000
namespace Go.Proofs.YthndmdimmgkpgaaGreatDoor
section
theorem Y6 {f:Bg} {p q x:Ag} (hp:f.at p=0) (hc:A3 p q x=0):f.at x*(q.1-p.1)=f.at q*(x.1-p.1)∧f.at x*(q.2-p.2)=f.at q*(x.2-p.2):=by
 unfold Bg.at at*
 unfold A3 at hc
 have ec:f.c=f.a*p.1+f.b*p.2:=by grind
 rw[ec]
 constructor
 ·have:f.b*((q.1-p.1)*(x.2-p.2)-(q.2-p.2)*(x.1-p.1))=0:=by rw[hc];grind
  grind
 ·have:f.a*((q.1-p.1)*(x.2-p.2)-(q.2-p.2)*(x.1-p.1))=0:=by rw[hc];grind
  grind
theorem TA {A B u v:Rat} (hB:0<B) (hA:0≤A) (h:A*u=B*v) (hu:0≤u):0≤v:=by
 apply JQ hB
 rw[←h];exact Rat.mul_nonneg hA hu
theorem TX {A B u v:Rat} (hB:0<B) (hu:0<u) (h:A*u=B*v) (hv:0≤v):0≤A:=by
 apply JQ hu
 rw[Rat.mul_comm,h];exact Rat.mul_nonneg (Rat.le_of_lt hB) hv
theorem Rg {B v:Rat} (hB:0<B) (h:B*v=0):v=0:=by
 rcases Rat.mul_eq_zero.1 h with c|c
 ·grind
 ·exact c
theorem VC {f:Bg} {p q x:Ag} (hp:f.at p=0) (hq:0<f.at q) (hc:A3 p q x=0) (hx:0≤f.at x):(AG p q→ ¬AG x p)∧(AG q p→ ¬AG p x):=by
 obtain⟨e1,e2⟩:=Y6 hp hc
 unfold AG
 constructor
 ·rintro(h|⟨h,h2⟩)
  ·have:=TA hq hx e1 (by grind)
   have z:x.1=p.1→f.at x=0:=fun c=>by
    have:f.at x*(q.1-p.1)=0:=by rw[e1];grind
    rcases Rat.mul_eq_zero.1 this with d|d
    ·exact d
    ·grind
   rintro(c|⟨c,c2⟩)
   ·grind
   ·have:=z c
    rw[this] at e2
    have:=Rg hq (v:=x.2-p.2) (by grind)
    grind
  ·have a:=Rg hq (v:=x.1-p.1) (by rw[←e1,h];grind)
   have:=TA hq hx e2 (by grind)
   rintro(c|⟨c,c2⟩)<;>grind
 ·rintro(h|⟨h,h2⟩)
  ·have:=TA (u:=p.1-q.1) (v:=p.1-x.1) hq hx (by grind) (by grind)
   have z:x.1=p.1→f.at x=0:=fun c=>by
    have:f.at x*(q.1-p.1)=0:=by rw[e1];grind
    rcases Rat.mul_eq_zero.1 this with d|d
    ·exact d
    ·grind
   rintro(c|⟨c,c2⟩)
   ·grind
   ·have:=z c.symm
    rw[this] at e2
    have:=Rg hq (v:=x.2-p.2) (by grind)
    grind
  ·have a:=Rg hq (v:=x.1-p.1) (by rw[←e1,h];grind)
   have:=TA (u:=p.2-q.2) (v:=p.2-x.2) hq hx (by grind) (by grind)
   rintro(c|⟨c,c2⟩)<;>grind
theorem Wk {h:Bg} {p q r:Ag} (hp:h.at p=0) (hq:0<h.at q) (hc:A3 p q r=0) (hn:AG p q∧ ¬AG r p∨AG q p∧ ¬AG p r):0≤h.at r:=by
 obtain⟨e1,e2⟩:=Y6 hp hc
 unfold AG at hn
 rcases hn with⟨c|⟨c,c2⟩,d⟩|⟨c|⟨c,c2⟩,d⟩
 ·exact TX hq (u:=q.1-p.1) (by grind) e1 (by grind)
 ·have a:=Rg hq (v:=r.1-p.1) (by rw[←e1,c];grind)
  exact TX hq (u:=q.2-p.2) (by grind) e2 (by grind)
 ·exact TX hq (u:=p.1-q.1) (v:=p.1-r.1) (by grind) (by grind) (by grind)
 ·have a:=Rg hq (v:=r.1-p.1) (by rw[←e1,c];grind)
  exact TX hq (u:=p.2-q.2) (v:=p.2-r.2) (by grind) (by grind) (by grind)
def bwB (p q r:Ag):Bool:=if Bc q p then !Bc r q&& !Bc p r else !Bc r p&& !Bc q r
theorem Tw {p q r:Ag} (hne:p≠q):bwB p q r=true↔(AG p q∧ ¬AG r p∧ ¬AG q r)∨(AG q p∧ ¬AG r q∧ ¬AG p r):=by
 have n: ∀a b:Ag,(!Bc a b)=true↔ ¬AG a b:=fun a b=>by rw[←Cv (p:=a)];simp
 unfold bwB
 by_cases c:Bc q p=true
 ·rw[if_pos c,Bool.and_eq_true,n,n]
  have c:=Cv.1 c
  exact⟨fun h=> .inr ⟨c,h⟩,fun h=>h.elim (fun d=>absurd d.1 (CS c)) (fun d=>d.2)⟩
 ·rw[if_neg c,Bool.and_eq_true,n,n]
  have c:=fun d=>c (Cv.2 d)
  have c2:AG p q:=by
   rcases Dq p q with d|d|d
   ·exact d
   ·exact absurd d hne
   ·exact absurd d c
  exact⟨fun h=> .inl ⟨c2,h⟩,fun h=>h.elim (fun d=>d.2) (fun d=>absurd d.1 c)⟩
theorem Z3 (L:List Ag) (g h:Ag→Rat) (hg: ∀r∈L,0≤g r): ∃M:Rat,0≤M∧ ∀r∈L,0<g r→0<M*g r+h r:=by
 induction L with
 |nil=>exact⟨0,Rat.le_refl,fun r hr=>absurd hr List.not_mem_nil⟩
 |cons x L ih=>
  obtain⟨M,m0,hM⟩:=ih fun r hr=>hg r (List.mem_cons_of_mem _ hr)
  have key: ∃k:Rat,0≤k∧(0<g x→0<k*g x+h x):=by
   rcases CA 0 (h x) with c|c
   ·exact⟨0,Rat.le_refl,fun _=>by grind⟩
   ·by_cases d:0<g x
    ·refine⟨(1-h x)/g x, ?_,fun _=> ?_⟩
     ·exact JQ d (by rw[Rat.mul_comm,Rat.div_mul_cancel (by grind)];grind)
     ·rw[Rat.div_mul_cancel (by grind)];grind
    ·exact⟨0,Rat.le_refl,fun e=>absurd e d⟩
  obtain⟨k,k0,hk⟩:=key
  refine⟨M+k,by grind,fun r hr hp=> ?_⟩
  rcases List.mem_cons.1 hr with rfl|hr'
  ·have a:=hk hp
   have b:=Rat.mul_nonneg m0 (Rat.le_of_lt hp)
   grind
  ·have a:=hM r hr' hp
   have b:=Rat.mul_nonneg k0 (Rat.le_of_lt hp)
   grind
def Bg.sc (M:Rat) (f:Bg):Bg:=⟨M*f.a,M*f.b,M*f.c⟩
theorem Bg.sc_at (M:Rat) (f:Bg) (x:Ag):(f.sc M).at x=M*f.at x:=by unfold Bg.at Bg.sc;grind
theorem YJ {H:List Ag} (hH:Bm H) {p:Ag} (hp:DQ H p) {g h:Bg} (hg: ∀r∈H,0≤g.at r) (gp:g.at p=0) (hp0:h.at p=0) (hh: ∀r∈H,g.at r=0→0≤h.at r):
  ∃i,i<H.length∧g.at (Ab H i)=0∧h.at (Ab H i)=0:=by
 have h0:0<H.length:=by have:=hH.n3;omega
 obtain⟨M,m0,hM⟩:=Z3 H g.at h.at hg
 have hf: ∀r∈H,0≤((g.sc M).plus h).at r:=fun r hr=>by
  rw[Bg.plus_at,Bg.sc_at]
  rcases CA 0 (g.at r) with c|c
  ·exact Rat.le_of_lt (hM r hr c)
  ·have e:g.at r=0:=by have:=hg r hr;grind
   have:=hh r hr e
   rw[e];grind
 obtain⟨-,h2⟩:=C2.fan hH hp (g:=(g.sc M).plus h) fun i hi=>hf _ (AD h0 i)
 obtain⟨i,hi,e⟩:=h2 (by rw[Bg.plus_at,Bg.sc_at,gp,hp0];grind)
 rw[Bg.plus_at,Bg.sc_at] at e
 have hm:=AD h0 i
 have eg:g.at (Ab H i)=0:=by
  rcases CA 0 (g.at (Ab H i)) with c|c
  ·have:=hM _ hm c;grind
  ·have:=hg _ hm;grind
 exact⟨i,hi,eg,by rw[eg] at e;grind⟩
theorem Li {H:List Ag} (hH:Bm H) {i j:Nat} (hij:i<j) (hj:j<H.length):Ab H i≠Ab H j:=by
 have h:=XJ hH hij hj (t:=0) (s:=0) (by decide) Rat.le_refl (by decide)
 unfold H0 at h
 rw[MB,MB] at h
 exact h
theorem J5 {H:List Ag} (hH:Bm H) {i j:Nat} (hi:i<H.length) (hj:j<H.length) (h:Ab H i=Ab H j):i=j:=by
 rcases Nat.lt_trichotomy i j with c|c|c
 ·exact absurd h (Li hH c hj)
 ·exact c
 ·exact absurd h.symm (Li hH c hi)
def Py (l:List Ag) (p q:Ag):Bool:=decide (p≠q)&&l.all fun r=>decide (0<A3 p q r)||(decide (A3 p q r=0)&&bwB p q r)
theorem Q3 {l:List Ag} {p q:Ag}:Py l p q=true↔p≠q∧ ∀r∈l,0<A3 p q r∨A3 p q r=0∧bwB p q r=true:=by unfold Py;simp
def Wb (p q:Ag):Bg:=⟨q.1-p.1,q.2-p.2,(q.1-p.1)*p.1+(q.2-p.2)*p.2⟩
theorem YH {a:Rat} (h:a≠0):0<a*a:=by
 rcases CA 0 a with c|c
 ·exact Rat.mul_pos c c
 ·have:=Rat.mul_pos (a:= -a) (b:= -a) (by grind) (by grind);grind
theorem Yz (a:Rat):0≤a*a:=by
 by_cases h:a=0
 ·subst h;grind
 ·exact Rat.le_of_lt (YH h)
theorem W7 {p q:Ag} (hne:p≠q):(Wb p q).at p=0∧0<(Wb p q).at q:=by
 unfold Bg.at Wb
 refine⟨by grind, ?_⟩
 have e:(q.1-p.1)*q.1+(q.2-p.2)*q.2-((q.1-p.1)*p.1+(q.2-p.2)*p.2)=(q.1-p.1)*(q.1-p.1)+(q.2-p.2)*(q.2-p.2):=by grind
 show 0<(q.1-p.1)*q.1+(q.2-p.2)*q.2-((q.1-p.1)*p.1+(q.2-p.2)*p.2)
 rw[e]
 have a:=Yz (q.1-p.1)
 have b:=Yz (q.2-p.2)
 by_cases c:q.1=p.1
 ·have:q.2-p.2≠0:=fun d=>hne (Prod.ext c.symm (by grind))
  have:=YH this
  grind
 ·have:=YH (a:=q.1-p.1) (fun d=>c (by grind))
  grind
theorem Yf {H:List Ag} (hH:Bm H) {p q:Ag} (hne:p≠q) (hp:DQ H p) {g:Bg} (hg: ∀r∈H,0≤g.at r) (gp:g.at p=0) (gc: ∀r,g.at r=0↔A3 p q r=0)
  (hb: ∀r∈H,A3 p q r=0→(AG p q∧ ¬AG r p∧ ¬AG q r)∨(AG q p∧ ¬AG r q∧ ¬AG p r)): ∃i,i<H.length∧Ab H i=p:=by
 obtain⟨d0,d1⟩:=W7 hne
 obtain⟨i,hi,a,b⟩:=YJ hH hp hg gp d0 fun r hr e=>by
  have hc:=(gc r).1 e
  rcases hb r hr hc with c|c
  ·exact Wk d0 d1 hc (.inl ⟨c.1,c.2.1⟩)
  ·exact Wk d0 d1 hc (.inr ⟨c.1,c.2.2⟩)
 refine⟨i,hi, ?_⟩
 obtain⟨e1,e2⟩:=Y6 d0 ((gc _).1 a)
 rw[b] at e1 e2
 have z1:=Rg d1 (v:=(Ab H i).1-p.1) (by grind)
 have z2:=Rg d1 (v:=(Ab H i).2-p.2) (by grind)
 exact Prod.ext (by grind) (by grind)
theorem Oy {l H:List Ag} (hH:Bm H) (hm: ∀p∈H,p∈l) (hi: ∀x∈l,DQ H x) {p q:Ag} (hp:p∈l) (hq:q∈l):
  Py l p q=true↔ ∃a,a<H.length∧p=Ab H a∧q=Ab H (a+1):=by
 have n3:=hH.n3
 have h0:0<H.length:=by omega
 rw[Q3]
 constructor
 ·rintro⟨hne,hb⟩
  have hb2: ∀r∈l,A3 p q r=0→(AG p q∧ ¬AG r p∧ ¬AG q r)∨(AG q p∧ ¬AG r q∧ ¬AG p r):=fun r hr e=>by
   rcases hb r hr with c|c
   ·grind
   ·exact(Tw hne).1 c.2
  have hnn: ∀r∈H,0≤A3 p q r:=fun r hr=>by
   rcases hb r (hm r hr) with c|c
   ·grind
   ·grind
  obtain⟨a,ha,ea⟩:=Yf hH hne (hi p hp) (g:=NU p q) (fun r hr=>by rw[Cg];exact hnn r hr) (by rw[Cg,F9]) (fun r=>by rw[Cg]) fun r hr e=>hb2 r (hm r hr) e
  obtain⟨b,hbb,eb⟩:=Yf hH (Ne.symm hne) (hi q hq) (g:=NU p q) (fun r hr=>by rw[Cg];exact hnn r hr) (by rw[Cg,I3]) (fun r=>by rw[Cg,Gq];constructor<;>intro h<;>grind) fun r hr e=>by
   have e':A3 p q r=0:=by rw[Gq];grind
   rcases hb2 r (hm r hr) e' with c|c
   ·exact .inr ⟨c.1,c.2⟩
   ·exact .inl ⟨c.1,c.2⟩
  have hab:a≠b:=fun h=>by subst h;exact hne (ea.symm.trans eb)
  have nn: ∀j,0≤A3 (Ab H a) (Ab H b) (Ab H j):=fun j=>by
   rw[ea,eb];exact hnn _ (AD h0 j)
  refine⟨a,ha,ea.symm, ?_⟩
  rw[←eb]
  rcases Nat.lt_or_ge a b with c|c
  ·by_cases d:b=a+1
   ·rw[d]
   ·exfalso
    have t:=hH.tri a (a+1) b (by omega) (by omega) hbb
    have:=nn (a+1)
    rw[BX,BX,Gq] at t
    grind
  ·by_cases d:a+1=H.length
   ·by_cases e:b=0
    ·rw[d,e,Ep]
    ·exfalso
     have t:=hH.tri 0 b a (by omega) (by omega) ha
     have:=nn 0
     rw[BX,Gq] at t
     grind
   ·exfalso
    have t:=hH.tri b a (a+1) (by omega) (by omega) (by omega)
    have:=nn (a+1)
    rw[Gq] at t
    grind
 ·rintro⟨a,ha,rfl,rfl⟩
  obtain⟨z,hz,w,hw,t1,t2,t3⟩: ∃z∈H, ∃w∈H,(0<A3 z (Ab H a) (Ab H (a+1))∧ ∀x∈l,0≤A3 z (Ab H a) x)∧(0<A3 (Ab H (a+1)) w (Ab H a)∧ ∀x∈l,0≤A3 (Ab H (a+1)) w x)∧0<A3 (Ab H a) (Ab H (a+1)) z:=by
   have per: ∀i,Ab H (i%H.length)=Ab H i:=Bn H
   have sd: ∀i, ∀x∈l,0≤A3 (Ab H i) (Ab H (i+1)) x:=fun i x hx=>by
    have h1:=hi x hx (i%H.length) (Nat.mod_lt _ h0)
    rw[per] at h1
    have:Ab H (i%H.length+1)=Ab H (i+1):=by rw[←per (i%H.length+1), ←per (i+1),Nat.mod_add_mod]
    rw[this] at h1;exact h1
   have st:0<A3 (Ab H (a+H.length-1)) (Ab H a) (Ab H (a+1)):=by
    by_cases e:a=0
    ·subst e
     rw[Nat.zero_add,Nat.zero_add,BX]
     exact hH.tri 0 1 (H.length-1) (by omega) (by omega) (by omega)
    ·have e1:Ab H (a+H.length-1)=Ab H (a-1):=by rw[←per,show a+H.length-1=(a-1)+H.length by omega,Nat.add_mod_right,per]
     rw[e1]
     by_cases e2:a+1=H.length
     ·rw[e2,Ep, ←BX]
      exact hH.tri 0 (a-1) a (by omega) (by omega) ha
     ·exact hH.tri (a-1) a (a+1) (by omega) (by omega) (by omega)
   have st2:0<A3 (Ab H a) (Ab H (a+1)) (Ab H (a+2)):=by
    by_cases e:a+1=H.length
    ·rw[e,show a+2=1+H.length by omega, ←per (1+H.length),Nat.add_mod_right,per,Ep,BX]
     exact hH.tri 0 1 a (by omega) (by omega) ha
    ·by_cases e2:a+2=H.length
     ·rw[e2,Ep, ←BX]
      exact hH.tri 0 a (a+1) (by omega) (by omega) (by omega)
     ·exact hH.tri a (a+1) (a+2) (by omega) (by omega) (by omega)
   refine⟨Ab H (a+H.length-1),AD h0 _,Ab H (a+2),AD h0 _,⟨st,fun x hx=> ?_⟩,⟨by rw[←BX];exact st2,fun x hx=>sd (a+1) x hx⟩,by rw[←BX];exact st⟩
   have h1:=sd (a+H.length-1) x hx
   rw[show a+H.length-1+1=a+H.length by omega, ←per (a+H.length),Nat.add_mod_right,per] at h1
   exact h1
  have hne:Ab H a≠Ab H (a+1):=fun h=>by rw[h,Kw] at t3;grind
  refine⟨hne,fun r hr=> ?_⟩
  have h1:0≤A3 (Ab H a) (Ab H (a+1)) r:=hi r hr a ha
  rcases CA 0 (A3 (Ab H a) (Ab H (a+1)) r) with c|c
  ·exact .inl c
  ·have e:A3 (Ab H a) (Ab H (a+1)) r=0:=by grind
   refine .inr ⟨e,(Tw hne).2 ?_⟩
   have r1:=VC (f:=NU z (Ab H a)) (p:=Ab H a) (q:=Ab H (a+1)) (x:=r) (by rw[Cg,I3]) (by rw[Cg];exact t1.1) e (by rw[Cg];exact t1.2 r hr)
   have r2:=VC (f:=NU (Ab H (a+1)) w) (p:=Ab H (a+1)) (q:=Ab H a) (x:=r) (by rw[Cg,F9]) (by rw[Cg];exact t2.1) (by rw[Gq] at e;grind) (by rw[Cg];exact t2.2 r hr)
   rcases Dq (Ab H a) (Ab H (a+1)) with d|d|d
   ·exact .inl ⟨d,r1.1 d,r2.2 d⟩
   ·exact absurd d hne
   ·exact .inr ⟨d,r2.1 d,r1.2 d⟩
end
section
def Ii (H:List Ag) (s m:Nat):List Ag:=(List.range m).map fun j=>Ab H (s+j)
theorem UK (H:List Ag) (s m:Nat):Ii H s (m+1)=Ii H s m++[Ab H (s+m)]:=by simp[Ii,List.range_succ]
theorem QU (H:List Ag) (s m:Nat):(Ii H s m).length=m:=by simp[Ii]
theorem RL {H:List Ag} {s m j:Nat} (h:j<m):Ab (Ii H s m) j=Ab H (s+j):=by
 rw[AE (by rw[QU];exact h)]
 simp[Ii]
theorem Vb {H:List Ag} {s:Nat} (hs:s≤H.length):Ii H s H.length=Du s H:=by
 have h:=UC (Du s H)
 rw[Eb hs] at h
 rw[←h]
 unfold Ii
 exact List.map_congr_left fun j _=>by rw[ET hs,Nat.add_comm]
theorem YY {H:List Ag} (hH:Bm H) {s m:Nat} (h0:0<m) (hm:m<H.length):Ab H (s+m)≠Ab H s:=fun h=>by
 have hn:0<H.length:=by omega
 rw[←Bn H (s+m), ←Bn H s] at h
 have:=J5 hH (Nat.mod_lt _ hn) (Nat.mod_lt _ hn) h
 have e1:=Nat.div_add_mod (s+m) H.length
 have e2:=Nat.div_add_mod s H.length
 rw[this] at e1
 have e3:H.length*((s+m)/H.length)=H.length*(s/H.length)+m:=by omega
 have e4:(s+m)/H.length≤s/H.length∨s/H.length+1≤(s+m)/H.length:=by omega
 rcases e4 with c|c
 ·have:=Nat.mul_le_mul_left H.length c;omega
 ·have:=Nat.mul_le_mul_left H.length c
  rw[Nat.mul_add] at this;omega
theorem YA {H:List Ag} {s:Nat}:Ab H (s+H.length)=Ab H s:=Bm.per s
theorem UO {S H:List Ag} (hs:S.Pairwise AG) (h0:S≠[]) (e:H=Cb S) (hH:Bm H) (h1: ∀p∈H,p∈S) (h2: ∀x∈S,DQ H x) {s:Nat} (h:s≤H.length):Bt (Du s H)=H:=by
 rw[e] at*
 exact(Tk hs h0 (NF (hH.rot h)) Nv (fun p hp=>h1 p (Hy.1 (OV.1 hp))) fun x hx=>Pd ((h2 x hx).rot h)).symm
def sdP (l:List Ag) (i k:Nat):List (Ag×Ag):=if Py l (Ab l i) (Ab l k) then[(Ab l i,Ab l k)] else[]
def sdR (l:List Ag) (i k:Nat):List (Ag×Ag):=(List.range k).flatMap (sdP l i)
def sdN (l:List Ag) (i:Nat):List (Ag×Ag):=(List.range i).flatMap fun a=>sdR l a l.length
theorem MC (l:List Ag) (i k:Nat):sdR l i (k+1)=sdR l i k++sdP l i k:=by simp[sdR,List.range_succ]
theorem Ru (l:List Ag) (i:Nat):sdN l (i+1)=sdN l i++sdR l i l.length:=by simp[sdN,List.range_succ]
theorem Uo {l:List Ag} {i k:Nat} {x:Ag×Ag}:x∈sdR l i k↔ ∃b,b<k∧Py l (Ab l i) (Ab l b)=true∧x=(Ab l i,Ab l b):=by
 unfold sdR sdP
 rw[List.mem_flatMap]
 constructor
 ·rintro⟨b,hb,h⟩
  refine⟨b,List.mem_range.1 hb, ?_⟩
  split at h
  ·rename_i c;exact⟨c,List.mem_singleton.1 h⟩
  ·exact absurd h List.not_mem_nil
 ·rintro⟨b,hb,c,rfl⟩
  exact⟨b,List.mem_range.2 hb,by rw[if_pos c];exact List.mem_singleton.2 I⟩
theorem X1 {l:List Ag} {i:Nat} {x:Ag×Ag}:x∈sdN l i↔ ∃a b,a<i∧b<l.length∧Py l (Ab l a) (Ab l b)=true∧x=(Ab l a,Ab l b):=by
 unfold sdN
 rw[List.mem_flatMap]
 constructor
 ·rintro⟨a,ha,h⟩
  obtain⟨b,h1,h2⟩:=Uo.1 h
  exact⟨a,b,List.mem_range.1 ha,h1,h2⟩
 ·rintro⟨a,b,ha,h1,h2⟩
  exact⟨a,List.mem_range.2 ha,Uo.2 ⟨b,h1,h2⟩⟩
theorem TO (l:List Ag) (i k:Nat):(sdR l i k).length≤k:=by
 induction k with
 |zero=>exact Nat.le_refl _
 |succ k ih=>
  rw[MC,List.length_append]
  have:(sdP l i k).length≤1:=by unfold sdP;split<;>simp
  omega
theorem Xk (l:List Ag) (i:Nat):(sdN l i).length≤i*l.length:=by
 induction i with
 |zero=>exact Nat.zero_le _
 |succ i ih=>
  rw[Ru,List.length_append,Nat.add_mul]
  have:=TO l i l.length
  omega
theorem Nf {l H:List Ag} (hH:Bm H) (hm: ∀p∈H,p∈l) (hi: ∀x∈l,DQ H x) {x:Ag×Ag}:x∈sdN l l.length↔ ∃a,a<H.length∧x=(Ab H a,Ab H (a+1)):=by
 have hn:0<H.length:=by have:=hH.n3;omega
 have h0:0<l.length:=List.length_pos_of_mem (hm _ (AD hn 0))
 rw[X1]
 constructor
 ·rintro⟨a,b,_,_,h,rfl⟩
  obtain⟨c,hc,e1,e2⟩:=(Oy hH hm hi (AD h0 a) (AD h0 b)).1 h
  exact⟨c,hc,by rw[e1,e2]⟩
 ·rintro⟨c,hc,rfl⟩
  have m1:=hm _ (AD hn c)
  have m2:=hm _ (AD hn (c+1))
  obtain⟨a,ha,e1⟩:=BO m1
  obtain⟨b,hb,e2⟩:=BO m2
  refine⟨a,b,ha,hb, ?_,by rw[e1,e2]⟩
  rw[e1,e2]
  exact(Oy hH hm hi m1 m2).2 ⟨c,hc,I,I⟩
theorem Xm {l H:List Ag} (hH:Bm H) (hm: ∀p∈H,p∈l) (hi: ∀x∈l,DQ H x) (a:Nat):
  (∃x∈sdN l l.length,x.1=Ab H a)∧ ∀x∈sdN l l.length,x.1=Ab H a→x.2=Ab H (a+1):=by
 have hn:0<H.length:=by have:=hH.n3;omega
 have em:Ab H (a%H.length+1)=Ab H (a+1):=by rw[←Bn H (a%H.length+1), ←Bn H (a+1),Nat.mod_add_mod]
 constructor
 ·exact⟨(Ab H (a%H.length),Ab H (a%H.length+1)),(Nf hH hm hi).2 ⟨_,Nat.mod_lt _ hn,I⟩,Bn H a⟩
 ·intro x hx e
  obtain⟨b,hb,rfl⟩:=(Nf hH hm hi).1 hx
  have e:Ab H b=Ab H a:=e
  rw[←Bn H a] at e
  have:=J5 hH hb (Nat.mod_lt _ hn) e
  show Ab H (b+1)=_
  rw[this,em]
theorem Wx {l H:List Ag} (hH:Bm H) (hm: ∀p∈H,p∈l): ¬ ∀a∈l, ∀b∈l, ∀c∈l,A3 a b c=0:=fun h=>by
 have h3:=hH.n3
 have h0:0<H.length:=by omega
 have t:=hH.tri 0 1 2 (by decide) (by decide) (by omega)
 rw[h _ (hm _ (AD h0 0)) _ (hm _ (AD h0 1)) _ (hm _ (AD h0 2))] at t
 grind
end
section
open Go Go.RowKit Go.Am Go.Lib
set_option maxRecDepth 10000
-- BOXES 5
-- CODE2
theorem TM (p q:Ag):(AG p q∧GZ p q= -1)∨(p=q∧GZ p q=0)∨(AG q p∧GZ p q=1):=by
 unfold GZ
 rcases I8 p.1 q.1 with⟨a,e⟩|⟨a,e⟩|⟨a,e⟩
 ·rw[e];exact .inl ⟨.inl a,rfl⟩
 ·rw[e,if_pos rfl]
  rcases I8 p.2 q.2 with⟨b,f⟩|⟨b,f⟩|⟨b,f⟩
  ·rw[f];exact .inl ⟨.inr ⟨a,b⟩,rfl⟩
  ·rw[f];exact .inr (.inl ⟨Prod.ext a b,rfl⟩)
  ·rw[f];exact .inr (.inr ⟨.inr ⟨a.symm,b⟩,rfl⟩)
 ·rw[e];exact .inr (.inr ⟨.inl a,rfl⟩)
theorem RO (p q:Ag):decide (0<GZ p q)=Bc q p:=by
 rw[Bool.eq_iff_iff,decide_eq_true_eq,Cv]
 rcases TM p q with⟨a,e⟩|⟨a,e⟩|⟨a,e⟩<;>rw[e]
 ·exact⟨fun h=>absurd h (by decide),fun h=>absurd h (CS a)⟩
 ·subst a;exact⟨fun h=>absurd h (by decide),fun h=>absurd h (Eu _)⟩
 ·exact⟨fun _=>a,fun _=>by decide⟩
theorem JV (p q:Ag):decide (GZ p q≤0)= !Bc q p:=by
 rw[←RO]
 rcases TM p q with⟨_,e⟩|⟨_,e⟩|⟨_,e⟩<;>rw[e]<;>rfl
theorem Dl.ls {l:List Ag} (h:Dl l) {x y:Ag} (hx:x∈l) (hy:y∈l):K0 x y:=⟨(h.dv hx hy).1,fun _=>(h.dv hx hy).2⟩
theorem KH (p q:Ag) (hp:okP p) (hq:okP q) (h:K0 p q) (W:World) (ht:AM W):
  Ai Tryz.prog 28 #[cvV p,cvV q] W (fun _:Unit=> .int .i64 (GZ p q)) (fun _=>True) (fun _=>[]):=by
 refine Ae (args:=[cvV p,cvV q]) Tryz.func28 I I I ?_
 refine zA (zB ?_)
 (refine Ax rfl rfl rfl rfl ?_;intro)
 (refine Ax rfl rfl rfl rfl ?_;intro)
 refine wP I (Aa (zE (zA (zB (wB 0 I I I (wB 1 I I I (wC I I (fun W1 hp1=>by have h1:=Ic p q hp hq W1 (ht.hp hp1);rw[Yo h] at h1;exact h1) ?_)))))))
 iterate 5 refine wP I ?_
 exact Aa (zE (zA (zB (wP I (wP I (Aa (zE (zO (wR1 I I I)))))))))
theorem L3 (l:List Ag) (hall: ∀x∈l, ∀y∈l,K0 x y) (hok: ∀x∈l,okP x) (p q r:Ag) (hp:p∈l) (hq:q∈l) (hr:r∈l) (W:World) (ht:AM W):
  Ai Tryz.prog 94 #[cvV p,cvV q,cvV r] W (fun _:Unit=> .bool (bwB p q r)) (fun _=>True) (fun _=>[]):=by
 have key: ∀x∈l, ∀y∈l, ∀W1,AM W1→Ai Tryz.prog 28 #[cvV x,cvV y] W1 (fun _:Unit=> .int .i64 (GZ x y)) (fun _=>True) (fun _=>[]):=fun x hx y hy W1 t1=>KH x y (hok x hx) (hok y hy) (hall x hx y hy) W1 t1
 refine Ae (args:=[cvV p,cvV q,cvV r]) Tryz.func94 I I I ?_
 refine zA (zB ?_)
 (refine Ax rfl rfl rfl rfl ?_;intro)
 (refine Ax rfl rfl rfl rfl ?_;intro)
 (refine Ax rfl rfl rfl rfl ?_;intro)
 refine wP I (Aa ?_)
 rename_i b3 b4 b5
 refine zE (zA (zA (zB (wB 0 I I I (wB 1 I I I (wC I I (fun W1 h1=>key p hp q hq W1 (ht.hp h1)) (wP I (wU 10 (Bc q p) I (RO p q) (Aa (zE ?_))))))))))
 refine A0 I (fun hc=> ?_) (fun hc=> ?_)
 ·refine zB (wB 1 I I I (wB 0 I I I (wS 0 I I I (wS 1 I I I (Aa ?_)))))
  have ev:bwB p q r=(!Bc r q&& !Bc p r):=if_pos hc
  refine zE (zA (zB (wB 0 I I I (wB 2 I I I (wC I I (fun W1 h1=>key q hq r hr W1 (ht.hp h1)) (wP I (wU 16 (!Bc r q) I (JV q r) ?_)))))))
  cases h1:Bc r q with
  |true=>
   refine wP I ?_
   iterate 4 refine At I I ?_
   exact wP I (wP I (Aa (zE (zO (wR1 I I (by rw[ev,h1];rfl))))))
  |false=>
   exact wP I (wB 2 I I I (wB 1 I I I (wC I I (fun W1 h1=>key r hr p hp W1 (ht.hp h1)) (wP I (wU 21 (!Bc p r) I (JV r p) (wP I (wP I (Aa (zE (zO (wR1 I I (by rw[ev,h1];rfl))))))))))))
 ·have ev:bwB p q r=(!Bc r p&& !Bc q r):=if_neg (by rw[hc];decide)
  refine zI (zE (zA (zB (wB 0 I I I (wB 2 I I I (wC I I (fun W1 h1=>key p hp r hr W1 (ht.hp h1)) (wP I (wU 16 (!Bc r p) I (JV p r) ?_))))))))
  cases h1:Bc r p with
  |true=>
   refine wP I ?_
   iterate 4 refine At I I ?_
   exact wP I (wP I (Aa (zE (zO (wR1 I I (by rw[ev,h1];rfl))))))
  |false=>
   exact wP I (wB 2 I I I (wB 1 I I I (wC I I (fun W1 h1=>key r hr q hq W1 (ht.hp h1)) (wP I (wU 21 (!Bc q r) I (JV r q) (wP I (wP I (Aa (zE (zO (wR1 I I (by rw[ev,h1];rfl))))))))))))
structure Rs (l:List Ag) (a b:Nat):Prop where
 x:AR (Ab l a).1 (Ab l b).1
 y:AR (Ab l a).2 (Ab l b).2
def IK (l:List Ag) (i k:Nat):Prop:=(∀a,a<i→ ∀b,b<l.length→Rs l a b)∧ ∀b,b<k→Rs l i b
theorem IK.zero (l:List Ag):IK l 0 0:=⟨fun _ h=>absurd h (Nat.not_lt_zero _),fun _ h=>absurd h (Nat.not_lt_zero _)⟩
theorem IK.next {l:List Ag} {i k:Nat} (h:IK l i k) (h1:Rs l i k):IK l i (k+1):=⟨h.1,fun b hb=>by
 by_cases e:b=k
 ·subst e;exact h1
 ·exact h.2 b (by omega)⟩
theorem IK.row {l:List Ag} {i:Nat} (h:IK l i l.length):IK l (i+1) 0:=⟨fun a ha b hb=>by
 by_cases e:a=i
 ·subst e;exact h.2 b hb
 ·exact h.1 a (by omega) b hb,fun _ h=>absurd h (Nat.not_lt_zero _)⟩
theorem Dl.p2 {l:List Ag} (h:Dl l) {a b:Nat} (ha:a<l.length) (hb:b<l.length):Rs l a b:=⟨(h a ha b hb).x,(h a ha b hb).y⟩
theorem IK.ls {l:List Ag} (h:IK l l.length 0): ∀x∈l, ∀y∈l,K0 x y:=fun x hx y hy=>by
 obtain⟨i,hi,rfl⟩:=BO hx
 obtain⟨j,hj,rfl⟩:=BO hy
 exact⟨(h.1 i hi j hj).x,fun _=>(h.1 i hi j hj).y⟩
theorem Q4 (l:List Ag):(Ex l).length≤2*l.length:=by
 have h:=Qh l
 obtain⟨S,hS⟩: ∃S,S=GP (CI l):=⟨_,rfl⟩
 rw[←hS] at h
 have e:Ex l=(Ap S).tail.reverse++(Ap S.reverse).tail.reverse:=by rw[hS];rfl
 have a:=Gh (Ab S) S.length
 have b:=Gh (Ab S.reverse) S.reverse.length
 rw[Mk] at a b
 rw[e,List.length_append,List.length_reverse,List.length_reverse,List.length_tail,List.length_tail]
 rw[List.length_reverse] at b
 omega
def GD (l:List Ag) (i k j:Nat):Prop:=(∀a,a<i→ ∀b,b<l.length→ ∀d,d<l.length→Gl (Ab l a) (Ab l b) (Ab l d))∧(∀b,b<k→ ∀d,d<l.length→Gl (Ab l i) (Ab l b) (Ab l d))∧ ∀d,d<j→Gl (Ab l i) (Ab l k) (Ab l d)
theorem GD.zero (l:List Ag):GD l 0 0 0:=⟨fun _ h=>absurd h (Nat.not_lt_zero _),fun _ h=>absurd h (Nat.not_lt_zero _),fun _ h=>absurd h (Nat.not_lt_zero _)⟩
theorem GD.next {l:List Ag} {i k j:Nat} (h:GD l i k j) (h1:Gl (Ab l i) (Ab l k) (Ab l j)):GD l i k (j+1):=⟨h.1,h.2.1,fun d hd=>by
 by_cases e:d=j
 ·subst e;exact h1
 ·exact h.2.2 d (by omega)⟩
theorem GD.row {l:List Ag} {i k:Nat} (h:GD l i k l.length):GD l i (k+1) 0:=⟨h.1,fun b hb d hd=>by
 by_cases e:b=k
 ·subst e;exact h.2.2 d hd
 ·exact h.2.1 b (by omega) d hd,fun _ h=>absurd h (Nat.not_lt_zero _)⟩
theorem GD.all {l:List Ag} {i:Nat} (h:GD l i l.length 0):GD l (i+1) 0 0:=⟨fun a ha b hb d hd=>by
 by_cases e:a=i
 ·subst e;exact h.2.1 b hb d hd
 ·exact h.1 a (by omega) b hb d hd,fun _ h=>absurd h (Nat.not_lt_zero _),fun _ h=>absurd h (Nat.not_lt_zero _)⟩
theorem SP {l:List Ag} (h1:IK l l.length 0) (h2:GD l l.length 0 0):Dl l:=fun a ha b hb=>⟨(h1.1 a ha b hb).x,(h1.1 a ha b hb).y,fun d hd=>h2.1 a ha b hb d hd⟩
def Fv (l:List Ag) (i k j:Nat):Prop:=(∀a,a<i→ ∀b,b<l.length→ ∀d,d<l.length→A3 (Ab l a) (Ab l b) (Ab l d)=0)∧(∀b,b<k→ ∀d,d<l.length→A3 (Ab l i) (Ab l b) (Ab l d)=0)∧ ∀d,d<j→A3 (Ab l i) (Ab l k) (Ab l d)=0
theorem Fv.zero (l:List Ag):Fv l 0 0 0:=⟨fun _ h=>absurd h (Nat.not_lt_zero _),fun _ h=>absurd h (Nat.not_lt_zero _),fun _ h=>absurd h (Nat.not_lt_zero _)⟩
theorem Fv.next {l:List Ag} {i k j:Nat}:Fv l i k (j+1)↔Fv l i k j∧A3 (Ab l i) (Ab l k) (Ab l j)=0:=
 ⟨fun h=>⟨⟨h.1,h.2.1,fun d hd=>h.2.2 d (by omega)⟩,h.2.2 j (by omega)⟩,fun h=>⟨h.1.1,h.1.2.1,fun d hd=>by
  by_cases e:d=j
  ·subst e;exact h.2
  ·exact h.1.2.2 d (by omega)⟩⟩
theorem Fv.row {l:List Ag} {i k:Nat}:Fv l i k l.length↔Fv l i (k+1) 0:=
 ⟨fun h=>⟨h.1,fun b hb d hd=>by
  by_cases e:b=k
  ·subst e;exact h.2.2 d hd
  ·exact h.2.1 b (by omega) d hd,fun _ h=>absurd h (Nat.not_lt_zero _)⟩,fun h=>⟨h.1,fun b hb=>h.2.1 b (by omega),fun d hd=>h.2.1 k (by omega) d hd⟩⟩
theorem Fv.all {l:List Ag} {i:Nat}:Fv l i l.length 0↔Fv l (i+1) 0 0:=
 ⟨fun h=>⟨fun a ha b hb d hd=>by
  by_cases e:a=i
  ·subst e;exact h.2.1 b hb d hd
  ·exact h.1 a (by omega) b hb d hd,fun _ h=>absurd h (Nat.not_lt_zero _),fun _ h=>absurd h (Nat.not_lt_zero _)⟩,fun h=>⟨fun a ha=>h.1 a (by omega),fun b hb d hd=>h.1 i (by omega) b hb d hd,fun _ h=>absurd h (Nat.not_lt_zero _)⟩⟩
theorem W8 {l:List Ag}:Fv l l.length 0 0↔ ∀a∈l, ∀b∈l, ∀c∈l,A3 a b c=0:=by
 constructor
 ·intro h a ha b hb c hc
  obtain⟨i,hi,rfl⟩:=BO ha
  obtain⟨j,hj,rfl⟩:=BO hb
  obtain⟨k,hk,rfl⟩:=BO hc
  exact h.1 i hi j hj k hk
 ·exact fun h=>⟨fun a ha b hb d hd=>h _ (AD (by omega) a) _ (AD (by omega) b) _ (AD (by omega) d),fun _ h=>absurd h (Nat.not_lt_zero _),fun _ h=>absurd h (Nat.not_lt_zero _)⟩
def Sb (l:List Ag) (p q:Ag) (j:Nat):Prop:=p≠q∧ ∀d,d<j→0<A3 p q (Ab l d)∨A3 p q (Ab l d)=0∧bwB p q (Ab l d)=true
theorem Sb.next {l:List Ag} {p q:Ag} {j:Nat}:Sb l p q (j+1)↔Sb l p q j∧(0<A3 p q (Ab l j)∨A3 p q (Ab l j)=0∧bwB p q (Ab l j)=true):=
 ⟨fun h=>⟨⟨h.1,fun d hd=>h.2 d (by omega)⟩,h.2 j (by omega)⟩,fun h=>⟨h.1.1,fun d hd=>by
  by_cases e:d=j
  ·subst e;exact h.2
  ·exact h.1.2 d (by omega)⟩⟩
theorem VV {l:List Ag} {p q:Ag}:Sb l p q l.length↔Py l p q=true:=by
 rw[Q3]
 refine⟨fun h=>⟨h.1,fun r hr=> ?_⟩,fun h=>⟨h.1,fun d hd=>h.2 _ (AD (by omega) d)⟩⟩
 obtain⟨i,hi,rfl⟩:=BO hr
 exact h.2 i hi
def Cp (L:List (Ag×Ag)):List Ag:=L.flatMap fun x=>[x.1,x.2]
theorem N5 (L:List (Ag×Ag)):(Cp L).length=2*L.length:=by
 unfold Cp
 induction L with
 |nil=>rfl
 |cons x L ih=>rw[List.flatMap_cons,List.length_append,ih];simp;omega
theorem RM (L M:List (Ag×Ag)):Cp (L++M)=Cp L++Cp M:=List.flatMap_append
theorem RP: ∀ {L:List (Ag×Ag)} {j:Nat} (h:j<L.length),Ab (Cp L) (2*j)=L[j].1∧Ab (Cp L) (2*j+1)=L[j].2
 |x::L,0,_=>by
  have e:Cp (x::L)=x.1::x.2::Cp L:=rfl
  rw[e]
  exact⟨by rw[AE (by simp)];rfl,by rw[AE (by simp)];rfl⟩
 |x::L,j+1,h=>by
  have e:Cp (x::L)=x.1::x.2::Cp L:=rfl
  have hj:j<L.length:=by simpa using h
  have ih:=RP hj
  have hl:=N5 L
  rw[AE (by omega),AE (by omega)] at ih
  rw[e,AE (by simp;omega),AE (by simp;omega)]
  exact ih
def sdC (l:List Ag) (i k:Nat):List (Ag×Ag):=sdN l i++sdR l i k
theorem JA (l:List Ag) (i:Nat):sdC l i 0=sdN l i:=List.append_nil _
theorem Pt (l:List Ag) (i:Nat):sdC l i l.length=sdN l (i+1):=(Ru l i).symm
theorem XN {l:List Ag} {i k:Nat} (h:Py l (Ab l i) (Ab l k)=true):sdC l i (k+1)=sdC l i k++[(Ab l i,Ab l k)]:=by
 unfold sdC
 rw[MC, ←List.append_assoc,sdP,if_pos h]
theorem YF {l:List Ag} {i k:Nat} (h: ¬Py l (Ab l i) (Ab l k)=true):sdC l i (k+1)=sdC l i k:=by
 unfold sdC
 rw[MC, ←List.append_assoc,sdP,if_neg h,List.append_nil]
theorem Ue {l:List Ag} {i k:Nat} (hi:i≤l.length) (hk:k≤l.length) (hl:l.length≤8):(sdC l i k).length≤72:=by
 unfold sdC
 rw[List.length_append]
 have h1:=Xk l i
 have h2:=TO l i k
 have h3:i*l.length≤8*8:=Nat.mul_le_mul (by omega) hl
 omega
theorem WD (p q r:Ag):(A3 p q r<0∧Ha p q r= -1)∨(A3 p q r=0∧Ha p q r=0)∨(0<A3 p q r∧Ha p q r=1):=by
 unfold Ha A3
 rcases I8 ((q.1-p.1)*(r.2-p.2)) ((q.2-p.2)*(r.1-p.1)) with⟨a,e⟩|⟨a,e⟩|⟨a,e⟩<;>rw[e]
 ·exact .inl ⟨by grind,I⟩
 ·exact .inr (.inl ⟨by grind,I⟩)
 ·exact .inr (.inr ⟨by grind,I⟩)
theorem Vk (p q r:Ag):(Ha p q r==0)=decide (A3 p q r=0):=by
 rcases WD p q r with⟨a,e⟩|⟨a,e⟩|⟨a,e⟩<;>rw[e]
 ·rw[dF (fun h=>by grind)];rfl
 ·rw[dT a];rfl
 ·rw[dF (fun h=>by grind)];rfl
theorem Wl (p q r:Ag):decide (0<Ha p q r)=decide (0<A3 p q r):=by
 rcases WD p q r with⟨a,e⟩|⟨a,e⟩|⟨a,e⟩<;>rw[e]
 ·rw[dF (p:=0<A3 p q r) (fun h=>by grind)];rfl
 ·rw[a];rfl
 ·rw[dT a];rfl
theorem Tg {l:List Ag} (hne:l≠[]):(∀p∈Ex l,p∈l)∧(3≤(Ex l).length→Bm (Ex l)∧(∀x∈l,DQ (Ex l) x)∧ ∀s,s≤(Ex l).length→Bt (Du s (Ex l))=Ex l)∧
  ((Ex l).length<3→ ∀a∈l, ∀b∈l, ∀c∈l,A3 a b c=0):=by
 have hs:=(OE (N0 l)).1
 have hm:=QI l
 obtain⟨S,hS⟩: ∃S,S=GP (CI l):=⟨_,rfl⟩
 have eH:Ex l=Cb S:=by rw[hS];rfl
 rw[←hS] at hs hm
 have h0:S≠[]:=fun h=>by
  obtain⟨x,t,rfl⟩: ∃x t,l=x::t:=by
   cases l with
   |nil=>exact absurd rfl hne
   |cons x t=>exact⟨x,t,rfl⟩
  have:=(hm x).2 List.mem_cons_self
  rw[h] at this
  exact absurd this List.not_mem_nil
 obtain⟨a,b,c⟩:=Ke hs h0
 rw[←eH] at a b c
 refine⟨fun p hp=>(hm p).1 (a p hp),fun h3=> ?_,fun h3 x hx y hy z hz=>c h3 x ((hm x).2 hx) y ((hm y).2 hy) z ((hm z).2 hz)⟩
 obtain⟨b1,b2, -⟩:=b h3
 exact⟨b1,fun x hx=>b2 x ((hm x).2 hx),fun s hs'=>UO hs h0 eH b1 a b2 hs'⟩
-- BOXES 6
-- CODE2
theorem I4 {W0 W:World} {bxs:List Bx} (hp:Hp W0 bxs W) (k:Nat) {g:Nat} {l:List Ag} {junk:List Value} (hk:nth bxs k=some (Br g l junk)) {i:Nat} (hi:i<l.length):Ak W g (0+i*2) [str (Ad (Ab l i).1),str (Ad (Ab l i).2)]:=by
 rw[AE hi];exact Nt hp k hk hi
theorem NK (l L:List Ag) (e:Int) (hr:Uu l L e) (hne:l≠[]) (hx:l.length≤8) (hq: ∀x∈l,okP x) (p:Option Addr) (cap:Nat) (W:World) (hA:Cs W p l) (hB:Dm W p (l.map cvS)) (ht:AM W):
  Ai Tryz.prog 38 #[slv p l.length cap] W (fun V:Vec=> .tuple #[V.val L.length, .int .i64 e]) (fun V=>V.OK 2 L.length (ptC L)) (fun V=>[V.bx 35 (ptC L)]):=by
 have nilR: ∀ {W1:World} {bs:List Bx},Hp W bs W1→Ar W W1 [Vec.empty.bx 35 (ptC [])]:=fun _=>Own.one (fun p hp=>by cases hp) List.nodup_nil
 have h0:0<l.length:=List.length_pos_iff.2 hne
 have hml:(l.map cvS).length=l.length:=List.length_map _
 obtain⟨g,off,rfl,hrow0⟩:=hA.at_ h0
 have hrow: ∀j,j<l.length→Ak W g (off+j*2) [str (Ad (Ab l j).1),str (Ad (Ab l j).2)]:=fun j hj=>by rw[AE hj];exact hrow0 j hj
 have okl: ∀j,okP (Ab l j):=fun j=>hq _ (AD h0 j)
 have mem: ∀j,Ab l j∈l:=fun j=>AD h0 j
 have hno: ¬Dl l→L=[]∧e=4:=fun h=>by
  rcases hr with c|c|c
  ·exact absurd c.1 h
  ·exact absurd c.1 h
  ·exact c.2
 have hnum: ∀W1,AM W1→Dm W1 (some ⟨g,off,none⟩) (l.map cvS)→Ai Tryz.prog 92 #[slv (some ⟨g,off,none⟩) l.length cap] W1 (fun _:Unit=> .int .i64 0) (fun _=>True) (fun _=>[]):=fun W1 t1 a1=>by
  have h:=DZ W1 (some ⟨g,off,none⟩) cap (l.map cvS) a1 (by rw[hml];omega) (fun x hx=>by
   obtain⟨q,hq',rfl⟩:=List.mem_map.1 hx
   have a:=Ba (hq q hq').1
   have b:=Ba (hq q hq').2
   show(Ad q.1).length<_∧(Ad q.2).length<_
   omega) t1
  rw[FJ hq,hml] at h
  exact h
 refine Ae (args:=[slv (some ⟨g,off,none⟩) l.length cap]) Tryz.func38 I I I ?_
 refine zA (zB (wP I (wP I (Aa (zE (zA (zA (zB (wP I (wP I (wP I (wU 24 false I (beq_eq_false_iff_ne.2 (by omega)) (Aa ?_)))))))))))))
 refine zE (zS I (zI (zE (zA (zA (zB (wP I (wP I (wP I (wU 27 false I (dF (by omega)) (Aa (zE (zS I ?_)))))))))))))
 refine zI (zE (zA (zA (zB (wP I (wC I I (fun W1 hp=>hnum W1 (ht.hp hp) (hB.hp hp)) (wP I (Aa (zE (zA (zB (wP I (wP I ?_)))))))))))))
 refine Aa (zE (zS I (zI (zE (zA (zA (zB (wP I (Aa (zE (zH ?_)))))))))))
 refine A8 (X:=Nat) (fun i=>[(0,slv (some ⟨g,off,none⟩) l.length cap),(5, .int .i64 (i:Nat))]) (fun _=>[]) (fun i=>i≤l.length∧IK l i 0) (fun i=>l.length-i) 0 ⟨Nat.zero_le _,IK.zero l⟩ ⟨I,I,tO⟩ [] I ?_
 rintro i ⟨hi,hQ⟩
 have hi:i≤l.length:=hi
 have hQ:IK l i 0:=hQ
 refine zA (zA (zB (wP I (wP I (wP I (wP I ?_))))))
 by_cases hlt:i<l.length
 ·refine wU 36 true I (dT (by omega)) (Aa (zE (zR I (zI (zE (zA (zH (zA (zB (wP I (Aa (zE (zH ?_)))))))))))))
  refine A8 (X:=Nat) (fun k=>[(0,slv (some ⟨g,off,none⟩) l.length cap),(5, .int .i64 (i:Nat)),(6, .int .i64 (k:Nat))]) (fun _=>[]) (fun k=>k≤l.length∧IK l i k) (fun k=>l.length-k) 0 ⟨Nat.zero_le _,hQ⟩ ⟨I,I,I,tO⟩ [] I ?_
  rintro k ⟨hk,hQk⟩
  have hk:k≤l.length:=hk
  have hQk:IK l i k:=hQk
  refine zA (zA (zB (wP I (wP I (wP I (wP I ?_))))))
  by_cases hkt:k<l.length
  ·refine wU 42 true I (dT (by omega)) (Aa ?_)
   have hr1:=hrow i hlt
   have hr2:=hrow k hkt
   have ok1:=okl i
   have ok2:=okl k
   have hp2:Dl l→Rs l i k:=fun h=>h.p2 hlt hkt
   have hmk:AR (Ab l i).1 (Ab l k).1→AR (Ab l i).2 (Ab l k).2→Rs l i k:=fun a b=>⟨a,b⟩
   have hx1:Rs l i k→AR (Ab l i).1 (Ab l k).1:=fun h=>h.x
   have hy1:Rs l i k→AR (Ab l i).2 (Ab l k).2:=fun h=>h.y
   obtain⟨P,hP⟩: ∃P,P=Ab l i:=⟨_,rfl⟩
   obtain⟨Q,hQ'⟩: ∃Q,Q=Ab l k:=⟨_,rfl⟩
   rw[←hP] at hr1 ok1 hmk hx1 hy1
   rw[←hQ'] at hr2 ok2 hmk hx1 hy1
   obtain⟨⟨n1,s1⟩,h1⟩: ∃y,y=kOr false P.1 Q.1:=⟨_,rfl⟩
   obtain⟨⟨n2,s2⟩,h2⟩: ∃y,y=kOr false P.2 Q.2:=⟨_,rfl⟩
   have v1:cmV P.1 Q.1= .tuple #[.int .i64 n1, .int .i64 (erI s1)]:=by rw[O4, ←h1]
   have v2:cmV P.2 Q.2= .tuple #[.int .i64 n2, .int .i64 (erI s2)]:=by rw[O4, ←h2]
   have w1:s1=false↔AR P.1 Q.1:=by
    have:=Iw (s:=false) (p:=P.1) (q:=Q.1)
    rw[←h1] at this;exact this.trans ⟨fun h=>h.2,fun h=>⟨rfl,h⟩⟩
   have w2:s2=false↔AR P.2 Q.2:=by
    have:=Iw (s:=false) (p:=P.2) (q:=Q.2)
    rw[←h2] at this;exact this.trans ⟨fun h=>h.2,fun h=>⟨rfl,h⟩⟩
   refine zE (zR I (zI (zE (Ao (B8 (Ao (Ao (zU (qP I (qP I ?_))))))))))
   refine qJ ?_
   refine qP I (qL 0 I I (fun W1 hp=>hr1.hp hp) I (qP I (qP I ?_)))
   refine qJ ?_
   refine qP I (qL 0 I I (fun W1 hp=>hr2.hp hp) I (qC I I (fun W1 hp=>(Ef P.1 Q.1 ok1.1 ok2.1 W1 (ht.hp hp)).cast v1) ?_))
   iterate 5 refine qP I ?_
   refine AQ (Aa ?_)
   cases s1 with
   |true=>
    obtain⟨rfl,rfl⟩:=hno fun h=>absurd (w1.2 (hx1 (hp2 h))) (by decide)
    refine zE (zA (zB (wP I (wP I (Aa (zE (zR I (zA (zB (wP I (wP I (wP I (Aa ?_)))))))))))))
    exact zE (zO (zP (zQ (zP (zP (zQ (zQ (zP (zP (zQ (zP (A7 tH I (.tmp I) (.tmp I) Vec.empty I (Vec.OK.empty 2) fun W1 hp=>nilR hp))))))))))))
   |false=>
    refine zE (zA (zB (wP I (wP I (Aa (zE (zS I (zI (zE (Ao (zU (qP I (qP I ?_)))))))))))))
    refine qJ ?_
    refine qP I (qL 1 I I (fun W1 hp=>hr1.hp hp) I (qP I (qP I ?_)))
    refine qJ ?_
    refine qP I (qL 1 I I (fun W1 hp=>hr2.hp hp) I (qC I I (fun W1 hp=>(Ef P.2 Q.2 ok1.2 ok2.2 W1 (ht.hp hp)).cast v2) ?_))
    iterate 5 refine qP I ?_
    refine AQ (Aa ?_)
    cases s2 with
    |true=>
     obtain⟨rfl,rfl⟩:=hno fun h=>absurd (w2.2 (hy1 (hp2 h))) (by decide)
     refine zE (zA (zB (wP I (wP I (Aa (zE (zR I (zA (zB (wP I (wP I (wP I (Aa ?_)))))))))))))
     exact zE (zO (zQ (zP (zP (zQ (zQ (zP (zP (zQ (zP (A7 tH I (.tmp I) (.tmp I) Vec.empty I (Vec.OK.empty 2) fun W1 hp=>nilR hp)))))))))))
    |false=>
     refine zE (zA (zB (wP I (wP I (Aa (zE (zS I (zI (zN (zE (zB (wP I (wP I ?_)))))))))))))
     exact wV 44 ((k+1:Nat):Int) I (As (by omega)) (wP I (Aa (Ay (k+1) ⟨hkt,hQk.next (hmk (w1.1 I) (w2.1 I))⟩ (by show l.length-(k+1)<l.length-k;omega) ⟨I,I,I,tO⟩ [] I)))
  ·obtain rfl:k=l.length:=by omega
   refine wU 42 false I (dF (by omega)) (Aa (zE (zS I (zJ (zK (zK (zL (zN (zE (zB (wP I (wP I (wV 38 ((i+1:Nat):Int) I (As (by omega)) ?_)))))))))))))
   exact wP I (Aa (Ay (i+1) ⟨hlt,hQk.row⟩ (by show l.length-(i+1)<l.length-i;omega) ⟨I,I,tO⟩ [] I))
 obtain rfl:i=l.length:=by omega
 refine wU 36 false I (dF (by omega)) (Aa (zE (zS I (zJ (zK (zK (zL (zE (zA (zB (wP I (Aa (zE ?_)))))))))))))
 refine zA (zB ?_)
 refine BV tH I I I I I ?_
 intro b0
 refine wP I (Aa (zE (zA (zA (zB (wP I (Aa (zE (zH ?_)))))))))
 refine A8 (X:=Nat×Bool×Vec) (fun x=>[(0,slv (some ⟨g,off,none⟩) l.length cap),(11, .bool x.2.1),(12,x.2.2.val (Cp (sdN l x.1)).length),(13, .int .i64 (x.1:Nat))]) (fun x=>[x.2.2.bx 35 (ptC (Cp (sdN l x.1)))])
  (fun x=>x.1≤l.length∧(x.2.1=true↔Fv l x.1 0 0)∧GD l x.1 0 0∧x.2.2.OK 2 (Cp (sdN l x.1)).length (ptC (Cp (sdN l x.1)))) (fun x=>l.length-x.1) (0,true,⟨some b0,0,[]⟩) ⟨Nat.zero_le _,⟨fun _=>Fv.zero l,fun _=>rfl⟩,GD.zero l,⟨rfl,(fun h=>by cases h),fun _=>⟨Nat.le_refl _,Nat.zero_le _,rfl⟩⟩⟩ ⟨rfl,rfl,rfl,rfl,trivial⟩ [] rfl ?_
 rintro⟨i,fl,O⟩ ⟨hi,hF,hT,hO⟩
 have hi:i≤l.length:=hi
 have hF:fl=true↔Fv l i 0 0:=hF
 have hT:GD l i 0 0:=hT
 have hO:O.OK 2 (Cp (sdN l i)).length (ptC (Cp (sdN l i))):=hO
 refine zA (zA (zB (wP I (wP I (wP I (wP I ?_))))))
 by_cases hlt:i<l.length
 ·refine wU 83 true I (dT (by omega)) (Aa (zE (zR I (zI (zE (zA (zH (zA (zB (wP I (Aa (zE (zH ?_)))))))))))))
  refine A8 (X:=Nat×Bool×Vec) (fun x=>[(0,slv (some ⟨g,off,none⟩) l.length cap),(11, .bool x.2.1),(12,x.2.2.val (Cp (sdC l i x.1)).length),(13, .int .i64 (i:Nat)),(14, .int .i64 (x.1:Nat))]) (fun x=>[x.2.2.bx 35 (ptC (Cp (sdC l i x.1)))])
   (fun x=>x.1≤l.length∧(x.2.1=true↔Fv l i x.1 0)∧GD l i x.1 0∧x.2.2.OK 2 (Cp (sdC l i x.1)).length (ptC (Cp (sdC l i x.1)))) (fun x=>l.length-x.1) (0,fl,O) ⟨Nat.zero_le _,hF,hT,by rw[JA];exact hO⟩ ⟨rfl,rfl,(by rw[JA];rfl),rfl,rfl,trivial⟩ [] (by rw[JA];rfl) ?_
  rintro⟨k,fk,Ok⟩ ⟨hk,hFk,hTk,hOk⟩
  have hk:k≤l.length:=hk
  have hFk:fk=true↔Fv l i k 0:=hFk
  have hTk:GD l i k 0:=hTk
  have hOk:Ok.OK 2 (Cp (sdC l i k)).length (ptC (Cp (sdC l i k))):=hOk
  refine zA (zA (zB (wP I (wP I (wP I (wP I ?_))))))
  by_cases hkt:k<l.length
  ·refine wU 89 true I (dT (by omega)) (Aa ?_)
   have hr1:=hrow i hlt
   have hr2:=hrow k hkt
   have ok1:=okl i
   have ok2:=okl k
   have m1:=mem i
   have m2:=mem k
   have hsl:=Ue hi hk hx
   have hfl:=N5 (sdC l i k)
   have hyes:=XN (l:=l) (i:=i) (k:=k)
   have hnone:=YF (l:=l) (i:=i) (k:=k)
   obtain⟨P,hP⟩: ∃P,P=Ab l i:=⟨_,rfl⟩
   obtain⟨Q,hQ'⟩: ∃Q,Q=Ab l k:=⟨_,rfl⟩
   have hFn: ∀j,Fv l i k (j+1)↔Fv l i k j∧A3 P Q (Ab l j)=0:=fun j=>by rw[hP,hQ'];exact Fv.next
   have hTn: ∀j,GD l i k j→Gl P Q (Ab l j)→GD l i k (j+1):=fun j a b=>by rw[hP,hQ'] at b;exact a.next b
   rw[←hP] at hr1 ok1 m1 hyes hnone
   rw[←hQ'] at hr2 ok2 m2 hyes hnone
   obtain⟨M,hM⟩: ∃M,M=sdC l i k:=⟨_,rfl⟩
   rw[←hM] at hOk hsl hfl hyes hnone
   rw[←hM]
   refine zE (zR I (zI (zE (Ao (B8 (Ao (zU (qP I (qP I ?_)))))))))
   refine qJ ?_
   refine qL 0 I I (fun W1 hp=>hr1.hp hp) I (qP I (qP I ?_))
   refine qJ ?_
   refine qL 0 I I (fun W1 hp=>hr2.hp hp) I ?_
   refine P0 (Ad P.1) (Ad P.2) (Ad Q.1) (Ad Q.2) I I I I I ?_
   refine CU 100 (.bool (!decide (P=Q))) I (congrArg (fun b=>Value.bool (!b)) JW) ?_
   refine qP I (AQ (Aa (zE (zA (zA (zB (wP I (Aa (zE (zH ?_))))))))))
   refine A8 (X:=Nat×Bool×Bool) (fun x=>[(0,slv (some ⟨g,off,none⟩) l.length cap),(11, .bool x.2.1),(12,Ok.val (Cp M).length),(13, .int .i64 (i:Nat)),(14, .int .i64 (k:Nat)),(15, .bool x.2.2),(16, .int .i64 (x.1:Nat))]) (fun _=>[Ok.bx 35 (ptC (Cp M))])
    (fun x=>x.1≤l.length∧(x.2.1=true↔Fv l i k x.1)∧GD l i k x.1∧(x.2.2=true↔Sb l P Q x.1)) (fun x=>l.length-x.1) (0,fk, !decide (P=Q)) ⟨Nat.zero_le _,hFk,hTk,by
     show(!decide (P=Q))=true↔Sb l P Q 0
     by_cases c:P=Q
     ·rw[dT c];exact⟨fun h=>(by cases h),fun h=>absurd c h.1⟩
     ·rw[dF c];exact⟨fun _=>⟨c,fun _ h=>absurd h (Nat.not_lt_zero _)⟩,fun _=>rfl⟩⟩ ⟨rfl,rfl,rfl,rfl,rfl,rfl,rfl,trivial⟩ [] rfl ?_
   rintro⟨j,fj,bd⟩ ⟨hj,hFj,hTj,hbd⟩
   have hj:j≤l.length:=hj
   have hFj:fj=true↔Fv l i k j:=hFj
   have hTj:GD l i k j:=hTj
   have hbd:bd=true↔Sb l P Q j:=hbd
   refine zA (zA (zB (wP I (wP I (wP I (wP I ?_))))))
   by_cases hjt:j<l.length
   ·refine wU 104 true I (dT (by omega)) (Aa ?_)
    have hr3:=hrow j hjt
    have ok3:=okl j
    have m3:=mem j
    have hFn1:=hFn j
    have hTn1:=hTn j hTj
    have hbn:=Sb.next (l:=l) (p:=P) (q:=Q) (j:=j)
    obtain⟨R3,hR3⟩: ∃R,R=Ab l j:=⟨_,rfl⟩
    rw[←hR3] at hr3 ok3 m3 hFn1 hTn1 hbn
    have htn:tnV P Q R3= .tuple #[.int .i64 (tnR P Q R3).1, .int .i64 (tnR P Q R3).2]:=WH _ _ _
    refine zE (zR I (zI (zE (Ao (B8 (Ao (zU (qP I (qP I ?_)))))))))
    refine qJ ?_
    refine qL 0 I I (fun W1 hp=>hr1.hp hp) I (qP I (qP I ?_))
    refine qJ ?_
    refine qL 0 I I (fun W1 hp=>hr2.hp hp) I (qP I (qP I ?_))
    refine qJ ?_
    refine qL 0 I I (fun W1 hp=>hr3.hp hp) I (qC I I (fun W1 hp=>(Lt P Q R3 ok1 ok2 ok3 W1 (ht.hp hp)).cast htn) ?_)
    iterate 5 refine qP I ?_
    refine AQ (Aa ?_)
    by_cases hok:Gl P Q R3
    rotate_left
    ·obtain⟨rfl,rfl⟩:=hno fun h=>hok (h.tn m1 m2 m3)
     have e4:=Y1 hok
     refine zE (zA (zA (zB (wP I (wV 123 4 I e4 (wP I (Aa (zE (zR I (zA (zB (wP I (wV 125 4 I e4 ?_)))))))))))))
     refine wP I (wP I (Aa (zE (zO (zP (zQ (zP (zP (zQ (zP (zQ (zP (zP ?_)))))))))))))
     exact zQ (zQ (zP (zP (zQ (zP (A7 tH I (.tmp I) (.tmp I) Vec.empty I (Vec.OK.empty 2) fun W1 hp=>nilR hp))))))
    have e0:=Yh hok
    have e1:(tnR P Q R3).1=Ha P Q R3:=congrArg Prod.fst e0
    have e2:(tnR P Q R3).2=0:=congrArg Prod.snd e0
    have hTn2:=hTn1 hok
    have eqB:=Vk P Q R3
    have gtB:=Wl P Q R3
    refine zE (zA (zA (zB (wP I (wV 123 0 I e2 (wP I (Aa (zE (zS I (zI (zE (Ao ?_))))))))))))
    refine AJ (X:=Unit) (fun _=>[(0,slv (some ⟨g,off,none⟩) l.length cap),(11, .bool (fj&&decide (A3 P Q R3=0))),(12,Ok.val (Cp M).length),(13, .int .i64 (i:Nat)),(14, .int .i64 (k:Nat)),(15, .bool bd),(16, .int .i64 (j:Nat)),(17, .int .i64 (Ha P Q R3))]) (fun _=>[Ok.bx 35 (ptC (Cp M))]) (fun _=>True) ?_ ?_
    ·cases fj with
     |true=>
      exact zB (wP I (wP I (wP I (wV 128 (Ha P Q R3) I e1 (wP I (wU 129 (decide (A3 P Q R3=0)) I eqB (wP I (wP I (Aa (An () tO ⟨I,I,I,I,I,I,I,(congrArg (fun z=>some (Value.int .i64 z)) e1),tO⟩ [] I))))))))))
     |false=>
      refine zB (wP I (wP I ?_))
      iterate 2 refine At I I ?_
      exact wP I (wP I (Aa (An () tO ⟨I,I,I,I,I,I,I,(congrArg (fun z=>some (Value.int .i64 z)) e1),tO⟩ [] I)))
    intro _ _
    have hF2:(fj&&decide (A3 P Q R3=0))=true↔Fv l i k (j+1):=by
     rw[Bool.and_eq_true,hFj,decide_eq_true_eq];exact hFn1.symm
    obtain⟨fn,hfn⟩: ∃b,b=(fj&&decide (A3 P Q R3=0)):=⟨_,rfl⟩
    rw[←hfn] at hF2
    rw[←hfn]
    cases bd with
    |false=>
     refine zU (qP I (qP I ?_))
     iterate 21 refine F7 I I ?_
     exact qP rfl (qP rfl (AQ (Aa (zN (zE (zB (wP rfl (wP rfl (wV 106 ((j+1:Nat):Int) rfl (As (by omega)) (wP rfl (Aa (Ay (j+1,fn,false) ⟨hjt,hF2,hTn2,⟨fun h=>(by cases h),fun h=>hbd.2 (hbn.1 h).1⟩⟩ (by show l.length-(j+1)<l.length-j;omega) ⟨rfl,rfl,rfl,rfl,rfl,rfl,rfl,trivial⟩ [] rfl))))))))))))
    |true=>
     have hb1:=hbd.1 rfl
     refine zU (qP I (qP I (qP I (qP I ?_))))
     by_cases hpos:0<A3 P Q R3
     ·refine qU 134 true I (gtB.trans (dT hpos)) (qP I ?_)
      iterate 17 refine F7 I I ?_
      exact qP I (qP I (qP I (AQ (Aa (zN (zE (zB (wP I (wP I (wV 106 ((j+1:Nat):Int) I (As (by omega)) (wP I (Aa (Ay (j+1,fn,true) ⟨hjt,hF2,hTn2,⟨fun _=>hbn.2 ⟨hb1, .inl hpos⟩,fun _=>rfl⟩⟩ (by show l.length-(j+1)<l.length-j;omega) ⟨I,I,I,I,I,I,I,tO⟩ [] I)))))))))))))
     refine qU 134 false I (gtB.trans (dF hpos)) (qP I (qP I (qP I ?_)))
     by_cases hzero:A3 P Q R3=0
     rotate_left
     ·refine qU 137 false I (eqB.trans (dF hzero)) (qP I ?_)
      iterate 13 refine F7 I I ?_
      refine qP I (qP I (qP I (qP I (AQ (Aa (zN (zE (zB (wP I (wP I (wV 106 ((j+1:Nat):Int) I (As (by omega)) (wP I (Aa ?_)))))))))))))
      exact Ay (j+1,fn,false) ⟨hjt,hF2,hTn2,⟨fun h=>(by cases h),fun h=>by
       rcases(hbn.1 h).2 with c|c
       ·exact absurd c hpos
       ·exact absurd c.1 hzero⟩⟩ (by show l.length-(j+1)<l.length-j;omega) ⟨I,I,I,I,I,I,I,tO⟩ [] I
     refine qU 137 true I (eqB.trans (dT hzero)) (qP I (qP I (qP I ?_)))
     refine qJ ?_
     refine qL 0 I I (fun W1 hp=>hr1.hp hp) I (qP I (qP I ?_))
     refine qJ ?_
     refine qL 0 I I (fun W1 hp=>hr2.hp hp) I (qP I (qP I ?_))
     refine qJ ?_
     refine qL 0 I I (fun W1 hp=>hr3.hp hp) I (qC I I (fun W1 hp=>L3 l hQ.ls hq P Q R3 m1 m2 m3 W1 (ht.hp hp)) ?_)
     obtain⟨bb,hbb⟩: ∃b,b=bwB P Q R3:=⟨_,rfl⟩
     rw[←hbb] at hbn
     refine qU 151 bb I hbb.symm (qP I (qP I (qP I (qP I (AQ (Aa (zN (zE (zB (wP I (wP I (wV 106 ((j+1:Nat):Int) I (As (by omega)) (wP I ?_)))))))))))))
     refine Aa ?_
     exact Ay (j+1,fn,bb) ⟨hjt,hF2,hTn2,⟨fun h=>hbn.2 ⟨hb1, .inr ⟨hzero,h⟩⟩,fun h=>by
      rcases(hbn.1 h).2 with c|c
      ·exact absurd c hpos
      ·exact c.2⟩⟩ (by show l.length-(j+1)<l.length-j;omega) ⟨I,I,I,I,I,I,I,tO⟩ [] I
   obtain rfl:j=l.length:=by omega
   refine wU 104 false I (dF (by omega)) (Aa (zE (zS I (zJ (zK (zK (zL (zE (zA (zB ?_))))))))))
   have hbB:=hbd.trans VV
   have hFr:=hFj.trans Fv.row
   have hTr:=hTj.row
   cases bd with
   |true=>
    have ey:=hyes (hbB.1 rfl)
    have hlen:(Cp M).length+2=(Cp (sdC l i (k+1))).length:=by rw[ey,RM,List.length_append];rfl
    have hcel:ptC (Cp M)++[str (Ad P.1),str (Ad P.2),str (Ad Q.1),str (Ad Q.2)]=ptC (Cp (sdC l i (k+1))):=by rw[ey,RM,Cr];rfl
    refine wP I (Aa (zE (zR I ?_)))
    refine AL (X:= { V:Vec//V.OK 2 (Cp (sdC l i (k+1))).length (ptC (Cp (sdC l i (k+1)))) }) [true,true,true,true,true,true,true,true,true,false,false,false] (fun V=>[(0,slv (some ⟨g,off,none⟩) l.length cap),(11, .bool fj),(12,V.1.val (Cp (sdC l i (k+1))).length),(13, .int .i64 (i:Nat)),(14, .int .i64 (k:Nat))]) (fun V=>[V.1.bx 35 (ptC (Cp (sdC l i (k+1))))])
     3 [Ok.bx 35 (ptC (Cp M))] Tryz.mixed (by kernel_rfl) ?_ ?_
    ·refine qP I (qP I (qP I ?_))
     refine qJ ?_
     refine qL 0 I I (fun W1 hp=>hr1.hp hp) I (qP I (qP I ?_))
     refine qJ ?_
     refine qL 0 I I (fun W1 hp=>hr2.hp hp) I (Bu (wX (wZ ?_)))
     refine AN Tryz.hZ tH I I I I I I I I I I I fun bS=> ?_
     refine Aa (Ac (wX (wZ ?_)))
     refine BM (V:=Ok) (len:=(Cp M).length) (xs:=ptC (Cp M)) 0 1 Tryz.vec22 (Cp (sdC l i (k+1))).length (ptC (Cp (sdC l i (k+1)))) rfl rfl rfl rfl rfl rfl rfl rfl rfl rfl rfl hOk rfl rfl hlen hcel (by simp only[maxLen];omega) (by omega) rfl ?_;intro gX cX jX hVX
     refine Aa (Ac (wY (wZ (wP I (Aa (Ac ?_))))))
     refine AF I (by kernel_rfl) ?_
     exact Al (⟨⟨some gX,cX,jX⟩,hVX⟩: { V:Vec//V.OK 2 (Cp (sdC l i (k+1))).length (ptC (Cp (sdC l i (k+1)))) }) ⟨I,I,I,I,I,tO⟩ [0] (by decide) I
    rintro⟨V1,hV1⟩
    exact zN (zE (zB (wP I (wP I (wV 91 ((k+1:Nat):Int) I (As (by omega)) (wP I (Aa (Ay (k+1,fj,V1) ⟨hkt,hFr,hTr,hV1⟩ (by show l.length-(k+1)<l.length-k;omega) ⟨I,I,I,I,I,tO⟩ [] I))))))))
   |false=>
    have en:=hnone fun h=>absurd (hbB.2 h) (by decide)
    exact wP I (Aa (zE (zS I (zI (zN (zE (zB (wP I (wP I (wV 91 ((k+1:Nat):Int) I (As (by omega)) (wP I (Aa (Ay (k+1,fj,Ok) ⟨hkt,hFr,hTr,by rw[en];exact hOk⟩ (by show l.length-(k+1)<l.length-k;omega) ⟨I,I,(by rw[en]<;>rfl),I,I,tO⟩ [] (by rw[en];rfl))))))))))))))
  ·obtain rfl:k=l.length:=by omega
   refine wU 89 false I (dF (by omega)) (Aa (zE (zS I (zJ (zK (zK (zL (zN (zE (zB (wP I (wP I (wV 85 ((i+1:Nat):Int) I (As (by omega)) ?_)))))))))))))
   exact wP I (Aa (Ay (i+1,fk,Ok) ⟨hlt,hFk.trans Fv.all,hTk.all,by rw[Pt] at hOk;exact hOk⟩ (by show l.length-(i+1)<l.length-i;omega) ⟨I,I,(by rw[Pt]<;>rfl),I,tO⟩ [] (by rw[Pt];rfl)))
 obtain rfl:i=l.length:=by omega
 have hall:=SP hQ hT
 have hfm:=hF.trans W8
 obtain⟨hf1,hf2,hf3⟩:=Tg hne
 refine wU 83 false I (dF (by omega)) (Aa (zE (zS I (zJ (zK (zK (zL (zE (zA (zA (zB ?_)))))))))))
 cases fl with
 |true=>
  have h3:(Ex l).length<3:=by
   rcases Nat.lt_or_ge (Ex l).length 3 with c|c
   ·exact c
   ·exact absurd (hfm.1 I) (Wx (hf2 c).1 hf1)
  obtain⟨rfl,rfl⟩:L=[]∧e=12:=by
   rcases hr with c|c|c
   ·omega
   ·exact c.2.2
   ·exact absurd hall c.1
  exact wP I (Aa (zE (zR I (zA (zB (wP I (wP I (Aa (zE (zO (zP (A7 tH I (.tmp I) (.tmp I) Vec.empty I (Vec.OK.empty 2) fun W1 hp=>nilR hp))))))))))))
 |false=>
 have h3:3≤(Ex l).length:=by
  rcases Nat.lt_or_ge (Ex l).length 3 with c|c
  ·exact absurd (hfm.2 (hf3 c)) (by decide)
  ·exact c
 obtain⟨eL,rfl⟩:L=Ex l∧e=0:=by
  rcases hr with c|c|c
  ·exact c.2.2
  ·omega
  ·exact absurd hall c.1
 obtain⟨hH,hI,hbeg⟩:=hf2 h3
 rw[←eL] at h3 hH hI hbeg hf1
 have hnx:=Xm hH hf1 hI
 have hsd:=fun {x}=>Nf hH hf1 hI (x:=x)
 have hLl:L.length≤16:=by
  have h1:=Q4 l
  rw[←eL] at h1
  omega
 have hsl:=Ue (i:=l.length) (k:=0) (Nat.le_refl _) (Nat.zero_le _) hx
 rw[JA] at hsl
 have hfl:=N5 (sdN l l.length)
 obtain⟨M,hM⟩: ∃M,M=sdN l l.length:=⟨_,rfl⟩
 rw[←hM] at hO hsl hfl hnx
 rw[←hM]
 have hsd2: ∀x,x∈M↔ ∃a,a<L.length∧x=(Ab L a,Ab L (a+1)):=fun x=>by rw[hM];exact hsd
 have hM0:0<M.length:=by
  obtain⟨x,hx',_⟩:=(hnx 0).1
  exact List.length_pos_of_mem hx'
 have hgetM: ∀j (h:j<M.length),Ab (Cp M) (2*j)=M[j].1∧Ab (Cp M) (2*j+1)=M[j].2:=fun j h=>RP h
 obtain⟨s,hs,es⟩:=(hsd2 M[0]).1 (List.getElem_mem _)
 have e00:Ab (Cp M) 0=Ab L s:=by rw[(hgetM 0 hM0).1,es]
 have hok: ∀j,okP (Ab L j):=fun j=>hq _ (hf1 _ (AD (by omega) j))
 obtain⟨pO,cO,jO⟩:=O
 obtain⟨gO,rfl⟩: ∃g,pO=some g:=Option.ne_none_iff_exists'.1 (fun c=>by have hz:(Cp M).length=0:=hO.nil c;omega)
 refine wP I (Aa (zE (zS I (zI (zE (zA (zB (wP I (wI I I (by decide) (by omega) (wL 0 I I (fun W1 hp=>show Ak W1 gO (0+0*2) [str (Ad (Ab L s).1),str (Ad (Ab L s).2)] from e00▸I4 hp 0 I (by omega)) I ?_))))))))))
 refine AN Tryz.hZ tH I I I I I I I I I I I fun bO=> ?_
 refine wP I (Aa (zE (zH ?_)))
 refine A8 (X:=Nat×Nat×Nat×List Value) (fun x=>[(12, .slice (some ⟨gO,0,none⟩) (Cp M).length cO),(19, .slice (some ⟨x.2.1,0,none⟩) x.1 x.2.2.1)]) (fun x=>[Br gO (Cp M) jO,Br x.2.1 (Ii L s x.1) x.2.2.2])
  (fun x=>1≤x.1∧x.1≤L.length∧(⟨some x.2.1,x.2.2.1,x.2.2.2⟩:Vec).OK 2 x.1 (ptC (Ii L s x.1))) (fun x=>L.length-x.1) (1,bO,1,[]) ⟨Nat.le_refl _,by show 1≤L.length;omega,⟨rfl,(fun h=>by cases h),fun _=>⟨Nat.le_refl _,by simp only[maxLen];omega,rfl⟩⟩⟩ ⟨rfl,rfl,trivial⟩ [] rfl ?_
 rintro⟨m,gV,cV,jV⟩ ⟨hm1,hm2,hV⟩
 have hm1:1≤m:=hm1
 have hm2:m≤L.length:=hm2
 have hV:(⟨some gV,cV,jV⟩:Vec).OK 2 m (ptC (Ii L s m)):=hV
 have hwl:=QU L s m
 have r0:Ab (Ii L s m) 0=Ab L s:=RL (by omega)
 have rl:Ab (Ii L s m) (m-1)=Ab L (s+(m-1)):=RL (by omega)
 have hnx1:=hnx (s+(m-1))
 rw[show s+(m-1)+1=s+m by omega] at hnx1
 obtain⟨F,hF0⟩: ∃F,F=Ab L s:=⟨_,rfl⟩
 obtain⟨T,hT0⟩: ∃T,T=Ab L (s+(m-1)):=⟨_,rfl⟩
 obtain⟨U,hU0⟩: ∃U,U=Ab L (s+m):=⟨_,rfl⟩
 rw[←hF0] at r0
 rw[←hT0] at rl hnx1
 rw[←hU0] at hnx1
 obtain⟨Z,hZ⟩: ∃Z,Z=Ii L s m:=⟨_,rfl⟩
 rw[←hZ] at hV hwl r0 rl
 rw[←hZ]
 refine zH (zA (zB (wP I (wI I I (by decide) (by omega) (wL 0 I I (fun W1 hp=>show Ak W1 gV (0+0*2) [str (Ad F.1),str (Ad F.2)] from r0▸I4 hp 1 I (by omega)) I ?_)))))
 (refine Af Tryz.hZ rfl rfl rfl rfl ?_;intro)
 refine wS 2 I I I (Aa ?_)
 rename_i b20
 refine zE (zA (zA (zB (wP I (Aa (zE (zH ?_)))))))
 refine A8 (X:=Nat×Ag) (fun x=>[(12, .slice (some ⟨gO,0,none⟩) (Cp M).length cO),(19, .slice (some ⟨gV,0,none⟩) m cV),(20,Ah b20),(21, .int .i64 ((2*x.1:Nat):Int))]) (fun x=>[Br gO (Cp M) jO,Br gV Z jV,ptB b20 (Ad x.2.1) (Ad x.2.2)])
  (fun x=>x.1≤M.length∧(x.2=U∨(x.2=F∧ ∀y∈M.take x.1,y.1≠T))) (fun x=>M.length-x.1) (0,F) ⟨Nat.zero_le _, .inr ⟨rfl,fun y hy=>by rw[List.take_zero] at hy;exact absurd hy List.not_mem_nil⟩⟩ ⟨rfl,rfl,rfl,rfl,trivial⟩ [] rfl ?_
 rintro⟨j,C⟩ ⟨hj,hC⟩
 have hj:j≤M.length:=hj
 have hC:C=U∨(C=F∧ ∀y∈M.take j,y.1≠T):=hC
 refine zA (zA (zB (wP I (wP I (wP I (wP I ?_))))))
 by_cases hjt:j<M.length
 ·refine wU 178 true I (dT (by omega)) (Aa ?_)
  obtain⟨g1,g2⟩:=hgetM j hjt
  have hmj:M[j]∈M:=List.getElem_mem _
  have htk:M.take (j+1)=M.take j++[M[j]]:=by rw[List.take_add_one,List.getElem?_eq_getElem hjt];rfl
  generalize M[j]=y at g1 g2 hmj htk
  have rA: ∀ {W1:World} {bs:List Bx},Hp W bs W1→nth bs 0=some (Br gO (Cp M) jO)→Ak W1 gO (0+(2*j)*2) [str (Ad y.1.1),str (Ad y.1.2)]:=fun hp h=>g1▸I4 hp 0 h (by omega)
  have rB: ∀ {W1:World} {bs:List Bx},Hp W bs W1→nth bs 0=some (Br gO (Cp M) jO)→Ak W1 gO (0+(2*j+1)*2) [str (Ad y.2.1),str (Ad y.2.2)]:=fun hp h=>g2▸I4 hp 0 h (by omega)
  have rC: ∀ {W1:World} {bs:List Bx},Hp W bs W1→nth bs 1=some (Br gV Z jV)→Ak W1 gV (0+(m-1)*2) [str (Ad T.1),str (Ad T.2)]:=fun hp h=>rl▸I4 hp 1 h (by omega)
  refine zE (zR I (zI (zE (Ao (B8 (Ao (zU (qP I (qP I ?_)))))))))
  refine qJ ?_
  refine qL 0 I I (fun W1 hp=>rA hp I) I (qP I (qP I (qP I (qP I (qV 188 ((m-1:Nat):Int) I (show w64 ((m:Int)-1)=_ by rw[Au (by omega) (by omega)];omega) ?_)))))
  refine qJ ?_
  refine qL 0 I I (fun W1 hp=>rC hp I) I ?_
  refine Pq (Ad y.1.1) (Ad y.1.2) (Ad T.1) (Ad T.2) I I I I I ?_
  refine qU 191 (decide (y.1=T)) I JW (AQ (Aa (zE ?_)))
  refine A0 I (fun hyT=> ?_) (fun hyT=> ?_)
  ·have hyT:=of_decide_eq_true hyT
   have eU:y.2=U:=hnx1.2 y hmj hyT
   refine zB (wP I (wP I (wP I (wV 194 ((2*j+1:Nat):Int) I (As (by omega)) ?_))))
   refine wJ ?_
   exact wL 0 I I (fun W1 hp=>rB hp I) I (wS 2 I I I (Aa (zN (zE (zB (wP I (wP I (wV 180 ((2*(j+1):Nat):Int) I (show w64 (((2*j:Nat):Int)+2)=_ by rw[Au (by omega) (by omega)];omega) (wP I (Aa (Ay (j+1,y.2) ⟨hjt, .inl eU⟩ (by show M.length-(j+1)<M.length-j;omega) ⟨I,I,I,I,tO⟩ [] I)))))))))))
  ·have hyT:=of_decide_eq_false hyT
   refine zI (zN (zE (zB (wP I (wP I (wV 180 ((2*(j+1):Nat):Int) I (show w64 (((2*j:Nat):Int)+2)=_ by rw[Au (by omega) (by omega)];omega) (wP I (Aa ?_))))))))
   exact Ay (j+1,C) ⟨hjt,by
    rcases hC with c|⟨c,d⟩
    ·exact .inl c
    ·refine .inr ⟨c,fun z hz=> ?_⟩
     rw[htk] at hz
     rcases List.mem_append.1 hz with a|a
     ·exact d z a
     ·obtain rfl:=List.mem_singleton.1 a;exact hyT⟩ (by show M.length-(j+1)<M.length-j;omega) ⟨rfl,rfl,rfl,rfl,trivial⟩ [] rfl
 obtain rfl:j=M.length:=by omega
 obtain rfl:C=U:=by
  rcases hC with c|⟨_,d⟩
  ·exact c
  ·rw[List.take_length] at d
   obtain⟨x,hx',ex⟩:=hnx1.1
   exact absurd ex (d x hx')
 refine wU 178 false I (dF (by omega)) (Aa (zE (zS I (zJ (zK (zK (zL (zE (Ao (Ao (zU (qB 2 I I I (qP I ?_)))))))))))))
 refine qI I I (by decide) (by omega) (qL 0 I I (fun W1 hp=>show Ak W1 gV (0+0*2) [str (Ad F.1),str (Ad F.2)] from r0▸I4 hp 1 I (by omega)) I ?_)
 refine Pq (Ad C.1) (Ad C.2) (Ad F.1) (Ad F.2) I I I I I ?_
 refine qU 201 (decide (C=F)) I JW (AQ (Aa (zE ?_)))
 refine A0 I (fun hCF=> ?_) (fun hCF=> ?_)
 ·have hCF:=of_decide_eq_true hCF
  obtain rfl:m=L.length:=by
   by_cases c:m=L.length
   ·exact c
   ·have:=YY hH (s:=s) (m:=m) (by omega) (by omega)
    rw[←hU0, ←hF0] at this
    exact absurd hCF this
  have hZe:Z=Du s L:=by rw[hZ];exact Vb (Nat.le_of_lt hs)
  have hZm: ∀x∈Z,x∈l:=fun x hx'=>hf1 _ (by rw[hZe] at hx';exact Hy.1 hx')
  have hBg:Yc Z:=fun a ha=>hall.ls (hZm _ (AD (by omega) _)) (hZm _ (AD (by omega) _))
  have hTur:Zp Z L false:= .inl ⟨rfl,hBg,by rw[hZe];exact(hbeg s (Nat.le_of_lt hs)).symm⟩
  have hcV:=(hV.cap (by simp)).1
  rw[←hwl] at hcV
  refine zA (zB (wP I ?_))
  refine wD (X:=Vec) I I (fun W1 hp=>by
   have h:=Ny Z (fun x hx'=>hq _ (hZm x hx')) (by omega) (by omega) L false hTur gV cV hcV W1 (Cs.of_row (Ak.of_bx hp 1 rfl rfl:Ak W1 gV 0 (ptC Z++jV))) (ht.hp hp)
   rw[hwl] at h
   exact h) ?_
  intro V2 hV2
  exact wP I (wP I (wP I (wP I (Aa (zE (zO (zP (zQ (zP (zQ (A7 tH I (.tmp I) (.tmp I) V2 I hV2 fun W1 hp=>Ar.of_hp (hp.pick (l:=[V2.bx 35 (ptC L)]) [3] (by decide) I))))))))))))
 ·have hCF:=of_decide_eq_false hCF
  have hmN:m<L.length:=by
   by_cases c:m=L.length
   ·exfalso
    subst c
    rw[YA, ←hF0] at hU0
    exact hCF hU0
   ·omega
  have ew:Ii L s (m+1)=Z++[C]:=by rw[UK, ←hZ, ←hU0]
  refine zI (zE (zB (wP I (wB 2 I I I ?_))))
  refine AN Tryz.hZ tH I I I I I I I I I I I fun bS=> ?_
  refine BM (V:=⟨some gV,cV,jV⟩) (len:=m) (xs:=ptC Z) 1 3 Tryz.vec22 (m+1) (ptC (Ii L s (m+1))) I I I I I I I I I I I hV I I I (by rw[ew,Cr];rfl) (by simp only[maxLen];omega) (by omega) I ?_
  intro gX cX jX hVX
  exact wP I (Aa (zN (Ay (m+1,gX,cX,jX) ⟨by show 1≤m+1;omega,by show m+1≤L.length;omega,hVX⟩ (by show L.length-(m+1)<L.length-m;omega) ⟨I,I,tO⟩ [_,_] I)))
-- BOXES 6
-- CODE2
theorem S0.len {xs:List PtS} {L:List Ag} {e:Int} (h:S0 xs L e) (hx:xs.length≤8):L.length≤100000:=by
 rcases h with⟨_,rfl,_⟩|⟨_,rfl,_⟩|⟨l,_,rfl,_,h⟩
 ·exact Nat.zero_le _
 ·exact Nat.zero_le _
 ·rw[List.length_map] at hx
  rcases h with⟨_,_,rfl,_⟩|⟨_,_,rfl,_⟩|⟨_,rfl,_⟩
  ·have:=Q4 l;omega
  ·exact Nat.zero_le _
  ·exact Nat.zero_le _
theorem Px (xs:List PtS) (L:List Ag) (e:Int) (hr:S0 xs L e) (hx:xs.length≤8) (hxs: ∀x∈xs,x.1.length≤604∧x.2.length≤604) (p:Option Addr) (cap:Nat) (W:World) (hA:Dm W p xs) (ht:AM W):
  Ai Tryz.prog 38 #[slv p xs.length cap] W (fun V:Vec=> .tuple #[V.val L.length, .int .i64 e]) (fun V=>V.OK 2 L.length (ptC L)) (fun V=>[V.bx 35 (ptC L)]):=by
 have nilR: ∀ {W1:World} {bs:List Bx},Hp W bs W1→Ar W W1 [Vec.empty.bx 35 (ptC [])]:=fun _=>Own.one (fun p hp=>by cases hp) List.nodup_nil
 rcases hr with⟨rfl,rfl,rfl⟩|⟨h1,rfl,rfl⟩|⟨l,hne,rfl,hok,hr⟩
 ·refine Ae (args:=[slv p 0 cap]) Tryz.func38 I I I ?_
  refine zA (zB (wP I (wP I (Aa (zE (zA (zA (zB (wP I (wP I (wP I ?_)))))))))))
  refine Aj 24 (.bool true) I I ?_
  exact Aa (zE (zR I (zA (zB (wP I (wP I (Aa (zE (zO (zP (A7 tH I (.tmp I) (.tmp I) Vec.empty I (Vec.OK.empty 2) fun W1 hp=>nilR hp)))))))))))
 ·have h0:0<xs.length:=by
   cases xs with
   |nil=>exact absurd rfl h1
   |cons x xs=>exact Nat.succ_pos _
  refine Ae (args:=[slv p xs.length cap]) Tryz.func38 I I I ?_
  refine zA (zB (wP I (wP I (Aa (zE (zA (zA (zB (wP I (wP I (wP I (wU 24 false I (beq_eq_false_iff_ne.2 (by omega)) (Aa ?_)))))))))))))
  refine zE (zS I (zI (zE (zA (zA (zB (wP I (wP I (wP I (wU 27 false I (dF (by omega)) (Aa (zE (zS I ?_)))))))))))))
  refine zI (zE (zA (zA (zB (wP I (wC I I (fun W1 hp=>DZ W1 p cap xs (hA.hp hp) (by omega) (fun x hx=>by have:=hxs x hx;omega) (ht.hp hp)) (wP I (Aa (zE (zA (zB (wP I (wP I ?_)))))))))))))
  exact wU 31 true I (bne_iff_ne.2 h1) (Aa (zE (zR I (zA (zB (wP I (wP I (wP I (Aa (zE (zO (zP (A7 tH I (.tmp I) (.tmp I) Vec.empty I (Vec.OK.empty 2) fun W1 hp=>nilR hp)))))))))))))
 ·rw[List.length_map] at hx
  rw[List.length_map]
  exact NK l L e hr hne hx hok p cap W hA.p hA ht
-- BOXES 8
-- CODE2
theorem Md (xs:List PtS) (p:Option Addr) (cap:Nat) (hcap:xs.length≤cap) (W:World) (hA:Dm W p xs) (hn:xs.length<4611686018427387904) (hv:BT W) (ht:AM W):
  Ai Tryz.prog 7 #[slv p xs.length cap] W (fun _:Unit=> .bool true) (fun _=>True) (fun _=>[]):=by
 refine Ae (args:=[slv p xs.length cap]) Tryz.func7 I I I ?_
 refine zA (zB (wP I (Aa (zE (zA (zA (zB (wP I ?_))))))))
 refine AN Tryz.hZ tH I I I I I I I I I I I fun bS=> ?_
 refine BB (capt:=[]) I I I I I I (by kernel_rfl) (fun W1 hp=>P8 [(p,cap,xs)] (by show 1≤100000;decide) (fun y hy=>by
  rw[List.mem_singleton.1 hy];exact hn) bS 0 1 W1 ⟨Ak.of_bx hp 0 rfl rfl,fun y hy=>by
  rw[List.mem_singleton.1 hy];exact hA.hp hp⟩) ?_
 cases hg:([(p,cap,xs)]:List Ls).any K7 with
 |true=>
  refine Aa (zE (zR I (zA (zB ?_))))
  refine BB (capt:=[]) I I I I I I (by kernel_rfl) (fun W1 hp=>Ja W1 (hv.hp hp) (ht.hp hp)) ?_
  exact wP I (Aa (zE (zO (zP (wR1 I I I)))))
 |false=>
 have hg2:JZ xs=false:=by
  have h1:(JZ xs||false)=false:=hg
  rwa [Bool.or_false] at h1
 obtain⟨hx8,hxs⟩:=Vu hg2
 obtain⟨L,e9,hH⟩:=S0.ex xs
 have hL:=hH.len hx8
 refine Aa (zE (zS I (zI (zE (zA (zB (wP I ?_)))))))
 refine wD (X:=List UInt8×Int) I I (fun W1 hp=>PU xs hx8 hxs p cap W1 (hA.hp hp) (hv.hp hp) (ht.hp hp)) ?_
 rintro⟨a,e⟩ ha
 have ha:Lg xs a e:=ha
 iterate 5 refine wP I ?_
 refine Aa (zE (zA (zB (wP I ?_))))
 refine wD (X:=List UInt8×Int) I I (fun W1 hp=>NR xs hx8 hxs p cap W1 (hA.hp hp) (ht.hp hp)) ?_
 rintro⟨b,f⟩ hb
 obtain⟨rfl,rfl⟩:=ha.det hb
 iterate 5 refine wP I ?_
 refine Aa (zE (zA (zB (wP I ?_))))
 refine wD (X:=PtS×Int) I I (fun W1 hp=>M1 xs hx8 hxs p cap W1 (hA.hp hp) (hv.hp hp) (ht.hp hp)) ?_
 rintro⟨⟨cx,cy⟩,g⟩ hc
 have hc:Kz xs (cx,cy) g:=hc
 refine wP I (wP I (wP I ?_))
 (refine Af Tryz.hZ rfl rfl rfl rfl ?_;intro)
 refine wS 1 I I I (wP I (Aa ?_))
 rename_i b7
 refine zE (zA (zB (wP I ?_)))
 refine wD (X:=PtS×Int) I I (fun W1 hp=>N3 xs hx8 hxs p cap W1 (hA.hp hp) (ht.hp hp)) ?_
 rintro⟨⟨dx,dy⟩,h⟩ hd
 have hd:Kz xs (dx,dy) h:=hd
 obtain⟨ed,rfl⟩:=hc.det hd
 obtain⟨rfl,rfl⟩:cx=dx∧cy=dy:=⟨congrArg Prod.fst ed,congrArg Prod.snd ed⟩
 clear ed hd
 refine wP I (wP I (wP I ?_))
 (refine Af Tryz.hZ rfl rfl rfl rfl ?_;intro)
 refine wS 2 I I I (wP I (Aa ?_))
 rename_i b9
 refine Iu (bxs':=[⟨bS,22,[slv p xs.length cap],true,none⟩,ptB b7 cx cy,ptB b9 cx cy]) I ?_
 refine zE (zA (zB (wP I ?_)))
 refine wD (X:=PtS×PtS×Int) I I (fun W1 hp=>Ro xs hx8 hxs p cap hcap W1 (hA.hp hp) (hv.hp hp) (ht.hp hp)) ?_
 rintro⟨⟨px,py⟩,⟨qx,qy⟩,i⟩ hp1
 have hp1:OM xs (px,py) (qx,qy) i:=hp1
 refine wP I (wP I (wP I (wP I ?_)))
 (refine Af Tryz.hZ rfl rfl rfl rfl ?_;intro)
 (refine Af Tryz.hZ rfl rfl rfl rfl ?_;intro)
 refine wS 3 I I I (wS 4 I I I (wP I (Aa ?_)))
 rename_i b11 b12
 refine Iu (bxs':=[⟨bS,22,[slv p xs.length cap],true,none⟩,ptB b7 cx cy,ptB b9 cx cy,ptB b11 px py,ptB b12 qx qy]) I ?_
 refine zE (zA (zB (wP I ?_)))
 refine wD (X:=PtS×PtS×Int) I I (fun W1 hp=>QP xs hx8 hxs p cap W1 (hA.hp hp) (ht.hp hp)) ?_
 rintro⟨⟨rx,ry⟩,⟨sx,sy⟩,j⟩ hp2
 have hp2:OM xs (rx,ry) (sx,sy) j:=hp2
 obtain⟨er,es,rfl⟩:=hp1.det hp2
 obtain⟨rfl,rfl⟩:px=rx∧py=ry:=⟨congrArg Prod.fst er,congrArg Prod.snd er⟩
 obtain⟨rfl,rfl⟩:qx=sx∧qy=sy:=⟨congrArg Prod.fst es,congrArg Prod.snd es⟩
 clear er es hp2
 refine wP I (wP I (wP I (wP I ?_)))
 (refine Af Tryz.hZ rfl rfl rfl rfl ?_;intro)
 (refine Af Tryz.hZ rfl rfl rfl rfl ?_;intro)
 refine wS 5 I I I (wS 6 I I I (wP I (Aa ?_)))
 rename_i b14 b15
 refine Iu (bxs':=[⟨bS,22,[slv p xs.length cap],true,none⟩,ptB b7 cx cy,ptB b9 cx cy,ptB b11 px py,ptB b12 qx qy,ptB b14 px py,ptB b15 qx qy]) I ?_
 refine zE (zA (zB (wP I ?_)))
 refine wD (X:=Vec) I I (fun W1 hp=>OU xs L e9 hH (by omega) hxs p cap W1 (hA.hp hp) (hv.hp hp) (ht.hp hp)) ?_
 intro V1 hV1
 iterate 5 refine wP I ?_
 refine Aa (zE (zA (zB (wP I ?_))))
 refine wD (X:=Vec) I I (fun W1 hp=>Px xs L e9 hH hx8 hxs p cap W1 (hA.hp hp) (ht.hp hp)) ?_
 intro V2 hV2
 iterate 5 refine wP I ?_
 refine Aa (zE (zA (zB (wP I (wP I (wP I (wU 69 true I (by rw[Bj];exact dT I) (wP I (wP I (wP I (wP I (wU 73 true I (beq_iff_eq.2 I) (wP I (wP I ?_))))))))))))))
 refine wB 1 I I I (wB 2 I I I ?_)
 refine AU cx cy cx cy I I I I I ?_
 refine wU 78 true I (dT ⟨I,I⟩) ?_
 iterate 5 refine wP I ?_
 refine wU 83 true I (beq_iff_eq.2 I) (wP I (wP I (wB 3 I I I (wB 5 I I I ?_))))
 refine AU px py px py I I I I I ?_
 refine wU 88 true I (dT ⟨I,I⟩) (wP I (wP I (wB 4 I I I (wB 6 I I I ?_))))
 refine AU qx qy qx qy I I I I I ?_
 refine wU 93 true I (dT ⟨I,I⟩) ?_
 iterate 5 refine wP I ?_
 refine wU 98 true I (beq_iff_eq.2 I) (wP I (wP I (wP I (wP I ?_))))
 refine Aj 101 (slv (Ot V1) L.length (QO V1)) I (QM hV1) ?_
 refine Aj 102 (slv (Ot V2) L.length (QO V2)) I (QM hV2) ?_
 refine BB (capt:=[]) I I I I I I (by kernel_rfl) (fun W1 hp=>JJ L hL (Ot V1) (Ot V2) (QO V1) (QO V2) W1 (RZ hp 7 hV1 I) (RZ hp 8 hV2 I)) ?_
 iterate 5 refine wP I ?_
 refine wU 108 true I (beq_iff_eq.2 I) (wP I (wP I ?_))
 refine BB (capt:=[]) I I I I I I (by kernel_rfl) (fun W1 hp=>Ja W1 (hv.hp hp) (ht.hp hp)) ?_
 exact wP I (wP I (Aa (zE (zO (wR1 I I I)))))
end
section
open Go
noncomputable abbrev laidL:List (String×DataW Unit):=Rows.convexDividedRow.laid
end
section
open Go Go.RowKit Go.Am Go.ChangeShapes Go.WideShapes Go.Deep Go.ChangeAt
set_option maxRecDepth 100000
section
variable {H:Type} {enc:TypeId×Value→H} {w:World} {base:Nat} {spare:Nat→Bool} {held:Bool} {v:Value} {d:DataW H} {ps:List MemPlace}
end
theorem own:ownKnob Tryz.prog.godebug=none:=by kernel_rfl
theorem Un:laidOutB Tryz.prog=true:=by kernel_rfl
theorem Np:(laidL.all fun x=>x.2.handleName?.isNone)=true:=by kernel_rfl
theorem QT {W:World} (h:laidMetH Tryz.prog laidL W):AM W:=by
 rw[MakeChecks.laidMetH_plain _ _ _ Np] at h
 exact Lib.tabIs_of_head (g:=2) (t:=263) (e:=198) (n:=20) (by kernel_rfl) (by kernel_rfl) (by kernel_rfl) (by kernel_rfl) (by kernel_rfl) (by kernel_rfl) h.tail.tail
theorem Y7 {W:World} (hS:W.ShapedOpen Tryz.prog):BT W:=
 cell_of_shapedOpen_int (g:=3) (t:=3) (zero:= #[.int .i64 0]) hS (of_decide_eq_true (by kernel_rfl)) (by kernel_rfl) rfl (by kernel_rfl) (by kernel_rfl) Tryz.underlying3
noncomputable def witW (os:Os):World:=World.laidAll Tryz.prog os laidL
theorem Vg (os:Os) (args:Array Value):laidMetH Tryz.prog laidL ((witW os).forCall (fun _ _=>0) ⟨#[],args,[]⟩).memory:=by
 rw[MakeChecks.laidMetH_plain _ _ _ Np]
 exact laidMet_laidAll _ (by kernel_rfl) (by kernel_rfl)
theorem Sn (os:Os) (args:Array Value):((witW os).forCall (fun _ _=>0) ⟨#[],args,[]⟩).Shaped Tryz.prog:=
 World.shaped_of_ZipB (by kernel_rfl) (by kernel_rfl)
theorem Xr {H:Type} {enc:TypeId×Value→H} (os:Os) {f:FuncId} {fn:Func} {s:OpenSpec} {conds:List PathCond} (args:Array Value)
  (hok:Input.okWideB Tryz.prog ((witW os).forCall (fun _ _=>0) ⟨#[],args,[]⟩) f ⟨#[],args,[]⟩=true)
  (hrow:s.preRow enc Tryz.prog fn conds false laidL ((witW os).forCall (fun _ _=>0) ⟨#[],args,[]⟩).memory args):
  ∃(w:World) (tape:Tape) (i:Input),w.os=os∧(w.forCall tape i).Shaped Tryz.prog∧i.vars=[]∧Input.okWide Tryz.prog (w.forCall tape i) .any w.heap.size f i∧
   s.preRow enc Tryz.prog fn conds false laidL (w.forCall tape i).memory i.args∧({}:Assume).holds Tryz.prog (lone (Frame.enter Tryz.prog f i.args .normal) [] (w.forCall tape i)):=
 ⟨witW os,fun _ _=>0,⟨#[],args,[]⟩,World.laidAll_os _ _ _,Sn os args,(Input.okWide_of_okWideB (base:=0) hok).1,(Input.okWide_of_okWideB hok).2,hrow,by
  simp only[Assume.holds]
  exact⟨by simp,by simp,by simp,by simp,by simp,by simp⟩⟩
end
section
open Go Go.RowKit Go.Am Go.ChangeShapes Go.WideShapes Go.Deep
set_option maxRecDepth 10000
theorem ZB:Tryz.prog.cellsOf 23=1:=by kernel_rfl
theorem QH {H:Type} (d:DataW H):1≤Rows.uptoBulk d:=by
 cases d with
 |lit l=>cases l<;>simp[Rows.uptoBulk]
 |nil=>simp[Rows.uptoBulk]
 |ptr d=>simp[Rows.uptoBulk]
 |slice elems spare=>simp[Rows.uptoBulk]
 |agg parts=>simp[Rows.uptoBulk]
 |iface t d=>simp[Rows.uptoBulk]
 |map entries=>simp[Rows.uptoBulk]
 |held h=>simp[Rows.uptoBulk]
theorem VT {H:Type} (l:List (DataW H)):l.length≤Rows.uptoBulkAll l:=by
 induction l with
 |nil=>simp[Rows.uptoBulkAll]
 |cons x r ih=>have:=QH x;simp only[Rows.uptoBulkAll,List.length_cons];omega
theorem S5 {H:Type} (e s:List (DataW H)):Rows.uptoBulkAll e+1≤Rows.uptoBulk (.slice e s):=by
 simp only[Rows.uptoBulk];omega
theorem SG {w:World} {a:Addr} {v:Value} (h:w.cell? a=some v):a.spot=none∧a.block<w.heap.size:=by
 unfold World.cell? at h
 split at h
 ·rename_i hb
  refine⟨?_, ?_⟩
  ·cases hs:a.spot with
   |none=>rfl
   |some k=>simp[hs] at h
  ·exact(Array.getElem?_eq_some_iff.1 hb).1
 ·cases h
theorem RD {w:World} {base n:Nat} {a:Addr} {cs:List Value} (h:w.cells? base a n=some cs) (hn:0<n):a.spot=none∧Ak w a.block a.off cs:=by
 obtain⟨_,hl,hg⟩:=World.cells?_some h
 have h0:=hg 0 hn
 have hv:cs[0]? =some cs[0]:=List.getElem?_eq_getElem (by omega)
 rw[hv] at h0
 have hp:=SG h0
 have hs:a.spot=none:=by simpa[Addr.add] using hp.1
 refine⟨hs,⟨by simpa[Addr.add] using hp.2,fun j x hx=> ?_⟩⟩
 have hj:j<n:=by rw[←hl];exact(List.getElem?_eq_some_iff.1 hx).1
 rw[←hx, ←hg j hj]
 congr 1
 unfold Addr.add
 split
 ·subst_vars;cases a;simp_all
 ·rfl
theorem Yd {a:Addr} (hs:a.spot=none) (n:Nat):a.add n=⟨a.block,a.off+n,none⟩:=by
 unfold Addr.add
 split
 ·subst_vars;cases a;simp_all
 ·rfl
section
variable {H:Type} {enc:TypeId×Value→H} {w:World} {base:Nat} {spare:Nat→Bool} {held:Bool} {fuel:Nat}
theorem TZ {u:Value} {x:DataW H×List MemPlace} (h:DataW.trod enc Tryz.prog w base spare held fuel 23 [u]=some x): ∃b:List UInt8,u=str b∧Rows.uptoBulk x.1=b.length+1:=by
 obtain⟨s,e,hx,_⟩:=DataW.trod_string Tryz.underlying23 h
 refine⟨s.data.toList, ?_, ?_⟩
 ·have:u= .string s:=by simpa using e
  rw[this]
 ·rw[hx];simp[Rows.uptoBulk]
end
theorem cPt:Tryz.prog.cellsOf 35=2:=by kernel_rfl
section
variable {H:Type} {enc:TypeId×Value→H} {w:World} {base:Nat} {spare:Nat→Bool} {held:Bool} {fuel:Nat} {cs:List Value} {x:DataW H×List MemPlace}
theorem Wy (h:DataW.trod enc Tryz.prog w base spare held fuel 35 cs=some x): ∃f:List UInt8×List UInt8,cs=[str f.1,str f.2]:=by
 obtain⟨xs,m,rfl,hx,hl,hn,hg⟩:=DataW.trod_struct Tryz.underlying35 h
 rw[cPt] at hl
 obtain⟨x0,x1,rfl⟩: ∃x0 x1,xs=[x0,x1]:=by
  match xs,hn with
  |[a,b],_=>exact⟨a,b,rfl⟩
 match cs,hl with
 |[v0,v1],_=>
  have h0:DataW.trod enc Tryz.prog w base spare held m 23 (List.take (Tryz.prog.cellsOf 23) [v0,v1])=some x0:=hg 0 _ rfl
  have h1:DataW.trod enc Tryz.prog w base spare held m 23 (List.take (Tryz.prog.cellsOf 23) [v1])=some x1:=hg 1 _ rfl
  rw[ZB] at h0 h1
  obtain⟨s,rfl,_⟩:=TZ h0
  obtain⟨t,rfl,_⟩:=TZ h1
  exact⟨(s,t),I⟩
theorem UW (h:DataW.trod enc Tryz.prog w base spare held fuel 22 cs=some x):
  ∃(p:Option Addr) (cap:Nat) (l:List (List UInt8×List UInt8)),cs=[.slice p l.length cap]∧Dm w p l∧l.length+1≤Rows.uptoBulk x.1:=by
 rcases open_slice Tryz.underlying22 h with⟨rfl,rfl⟩|⟨a,len,cap,m,n,D,Pl,rfl,_,hl,_,hm,rfl,hx⟩
 ·exact⟨none,0,[],I, .inl I,QH _⟩
 have hlm:len≤m:=by rw[hm];split<;>omega
 obtain⟨S,hS⟩:=choose_lt (α:=List UInt8×List UInt8) (n:=len) (p:=fun i s=>w.cells? base (a.add (i*2)) 2=some [str s.1,str s.2]) fun i hi=>by
  obtain⟨cs',h1,h2⟩:=hx i (by omega)
  rw[cPt] at h1
  obtain⟨f,rfl⟩:=Wy h2
  exact⟨f,h1⟩
 refine⟨some a,cap,(List.range len).map S,by simp, ?_, ?_⟩
 ·by_cases h0:len=0
  ·subst h0;exact .inl rfl
  ·have hs:a.spot=none:=by simpa[Addr.add] using(RD (hS 0 (by omega)) (by decide)).1
   refine .inr ⟨a.block,a.off,by cases a;simp_all,fun i hi=> ?_⟩
   have h1:i<len:=by simpa using hi
   have:=(RD (hS i h1) (by decide)).2
   rw[Yd hs] at this
   simpa using this
 ·have h1:=VT ((List.range len).map D)
  have h2:=S5 ((List.range len).map D) ((List.range (m-len)).map fun j=>D (len+j))
  simp only[List.length_map,List.length_range] at h1⊢
  omega
end
section
variable {H:Type} {enc:TypeId×Value→H} {w:World} {base:Nat} {spare:Nat→Bool} {held:Bool} {v:Value} {d:DataW H} {ps:List MemPlace}
theorem Rh {r:Reach} {b0:Nat} (hv:Value.okWide Tryz.prog w r b0 22 v) (h:DataW.Trod enc Tryz.prog w base spare held 22 v d ps):
  ∃(p:Option Addr) (m:Nat) (l:List PtS),v=slv p l.length m∧Dm w p l∧l.length+1≤Rows.uptoBulk d:=by
 obtain⟨p0,n0,c0,rfl⟩:=okWide_slice Tryz.underlying22 hv
 obtain⟨fuel,hf⟩:=h
 obtain⟨p,cap,l,e,hl,hb⟩:=UW hf
 refine⟨p,cap,l, ?_,hl,hb⟩
 simpa[Value.cells] using e
theorem XZ {p:Option Addr} {n cap:Nat} (h:DataW.Trod enc Tryz.prog w base spare held 22 (slv p n cap) d ps):n≤cap:=by
 obtain⟨fuel,hf⟩:=h
 rcases open_slice Tryz.underlying22 hf with⟨e,_⟩|⟨a,len,cap',m,n',D,Pl,e,_,hl,_⟩
 ·have e:[slv p n cap]=[Value.slice none 0 0]:=by simpa[Value.cells] using e
  cases e
  exact Nat.le_refl _
 ·have e:[slv p n cap]=[Value.slice (some a) len cap']:=by simpa[Value.cells] using e
  cases e
  exact hl
end
end
end Go.Proofs.YthndmdimmgkpgaaGreatDoor
