/-
  Lemmas that the theorem journalDamage_upto_card needs (part 3 of 8).
-/
import Derived.Test.YtidgbjcdppjknaaGreatDoorJdb
set_option maxHeartbeats 64000000
namespace Go.Proofs.YtidgbjcdppjknaaGreatDoor
section
def lv (B:Nat):List Nat->Nat
 |[]=>0
 |x::l=>x+B*lv B l
def lbs (B n:Nat):List Nat:=if _h:n=0\/B<2 then[] else(n%B)::lbs B (n/B)
termination_by n
decreasing_by exact Nat.div_lt_self (by omega) (by omega)
section
variable {B:Nat}
theorem Di:lbs B 0=[]:=by rw[lbs,dif_pos (.inl rfl)]
theorem Gh (hB:2<=B) {n:Nat} (hn:n≠0):lbs B n=(n%B)::lbs B (n/B):=by rw[lbs,dif_neg (by omega)]
theorem JD (hB:2<=B) {n:Nat}:lbs B n=[]↔n=0:=by
 constructor
 ·intro h
  by_cases hn:n=0
  ·exact hn
  ·rw[Gh hB hn] at h;cases h
 ·rintro rfl;exact Di
theorem PY (hB:2<=B) (n:Nat):lv B (lbs B n)=n:=by
 induction n using Nat.strongRecOn with
 |_ n ih=>
  by_cases hn:n=0
  ·subst hn;rw[Di];rfl
  ·rw[Gh hB hn]
   show n%B+B*lv B (lbs B (n/B))=n
   rw[ih _ (Nat.div_lt_self (by omega) (by omega))]
   exact Nat.mod_add_div n B
theorem CC (hB:2<=B) (n:Nat): ∀x∈lbs B n,x<B:=by
 induction n using Nat.strongRecOn with
 |_ n ih=>
  by_cases hn:n=0
  ·subst hn;rw[Di];intro x hx;cases hx
  ·rw[Gh hB hn]
   intro x hx
   rcases List.mem_cons.1 hx with rfl|hx
   ·exact Nat.mod_lt _ (by omega)
   ·exact ih _ (Nat.div_lt_self (by omega) (by omega)) x hx
theorem Hm (hB:2<=B): ∀ {l:List Nat} (h:l≠[]),l.getLast h≠0->lv B l≠0
 |[],h,_=>absurd rfl h
 |[x],_,hl=>by
  show x+B*0≠0
  have:x≠0:=hl
  omega
 |x::y::l,_,hl=>by
  have h:=Hm hB (l:=y::l) (by simp) hl
  show x+B*lv B (y::l)≠0
  have:0<B*lv B (y::l):=Nat.mul_pos (by omega) (by omega)
  omega
theorem WH (hB:2<=B): ∀ {l:List Nat},(∀x∈l,x<B)->(∀h:l≠[],l.getLast h≠0)->lbs B (lv B l)=l
 |[],_,_=>Di
 |x::l,hx,hl=>by
  have hne:=Hm hB (l:=x::l) (by simp) (hl (by simp))
  have hxB:=hx x (List.mem_cons_self ..)
  have hd:lv B (x::l)/B=lv B l:=by
   show(x+B*lv B l)/B=_
   rw[Nat.add_mul_div_left _ _ (by omega),Nat.div_eq_of_lt hxB,Nat.zero_add]
  have hm:lv B (x::l)%B=x:=by
   show(x+B*lv B l)%B=_
   rw[Nat.add_mul_mod_self_left,Nat.mod_eq_of_lt hxB]
  rw[Gh hB hne,hd,hm,WH hB (fun y hy=>hx y (List.mem_cons_of_mem _ hy))]
  intro h
  have:=hl (by simp)
  rw[List.getLast_cons h] at this
  exact this
theorem Yn (hB:2<=B) (n:Nat): ∀h:lbs B n≠[],(lbs B n).getLast h≠0:=by
 induction n using Nat.strongRecOn with
 |_ n ih=>
  intro h
  have hn:n≠0:=fun e=>h ((JD hB).2 e)
  have e:=Gh hB hn
  by_cases hq:n/B=0
  ·have:lbs B n=[n%B]:=by rw[e,hq,Di]
   simp only[this,List.getLast_singleton]
   have:=Nat.mod_add_div n B
   rw[hq] at this
   intro h0;rw[h0] at this;omega
  ·have h2:=ih _ (Nat.div_lt_self (by omega) (by omega)) (fun e=>hq ((JD hB).1 e))
   have h3:(n%B::lbs B (n/B)).getLast (by simp)≠0:=by rw[List.getLast_cons (fun e=>hq ((JD hB).1 e))];exact h2
   simpa only[e] using h3
theorem Fq (a b:List Nat):lv B (a++b)=lv B a+B^a.length*lv B b:=by
 induction a with
 |nil=>simp[lv]
 |cons x a ih=>
  show x+B*lv B (a++b)=x+B*lv B a+B^(a.length+1)*lv B b
  rw[ih,Nat.pow_succ];grind
theorem Gw (hB:2<=B): ∀ {l:List Nat},(∀x∈l,x<B)->lv B l<B^l.length
 |[],_=>by show 0<B^0;simp
 |x::l,h=>by
  have h1:=Gw hB (l:=l) fun y hy=>h y (List.mem_cons_of_mem _ hy)
  have h2:=h x (List.mem_cons_self ..)
  show x+B*lv B l<B^(l.length+1)
  have h3:B*(lv B l+1)<=B*B^l.length:=Nat.mul_le_mul_left _ h1
  rw[Nat.pow_succ,Nat.mul_comm (B^l.length)]
  rw[Nat.mul_add,Nat.mul_one] at h3
  omega
theorem H7 (n:Nat):lv B (List.replicate n 0)=0:=by
 induction n with
 |zero=>rfl
 |succ n ih=>show 0+B*lv B (List.replicate n 0)=0;rw[ih];simp
theorem JW: ∀ {l:List Nat} {i x:Nat} (v:Nat),l[i]? =some x->lv B (l.set i v)+B^i*x=lv B l+B^i*v
 |[],_,_,_,h=>by simp at h
 |y::l,0,x,v,h=>by
  obtain rfl:y=x:=by simpa using h
  show v+B*lv B l+B^0*y=y+B*lv B l+B^0*v
  rw[Nat.pow_zero];omega
 |y::l,i+1,x,v,h=>by
  have:=JW (l:=l) (i:=i) (x:=x) v (by simpa using h)
  show y+B*lv B (l.set i v)+B^(i+1)*x=y+B*lv B l+B^(i+1)*v
  rw[Nat.pow_succ];grind
def lim (l:List Nat) (i:Nat):Nat:=l.getD i 0
theorem ON {l:List Nat} {i x:Nat} (h:l[i]? =some x):lim l i=x:=by simp[lim,List.getD,h]
theorem XC {l:List Nat} {i:Nat} (h:l.length<=i):lim l i=0:=by simp[lim,List.getD,List.getElem?_eq_none h]
theorem Fc {l:List Nat} {i:Nat} (h:i<l.length):l[i]? =some (lim l i):=by
 rw[List.getElem?_eq_getElem h,ON (List.getElem?_eq_getElem h)]
theorem CY (hB:2<=B): ∀ {l:List Nat} (i:Nat),(∀x∈l,x<B)->lim l i=lv B l/B^i%B
 |[],i,_=>by show 0=0/B^i%B;simp
 |x::l,0,h=>by
  show x=(x+B*lv B l)/B^0%B
  rw[Nat.pow_zero,Nat.div_one,Nat.add_mul_mod_self_left,Nat.mod_eq_of_lt (h x (List.mem_cons_self ..))]
 |x::l,i+1,h=>by
  have h1:=CY hB (l:=l) i fun y hy=>h y (List.mem_cons_of_mem _ hy)
  show lim l i=(x+B*lv B l)/B^(i+1)%B
  rw[h1,Nat.pow_succ,Nat.mul_comm (B^i), <-Nat.div_div_eq_div_mul,Nat.add_mul_div_left _ _ (by omega),Nat.div_eq_of_lt (h x (List.mem_cons_self ..)),Nat.zero_add]
theorem C1 (hB:2<=B) (n i:Nat):lim (lbs B n) i=n/B^i%B:=by
 rw[CY hB i (CC hB n),PY hB]
theorem CQ (hB:2<=B) {l:List Nat} (h: ∀x∈l,x<B) (i:Nat):lim l i<B:=by
 rw[CY hB i h];exact Nat.mod_lt _ (by omega)
theorem OY (hB:2<=B) {l:List Nat} (h: ∀x∈l,x<B) (i:Nat):lv B (l.take i)=lv B l%B^i:=by
 have h1:lv B l=lv B (l.take i)+B^(l.take i).length*lv B (l.drop i):=by
  rw[<-Fq,List.take_append_drop]
 by_cases hi:i<=l.length
 ·have hl:(l.take i).length=i:=by rw[List.length_take];omega
  have h2:=Gw hB (l:=l.take i) fun x hx=>h x (List.mem_of_mem_take hx)
  rw[hl] at h1 h2
  rw[h1,Nat.add_mul_mod_self_left,Nat.mod_eq_of_lt h2]
 ·rw[List.take_of_length_le (by omega)]
  have h2:=Gw hB h
  rw[Nat.mod_eq_of_lt (Nat.lt_of_lt_of_le h2 (Nat.pow_le_pow_right (by omega) (by omega)))]
theorem EC (n i:Nat):n%B^(i+1)=n%B^i+B^i*(n/B^i%B):=by
 rw[Nat.pow_succ,Nat.mod_mul]
theorem El (hB:2<=B) {n k:Nat}:(lbs B n).length<=k↔n<B^k:=by
 constructor
 ·intro h
  have h1:=Gw hB (CC hB n)
  rw[PY hB] at h1
  exact Nat.lt_of_lt_of_le h1 (Nat.pow_le_pow_right (by omega) h)
 ·intro h
  rcases Nat.lt_or_ge k (lbs B n).length with hk|hk
  ·exfalso
   have hne:lbs B n≠[]:=fun e=>by rw[e] at hk;exact absurd hk (Nat.not_lt_zero _)
   have hl:=Yn hB n hne
   rw[List.getLast_eq_getElem] at hl
   have h1:=ON (List.getElem?_eq_getElem (l:=lbs B n) (i:=(lbs B n).length-1) (by omega))
   rw[C1 hB,Nat.div_eq_of_lt (Nat.lt_of_lt_of_le h (Nat.pow_le_pow_right (by omega) (by omega)))] at h1
   exact hl (by rw[<-h1];simp)
  ·exact hk
theorem PP (hB:2<=B) {n:Nat} (hn:n≠0):B^((lbs B n).length-1)<=n:=by
 rcases Nat.lt_or_ge n (B^((lbs B n).length-1)) with h|h
 ·have:=(El hB).2 h
  have h0:(lbs B n).length≠0:=fun e=>hn ((JD hB).1 (List.length_eq_zero_iff.1 e))
  omega
 ·exact h
theorem Bq (hB:2<=B) (n:Nat):n<B^(lbs B n).length:=(El hB).1 (Nat.le_refl _)
theorem Yh (hB:2<=B) {l:List Nat} {k:Nat} (hk:k<=l.length) (h: ∀x∈l,x<B) (hz: ∀i,k<=i->i<l.length->l[i]? =some 0) (hl:k=0\/l[k-1]? ≠some 0):l.take k=lbs B (lv B l):=by
 have hd:l.drop k=List.replicate (l.length-k) 0:=by
  apply List.ext_getElem?
  intro i
  rw[List.getElem?_drop]
  by_cases hi:i<l.length-k
  ·rw[hz (k+i) (by omega) (by omega),List.getElem?_replicate_of_lt hi]
  ·rw[List.getElem?_eq_none (by omega),List.getElem?_eq_none (by rw[List.length_replicate];omega)]
 have h1:lv B l=lv B (l.take k):=by
  have:=Fq (B:=B) (l.take k) (l.drop k)
  rw[List.take_append_drop,hd,H7,Nat.mul_zero,Nat.add_zero] at this
  exact this
 rw[h1]
 refine(WH hB (fun x hx=>h x (List.mem_of_mem_take hx)) fun hne=> ?_).symm
 have hk0:k≠0:=fun e=>hne (by rw[e];rfl)
 intro h0
 rcases hl with hl|hl
 ·exact hk0 hl
 ·apply hl
  rw[List.getLast_eq_getElem] at h0
  have hlen:(l.take k).length=k:=by rw[List.length_take];omega
  rw[List.getElem?_eq_getElem (by omega)]
  congr 1
  rw[<-h0,List.getElem_take]
  congr 1;omega
theorem bV (hB:2<=B) {l m:List Nat} (hl: ∀x∈l,x<B) (hm: ∀x∈m,x<B) (hlen:l.length=m.length) (h:lv B l=lv B m):l=m:=by
 apply List.ext_getElem?
 intro i
 by_cases hi:i<l.length
 ·rw[Fc hi,Fc (l:=m) (by omega),CY hB i hl,CY hB i hm,h]
 ·rw[List.getElem?_eq_none (by omega),List.getElem?_eq_none (by omega)]
theorem E6 {l:List Nat} {i v:Nat} (h: ∀x∈l,x<B) (hv:v<B): ∀x∈l.set i v,x<B:=fun x hx=>by
 rcases List.mem_or_eq_of_mem_set hx with hx|rfl
 ·exact h x hx
 ·exact hv
end
end
section
section
variable {B:Nat}
theorem Uz {out:List Nat} {i:Nat} (hl:out.length=i) (s:Nat):lv B (out++[s])=lv B out+B^i*s:=by
 rw[Fq,hl]
 show _+B^i*(s+B*0)=_
 rw[Nat.mul_zero,Nat.add_zero]
theorem NY (n i:Nat):B^i*n=B^i*(n%B)+B^(i+1)*(n/B):=by
 have:=Nat.mod_add_div n B
 rw[Nat.pow_succ,Nat.mul_assoc, <-Nat.mul_add,this]
theorem VI {out:List Nat} {a b c i:Nat} (hl:out.length=i) (h:lv B out+B^i*c=a%B^i+b%B^i) {s:Nat} (hs:s=a/B^i%B+b/B^i%B+c):
  lv B (out++[s%B])+B^(i+1)*(s/B)=a%B^(i+1)+b%B^(i+1):=by
 have h1:=NY (B:=B) s i
 rw[Uz hl,EC a i,EC b i]
 have h2:B^i*s=B^i*(a/B^i%B)+B^i*(b/B^i%B)+B^i*c:=by rw[hs,Nat.mul_add,Nat.mul_add]
 omega
theorem XE (hB:2<=B) {out:List Nat} {a b c m:Nat} (h:lv B out+B^(m+1)*c=a%B^(m+1)+b%B^(m+1)) (ha:a<B^m) (hb:b<B^m):lv B out=a+b:=by
 have h1:B^(m+1)=B^m*B:=Nat.pow_succ ..
 have h2:B^m*2<=B^m*B:=Nat.mul_le_mul_left _ hB
 rw[Nat.mod_eq_of_lt (by omega),Nat.mod_eq_of_lt (by omega)] at h
 rcases Nat.eq_zero_or_pos c with hc|hc
 ·rw[hc,Nat.mul_zero] at h;exact h
 ·have:B^(m+1)*1<=B^(m+1)*c:=Nat.mul_le_mul_left _ hc
  omega
theorem SN {out:List Nat} {a b c i:Nat} (hl:out.length=i) (h:lv B out+b%B^i=a%B^i+B^i*c) {s c':Nat} (hs:s+b/B^i%B+c=a/B^i%B+B*c'):
  lv B (out++[s])+b%B^(i+1)=a%B^(i+1)+B^(i+1)*c':=by
 rw[Uz hl,EC a i,EC b i]
 have h2:B^i*(s+b/B^i%B+c)=B^i*(a/B^i%B+B*c'):=by rw[hs]
 have h3:B^i*(B*c')=B^(i+1)*c':=by rw[Nat.pow_succ,Nat.mul_assoc]
 rw[Nat.mul_add,Nat.mul_add,Nat.mul_add,h3] at h2
 omega
theorem Vj (hB:2<=B) {out:List Nat} {a b c m:Nat} (hl:out.length=m) (ho: ∀x∈out,x<B) (h:lv B out+b%B^m=a%B^m+B^m*c) (ha:a<B^m) (hb:b<=a):lv B out=a-b:=by
 have h0:=Gw hB ho
 rw[hl] at h0
 rw[Nat.mod_eq_of_lt (by omega),Nat.mod_eq_of_lt (by omega)] at h
 rcases Nat.eq_zero_or_pos c with hc|hc
 ·rw[hc,Nat.mul_zero] at h;omega
 ·have:B^m*1<=B^m*c:=Nat.mul_le_mul_left _ hc
  omega
theorem LC {out:List Nat} {s b x c i k o n:Nat} (ho:out[i+k]? =some o) (h:lv B out+B^(i+k)*c=s+B^i*(x*(b%B^k))) (hn:n=o+x*(b/B^k%B)+c):
  lv B (out.set (i+k) (n%B))+B^(i+(k+1))*(n/B)=s+B^i*(x*(b%B^(k+1))):=by
 have h1:=JW (B:=B) (n%B) ho
 have h2:=NY (B:=B) n (i+k)
 have h3:B^(i+k)*n=B^(i+k)*o+B^(i+k)*(x*(b/B^k%B))+B^(i+k)*c:=by rw[hn,Nat.mul_add,Nat.mul_add]
 have h4:B^i*(x*(b%B^(k+1)))=B^i*(x*(b%B^k))+B^(i+k)*(x*(b/B^k%B)):=by
  rw[EC,Nat.pow_add];grind
 rw[Nat.add_assoc] at h2
 omega
theorem QH {x y o c n:Nat} (hx:x<B) (hy:y<B) (ho:o<B) (hc:c<B) (hn:n=o+x*y+c):n/B<B/\n<B*B:=by
 have h1:x*y<=(B-1)*(B-1):=Nat.mul_le_mul (by omega) (by omega)
 have h2:n<B*B:=by
  have h3:B*B=(B-1)*(B-1)+(B-1)+(B-1)+1:=by
   obtain⟨d,rfl⟩: ∃d,B=d+1:=⟨B-1,by omega⟩
   simp only[Nat.add_sub_cancel];grind
  omega
 exact⟨Nat.div_lt_of_lt_mul h2,h2⟩
theorem W9 (hB:2<=B) {out:List Nat} {s b x c i m:Nat} (h:lv B out+B^(i+(m+1))*c=s+B^i*(x*(b%B^(m+1)))) (hb:b<B^m) (hx:x<B) (hs:s<B^(i+m)):lv B out=s+B^i*(x*b)/\c=0:=by
 have h1:B^(m+1)=B^m*B:=Nat.pow_succ ..
 have h2:B^m*2<=B^m*B:=Nat.mul_le_mul_left _ hB
 rw[Nat.mod_eq_of_lt (show b<B^(m+1) by omega)] at h
 have h3:x*b+B^m<=B^(m+1):=by
  have h4:x*b<=x*B^m:=Nat.mul_le_mul_left _ (by omega)
  have h5:(x+1)*B^m<=B*B^m:=Nat.mul_le_mul_right _ hx
  rw[Nat.add_mul,Nat.one_mul,Nat.mul_comm B] at h5
  omega
 have h6:=Nat.mul_le_mul_left (B^i) h3
 rw[Nat.mul_add, <-Nat.pow_add, <-Nat.pow_add] at h6
 rcases Nat.eq_zero_or_pos c with hc|hc
 ·rw[hc,Nat.mul_zero] at h;exact⟨h,hc⟩
 ·have:B^(i+(m+1))*1<=B^(i+(m+1))*c:=Nat.mul_le_mul_left _ hc
  omega
theorem T2 {s a b i:Nat} (h:s=a%B^i*b):s+B^i*(a/B^i%B*b)=a%B^(i+1)*b:=by
 rw[EC,Nat.add_mul,h,Nat.mul_assoc]
theorem Rj (hB:2<=B) {a b i m:Nat} (hb:b<B^m):a%B^i*b<B^(i+m):=by
 have h1:0<B^i:=Nat.pow_pos (by omega)
 have h2:=Nat.mod_lt a h1
 have h3:a%B^i*b<=(B^i-1)*b:=Nat.mul_le_mul_right _ (by omega)
 have h4:B^i*b<B^i*B^m:=Nat.mul_lt_mul_of_pos_left hb h1
 rw[Nat.pow_add]
 have h5:(B^i-1)*b<=B^i*b:=Nat.mul_le_mul_right _ (by omega)
 omega
theorem TD {a d r q i:Nat} (h:a/B^(i+1)=q*d+r) {n:Nat} (hn:n=a/B^i%B+r*B):a/B^i=(q*B+n/d)*d+n%d:=by
 have h1:a/B^(i+1)=a/B^i/B:=by rw[Nat.pow_succ,Nat.div_div_eq_div_mul]
 have h2:=Nat.mod_add_div (a/B^i) B
 have h3:=Nat.mod_add_div n d
 rw[<-h1,h] at h2
 grind
theorem XB {d r x n:Nat} (hx:x<B) (hr:r<d) (hn:n=x+r*B):n/d<B:=by
 apply Nat.div_lt_of_lt_mul
 have:(r+1)*B<=d*B:=Nat.mul_le_mul_right _ hr
 rw[Nat.add_mul,Nat.one_mul] at this
 omega
theorem V9 {u:List Nat} {s v q c j i o n c':Nat} (ho:u[j+i]? =some o) (h:lv B u+B^j*(q*(v%B^i))=s+B^(j+i)*c) (hn:n+c+q*(v/B^i%B)=o+B*c'):
  lv B (u.set (j+i) n)+B^j*(q*(v%B^(i+1)))=s+B^(j+(i+1))*c':=by
 have h1:=JW (B:=B) n ho
 have h2:B^(j+i)*(n+c+q*(v/B^i%B))=B^(j+i)*(o+B*c'):=by rw[hn]
 have h4:B^j*(q*(v%B^(i+1)))=B^j*(q*(v%B^i))+B^(j+i)*(q*(v/B^i%B)):=by
  rw[EC,Nat.pow_add];grind
 have h3:B^(j+i)*(B*c')=B^(j+i+1)*c':=by rw[Nat.pow_succ,Nat.mul_assoc]
 rw[Nat.mul_add,Nat.mul_add,Nat.mul_add,h3] at h2
 rw[show j+(i+1)=j+i+1 by omega]
 omega
theorem UJ {W V top v1 q m:Nat} (hv:v1*m<=V) (hm:0<m) (ht:W/m=top) (h:top<q*v1):W<q*V:=by
 have h1:W<(top+1)*m:=by rw[<-ht];exact Nat.lt_mul_of_div_lt (Nat.lt_succ_self _) hm
 have h2:(top+1)*m<=q*v1*m:=Nat.mul_le_mul_right _ h
 have h3:q*(v1*m)<=q*V:=Nat.mul_le_mul_left _ hv
 rw[Nat.mul_assoc] at h2
 omega
theorem Td {W V q:Nat} (h:W<q*V):W/V<q:=Nat.div_lt_of_lt_mul (by rw[Nat.mul_comm];exact h)
end
end
section
open Go Go.RowKit Go.Am Go.Lib
set_option maxRecDepth 10000
theorem Fs (n m:Nat):((n:Nat):Int).tdiv ((m:Nat):Int)=((n/m:Nat):Int):=rfl
theorem Qp (n m:Nat):((n:Nat):Int).tmod ((m:Nat):Int)=((n%m:Nat):Int):=rfl
theorem Dn {n:Nat} (h:n<9223372036854775808):w64 ((n:Nat):Int)=n:=AC (by omega) (by omega)
theorem Az {k:Nat} (h:k<4611686018427387904):w64 ((k:Int)+1)=((k+1:Nat):Int):=by rw[AC (by omega) (by omega)];omega
theorem B1 {a b:Nat} (h:a+b<9223372036854775808):w64 ((a:Int)+b)=((a+b:Nat):Int):=by rw[AC (by omega) (by omega)];omega
theorem D2 {a b:Nat} (h:a*b<9223372036854775808):w64 ((a:Int)*b)=((a*b:Nat):Int):=by rw[<-Int.natCast_mul];exact Dn h
theorem WS (x:Nat):(((x:Nat):Int)==0)=decide (x=0):=by
 by_cases h:x=0
 ·subst h;rfl
 ·rw[dF h,beq_eq_false_iff_ne];omega
abbrev nI (l:List Nat):List Value:=l.map fun n:Nat=>Value.int .i64 (n:Int)
theorem CH (l:List Nat):(nI l).length=l.length:=List.length_map ..
theorem JO (l:List Nat):(nI l).length=l.length*1:=by rw[CH,Nat.mul_one]
theorem WX {l:List Nat} {i:Nat} (h:i<l.length):(nI l)[i]? =some (.int .i64 (lim l i:Nat)):=by
 rw[List.getElem?_map,Fc h];rfl
theorem Tr (a b:List Nat):nI (a++b)=nI a++nI b:=List.map_append
theorem JC (m:Nat):Du [Value.int .i64 0] m=nI (List.replicate m 0):=by
 induction m with
 |zero=>rfl
 |succ m ih=>
  show[Value.int .i64 0]++Du _ m=nI (0::List.replicate m 0)
  rw[ih];rfl
def AS (W:World) (p:Option Addr) (l:List Nat):Prop:=l=[]\/ ∃b off,p=some ⟨b,off,none⟩/\Al W b off (nI l)
theorem AS.below {W W':World} {p:Option Addr} {l:List Nat} {n:Nat} (h:AS W p l) (hn:W.heap.size<=n) (hb:Below n W W'):AS W' p l:=by
 rcases h with h|⟨b,off,h1,h2⟩
 ·exact .inl h
 ·exact .inr ⟨b,off,h1,h2.below hn hb⟩
theorem AS.hp {W0 W:World} {bxs:List Bx} {p:Option Addr} {l:List Nat} (h:AS W0 p l) (hp:Hp W0 bxs W):AS W p l:=h.below (Nat.le_refl _) hp.below
theorem AS.row {W:World} {p:Option Addr} {l:List Nat} (h:AS W p l) {i:Nat} (hi:i<l.length): ∃b off,p=some ⟨b,off,none⟩/\ ∀k,k<l.length->Al W b (off+k*1) [.int .i64 (lim l k:Nat)]:=by
 rcases h with rfl|⟨b,off,h1,h2⟩
 ·exact absurd hi (Nat.not_lt_zero _)
 ·refine⟨b,off,h1,fun k hk=>⟨h2.lt,fun j u hu=> ?_⟩⟩
  have hj:j=0:=by have:=(List.getElem?_eq_some_iff.1 hu).1;simpa using this
  subst hj
  have:=h2.get k _ (WX hk)
  rw[Nat.mul_one,Nat.add_zero,this]
  simpa using hu
theorem Al.of_ints {W0 W:World} {bxs:List Bx} (hp:Hp W0 bxs W) (k:Nat) {g:Nat} {l:List Nat} {junk:List Value} (hk:nth bxs k=some ⟨g,3,nI l++junk,true,none⟩) {i:Nat} (hi:i<l.length):Al W g (0+i*1) [.int .i64 (lim l i:Nat)]:=by
 have h:=Al.of_bx hp k hk rfl
 refine⟨h.lt,fun j u hu=> ?_⟩
 have hj:j=0:=by have:=(List.getElem?_eq_some_iff.1 hu).1;simpa using this
 subst hj
 have:=h.get i (.int .i64 (lim l i:Nat)) (by
  show(nI l++junk)[i]? =_
  rw[List.getElem?_append_left (by rw[CH];exact hi),WX hi])
 rw[Nat.mul_one,Nat.add_zero,this]
 simpa using hu
theorem Al.of_intsX {W0 W:World} {bxs:List Bx} (hp:Hp W0 bxs W) (k:Nat) {g:Nat} {l:List Nat} {junk:List Value} (hk:nth bxs k=some ⟨g,3,nI l++junk,true,none⟩) {i x:Nat} (hi:i<l.length) (hx:lim l i=x):Al W g (0+i*1) [.int .i64 (x:Nat)]:=by
 have:=Al.of_ints hp k hk hi
 rwa [hx] at this
theorem AS.of_bx {W0 W:World} {bxs:List Bx} (hp:Hp W0 bxs W) (k:Nat) {g:Nat} {l:List Nat} {junk:List Value} (hk:nth bxs k=some ⟨g,3,nI l++junk,true,none⟩):AS W (some ⟨g,0,none⟩) l:=by
 have h:=Al.of_bx hp k hk rfl
 refine .inr ⟨g,0,I,h.lt,fun j u hu=>h.get j u ?_⟩
 show(nI l++junk)[j]? =some u
 rw[List.getElem?_append_left (List.getElem?_eq_some_iff.1 hu).1]
 exact hu
theorem AS.take {W:World} {p:Option Addr} {l:List Nat} (h:AS W p l) (k:Nat):AS W p (l.take k):=by
 rcases h with rfl|⟨b,off,h1,h2⟩
 ·exact .inl (by simp)
 ·refine .inr ⟨b,off,h1,h2.lt,fun j u hu=>h2.get j u ?_⟩
  have hj:=(List.getElem?_eq_some_iff.1 hu).1
  rw[CH,List.length_take] at hj
  rw[List.getElem?_map,List.getElem?_take_of_lt (by omega)] at hu
  rw[List.getElem?_map];exact hu
theorem DU {l:List Nat} {junk:List Value} {i:Nat} (hi:i<l.length) (v:Nat):BD (nI l++junk) (0+i*1) (Value.int .i64 (v:Nat)).cells.toList=nI (l.set i v)++junk:=by
 show(nI l++junk).take (0+i*1)++[Value.int .i64 (v:Nat)]++(nI l++junk).drop (0+i*1+1)=_
 rw[Nat.zero_add,Nat.mul_one,List.take_append_of_le_length (by rw[CH];omega),List.drop_append_of_le_length (by rw[CH];omega)]
 have e:nI (l.set i v)=(nI l).set i (.int .i64 (v:Nat)):=List.map_set ..
 rw[e,List.set_eq_take_append_cons_drop,if_pos (by rw[CH];exact hi)]
 simp
theorem S2 {B:Nat} (hB:2<=B) {l:List Nat} (h: ∀x∈l,x<B):lbs B (lv B l)=l.take (lbs B (lv B l)).length:=by
 have hlen:=(El hB).2 (Gw hB h)
 apply List.ext_getElem?
 intro i
 by_cases hi:i<(lbs B (lv B l)).length
 ·rw[Fc hi,List.getElem?_take_of_lt hi,Fc (by omega),C1 hB,CY hB i h]
 ·rw[List.getElem?_eq_none (by omega),List.getElem?_eq_none (by rw[List.length_take];omega)]
abbrev NV:Type:=Nat×Nat×List Value
abbrev nvV (x:NV):Vec:=⟨some x.1,x.2.1,x.2.2⟩
abbrev FB (x:NV) (n:Nat):Value:=slv (some ⟨x.1,0,none⟩) n x.2.1
abbrev Gu (x:NV) (l:List Nat):Bx:=⟨x.1,3,nI l++x.2.2,true,none⟩
abbrev Ip (x:NV) (l:List Nat):Prop:=(nvV x).OK 1 l.length (nI l)
abbrev bs:Nat:=1000000000
theorem bs2:2<=bs:=by decide
theorem AS.trim {W:World} {p:Option Addr} {l:List Nat} (h:AS W p l) (hl: ∀x∈l,x<bs):AS W p (lbs bs (lv bs l)):=by
 have:=h.take (lbs bs (lv bs l)).length
 rwa [<-S2 bs2 hl] at this
theorem Gl {g cap:Nat} {junk:List Value} {l:List Nat} (h:(⟨some g,cap,junk⟩:Vec).OK 1 l.length (nI l)) (hl: ∀x∈l,x<bs):
  ∃junk',(⟨some g,cap,junk'⟩:Vec).OK 1 (lbs bs (lv bs l)).length (nI (lbs bs (lv bs l)))/\nI l++junk=nI (lbs bs (lv bs l))++junk':=by
 obtain⟨h1,h2,h3⟩:=h.cap (by simp)
 have e:=S2 bs2 hl
 have hlen:=(El bs2).2 (Gw bs2 hl)
 have e2:nI l=nI (lbs bs (lv bs l))++nI (l.drop (lbs bs (lv bs l)).length):=by
  conv=>lhs;rw[<-List.take_append_drop (lbs bs (lv bs l)).length l]
  rw[Tr, <-e]
 have h3':(nI l).length+junk.length=cap*1:=h3
 have h2':cap<=maxLen:=h2
 refine⟨nI (l.drop (lbs bs (lv bs l)).length)++junk,⟨JO _,(fun h=>by cases h),fun _=>⟨by show _<=cap;rw[CH] at h3';omega,h2', ?_⟩⟩, ?_⟩
 ·show(nI (lbs bs (lv bs l))).length+(nI (l.drop (lbs bs (lv bs l)).length)++junk).length=cap*1
  rw[List.length_append,CH,CH,List.length_drop]
  rw[CH] at h3';omega
 ·rw[<-List.append_assoc, <-e2]
theorem IE (W:World) (p:Option Addr) (cap:Nat) (l:List Nat) (i:Nat) (h:AS W p l) (hi:i<4611686018427387904):Ag Tryz.prog 347 #[slv p l.length cap, .int .i64 (i:Nat)] W (fun _:Unit=> .int .i64 (lim l i:Nat)) (fun _=>True) (fun _=>[]):=by
 refine Ab Tryz.func347 I I I<|xb<|wP I<|xa<|xd<|A3 I<|xa<|Av I (fun hc=> ?_) (fun hc=> ?_)
 ·have hl:i<l.length:=by simp at hc;omega
  obtain⟨b,off,rfl,hrow⟩:=h.row hl
  refine xb<|Aa I<|wJ ?_
  exact wL 0 I I (fun W hp=>(hrow i hl).hp hp) I<|wP I<|xc<|zP<|wR1 I I I
 ·have hl:l.length<=i:=by simp at hc;omega
  exact zI<|xe<|wP I<|xc<|wR1 I I (by rw[XC hl];rfl)
theorem Hn (W:World) (p:Option Addr) (cap n:Nat) (l:List Nat) (i x:Nat) (h:AS W p l) (hn:l.length=n) (hi:i<4611686018427387904) (hx:lim l i=x):Ag Tryz.prog 347 #[slv p n cap, .int .i64 (i:Nat)] W (fun _:Unit=> .int .i64 (x:Nat)) (fun _=>True) (fun _=>[]):=by
 subst hn hx
 exact IE W p cap l i h hi
theorem Dd (W:World) (p:Option Addr) (cap:Nat) (l:List Nat) (h:AS W p l) (hl: ∀x∈l,x<bs) (hc:l.length<=cap) (hn:l.length<4611686018427387904):
  Ag Tryz.prog 332 #[slv p l.length cap] W (fun _:Unit=>slv p (lbs bs (lv bs l)).length cap) (fun _=>True) (fun _=>[]):=by
 refine Ab Tryz.func332 I I I<|xb<|wP I<|xa<|zA<|zH<|A6 (X:=Nat) (fun k=>[(0,slv p k cap)]) (fun _=>[]) (fun k=>k<=l.length/\ ∀i,k<=i->i<l.length->l[i]? =some 0) (fun k=>k) l.length ⟨Nat.le_refl _,fun i h1 h2=>by omega⟩ ⟨I,tO⟩ [] I ?_
 rintro k ⟨hk,hz⟩
 have hend:(k=0\/l[k-1]? ≠some 0)->(lbs bs (lv bs l)).length=k:=fun h0=>by
  rw[<-Yh bs2 hk hl hz h0,List.length_take];omega
 by_cases h0:k=0
 ·subst h0
  refine xd<|Ae I<|Ao 5 (.bool false) I I<|wP I<|?_
  iterate 7 refine Ac I I ?_
  exact wP I<|xa<|zS I<|xf<|xe<|Aa I<|xc<|wR1 I I (by rw[hend (.inl I)])
 ·refine xd<|Ae I<|wU 5 true I (by simp;omega)<|?_
  obtain⟨b,off,rfl,hrow⟩:=h.row (show k-1<l.length by omega)
  refine A8 I<|wV 10 ((k-1:Nat):Int) I (by show w64 ((k:Int)-1)=_;rw[AC (by omega) (by omega)];omega)<|wJ ?_
  refine wL 0 I I (fun W hp=>(hrow (k-1) (by omega)).hp hp) I<|Aa I<|xa<|?_
  have e1:((lim l (k-1):Int)==0)=decide (l[k-1]? =some 0):=by
   rw[Fc (show k-1<l.length by omega),WS]
   simp
  refine Av I (fun hc=> ?_) (fun hc=> ?_)
  ·have hz0:l[k-1]? =some 0:=by simpa[e1] using hc
   refine zI<|zE<|zH<|zB<|A3 I<|wV 18 ((k-1:Nat):Int) I (by show w64 ((k:Int)-1)=_;rw[AC (by omega) (by omega)];omega)<|De (k-1) tH I I I I I I I I (by omega) ?_
   refine wP I<|zC<|zN<|Ax (k-1) ⟨by omega,fun i h1 h2=> ?_⟩ (by omega) ⟨I,tO⟩ [] I
   by_cases hi:i=k-1
   ·rw[hi];exact hz0
   ·exact hz i (by omega) h2
  ·have hz0:l[k-1]? ≠some 0:=by simpa[e1] using hc
   exact xf<|xe<|Aa I<|xc<|wR1 I I (by rw[hend (.inr hz0)])
theorem TF (x y c:Nat) (hx:x<bs) (hy:y<bs) (hc:c<=1):Cd Tryz.prog 353 [.int .i64 (x:Nat), .int .i64 (y:Nat), .int .i64 (c:Nat)] (.tuple #[.int .i64 ((x+y+c)%bs:Nat), .int .i64 ((x+y+c)/bs:Nat)]):=by
 intro W
 have hxb:x<1000000000:=hx
 have hyb:y<1000000000:=hy
 have e1:w64 (w64 ((x:Int)+y)+c)=((x+y+c:Nat):Int):=by
  rw[AC (x:=(x:Int)+y) (by omega) (by omega),AC (by omega) (by omega)];omega
 refine Ab Tryz.func353 I I I<|xb<|Aa I<|xg<|A8 I<|wV 12 ((x+y+c:Nat):Int) I e1<|Ks I I I I I (by decide) ?_
 refine A8 I<|wV 18 ((x+y+c:Nat):Int) I e1<|Kt I I I I I (by decide) ?_
 refine Aa I<|xc<|wR2 I I ?_
 have e2:w64 (((x+y+c:Nat):Int).tdiv 1000000000)=(((x+y+c)/bs:Nat):Int):=by
  have:((x+y+c:Nat):Int).tdiv 1000000000=(((x+y+c)/bs:Nat):Int):=rfl
  rw[this]
  exact Dn (Nat.lt_of_le_of_lt (Nat.div_le_self ..) (by omega))
 exact congrArg (fun z=>Value.tuple #[.int .i64 ((x+y+c)%bs:Nat), .int .i64 z]) e2
end
section
open Go Go.Lib
theorem aU (n:Nat):(decDigits n).length=nDigits n:=by
 rw[decDigits_eq,List.length_map,List.length_range]
theorem bP {n i:Nat} (hi:i<(decDigits n).length):(decDigits n)[(decDigits n).length-1-i]? =some (UInt8.ofNat (48+n/10^i%10)):=by
 have hl:=aU n
 rw[hl] at hi⊢
 conv=>lhs;rw[decDigits_eq]
 rw[List.getElem?_map,List.getElem?_range (by omega)]
 show some (dg n (nDigits n-1-(nDigits n-1-i)))=_
 rw[show nDigits n-1-(nDigits n-1-i)=i by omega]
 rfl
theorem Sa (n:Nat):n<10^(decDigits n).length:=by rw[aU];exact lt_pow_nDigits n
def pad (k x:Nat):List UInt8:=List.replicate (k-(decDigits x).length) 48++decDigits x
theorem P7 (q d:Nat) (hq:q≠0) (hd:d<10):decDigits (10*q+d)=decDigits q++[UInt8.ofNat (48+d)]:=by
 rw[decDigits,dif_neg (by omega),show(10*q+d)/10=q by omega,show(10*q+d)%10=d by omega]
theorem WR (k q d:Nat) (hd:d<10) (hx:q<10^k) (hk:1<=k):pad (k+1) (10*q+d)=pad k q++[UInt8.ofNat (48+d)]:=by
 unfold pad
 by_cases hq:q=0
 ·subst hq
  rw[Nat.mul_zero,Nat.zero_add,FK,decDigits,dif_pos hd]
  show List.replicate k 48++_=List.replicate (k-1) 48++[48]++_
  rw[<-List.replicate_succ',show k-1+1=k by omega]
 ·rw[P7 q d hq hd,List.length_append, <-List.append_assoc]
  show List.replicate (k+1-((decDigits q).length+1)) 48++_++_=_
  rw[show k+1-((decDigits q).length+1)=k-(decDigits q).length by omega]
theorem Sp (q:Nat) (hq:q≠0): ∀(k x:Nat),1<=k->x<10^k->decDigits (10^k*q+x)=decDigits q++pad k x
 |0,_,h,_=>by omega
 |1,x,_,hx=>by
  have hx:x<10:=by simpa using hx
  rw[show 10^1*q+x=10*q+x by simp,P7 q x hq hx]
  have e:decDigits x=[UInt8.ofNat (48+x)]:=by rw[decDigits,dif_pos hx]
  unfold pad
  rw[e];rfl
 |k+2,x,_,hx=>by
  have h10:x=10*(x/10)+x%10:=by omega
  have hxk:x/10<10^(k+1):=by rw[Nat.pow_succ] at hx;omega
  have h1:=Sp q hq (k+1) (x/10) (by omega) hxk
  have h2:=WR (k+1) (x/10) (x%10) (Nat.mod_lt _ (by omega)) hxk (by omega)
  rw[<-h10] at h2
  rw[h2, <-List.append_assoc, <-h1]
  have hne:10^(k+1)*q+x/10≠0:=by
   have:0<10^(k+1)*q:=Nat.mul_pos (Nat.pow_pos (by omega)) (by omega)
   omega
  rw[<-P7 _ _ hne (Nat.mod_lt _ (by omega))]
  congr 1
  rw[Nat.pow_succ 10 (k+1)]
  have:10*(10^(k+1)*q)=10^(k+1)*10*q:=by grind
  omega
theorem Wl {w B n i o d:Nat} {l:List Nat} (hw:1<=w) (hB:B=10^w) (hl: ∀x∈l,x<B) (h:lv B l=n%10^i) (ho:l[i/w]? =some o) (hd:d=n/10^i%10):
  o<10^(i%w)/\o+d*10^(i%w)<B/\lv B (l.set (i/w) (o+d*10^(i%w)))=n%10^(i+1):=by
 have hB2:2<=B:=by
  rw[hB]
  have:=Nat.pow_le_pow_right (show 0<10 by omega) hw
  omega
 have hi:10^i=B^(i/w)*10^(i%w):=by
  rw[hB, <-Nat.pow_mul, <-Nat.pow_add,Nat.div_add_mod]
 have hr:0<10^(i%w):=Nat.pow_pos (by omega)
 have ho2:o<10^(i%w):=by
  have h1:=CY hB2 (i/w) hl
  rw[ON ho,h] at h1
  have h2:n%10^i/B^(i/w)<10^(i%w):=Nat.div_lt_of_lt_mul (by rw[<-hi];exact Nat.mod_lt _ (Nat.pow_pos (by omega)))
  have h3:=Nat.mod_le (n%10^i/B^(i/w)) B
  omega
 have hd10:d<10:=by rw[hd];exact Nat.mod_lt _ (by omega)
 refine⟨ho2, ?_, ?_⟩
 ·have h1:(d+1)*10^(i%w)<=10*10^(i%w):=Nat.mul_le_mul_right _ (by omega)
  have h2:10^(i%w+1)<=10^w:=Nat.pow_le_pow_right (by omega) (Nat.mod_lt _ (by omega))
  rw[Nat.pow_succ] at h2
  rw[Nat.add_mul,Nat.one_mul] at h1
  omega
 ·have h1:=JW (B:=B) (o+d*10^(i%w)) ho
  have h2:n%10^(i+1)=n%10^i+10^i*d:=by rw[hd];exact EC n i
  rw[Nat.mul_add] at h1
  have h3:B^(i/w)*(d*10^(i%w))=10^i*d:=by rw[hi];grind
  omega
theorem Ll {B:Nat} (hB:0<B) (k:Nat): ∀x∈List.replicate k 0,x<B:=fun x hx=>by
 rw[List.eq_of_mem_replicate hx];exact hB
def F8 (b:UInt8):Bool:=decide (48<=b.toNat)&&decide (b.toNat<=57)
theorem Ge {b:UInt8}:F8 b=true↔48<=b.toNat/\b.toNat<=57:=by simp[F8]
def D9 (s:List UInt8):Nat:=s.foldl (fun n b=>10*n+(b.toNat-48)) 0
theorem Im (s:List UInt8) (c:UInt8):D9 (s++[c])=10*D9 s+(c.toNat-48):=by simp[D9,List.foldl_append]
structure SL (s:List UInt8):Prop where
 ne:s≠[]
 all: ∀b∈s,F8 b=true
 lead:1<s.length->s[0]? ≠some 48
theorem U3 (n:Nat):SL (decDigits n):=by
 refine⟨Hd n,fun b hb=>Ge.2 (Eu n b hb),fun h=> ?_⟩
 have hn:n≠0:=fun e=>by rw[e,FK] at h;exact absurd h (by decide)
 obtain⟨b,r,h1,h2⟩:=Ph n hn
 rw[h1]
 intro e
 have e:b=48:=by simpa using e
 rw[e] at h2
 exact h2 I
theorem FA (n:Nat):D9 (decDigits n)=n:=by
 induction n using Nat.strongRecOn with
 |_ n ih=>
  by_cases h:n<10
  ·rw[decDigits,dif_pos h]
   show 10*0+((UInt8.ofNat (48+n)).toNat-48)=n
   rw[Dv h];omega
  ·rw[decDigits,dif_neg h,Im,ih (n/10) (by omega),Dv (Nat.mod_lt _ (by omega))]
   omega
theorem Ve {c:UInt8} (h:F8 c=true):UInt8.ofNat (48+(c.toNat-48))=c:=by
 have:=Ge.1 h
 rw[show 48+(c.toNat-48)=c.toNat by omega];simp
theorem GA: ∀(k:Nat) {s:List UInt8},s.length=k->SL s->decDigits (D9 s)=s
 |0,s,h,hs=>absurd (List.length_eq_zero_iff.1 h) hs.ne
 |k+1,s,h,hs=>by
  obtain⟨t,c,rfl⟩: ∃t c,s=t++[c]:=⟨s.dropLast,s.getLast hs.ne,(List.dropLast_concat_getLast hs.ne).symm⟩
  have hc:=hs.all c (by simp)
  have hc2:=Ge.1 hc
  rw[Im]
  by_cases ht:t=[]
  ·subst ht
   show decDigits (10*0+(c.toNat-48))=[c]
   rw[Nat.mul_zero,Nat.zero_add,decDigits,dif_pos (by omega),Ve hc]
  ·have hl:0<t.length:=List.length_pos_iff.2 ht
   have h0:t[0]? ≠some 48:=by
    have:=hs.lead (by rw[List.length_append];simp;omega)
    rwa [List.getElem?_append_left hl] at this
   have hts:SL t:=⟨ht,fun b hb=>hs.all b (List.mem_append_left _ hb),fun _=>h0⟩
   have ih:=GA k (s:=t) (by rw[List.length_append] at h;simpa using h) hts
   have hne:D9 t≠0:=fun e=>by
    rw[e,FK] at ih
    rw[<-ih] at h0
    exact h0 I
   rw[P7 _ _ hne (by omega),ih,Ve hc]
def ldn:List UInt8->Nat
 |[]=>0
 |b::s=>if F8 b then ldn s+1 else 0
theorem ID: ∀s,ldn s<=s.length
 |[]=>Nat.le_refl _
 |b::s=>by
  unfold ldn
  split
  ·have:=ID s;simp;exact this
  ·simp
theorem HO: ∀ {s:List UInt8} {i:Nat},i<ldn s-> ∃b,s[i]? =some b/\F8 b=true
 |[],i,h=>absurd h (Nat.not_lt_zero _)
 |b::s,i,h=>by
  unfold ldn at h
  split at h
  ·rename_i hb
   cases i with
   |zero=>exact⟨b,rfl,hb⟩
   |succ i=>
    obtain⟨c,h1,h2⟩:=HO (s:=s) (i:=i) (by omega)
    exact⟨c,by simpa using h1,h2⟩
  ·exact absurd h (Nat.not_lt_zero _)
theorem J3: ∀ {s:List UInt8} {b:UInt8},s[ldn s]? =some b->F8 b=false
 |[],b,h=>by simp[ldn] at h
 |c::s,b,h=>by
  unfold ldn at h
  split at h
  ·exact J3 (s:=s) (by simpa using h)
  ·rename_i hc
   obtain rfl:c=b:=by simpa using h
   simpa using hc
theorem dI {s:List UInt8} {k:Nat} (h1: ∀i,i<k-> ∃b,s[i]? =some b/\F8 b=true) (h2: ∀b,s[k]? =some b->F8 b=false):ldn s=k:=by
 rcases Nat.lt_trichotomy (ldn s) k with h|h|h
 ·obtain⟨b,hb,hd⟩:=h1 _ h
  rw[J3 hb] at hd;cases hd
 ·exact h
 ·obtain⟨b,hb,hd⟩:=HO h
  rw[h2 b hb] at hd;cases hd
theorem Ux {d r:List UInt8} (hd: ∀b∈d,F8 b=true) (hr: ∀b,r[0]? =some b->F8 b=false):ldn (d++r)=d.length:=by
 refine dI (fun i hi=>⟨d[i],by rw[List.getElem?_append_left hi,List.getElem?_eq_getElem hi],hd _ (List.getElem_mem ..)⟩) fun b hb=> ?_
 rw[List.getElem?_append_right (Nat.le_refl _),Nat.sub_self] at hb
 exact hr b hb
theorem Vd {s:List UInt8}:ldn s=s.length↔ ∀b∈s,F8 b=true:=by
 constructor
 ·intro h b hb
  obtain⟨i,hi,rfl⟩:=List.mem_iff_getElem.1 hb
  obtain⟨c,h1,h2⟩:=HO (s:=s) (i:=i) (by omega)
  rw[List.getElem?_eq_getElem hi] at h1
  cases h1;exact h2
 ·intro h
  have:=Ux (d:=s) (r:=[]) h (fun b hb=>by simp at hb)
  rwa [List.append_nil] at this
def RH (n:Int) (d:Nat):List UInt8:=if d=1 then itoa n else itoa n++47::decDigits d
def B4 (q:Rat):List UInt8:=RH q.num q.den
theorem NN (n:Int):(47:UInt8)∉itoa n:=by
 intro h
 unfold itoa at h
 split at h
 ·rcases List.mem_cons.1 h with h|h
  ·exact absurd h (by decide)
  ·have:=Eu _ _ h;exact absurd this.1 (by decide)
 ·have:=Eu _ _ h;exact absurd this.1 (by decide)
theorem Tb {s:List UInt8} (h:SL s):itoa ((D9 s:Nat):Int)=s:=by
 unfold itoa
 rw[if_neg (by omega)]
 exact GA _ I h
theorem QF {m:Nat} (h:m≠0):itoa (-(m:Int))=45::decDigits m:=by
 unfold itoa
 rw[if_pos (by omega),Int.natAbs_neg,Int.natAbs_natCast]
def HD (n:List UInt8):Option Int:=
 if ldn (trimPrefix n [45])=(trimPrefix n [45]).length/\(trimPrefix n [45])≠[]/\(1<(trimPrefix n [45]).length->(trimPrefix n [45])[0]? ≠some 48)/\ ¬(hasPrefix n [45]=true/\trimPrefix n [45]=[48])
 then some (if hasPrefix n [45] then -(D9 (trimPrefix n [45]):Int) else D9 (trimPrefix n [45])) else none
theorem OT {s:List UInt8} (h:ldn s=s.length/\s≠[]/\(1<s.length->s[0]? ≠some 48)):SL s:=⟨h.2.1,Vd.1 h.1,h.2.2⟩
theorem UI {s:List UInt8} (h:SL s):ldn s=s.length/\s≠[]/\(1<s.length->s[0]? ≠some 48):=⟨Vd.2 h.all,h.ne,h.lead⟩
theorem FG (n:List UInt8):hasPrefix n [45]=decide (n[0]? =some 45):=by
 cases n with
 |nil=>rfl
 |cons b r=>
  unfold hasPrefix
  by_cases h:b=45
  ·subst h;simp[List.isPrefixOf]
  ·have: ¬(45:UInt8)=b:=fun e=>h e.symm
   simp[List.isPrefixOf,this,h]
theorem Ck (n:List UInt8):trimPrefix n [45]=if n[0]? =some 45 then n.drop 1 else n:=by
 unfold trimPrefix
 rw[FG]
 by_cases h:n[0]? =some 45<;>simp[h]
theorem Gz {n:List UInt8} {z:Int}:HD n=some z↔n=itoa z:=by
 constructor
 ·intro h
  unfold HD at h
  split at h
  ·rename_i hc
   have hok:=OT ⟨hc.1,hc.2.1,hc.2.2.1⟩
   have h0:=hc.2.2.2
   rw[FG,Ck] at h h0
   rw[Ck] at hok
   by_cases hm:n[0]? =some 45
   ·rw[if_pos hm] at hok h0 h
    simp only[hm,decide_true,if_true,true_and] at h h0
    have hz:D9 (n.drop 1)≠0:=fun e=>by
     have:=GA _ rfl hok
     rw[e,FK] at this
     exact h0 this.symm
    injection h with h
    rw[<-h,QF hz,GA _ rfl hok]
    cases n with
    |nil=>cases hm
    |cons b r=>
     have:b=45:=by simpa using hm
     rw[this];rfl
   ·rw[if_neg hm] at hok h
    simp only[hm,decide_false,Bool.false_eq_true,if_false] at h
    injection h with h
    rw[<-h,Tb hok]
  ·cases h
 ·rintro rfl
  unfold HD
  rw[Ce]
  have hp:hasPrefix (itoa z) [45]=decide (z<0):=by
   unfold itoa
   split
   ·rename_i h;rw[dT h];rfl
   ·rename_i h
    rw[dF h]
    obtain⟨b,r,hb,h3,h4⟩:=Dc z.toNat
    rw[hb]
    have:(45:UInt8)≠b:=fun e=>by rw[<-e] at h3;exact absurd h3 (by decide)
    simp[hasPrefix,List.isPrefixOf,this]
  rw[hp]
  have ho:=UI (U3 z.natAbs)
  have hneg: ¬(decide (z<0)=true/\decDigits z.natAbs=[48]):=fun h=>by
   have h1:z<0:=of_decide_eq_true h.1
   have h2:=congrArg D9 h.2
   rw[FA] at h2
   have:z.natAbs=0:=h2
   omega
  have hv:(if decide (z<0)=true then -((z.natAbs:Nat):Int) else((z.natAbs:Nat):Int))=z:=by
   by_cases h:z<0
   ·rw[if_pos (dT h)];omega
   ·rw[if_neg (by rw[dF h];decide)];omega
  rw[FA,hv]
  exact if_pos ⟨ho.1,ho.2.1,ho.2.2,hneg⟩
def frm (a:List UInt8):Option (Int×Nat):=match HD (cut a [47]).1 with
 |none=>none
 |some z=>if (cut a [47]).2.2=false then some (z,1) else
  if ldn (cut a [47]).2.1=(cut a [47]).2.1.length/\(cut a [47]).2.1≠[]/\(1<(cut a [47]).2.1.length->(cut a [47]).2.1[0]? ≠some 48)/\(cut a [47]).2.1≠[48]/\(cut a [47]).2.1≠[49] then some (z,D9 (cut a [47]).2.1) else none
theorem L8:decDigits 1=[49]:=by rw[decDigits,dif_pos (by decide)];rfl
theorem Jw {a:List UInt8} {z:Int} {d:Nat}:frm a=some (z,d)↔(d=1/\a=itoa z)\/(2<=d/\a=itoa z++47::decDigits d):=by
 rcases E9 47 a with h|⟨x,y,rfl,hx⟩
 ·unfold frm
  rw[Hs h]
  constructor
  ·intro h2
   cases hi:HD a with
   |none=>simp[hi] at h2
   |some w=>
    simp only[hi,if_true] at h2
    injection h2 with h2
    injection h2 with e1 e2
    subst e1
    exact .inl ⟨e2.symm,Gz.1 hi⟩
  ·rintro(⟨rfl,rfl⟩|⟨_,rfl⟩)
   ·simp[Gz.2 rfl]
   ·exact absurd (List.mem_append_right _ (List.mem_cons_self ..)) h
 ·unfold frm
  rw[IT y hx]
  constructor
  ·intro h2
   cases hi:HD x with
   |none=>simp[hi] at h2
   |some w=>
    simp only[hi,Bool.true_eq_false,if_false] at h2
    split at h2
    ·rename_i hc
     injection h2 with h2
     injection h2 with e1 e2
     subst e1
     have hok:=OT ⟨hc.1,hc.2.1,hc.2.2.1⟩
     have hy:=GA _ rfl hok
     rw[e2] at hy
     refine .inr ⟨?_,by rw[<-Gz.1 hi,hy]⟩
     rcases Nat.lt_or_ge d 2 with h3|h3
     ·have h3:d=0\/d=1:=by omega
      rcases h3 with rfl|rfl
      ·exact absurd hy.symm (by rw[FK];exact hc.2.2.2.1)
      ·exact absurd hy.symm (by rw[L8];exact hc.2.2.2.2)
     ·exact h3
    ·cases h2
  ·rintro(⟨rfl,h2⟩|⟨hd,h2⟩)
   ·exact absurd (show(47:UInt8)∈itoa z by rw[<-h2];exact List.mem_append_right _ (List.mem_cons_self ..)) (NN z)
   ·have h3:x=itoa z/\y=decDigits d:=by
     have e1:=IT y hx
     rw[h2,IT _ (NN z)] at e1
     injection e1 with e1 e2
     injection e2 with e2 _
     exact⟨e1.symm,e2.symm⟩
    obtain⟨rfl,rfl⟩:=h3
    have ho:=UI (U3 d)
    simp only[Gz.2 rfl,Bool.true_eq_false,if_false]
    have n1:decDigits d≠[48]:=fun e=>by have:=congrArg D9 e;rw[FA] at this;have:d=0:=this;omega
    have n2:decDigits d≠[49]:=fun e=>by have:=congrArg D9 e;rw[FA] at this;have:d=1:=this;omega
    rw[FA]
    exact if_pos ⟨ho.1,ho.2.1,ho.2.2,n1,n2⟩
theorem Ji (z:Int) {d:Nat} (hd:1<=d):frm (RH z d)=some (z,d):=by
 rw[Jw]
 unfold RH
 by_cases h:d=1
 ·rw[if_pos h];exact .inl ⟨h,rfl⟩
 ·rw[if_neg h];exact .inr ⟨by omega,rfl⟩
theorem LQ {a:List UInt8} {z:Int} {d:Nat} (h:frm a=some (z,d)):1<=d/\a=RH z d:=by
 rcases Jw.1 h with⟨rfl,h2⟩|⟨h1,h2⟩
 ·exact⟨Nat.le_refl _,h2⟩
 ·exact⟨by omega,by rw[RH,if_neg (by omega)];exact h2⟩
end
section
open Go Go.RowKit Go.Am Go.Lib
set_option maxRecDepth 10000
theorem aP (b:UInt8):decide (((b.toNat:Nat):Int)≥48)=decide (48<=b.toNat):=decide_eq_decide.2 (by omega)
theorem aS (b:UInt8):decide (((b.toNat:Nat):Int)<=57)=decide (b.toNat<=57):=decide_eq_decide.2 (by omega)
theorem He (b c:UInt8):(((b.toNat:Nat):Int)==((c.toNat:Nat):Int))=decide (b=c):=by
 by_cases h:b=c
 ·subst h;simp
 ·rw[dF h,beq_eq_false_iff_ne]
  intro e
  exact h (UInt8.toNat_inj.1 (by omega))
def dgN (s:List UInt8):Nat:=if 1<ldn s/\s[0]? =some 48 then 0 else ldn s
theorem Iz (s:List UInt8) (hs:s.length<4611686018427387904):Cd Tryz.prog 306 [str s] (.int .i64 (dgN s:Nat)):=by
 intro W
 have hle:=ID s
 refine Ab Tryz.func306 I I I<|xb<|wP I<|xg<|wP I<|xa<|F2 (X:=Unit) (fun _=>[(0,str s),(3, .int .i64 (ldn s:Nat))]) (fun _=>[]) (fun _=>True) ?_ ?_
 ·refine zH<|A6 (X:=Nat) (fun i=>[(0,str s),(3, .int .i64 (i:Nat))]) (fun _=>[]) (fun i=>i<=ldn s) (fun i=>s.length-i) 0 (Nat.zero_le _) ⟨I,I,tO⟩ [] I ?_
  intro i hi
  refine xd<|Ae I<|Ao 6 (.int .i64 (s.length:Nat)) I (congrArg (fun n:Nat=>Value.int .i64 (n:Int)) (A5 s))<|wP I<|?_
  cases hb:s[i]? with
  |none=>
   have hl:s.length<=i:=List.getElem?_eq_none_iff.1 hb
   have he:i=ldn s:=by omega
   refine wU 7 false I (dF (by omega))<|wP I<|?_
   iterate 4 refine Ac I I ?_
   refine Aa I<|?_
   iterate 4 refine Ac I I ?_
   exact wP I<|xa<|zS I<|xf<|Au () tO ⟨I,by rw[<-he];rfl,tO⟩ [] I
  |some b=>
   have hl:i<s.length:=(List.getElem?_eq_some_iff.1 hb).1
   have hend:F8 b=false->i=ldn s:=fun h=>by
    rcases Nat.lt_or_ge i (ldn s) with h1|h1
    ·obtain⟨c,h2,h3⟩:=HO h1
     rw[hb] at h2;cases h2
     rw[h] at h3;cases h3
    ·omega
   refine wU 7 true I (dT (by omega))<|Ae I<|CA i tH I I I I I I I I hb<|wP I<|wU 12 (decide (48<=b.toNat)) I (aP b)<|?_
   by_cases h48:48<=b.toNat
   ·refine wU 12 true I (dT h48)<|A3 I<|CA i tH I I I I I I I I hb<|wP I<|wU 18 (decide (b.toNat<=57)) I (aS b)<|?_
    by_cases h57:b.toNat<=57
    ·refine wU 18 true I (dT h57)<|wP I<|xa<|zR I<|zI<|zE<|zH<|zB<|Aa I<|wV 21 ((i+1:Nat):Int) I (Az (by omega))<|wP I<|zC<|zN<|?_
     have hi1:i+1<=ldn s:=by
      rcases Nat.lt_or_ge i (ldn s) with h1|h1
      ·exact h1
      ·have he:i=ldn s:=by omega
       rw[he] at hb
       have:=J3 hb
       rw[Ge.2 ⟨h48,h57⟩] at this;cases this
     exact Ax (i+1) hi1 (by omega) ⟨I,I,tO⟩ [] I
    ·have he:=hend (by simp[F8,h57])
     exact wU 18 false I (dF h57)<|wP I<|xa<|zS I<|xf<|Au () tO ⟨I,by rw[<-he];rfl,tO⟩ [] I
   ·have he:=hend (by simp[F8,h48])
    refine wU 12 false I (dF h48)<|Aa I<|?_
    iterate 4 refine Ac I I ?_
    exact wP I<|xa<|zS I<|xf<|Au () tO ⟨I,by rw[<-he];rfl,tO⟩ [] I
 ·intro _ _
  refine xd<|Aa I<|?_
  by_cases h1:1<ldn s
  ·refine wU 23 true I (dT (by omega)) ?_
   obtain⟨b,hb,_⟩:=HO (s:=s) (i:=0) (by omega)
   refine Aa I<|CA 0 tH I I I I I I I I hb<|wP I<|wU 27 (decide (b=48)) I (He b 48)<|wP I<|xa<|Av I (fun hc=> ?_) (fun hc=> ?_)
   ·have hb48:b=48:=of_decide_eq_true hc
    exact xb<|wP I<|xc<|zP<|wR1 I I (by rw[dgN,if_pos ⟨h1,by rw[hb,hb48]⟩];rfl)
   ·have hb48: ¬b=48:=of_decide_eq_false hc
    exact zI<|xe<|Aa I<|xc<|wR1 I I (by rw[dgN,if_neg (fun h=>hb48 (by have h2:=h.2;rw[hb] at h2;exact Option.some.inj h2))])
  ·refine wU 23 false I (dF (by omega))<|wP I<|?_
   iterate 3 refine Ac I I ?_
   exact wP I<|xa<|zS I<|zI<|xe<|Aa I<|xc<|wR1 I I (by rw[dgN,if_neg (fun h=>h1 h.1)])
theorem Tz (a b:Nat) (ha:a<1000000000000000000) (hb:b<1000000000000000000):Cd Tryz.prog 308 [.int .i64 (a:Nat), .int .i64 (b:Nat)] (.int .i64 (Nat.gcd a b:Nat)):=by
 intro W
 refine Ab Tryz.func308 I I I<|xb<|wP I<|xa<|zA<|zH<|A6 (X:=Nat×Nat) (fun x=>[(0, .int .i64 (x.1:Nat)),(1, .int .i64 (x.2:Nat))]) (fun _=>[]) (fun x=>x.1<1000000000000000000/\x.2<1000000000000000000/\Nat.gcd x.1 x.2=Nat.gcd a b) (fun x=>x.2) (a,b) ⟨ha,hb,I⟩ ⟨I,I,tO⟩ [] I ?_
 rintro⟨x,y⟩ ⟨hx,hy,hg⟩
 have hx:x<1000000000000000000:=hx
 have hy:y<1000000000000000000:=hy
 have hg:Nat.gcd x y=Nat.gcd a b:=hg
 refine xd<|Aa I<|xa<|?_
 by_cases h0:y=0
 ·refine Bi 6 (.bool false) I (congrArg Value.bool (by rw[bne_eq_false_iff_eq];omega)) ?_
  exact zS I<|xf<|xe<|Aa I<|xc<|wR1 I I (by rw[<-hg,h0,Nat.gcd_zero_right])
 ·refine Bi 6 (.bool true) I (congrArg Value.bool (by rw[bne_iff_ne];omega)) ?_
  refine zR I<|zI<|zE<|zH<|zU<|Ct I<|Kc I I I I I (by omega) ?_
  refine AO I<|zD<|zC<|zN<|?_
  have hr:x%y<y:=Nat.mod_lt _ (by omega)
  exact Ax (y,x%y) ⟨hy,Nat.lt_trans hr hy,by show Nat.gcd y (x%y)=_;rw[Nat.gcd_comm, <-Nat.gcd_rec,Nat.gcd_comm];exact hg⟩ hr ⟨I,I,tO⟩ [] I
def F5 (s:List UInt8):Option (Nat×List UInt8):=if ldn s=0\/8<ldn s\/(1<ldn s/\s[0]? =some 48) then none else some (D9 (s.take (ldn s)),s.drop (ldn s))
def Ng (s:List UInt8):Value:=match F5 s with
 |none=> .tuple #[.int .i64 0,str [], .bool false]
 |some (n,r)=> .tuple #[.int .i64 (n:Nat),str r, .bool true]
theorem Qd: ∀(k:Nat) {s:List UInt8},s.length=k->(∀b∈s,F8 b=true)->D9 s<10^k
 |0,s,h,_=>by rw[List.length_eq_zero_iff.1 h];decide
 |k+1,s,h,hs=>by
  have hne:s≠[]:=fun e=>by rw[e] at h;cases h
  obtain⟨t,c,rfl⟩: ∃t c,s=t++[c]:=⟨s.dropLast,s.getLast hne,(List.dropLast_concat_getLast hne).symm⟩
  have h1:=Qd k (s:=t) (by rw[List.length_append] at h;simpa using h) fun b hb=>hs b (List.mem_append_left _ hb)
  have h2:=Ge.1 (hs c (by simp))
  rw[Im,Nat.pow_succ];omega
theorem PI {s:List UInt8} {i:Nat} (hi:i<=ldn s): ∀b∈s.take i,F8 b=true:=fun b hb=>by
 obtain⟨j,hj,rfl⟩:=List.mem_iff_getElem.1 hb
 rw[List.length_take] at hj
 obtain⟨c,h1,h2⟩:=HO (s:=s) (i:=j) (by omega)
 rw[List.getElem_take]
 rw[List.getElem?_eq_getElem (by omega)] at h1
 cases h1;exact h2
def alN (b:UInt8):Prop:=(97<=b.toNat/\b.toNat<=122)\/(65<=b.toNat/\b.toNat<=90)\/(48<=b.toNat/\b.toNat<=57)
instance (b:UInt8):Decidable (alN b):=by unfold alN;infer_instance
def Er (s:List UInt8):Prop:=(∀b∈s,alN b)/\s≠[]/\s.length<=16
instance (s:List UInt8):Decidable (Er s):=by unfold Er;infer_instance
theorem GZ (s:List UInt8) (hs:s.length<=1000000) (W:World):
  Ag Tryz.prog 65 #[str s] W (fun _:Unit=> .bool (decide (Er s))) (fun _=>True) (fun _=>[]):=by
 refine Ab Tryz.func65 I I I<|xb<|wP I<|xa<|xd<|Aa I<|Ao 6 (.int .i64 (s.length:Nat)) I (congrArg (fun n:Nat=>Value.int .i64 (n:Int)) (A5 s))<|wP I<|xa<|zH<|A6 (X:=Nat) (fun i=>[(0,str s),(2, .bool false),(6, .int .i64 (s.length:Nat)),(7, .int .i64 (i:Nat))]) (fun _=>[]) (fun i=>i<=s.length/\ ∀j b,j<i->s[j]? =some b->alN b) (fun i=>s.length-i) 0 ⟨Nat.zero_le _,fun j b h=>absurd h (Nat.not_lt_zero _)⟩ ⟨I,I,I,I,tO⟩ [] I ?_
 rintro i ⟨hi,hall⟩
 have hi:i<=s.length:=hi
 refine xb<|wP I<|?_
 by_cases hlt:i<s.length
 rotate_left
 ·refine wU 8 false I (dF (by omega))<|xa<|zA<|zS I<|xf<|xe<|?_
  have hA: ∀b∈s,alN b:=fun b hb=>by
   obtain⟨j,hj⟩:=List.getElem?_of_mem hb
   exact hall j b (by have:=(List.getElem?_eq_some_iff.1 hj).1;omega) hj
  refine Aa I<|?_
  by_cases h0:s=[]
  ·refine wU 37 false I (show(!((⟨s.toArray⟩:ByteArray).toList==(⟨#[]⟩:ByteArray).toList))=false by rw[AL,AL [],h0];rfl)<|wP I<|?_
   iterate 3 refine Ac I I ?_
   exact Aa I<|xc<|wR1 I I (congrArg Value.bool (dF fun h=>h.2.1 h0).symm)
  refine wU 37 true I (show(!((⟨s.toArray⟩:ByteArray).toList==(⟨#[]⟩:ByteArray).toList))=true by rw[AL,AL []];simpa using h0)<|Ae I<|Ao 40 (.int .i64 (s.length:Nat)) I (congrArg (fun n:Nat=>Value.int .i64 (n:Int)) (A5 s))<|wP I<|?_
  by_cases h16:s.length<=16
  ·exact wU 41 true I (dT (by omega))<|Aa I<|xc<|wR1 I I (congrArg Value.bool (dT ⟨hA,h0,h16⟩).symm)
  ·exact wU 41 false I (dF (by omega))<|Aa I<|xc<|wR1 I I (congrArg Value.bool (dF fun h=>h16 h.2.2).symm)
 refine wU 8 true I (dT (by omega))<|xa<|zA<|zR I<|xh<|?_
 obtain⟨b,hb⟩: ∃b,s[i]? =some b:=⟨s[i],List.getElem?_eq_getElem hlt⟩
 have no: ¬alN b->decide (Er s)=false:=fun h=>dF fun hn=>h (hn.1 b (List.mem_of_getElem? hb))
 refine Aa I<|xg<|Aa I<|CA i tH I I I I I I I I hb<|wP I<|xa<|?_
 try refine EX ?_
 refine Bz (X:=Unit) (fun _=>[(0,str s),(2, .bool false),(6, .int .i64 (s.length:Nat)),(7, .int .i64 (i:Nat)),(34, .bool (decide (¬alN b)))]) (fun _=>[]) (fun _=>True) ?_ ?_
 ·have lf: ∀ {c:Bool},(c=true↔ ¬alN b)->Value.bool c=Value.bool (decide (¬alN b)):=fun {c} h=>congrArg Value.bool (by
   cases c with
   |true=>exact(dT (h.1 rfl)).symm
   |false=>exact(dF fun e=>by have:=h.2 e;cases this).symm)
  refine zB<|Ae I<|B5 15 I (fun h15=> ?_) (fun h15=> ?_)
  ·refine Ac I I ?_
   refine Ac I I ?_
   refine A8 I<|B5 22 I (fun h22=> ?_) (fun h22=> ?_)
   ·refine Ac I I ?_
    refine Ac I I ?_
    refine Bb I<|B5 30 I (fun h30=> ?_) (fun h30=> ?_)
    ·refine Ac I I ?_
     refine Ac I I ?_
     refine Aa I<|zC<|Au () tO ⟨I,I,I,I,congrArg some (lf ?_),tO⟩ [] I
     (try have q15:(b.toNat:Int)<97:=of_decide_eq_true h15)
     (try have q15: ¬(b.toNat:Int)<97:=of_decide_eq_false h15)
     (try have q19:(b.toNat:Int)>122:=of_decide_eq_true h19)
     (try have q19: ¬(b.toNat:Int)>122:=of_decide_eq_false h19)
     (try have q22:(b.toNat:Int)<65:=of_decide_eq_true h22)
     (try have q22: ¬(b.toNat:Int)<65:=of_decide_eq_false h22)
     (try have q27:(b.toNat:Int)>90:=of_decide_eq_true h27)
     (try have q27: ¬(b.toNat:Int)>90:=of_decide_eq_false h27)
     (try have q30:(b.toNat:Int)<48:=of_decide_eq_true h30)
     (try have q30: ¬(b.toNat:Int)<48:=of_decide_eq_false h30)
     first
     |exact⟨fun _=>by unfold alN;omega,fun _=>rfl⟩
     |exact⟨fun h=>Bool.noConfusion h,fun h=>absurd (show alN b by unfold alN;omega) h⟩
     |exact⟨fun h=>by have h:(b.toNat:Int)>57:=of_decide_eq_true h;unfold alN;omega,fun h=>by unfold alN at h;exact dT (by omega)⟩
    ·refine A3 I<|zC<|Au () tO ⟨I,I,I,I,congrArg some (lf ?_),tO⟩ [] I
     (try have q15:(b.toNat:Int)<97:=of_decide_eq_true h15)
     (try have q15: ¬(b.toNat:Int)<97:=of_decide_eq_false h15)
     (try have q19:(b.toNat:Int)>122:=of_decide_eq_true h19)
     (try have q19: ¬(b.toNat:Int)>122:=of_decide_eq_false h19)
     (try have q22:(b.toNat:Int)<65:=of_decide_eq_true h22)
     (try have q22: ¬(b.toNat:Int)<65:=of_decide_eq_false h22)
     (try have q27:(b.toNat:Int)>90:=of_decide_eq_true h27)
     (try have q27: ¬(b.toNat:Int)>90:=of_decide_eq_false h27)
     (try have q30:(b.toNat:Int)<48:=of_decide_eq_true h30)
     (try have q30: ¬(b.toNat:Int)<48:=of_decide_eq_false h30)
     first
     |exact⟨fun _=>by unfold alN;omega,fun _=>rfl⟩
     |exact⟨fun h=>Bool.noConfusion h,fun h=>absurd (show alN b by unfold alN;omega) h⟩
     |exact⟨fun h=>by have h:(b.toNat:Int)>57:=of_decide_eq_true h;unfold alN;omega,fun h=>by unfold alN at h;exact dT (by omega)⟩
   ·refine A8 I<|B5 27 I (fun h27=> ?_) (fun h27=> ?_)
    ·refine Ae I<|B5 30 I (fun h30=> ?_) (fun h30=> ?_)
     ·refine Ac I I ?_
      refine Ac I I ?_
      refine Aa I<|zC<|Au () tO ⟨I,I,I,I,congrArg some (lf ?_),tO⟩ [] I
      (try have q15:(b.toNat:Int)<97:=of_decide_eq_true h15)
      (try have q15: ¬(b.toNat:Int)<97:=of_decide_eq_false h15)
      (try have q19:(b.toNat:Int)>122:=of_decide_eq_true h19)
      (try have q19: ¬(b.toNat:Int)>122:=of_decide_eq_false h19)
      (try have q22:(b.toNat:Int)<65:=of_decide_eq_true h22)
      (try have q22: ¬(b.toNat:Int)<65:=of_decide_eq_false h22)
      (try have q27:(b.toNat:Int)>90:=of_decide_eq_true h27)
      (try have q27: ¬(b.toNat:Int)>90:=of_decide_eq_false h27)
      (try have q30:(b.toNat:Int)<48:=of_decide_eq_true h30)
      (try have q30: ¬(b.toNat:Int)<48:=of_decide_eq_false h30)
      first
      |exact⟨fun _=>by unfold alN;omega,fun _=>rfl⟩
      |exact⟨fun h=>Bool.noConfusion h,fun h=>absurd (show alN b by unfold alN;omega) h⟩
      |exact⟨fun h=>by have h:(b.toNat:Int)>57:=of_decide_eq_true h;unfold alN;omega,fun h=>by unfold alN at h;exact dT (by omega)⟩
     ·refine A3 I<|zC<|Au () tO ⟨I,I,I,I,congrArg some (lf ?_),tO⟩ [] I
      (try have q15:(b.toNat:Int)<97:=of_decide_eq_true h15)
      (try have q15: ¬(b.toNat:Int)<97:=of_decide_eq_false h15)
      (try have q19:(b.toNat:Int)>122:=of_decide_eq_true h19)
      (try have q19: ¬(b.toNat:Int)>122:=of_decide_eq_false h19)
      (try have q22:(b.toNat:Int)<65:=of_decide_eq_true h22)
      (try have q22: ¬(b.toNat:Int)<65:=of_decide_eq_false h22)
      (try have q27:(b.toNat:Int)>90:=of_decide_eq_true h27)
      (try have q27: ¬(b.toNat:Int)>90:=of_decide_eq_false h27)
      (try have q30:(b.toNat:Int)<48:=of_decide_eq_true h30)
      (try have q30: ¬(b.toNat:Int)<48:=of_decide_eq_false h30)
      first
      |exact⟨fun _=>by unfold alN;omega,fun _=>rfl⟩
      |exact⟨fun h=>Bool.noConfusion h,fun h=>absurd (show alN b by unfold alN;omega) h⟩
      |exact⟨fun h=>by have h:(b.toNat:Int)>57:=of_decide_eq_true h;unfold alN;omega,fun h=>by unfold alN at h;exact dT (by omega)⟩
    ·refine Ac I I ?_
     iterate 5 refine Ac I I ?_
     refine wP I<|zC<|Au () tO ⟨I,I,I,I,congrArg some (lf ?_),tO⟩ [] I
     (try have q15:(b.toNat:Int)<97:=of_decide_eq_true h15)
     (try have q15: ¬(b.toNat:Int)<97:=of_decide_eq_false h15)
     (try have q19:(b.toNat:Int)>122:=of_decide_eq_true h19)
     (try have q19: ¬(b.toNat:Int)>122:=of_decide_eq_false h19)
     (try have q22:(b.toNat:Int)<65:=of_decide_eq_true h22)
     (try have q22: ¬(b.toNat:Int)<65:=of_decide_eq_false h22)
     (try have q27:(b.toNat:Int)>90:=of_decide_eq_true h27)
     (try have q27: ¬(b.toNat:Int)>90:=of_decide_eq_false h27)
     (try have q30:(b.toNat:Int)<48:=of_decide_eq_true h30)
     (try have q30: ¬(b.toNat:Int)<48:=of_decide_eq_false h30)
     first
     |exact⟨fun _=>by unfold alN;omega,fun _=>rfl⟩
     |exact⟨fun h=>Bool.noConfusion h,fun h=>absurd (show alN b by unfold alN;omega) h⟩
     |exact⟨fun h=>by have h:(b.toNat:Int)>57:=of_decide_eq_true h;unfold alN;omega,fun h=>by unfold alN at h;exact dT (by omega)⟩
  ·refine A3 I<|B5 19 I (fun h19=> ?_) (fun h19=> ?_)
   ·refine Ae I<|B5 22 I (fun h22=> ?_) (fun h22=> ?_)
    ·refine Ac I I ?_
     refine Ac I I ?_
     refine Bb I<|B5 30 I (fun h30=> ?_) (fun h30=> ?_)
     ·refine Ac I I ?_
      refine Ac I I ?_
      refine Aa I<|zC<|Au () tO ⟨I,I,I,I,congrArg some (lf ?_),tO⟩ [] I
      (try have q15:(b.toNat:Int)<97:=of_decide_eq_true h15)
      (try have q15: ¬(b.toNat:Int)<97:=of_decide_eq_false h15)
      (try have q19:(b.toNat:Int)>122:=of_decide_eq_true h19)
      (try have q19: ¬(b.toNat:Int)>122:=of_decide_eq_false h19)
      (try have q22:(b.toNat:Int)<65:=of_decide_eq_true h22)
      (try have q22: ¬(b.toNat:Int)<65:=of_decide_eq_false h22)
      (try have q27:(b.toNat:Int)>90:=of_decide_eq_true h27)
      (try have q27: ¬(b.toNat:Int)>90:=of_decide_eq_false h27)
      (try have q30:(b.toNat:Int)<48:=of_decide_eq_true h30)
      (try have q30: ¬(b.toNat:Int)<48:=of_decide_eq_false h30)
      first
      |exact⟨fun _=>by unfold alN;omega,fun _=>rfl⟩
      |exact⟨fun h=>Bool.noConfusion h,fun h=>absurd (show alN b by unfold alN;omega) h⟩
      |exact⟨fun h=>by have h:(b.toNat:Int)>57:=of_decide_eq_true h;unfold alN;omega,fun h=>by unfold alN at h;exact dT (by omega)⟩
     ·refine A3 I<|zC<|Au () tO ⟨I,I,I,I,congrArg some (lf ?_),tO⟩ [] I
      (try have q15:(b.toNat:Int)<97:=of_decide_eq_true h15)
      (try have q15: ¬(b.toNat:Int)<97:=of_decide_eq_false h15)
      (try have q19:(b.toNat:Int)>122:=of_decide_eq_true h19)
      (try have q19: ¬(b.toNat:Int)>122:=of_decide_eq_false h19)
      (try have q22:(b.toNat:Int)<65:=of_decide_eq_true h22)
      (try have q22: ¬(b.toNat:Int)<65:=of_decide_eq_false h22)
      (try have q27:(b.toNat:Int)>90:=of_decide_eq_true h27)
      (try have q27: ¬(b.toNat:Int)>90:=of_decide_eq_false h27)
      (try have q30:(b.toNat:Int)<48:=of_decide_eq_true h30)
      (try have q30: ¬(b.toNat:Int)<48:=of_decide_eq_false h30)
      first
      |exact⟨fun _=>by unfold alN;omega,fun _=>rfl⟩
      |exact⟨fun h=>Bool.noConfusion h,fun h=>absurd (show alN b by unfold alN;omega) h⟩
      |exact⟨fun h=>by have h:(b.toNat:Int)>57:=of_decide_eq_true h;unfold alN;omega,fun h=>by unfold alN at h;exact dT (by omega)⟩
    ·refine A8 I<|B5 27 I (fun h27=> ?_) (fun h27=> ?_)
     ·refine Ae I<|B5 30 I (fun h30=> ?_) (fun h30=> ?_)
      ·refine Ac I I ?_
       refine Ac I I ?_
       refine Aa I<|zC<|Au () tO ⟨I,I,I,I,congrArg some (lf ?_),tO⟩ [] I
       (try have q15:(b.toNat:Int)<97:=of_decide_eq_true h15)
       (try have q15: ¬(b.toNat:Int)<97:=of_decide_eq_false h15)
       (try have q19:(b.toNat:Int)>122:=of_decide_eq_true h19)
       (try have q19: ¬(b.toNat:Int)>122:=of_decide_eq_false h19)
       (try have q22:(b.toNat:Int)<65:=of_decide_eq_true h22)
       (try have q22: ¬(b.toNat:Int)<65:=of_decide_eq_false h22)
       (try have q27:(b.toNat:Int)>90:=of_decide_eq_true h27)
       (try have q27: ¬(b.toNat:Int)>90:=of_decide_eq_false h27)
       (try have q30:(b.toNat:Int)<48:=of_decide_eq_true h30)
       (try have q30: ¬(b.toNat:Int)<48:=of_decide_eq_false h30)
       first
       |exact⟨fun _=>by unfold alN;omega,fun _=>rfl⟩
       |exact⟨fun h=>Bool.noConfusion h,fun h=>absurd (show alN b by unfold alN;omega) h⟩
       |exact⟨fun h=>by have h:(b.toNat:Int)>57:=of_decide_eq_true h;unfold alN;omega,fun h=>by unfold alN at h;exact dT (by omega)⟩
      ·refine A3 I<|zC<|Au () tO ⟨I,I,I,I,congrArg some (lf ?_),tO⟩ [] I
       (try have q15:(b.toNat:Int)<97:=of_decide_eq_true h15)
       (try have q15: ¬(b.toNat:Int)<97:=of_decide_eq_false h15)
       (try have q19:(b.toNat:Int)>122:=of_decide_eq_true h19)
       (try have q19: ¬(b.toNat:Int)>122:=of_decide_eq_false h19)
       (try have q22:(b.toNat:Int)<65:=of_decide_eq_true h22)
       (try have q22: ¬(b.toNat:Int)<65:=of_decide_eq_false h22)
       (try have q27:(b.toNat:Int)>90:=of_decide_eq_true h27)
       (try have q27: ¬(b.toNat:Int)>90:=of_decide_eq_false h27)
       (try have q30:(b.toNat:Int)<48:=of_decide_eq_true h30)
       (try have q30: ¬(b.toNat:Int)<48:=of_decide_eq_false h30)
       first
       |exact⟨fun _=>by unfold alN;omega,fun _=>rfl⟩
       |exact⟨fun h=>Bool.noConfusion h,fun h=>absurd (show alN b by unfold alN;omega) h⟩
       |exact⟨fun h=>by have h:(b.toNat:Int)>57:=of_decide_eq_true h;unfold alN;omega,fun h=>by unfold alN at h;exact dT (by omega)⟩
     ·refine Ac I I ?_
      iterate 5 refine Ac I I ?_
      refine wP I<|zC<|Au () tO ⟨I,I,I,I,congrArg some (lf ?_),tO⟩ [] I
      (try have q15:(b.toNat:Int)<97:=of_decide_eq_true h15)
      (try have q15: ¬(b.toNat:Int)<97:=of_decide_eq_false h15)
      (try have q19:(b.toNat:Int)>122:=of_decide_eq_true h19)
      (try have q19: ¬(b.toNat:Int)>122:=of_decide_eq_false h19)
      (try have q22:(b.toNat:Int)<65:=of_decide_eq_true h22)
      (try have q22: ¬(b.toNat:Int)<65:=of_decide_eq_false h22)
      (try have q27:(b.toNat:Int)>90:=of_decide_eq_true h27)
      (try have q27: ¬(b.toNat:Int)>90:=of_decide_eq_false h27)
      (try have q30:(b.toNat:Int)<48:=of_decide_eq_true h30)
      (try have q30: ¬(b.toNat:Int)<48:=of_decide_eq_false h30)
      first
      |exact⟨fun _=>by unfold alN;omega,fun _=>rfl⟩
      |exact⟨fun h=>Bool.noConfusion h,fun h=>absurd (show alN b by unfold alN;omega) h⟩
      |exact⟨fun h=>by have h:(b.toNat:Int)>57:=of_decide_eq_true h;unfold alN;omega,fun h=>by unfold alN at h;exact dT (by omega)⟩
   ·refine Ac I I ?_
    iterate 5 refine Ac I I ?_
    refine Aa I<|?_
    iterate 6 refine Ac I I ?_
    refine wP I<|zC<|Au () tO ⟨I,I,I,I,congrArg some (lf ?_),tO⟩ [] I
    (try have q15:(b.toNat:Int)<97:=of_decide_eq_true h15)
    (try have q15: ¬(b.toNat:Int)<97:=of_decide_eq_false h15)
    (try have q19:(b.toNat:Int)>122:=of_decide_eq_true h19)
    (try have q19: ¬(b.toNat:Int)>122:=of_decide_eq_false h19)
    (try have q22:(b.toNat:Int)<65:=of_decide_eq_true h22)
    (try have q22: ¬(b.toNat:Int)<65:=of_decide_eq_false h22)
    (try have q27:(b.toNat:Int)>90:=of_decide_eq_true h27)
    (try have q27: ¬(b.toNat:Int)>90:=of_decide_eq_false h27)
    (try have q30:(b.toNat:Int)<48:=of_decide_eq_true h30)
    (try have q30: ¬(b.toNat:Int)<48:=of_decide_eq_false h30)
    first
    |exact⟨fun _=>by unfold alN;omega,fun _=>rfl⟩
    |exact⟨fun h=>Bool.noConfusion h,fun h=>absurd (show alN b by unfold alN;omega) h⟩
    |exact⟨fun h=>by have h:(b.toNat:Int)>57:=of_decide_eq_true h;unfold alN;omega,fun h=>by unfold alN at h;exact dT (by omega)⟩
 intro _ _
 refine Av I (fun h=> ?_) (fun h=> ?_)
 ·have h: ¬alN b:=of_decide_eq_true h
  exact xb<|wP I<|xc<|xi<|wR1 I I (congrArg Value.bool (no h).symm)
 have h:alN b:=Classical.byContradiction fun e=>by have h':decide (¬alN b)=false:=h;exact of_decide_eq_false h' e
 refine zI<|xj<|wP I<|wV 35 ((i+1:Nat):Int) I (Az (by omega))<|wP I<|zC<|?_
 exact Ax (i+1) ⟨hlt,fun j c hj hc=>by
  by_cases e:j=i
  ·subst e;rw[hb] at hc;injection hc with hc;subst hc;exact h
  ·exact hall j c (by omega) hc⟩ (by show s.length-(i+1)<s.length-i;omega) ⟨I,I,I,I,tO⟩ [] I
theorem RZ (s:List UInt8) (hs:s.length<=1000000) (W:World):
  Ag Tryz.prog 39 #[str s] W (fun _:Unit=> .int .i64 (if Er s then 0 else 13)) (fun _=>True) (fun _=>[]):=by
 refine Ab Tryz.func39 I I I<|xb<|wP I<|xa<|xd<|wP I<|wC I I (fun W1 _=>GZ s hs W1)<|?_
 by_cases h:Er s
 ·exact wU 4 true I (dT h)<|wP I<|xa<|zS I<|zI<|xe<|wP I<|xc<|wR1 I I (by rw[if_pos h])
 ·exact wU 4 false I (dF h)<|wP I<|xa<|zR I<|xb<|wP I<|xc<|zP<|wR1 I I (by rw[if_neg h])
theorem FM (k:Int) (W:World):
  Ag Tryz.prog 20 #[.int .i64 k] W (fun _:Unit=> .bool (decide (1<=k/\k<=6))) (fun _=>True) (fun _=>[]):=by
 refine Ab Tryz.func20 I I I<|xb<|wP I<|xg<|Aa I<|?_
 by_cases h1:1<=k
 ·refine wU 4 true I (dT h1)<|Ae I<|?_
  by_cases h2:k<=6
  ·exact wU 7 true I (dT h2)<|Aa I<|xc<|wR1 I I (congrArg Value.bool (dT ⟨h1,h2⟩).symm)
  ·exact wU 7 false I (dF h2)<|Aa I<|xc<|wR1 I I (congrArg Value.bool (dF fun h=>h2 h.2).symm)
 ·refine wU 4 false I (dF h1)<|wP I<|?_
  iterate 2 refine Ac I I ?_
  exact Aa I<|xc<|wR1 I I (congrArg Value.bool (dF fun h=>h1 h.1).symm)
def HT (most:Int) (s:List UInt8):Int:=if s=[]\/trimS s AJ≠[]\/1<s.length/\s[0]? =some 48 then 3 else match atoiAll s with
 | .ok n=>if n≥most then 2 else 0
 |_=>2
def TB (most:Int) (s:List UInt8):Int:=if HT most s=0 then(match atoiAll s with| .ok n=>n|_=>0) else 0
theorem X2 {most:Int} {s:List UInt8} (h:s=[]\/trimS s AJ≠[]\/1<s.length/\s[0]? =some 48):HT most s=3/\TB most s=0:=by
 have e:HT most s=3:=by unfold HT;rw[if_pos h]
 exact⟨e,by unfold TB;rw[e];rfl⟩
theorem YY {most:Int} {s:List UInt8} (h: ¬(s=[]\/trimS s AJ≠[]\/1<s.length/\s[0]? =some 48)) (hn: ∀n,atoiAll s≠ .ok n):HT most s=2/\TB most s=0:=by
 have e:HT most s=2:=by
  unfold HT
  rw[if_neg h]
  split
  ·rename_i n hm
   exact absurd hm (hn n)
  ·rfl
 exact⟨e,by unfold TB;rw[e];rfl⟩
theorem Z2 {most:Int} {s:List UInt8} {n:Int} (h: ¬(s=[]\/trimS s AJ≠[]\/1<s.length/\s[0]? =some 48)) (hn:atoiAll s= .ok n):HT most s=(if n≥most then 2 else 0)/\TB most s=(if n≥most then 0 else n):=by
 have e:HT most s=if n≥most then 2 else 0:=by
  unfold HT
  rw[if_neg h,hn]
 refine⟨e, ?_⟩
 unfold TB
 rw[e,hn]
 by_cases hm:n≥most
 ·rw[if_pos hm,if_pos hm];rfl
 ·rw[if_neg hm,if_neg hm];rfl
theorem J6 (s:List UInt8) (most:Int) (hs:s.length<=1000000) (W:World) (hv:AQ W):
  Ag Tryz.prog 37 #[str s, .int .i64 most] W (fun _:Unit=> .tuple #[.int .i64 (TB most s), .int .i64 (HT most s)]) (fun _=>True) (fun _=>[]):=by
 refine Ab Tryz.func37 I I I<|xb<|Aa I<|xa<|zA<|zA<|Bz (X:=Unit) (fun _=>[(0,str s),(1, .int .i64 most),(4, .int .i64 0),(5, .int .i64 0),(24, .bool (decide (s=[]\/trimS s AJ≠[]\/1<s.length/\s[0]? =some 48)))]) (fun _=>[]) (fun _=>True) ?_ ?_
 ·refine zB<|Aa I<|?_
  by_cases h0:s=[]
  ·refine wU 9 true I (show((⟨s.toArray⟩:ByteArray).toList==(⟨#[]⟩:ByteArray).toList)=true by rw[AL,AL [],h0];rfl)<|wP I<|?_
   iterate 3 refine Ac I I ?_
   refine Aa I<|?_
   iterate 8 refine Ac I I ?_
   exact wP I<|zC<|Au () tO ⟨I,I,I,I,congrArg (fun c=>some (Value.bool c)) (dT (.inl h0)).symm,tO⟩ [] I
  refine wU 9 false I (show((⟨s.toArray⟩:ByteArray).toList==(⟨#[]⟩:ByteArray).toList)=false by rw[AL,AL []];simpa using h0)<|Aa I<|wC I I (fun W1 _=>I9 s (by omega) W1)<|wP I<|?_
  by_cases h1:trimS s AJ=[]
  rotate_left
  ·refine wU 13 true I (show(!((⟨(trimS s AJ).toArray⟩:ByteArray).toList==(⟨#[]⟩:ByteArray).toList))=true by rw[AL,AL []];simpa using h1)<|Aa I<|?_
   iterate 8 refine Ac I I ?_
   exact wP I<|zC<|Au () tO ⟨I,I,I,I,congrArg (fun c=>some (Value.bool c)) (dT (.inr (.inl h1))).symm,tO⟩ [] I
  refine wU 13 false I (show(!((⟨(trimS s AJ).toArray⟩:ByteArray).toList==(⟨#[]⟩:ByteArray).toList))=false by rw[AL,AL [],h1];rfl)<|A3 I<|Ao 17 (.int .i64 (s.length:Nat)) I (congrArg (fun n:Nat=>Value.int .i64 (n:Int)) (A5 s))<|wP I<|?_
  by_cases h2:1<s.length
  rotate_left
  ·refine wU 18 false I (dF (by omega))<|wP I<|?_
   iterate 3 refine Ac I I ?_
   exact Aa I<|zC<|Au () tO ⟨I,I,I,I,congrArg (fun c=>some (Value.bool c)) (dF fun h=>h.elim h0 fun h=>h.elim (fun h=>h h1) fun h=>h2 h.1).symm,tO⟩ [] I
  refine wU 18 true I (dT (by omega)) ?_
  obtain⟨b,hb⟩: ∃b,s[0]? =some b:=⟨s[0],List.getElem?_eq_getElem (by omega)⟩
  refine Aa I<|CA 0 tH I I I I I I I I hb<|wP I<|?_
  by_cases h3:b=48
  ·exact wU 22 true I ((He b 48).trans (dT h3))<|Aa I<|zC<|Au () tO ⟨I,I,I,I,congrArg (fun c=>some (Value.bool c)) (dT (.inr (.inr ⟨h2,by rw[hb,h3]⟩))).symm,tO⟩ [] I
  ·exact wU 22 false I ((He b 48).trans (dF h3))<|Aa I<|zC<|Au () tO ⟨I,I,I,I,congrArg (fun c=>some (Value.bool c)) (dF fun h=>h.elim h0 fun h=>h.elim (fun h=>h h1) fun h=>h3 (by have:=h.2;rw[hb] at this;injection this)).symm,tO⟩ [] I
 intro _ _
 refine Av I (fun hx=> ?_) (fun hx=> ?_)
 ·have hx:s=[]\/trimS s AJ≠[]\/1<s.length/\s[0]? =some 48:=of_decide_eq_true hx
  obtain⟨e1,e2⟩:=X2 (most:=most) hx
  exact xb<|Aa I<|xc<|zP<|wR2 I I (by rw[e1,e2])
 have hx: ¬(s=[]\/trimS s AJ≠[]\/1<s.length/\s[0]? =some 48):=of_decide_eq_false hx
 refine zI<|xe<|wP I<|wD (X:=Int×Value) I I (fun W hp=>EA W s hs (hv.hp hp)) ?_
 rintro⟨z,ev⟩ hz
 refine A8 I<|zC<|?_
 rcases hz with⟨n,hn,e⟩|⟨hno,a,ha⟩
 rotate_left
 ·obtain⟨e1,e2⟩:=YY (most:=most) hx hno
  change ev=_ at ha
  subst ha
  refine zE<|xd<|wP rfl<|Bf (v:= .bool true) rfl rfl (fun c e=>by cases e) (fun ρ W hρ _=>C4 Tryz.underlying104 rfl (hρ _ _ rfl) (hρ _ _ rfl) (.inr ⟨⟨_,_,rfl⟩,rfl⟩) W) ?_
  refine wP I ?_
  iterate 3 refine Ac I I ?_
  exact wP I<|xa<|zR I<|xb<|Aa I<|xc<|zP<|wR2 I I (by rw[e1,e2])
 obtain⟨e1,e2⟩:=Z2 (most:=most) hx hn
 injection e with e3 e4
 subst e3 e4
 refine zE<|xd<|wP rfl<|Bf (v:= .bool false) rfl rfl (fun c e=>by cases e) (fun ρ W hρ _=>C4 Tryz.underlying104 rfl (hρ _ _ rfl) (hρ _ _ rfl) (.inl ⟨rfl,rfl⟩) W) ?_
 refine A3 I<|?_
 by_cases h4:z≥most
 ·rw[if_pos h4] at e1 e2
  exact wU 35 true I (dT h4)<|wP I<|xa<|zR I<|xb<|Aa I<|xc<|zP<|wR2 I I (by rw[e1,e2])
 ·rw[if_neg h4] at e1 e2
  exact wU 35 false I (dF h4)<|wP I<|xa<|zS I<|zI<|xe<|Ae I<|xc<|wR2 I I (by rw[e1,e2])
theorem VL {s:List UInt8} {i:Nat} {b:UInt8} (h:s[i]? =some b):D9 (s.take (i+1))=10*D9 (s.take i)+(b.toNat-48):=by
 rw[List.take_add_one,h]
 exact Im _ _
theorem DA (s:List UInt8):Cd Tryz.prog 307 [str s] (Ng s):=by
 intro W
 have hle:=ID s
 obtain⟨m,hm⟩: ∃m,m=min (ldn s) 9:=⟨_,rfl⟩
 have hdl: ∀i,i<=ldn s->i<=9->D9 (s.take i)<1000000000:=fun i h1 h2=>by
  have:=Qd i (s:=s.take i) (by rw[List.length_take];omega) (PI h1)
  have h3:10^i<=10^9:=Nat.pow_le_pow_right (by decide) h2
  have h4:(10:Nat)^9=1000000000:=by decide
  omega
 refine Ab Tryz.func307 I I I<|xb<|Ae I<|xg<|Aa I<|xa<|F2 (X:=Unit) (fun _=>[(0,str s),(5, .int .i64 (D9 (s.take m):Nat)),(6, .int .i64 (m:Nat))]) (fun _=>[]) (fun _=>True) ?_ ?_
 ·refine zH<|A6 (X:=Nat) (fun i=>[(0,str s),(5, .int .i64 (D9 (s.take i):Nat)),(6, .int .i64 (i:Nat))]) (fun _=>[]) (fun i=>i<=ldn s/\i<=9) (fun i=>s.length-i) 0 ⟨Nat.zero_le _,Nat.zero_le _⟩ ⟨I,I,I,tO⟩ [] I ?_
  rintro i ⟨hi,hi9⟩
  have hdi:=hdl i hi hi9
  have hexit:i=m->Hh Tryz.f307.ntmps [(0,str s),(5, .int .i64 (D9 (s.take i):Nat)),(6, .int .i64 (i:Nat))] [(0,str s),(5, .int .i64 (D9 (s.take m):Nat)),(6, .int .i64 (m:Nat))]:=fun h=>by subst h;exact⟨rfl,rfl,rfl,trivial⟩
  refine xd<|Ae I<|Ao 9 (.int .i64 (s.length:Nat)) I (congrArg (fun n:Nat=>Value.int .i64 (n:Int)) (A5 s))<|wP I<|?_
  cases hb:s[i]? with
  |none=>
   have hl:s.length<=i:=List.getElem?_eq_none_iff.1 hb
   have he:i=m:=by omega
   refine wU 10 false I (dF (by omega))<|wP I<|?_
   iterate 2 refine Ac I I ?_
   refine Aa I<|?_
   iterate 4 refine Ac I I ?_
   refine Aa I<|?_
   iterate 4 refine Ac I I ?_
   exact wP I<|xa<|zS I<|xf<|Au () tO ⟨I,by rw[<-he];rfl,by rw[<-he];rfl,tO⟩ [] I
  |some b=>
   have hl:i<s.length:=(List.getElem?_eq_some_iff.1 hb).1
   have hend:F8 b=false->i=ldn s:=fun h=>by
    rcases Nat.lt_or_ge i (ldn s) with h1|h1
    ·obtain⟨c,h2,h3⟩:=HO h1
     rw[hb] at h2;cases h2
     rw[h] at h3;cases h3
    ·omega
   refine wU 10 true I (dT (by omega))<|Ae I<|?_
   by_cases h8:i<=8
   ·refine wU 13 true I (dT (by omega))<|A3 I<|CA i tH I I I I I I I I hb<|wP I<|wU 19 (decide (48<=b.toNat)) I (aP b)<|?_
    by_cases h48:48<=b.toNat
    ·refine wU 19 true I (dT h48)<|A3 I<|CA i tH I I I I I I I I hb<|wP I<|wU 25 (decide (b.toNat<=57)) I (aS b)<|?_
     by_cases h57:b.toNat<=57
     ·refine wU 25 true I (dT h57)<|wP I<|xa<|zR I<|zI<|zE<|zH<|xb<|?_
      have hi1:i+1<=ldn s:=by
       rcases Nat.lt_or_ge i (ldn s) with h1|h1
       ·exact h1
       ·have he:i=ldn s:=by omega
        rw[he] at hb
        have:=J3 hb
        rw[Ge.2 ⟨h48,h57⟩] at this;cases this
      have hd1:=VL hb
      have hdi1:=hdl (i+1) hi1 (by omega)
      refine Aa I<|wV 28 ((10*D9 (s.take i):Nat):Int) I (by show w64 (((10:Nat):Int)*(D9 (s.take i):Nat))=_;exact D2 (by omega))<|Aa I<|CA i tH I I I I I I I I hb<|wP I<|Ao 32 (.int .u8 ((b.toNat-48:Nat):Int)) I (congrArg (Value.int .u8) (by show IntKind.u8.wrap (((b.toNat:Nat):Int)-48)=_;rw[show((b.toNat:Nat):Int)-48=((b.toNat-48:Nat):Int) by omega,Vb (by omega) (by omega)]))<|Ye Tryz.underlying5 Tryz.underlying3 I I I I ?_
      exact wV 33 ((b.toNat-48:Nat):Int) I (Dn (by omega))<|wP I<|wV 34 ((D9 (s.take (i+1)):Nat):Int) I (by show w64 (((10*D9 (s.take i):Nat):Int)+((b.toNat-48:Nat):Int))=_;rw[B1 (by omega),hd1])<|wP I<|xa<|zB<|Aa I<|wV 36 ((i+1:Nat):Int) I (Az (by omega))<|wP I<|zC<|zN<|Ax (i+1) ⟨hi1,by omega⟩ (by omega) ⟨I,I,I,tO⟩ [] I
     ·have he:i=m:=by have:=hend (by simp[F8,h57]);omega
      exact wU 25 false I (dF h57)<|wP I<|xa<|zS I<|xf<|Au () tO ⟨I,by rw[<-he];rfl,by rw[<-he];rfl,tO⟩ [] I
    ·have he:i=m:=by have:=hend (by simp[F8,h48]);omega
     refine wU 19 false I (dF h48)<|Aa I<|?_
     iterate 4 refine Ac I I ?_
     exact wP I<|xa<|zS I<|xf<|Au () tO ⟨I,by rw[<-he];rfl,by rw[<-he];rfl,tO⟩ [] I
   ·have he:i=m:=by omega
    refine wU 13 false I (dF (by omega))<|Aa I<|?_
    iterate 4 refine Ac I I ?_
    refine Aa I<|?_
    iterate 4 refine Ac I I ?_
    exact wP I<|xa<|zS I<|xf<|Au () tO ⟨I,by rw[<-he];rfl,by rw[<-he];rfl,tO⟩ [] I
 ·intro _ _
  refine xd<|Aa I<|?_
  by_cases h0:m=0
  ·refine wU 38 true I (by rw[h0];rfl)<|wP I<|?_
   iterate 2 refine Ac I I ?_
   refine Aa I<|?_
   iterate 7 refine Ac I I ?_
   exact wP I<|xa<|zR I<|xb<|Ae I<|xc<|zP<|wR3 I I (by rw[Ng,F5,if_pos (.inl (by omega))])
  ·refine wU 38 false I (by rw[beq_eq_false_iff_ne];omega)<|Ae I<|?_
   by_cases h8:8<m
   ·refine wU 41 true I (dT (by omega))<|Aa I<|?_
    iterate 7 refine Ac I I ?_
    exact wP I<|xa<|zR I<|xb<|Ae I<|xc<|zP<|wR3 I I (by rw[Ng,F5,if_pos (.inr (.inl (by omega)))])
   ·have hml:m=ldn s:=by omega
    refine wU 41 false I (dF (by omega))<|A3 I<|?_
    have hgood: ¬(1<ldn s/\s[0]? =some 48)->Value.tuple #[.int .i64 (D9 (s.take m):Nat),str (s.drop m), .bool true]=Ng s:=fun h=>by
     rw[Ng,F5,if_neg (by rintro(h1|h1|h1);omega;omega;exact h h1),hml]
    by_cases h1:1<m
    ·refine wU 45 true I (dT (by omega)) ?_
     obtain⟨b,hb,_⟩:=HO (s:=s) (i:=0) (by omega)
     refine Aa I<|CA 0 tH I I I I I I I I hb<|wP I<|wU 49 (decide (b=48)) I (He b 48)<|Aa I<|xa<|Av I (fun hc=> ?_) (fun hc=> ?_)
     ·have hb48:b=48:=of_decide_eq_true hc
      exact xb<|Ae I<|xc<|zP<|wR3 I I (by rw[Ng,F5,if_pos (.inr (.inr ⟨by omega,by rw[hb,hb48]⟩))])
     ·have hb48: ¬b=48:=of_decide_eq_false hc
      refine zI<|zE<|zA<|zU<|Ct I<|Ld m tH I I I I I I I I (by omega) ?_
      exact Ct I<|zD<|xc<|wR3 I I (hgood fun h=>hb48 (by have h2:=h.2;rw[hb] at h2;exact Option.some.inj h2))
    ·refine wU 45 false I (dF (by omega))<|wP I<|?_
     iterate 3 refine Ac I I ?_
     refine Aa I<|xa<|zS I<|zI<|zE<|zA<|zU<|Ct I<|Ld m tH I I I I I I I I (by omega) ?_
     exact Ct I<|zD<|xc<|wR3 I I (hgood fun h=>by omega)
theorem FJ (n:Nat):itoa (n:Int)=decDigits n:=by
 unfold itoa
 rw[if_neg (by omega)];rfl
theorem Fz {s r:List UInt8} {n:Nat}:F5 s=some (n,r)↔s=decDigits n++r/\n<100000000/\ ∀b,r[0]? =some b->F8 b=false:=by
 have h8:(10:Nat)^8=100000000:=by decide
 constructor
 ·intro h
  unfold F5 at h
  split at h
  ·cases h
  ·rename_i hc
   injection h with h
   injection h with e1 e2
   have hk:=ID s
   have hok:SL (s.take (ldn s)):=by
    refine⟨fun e=>hc (.inl ?_),PI (Nat.le_refl _),fun h1 h2=>hc (.inr (.inr ⟨?_, ?_⟩))⟩
    ·have h9:=congrArg List.length e
     rw[List.length_take,List.length_nil,Nat.min_eq_left hk] at h9
     exact h9
    ·rw[List.length_take] at h1;omega
    ·rwa [List.getElem?_take_of_lt (by rw[List.length_take] at h1;omega)] at h2
   have hd:=GA _ rfl hok
   rw[e1] at hd
   refine⟨by rw[hd, <-e2,List.take_append_drop], ?_,fun b hb=> ?_⟩
   ·have:=Qd (ldn s) (s:=s.take (ldn s)) (by rw[List.length_take];omega) (PI (Nat.le_refl _))
    rw[e1] at this
    have h3:10^ldn s<=10^8:=Nat.pow_le_pow_right (by decide) (by omega)
    omega
   ·rw[<-e2,List.getElem?_drop,Nat.add_zero] at hb
    exact J3 hb
 ·rintro⟨rfl,hn,hr⟩
  have hl:ldn (decDigits n++r)=(decDigits n).length:=Ux (U3 n).all hr
  have hlen:(decDigits n).length<=8:=Fa 8 n (by decide) (by rw[h8];exact hn)
  have hpos:0<(decDigits n).length:=List.length_pos_iff.2 (Hd n)
  unfold F5
  rw[hl,if_neg,List.take_left,List.drop_left,FA]
  rintro(h|h|⟨h1,h2⟩)
  ·omega
  ·omega
  ·rw[List.getElem?_append_left hpos] at h2
   exact(U3 n).lead h1 h2
def Dy (n:Nat) (r:List UInt8):Option Nat:=if r=[] then some 1 else if r[0]? ≠some 47 then none else match F5 (r.drop 1) with
 |none=>none
 |some (d,r2)=>if r2≠[]\/d<2\/Nat.gcd n d≠1 then none else some d
def EH (a:List UInt8):Option (Int×Nat):=match F5 (trimPrefix a [45]) with
 |none=>none
 |some (n,r)=>if (trimPrefix a [45]).length<a.length/\n=0 then none else match Dy n r with
  |none=>none
  |some d=>some (if (trimPrefix a [45]).length<a.length then -(n:Int) else n,d)
def DK (a:List UInt8):Value:=match EH a with
 |none=> .tuple #[.agg #[.int .i64 0, .int .i64 0], .bool false]
 |some (z,d)=> .tuple #[.agg #[.int .i64 z, .int .i64 (d:Nat)], .bool true]
theorem Y3 (a:List UInt8):(trimPrefix a [45]).length<a.length↔a[0]? =some 45:=by
 rw[Ck]
 constructor
 ·intro h
  by_cases h1:a[0]? =some 45
  ·exact h1
  ·rw[if_neg h1] at h;omega
 ·intro h
  rw[if_pos h,List.length_drop]
  cases a with
  |nil=>cases h
  |cons b r=>simp
theorem G3 {n d:Nat} {r:List UInt8}:Dy n r=some d↔(r=[]/\d=1)\/(r=47::decDigits d/\2<=d/\d<100000000/\Nat.gcd n d=1):=by
 unfold Dy
 by_cases h0:r=[]
 ·rw[if_pos h0]
  constructor
  ·intro h;injection h with h;exact .inl ⟨h0,h.symm⟩
  ·rintro(⟨_,rfl⟩|⟨h,_⟩)
   ·rfl
   ·rw[h0] at h;cases h
 ·rw[if_neg h0]
  by_cases h1:r[0]? =some 47
  ·rw[if_neg (fun h=>h h1)]
   obtain⟨t,rfl⟩: ∃t,r=47::t:=by
    cases r with
    |nil=>cases h1
    |cons b t=>exact⟨t,by have e:b=47:=(by simpa using h1);rw[e]⟩
   show(match F5 t with|none=>none|some (d,r2)=>if r2≠[]\/d<2\/Nat.gcd n d≠1 then none else some d)=some d↔_
   constructor
   ·intro h
    cases ht:F5 t with
    |none=>rw[ht] at h;cases h
    |some x=>
     obtain⟨e,r2⟩:=x
     rw[ht] at h
     simp only at h
     split at h
     ·cases h
     ·rename_i hc
      injection h with h
      subst h
      obtain⟨h2,h3,_⟩:=Fz.1 ht
      have hr2:r2=[]:=Decidable.byContradiction fun h=>hc (.inl h)
      rw[hr2,List.append_nil] at h2
      exact .inr ⟨by rw[h2],by omega,h3,Decidable.byContradiction fun h=>hc (.inr (.inr h))⟩
   ·rintro(⟨h,_⟩|⟨h,h2,h3,h4⟩)
    ·cases h
    ·injection h with _ h
     rw[Fz.2 ⟨by rw[h,List.append_nil],h3,fun b hb=>by simp at hb⟩]
     exact if_neg (by rintro(h|h|h);exact h rfl;omega;exact h h4)
  ·rw[if_pos h1]
   constructor
   ·intro h;cases h
   ·rintro(⟨h,_⟩|⟨h,_⟩)
    ·exact absurd h h0
    ·rw[h] at h1;exact absurd rfl h1
theorem JS {a:List UInt8} {z:Int} {d:Nat}:EH a=some (z,d)↔frm a=some (z,d)/\z.natAbs<100000000/\d<100000000/\Nat.gcd z.natAbs d=1:=by
 constructor
 ·intro h
  unfold EH at h
  cases hi:F5 (trimPrefix a [45]) with
  |none=>rw[hi] at h;cases h
  |some x=>
   obtain⟨n,r⟩:=x
   rw[hi] at h
   simp only at h
   split at h
   ·cases h
   ·rename_i hc
    cases hd:Dy n r with
    |none=>rw[hd] at h;cases h
    |some e=>
     rw[hd] at h
     injection h with h
     injection h with e1 e2
     subst e2
     obtain⟨h1,h2,_⟩:=Fz.1 hi
     simp only[Y3] at hc e1
     rw[Ck] at h1
     have hz:a=itoa z++r/\z.natAbs=n:=by
      by_cases hm:a[0]? =some 45
      ·rw[if_pos hm] at h1 e1
       have hn0:n≠0:=fun e=>hc ⟨hm,e⟩
       refine⟨?_,by omega⟩
       rw[<-e1,QF hn0]
       cases a with
       |nil=>cases hm
       |cons b t=>
        have:b=45:=by simpa using hm
        rw[this]
        show 45::t=45::(decDigits n++r)
        rw[<-h1];rfl
      ·rw[if_neg hm] at h1 e1
       refine⟨?_,by omega⟩
       rw[<-e1,FJ n, <-h1]
     rcases G3.1 hd with⟨hr,rfl⟩|⟨hr,h3,h4,h5⟩
     ·exact⟨Jw.2 (.inl ⟨I,by rw[hz.1,hr,List.append_nil]⟩),by omega,by omega,by rw[Nat.gcd_one_right]⟩
     ·exact⟨Jw.2 (.inr ⟨h3,by rw[hz.1,hr]⟩),by omega,h4,by rw[hz.2];exact h5⟩
 ·rintro⟨h,h1,h2,h3⟩
  have key: ∀r,(∀b,r[0]? =some b->F8 b=false)->Dy z.natAbs r=some d->EH (itoa z++r)=some (z,d):=by
   intro r hr hd
   have ht:trimPrefix (itoa z++r) [45]=decDigits z.natAbs++r:=by
    rw[Ck]
    unfold itoa
    split
    ·rename_i hz
     rw[if_pos (show(45::decDigits z.natAbs++r)[0]? =some 45 from rfl)];rfl
    ·rename_i hz
     obtain⟨b,t,hb,h4,h5⟩:=Dc z.toNat
     have e:z.natAbs=z.toNat:=by omega
     rw[e,if_neg]
     rw[hb]
     intro e2
     have e2:b=45:=by simpa using e2
     rw[e2] at h4;exact absurd h4 (by decide)
   have hl:(trimPrefix (itoa z++r) [45]).length<(itoa z++r).length↔z<0:=by
    rw[ht,List.length_append,List.length_append]
    unfold itoa
    split
    ·rename_i hz;simp;exact hz
    ·rename_i hz
     rw[show z.toNat=z.natAbs by omega]
     constructor
     ·intro h;omega
     ·intro h;omega
   unfold EH
   have hl2:=hl
   rw[ht] at hl2
   rw[ht,Fz.2 ⟨rfl,h1,hr⟩]
   simp only[hl2]
   rw[if_neg (by omega),hd]
   simp only[Option.some.injEq,Prod.mk.injEq,and_true]
   split<;>omega
  rcases Jw.1 h with⟨rfl,rfl⟩|⟨hd,rfl⟩
  ·have:=key [] (fun b hb=>by simp at hb) (G3.2 (.inl ⟨rfl,rfl⟩))
   rwa [List.append_nil] at this
  ·exact key (47::decDigits d) (fun b hb=>by
    have:47=b:=by simpa using hb
    rw[<-this];decide) (G3.2 (.inr ⟨rfl,hd,h2,h3⟩))
theorem Kp (a:List UInt8):Value.bool (!((⟨a.toArray⟩:ByteArray).toList==(⟨#[]⟩:ByteArray).toList))= .bool (decide (a≠[])):=congrArg Value.bool (by cases a<;>simp)
abbrev cM (z d:Int):Value:= .agg #[.int .i64 z, .int .i64 d]
abbrev LI:Value:= .tuple #[cM 0 0, .bool false]
theorem eG {a o:List UInt8} (ho:trimPrefix a [45]=o) (h:F5 o=none):DK a=LI:=by
 have e:EH a=none:=by unfold EH;rw[ho,h]
 rw[DK,e]
theorem eL {a o r:List UInt8} {n:Nat} (ho:trimPrefix a [45]=o) (h:F5 o=some (n,r)) (hc:o.length<a.length/\n=0):DK a=LI:=by
 have e:EH a=none:=by unfold EH;rw[ho,h];exact if_pos hc
 rw[DK,e]
theorem Yp {a o r:List UInt8} {n:Nat} (ho:trimPrefix a [45]=o) (h:F5 o=some (n,r)) (hc: ¬(o.length<a.length/\n=0)) (hd:Dy n r=none):DK a=LI:=by
 have e:EH a=none:=by unfold EH;rw[ho,h];exact(if_neg hc).trans (by rw[hd])
 rw[DK,e]
theorem eK {a o r:List UInt8} {n d:Nat} (ho:trimPrefix a [45]=o) (h:F5 o=some (n,r)) (hc: ¬(o.length<a.length/\n=0)) (hd:Dy n r=some d):DK a= .tuple #[cM (if o.length<a.length then -(n:Int) else n) (d:Nat), .bool true]:=by
 have e:EH a=some (if o.length<a.length then -(n:Int) else n,d):=by unfold EH;rw[ho,h];exact(if_neg hc).trans (by rw[hd])
 rw[DK,e]
theorem MG (n:Nat) (t:List UInt8):Dy n (47::t)=match F5 t with
 |none=>none
 |some (d,r2)=>if r2≠[]\/d<2\/Nat.gcd n d≠1 then none else some d:=by
 unfold Dy
 rw[if_neg (by intro h;cases h),if_neg (fun h=>h rfl)];rfl
theorem Z9 {n:Nat} {t:List UInt8} (h:F5 t=none):Dy n (47::t)=none:=by rw[MG,h]
theorem Tq {n d:Nat} {t r:List UInt8} (h:F5 t=some (d,r)) (hc:r≠[]\/d<2\/Nat.gcd n d≠1):Dy n (47::t)=none:=by rw[MG,h];exact if_pos hc
theorem Zo {n d:Nat} {t r:List UInt8} (h:F5 t=some (d,r)) (hc: ¬(r≠[]\/d<2\/Nat.gcd n d≠1)):Dy n (47::t)=some d:=by rw[MG,h];exact if_neg hc
theorem CG (a:List UInt8) (hl:a.length<4611686018427387904):Cd Tryz.prog 283 [str a] (DK a):=by
 intro W
 refine Ab Tryz.func283 I I I<|xb<|wG I I fun _=>wP I<|zC<|?_
 rename_i b2
 refine xe<|Aa I<|xa<|zA<|zA<|Bz (X:=Unit) (fun _=>[(0,str a),(2,Af b2),(3, .bool false),(4,str a),(16, .bool (decide (a[0]? =some 45)))]) (fun _=>[⟨b2,356,[.int .i64 0, .int .i64 0],true,none⟩]) (fun _=>True) ?_ ?_
 ·cases a with
  |nil=>
   refine zB<|Aa I<|Ao 11 (.bool false) I (Kp [])<|wP I<|?_
   iterate 3 refine Ac I I ?_
   exact wP I<|zC<|Au () tO ⟨I,I,I,I,I,tO⟩ [] I
  |cons b t=>
   exact zB<|Aa I<|Ao 11 (.bool true) I (Kp (b::t))<|Aa I<|CA 0 tH I I I I I I I I I<|wP I<|wU 15 (decide (b=45)) I (He b 45)<|wP I<|zC<|Au () tO ⟨I,I,I,I,congrArg (fun x=>some (Value.bool x)) (decide_eq_decide.2 ⟨fun h=>by rw[h];rfl,fun h=>Option.some.inj h⟩),tO⟩ [] I
 ·intro _ _
  refine Bz (X:=Unit) (fun _=>[(0,str a),(2,Af b2),(3, .bool false),(4,str (trimPrefix a [45]))]) (fun _=>[⟨b2,356,[.int .i64 0, .int .i64 0],true,none⟩]) (fun _=>True) ?_ ?_
  ·refine Av I (fun hc=> ?_) (fun hc=> ?_)
   ·have h0:=of_decide_eq_true hc
    have h1:1<=a.length:=by cases a with|nil=>cases h0|cons b t=>simp
    refine zB<|wP I<|Ja 1 tH I I I I I I I I h1 ?_
    exact wP I<|zC<|Au () tO ⟨I,I,I,by rw[Ck,if_pos h0];rfl,tO⟩ [] I
   ·have h0:=of_decide_eq_false hc
    exact zI<|Au () tO ⟨I,I,I,by rw[Ck,if_neg h0];rfl,tO⟩ [] I
  ·intro _ _
   obtain⟨o,ho⟩: ∃o,trimPrefix a [45]=o:=⟨_,rfl⟩
   have hol:o.length<=a.length:=by rw[<-ho,Ck];split;rw[List.length_drop];omega;exact Nat.le_refl _
   rw[ho]
   refine xb<|wP I<|?_
   cases hi:F5 o with
   |none=>
    refine wC I I (fun W _=>(DA o W).cast (by rw[Ng,hi]))<|Bb I<|wP I<|xa<|xd<|Ae I<|?_
    iterate 9 refine Ac I I ?_
    refine wP I<|xa<|zR I<|xb<|Ak Tryz.hZ tH I I I I I I I I ?_
    exact wS 0 I I I<|wP I<|xc<|zP<|An tH I (.cell 0 I I I I I) (.tmp I) () (eG ho hi).symm tO fun W _=>As.nil _ _
   |some x=>
    obtain⟨n,r⟩:=x
    have hn8:n<100000000:=(Fz.1 hi).2.1
    have hrl:r.length<=o.length:=by have:=(Fz.1 hi).1;rw[this,List.length_append];omega
    refine wC I I (fun W _=>(DA o W).cast (by rw[Ng,hi]))<|Bb I<|wP I<|xa<|zA<|zA<|Bz (X:=Unit) (fun _=>[(0,str a),(2,Af b2),(3, .bool false),(4,str o),(5, .int .i64 (n:Nat)),(6,str r),(37, .bool (decide (o.length<a.length/\n=0)))]) (fun _=>[⟨b2,356,[.int .i64 0, .int .i64 0],true,none⟩]) (fun _=>True) ?_ ?_
    ·refine zB<|A8 I<|Ao 29 (.int .i64 (o.length:Nat)) I (congrArg (fun n:Nat=>Value.int .i64 (n:Int)) (A5 o))<|Aa I<|Ao 31 (.int .i64 (a.length:Nat)) I (congrArg (fun n:Nat=>Value.int .i64 (n:Int)) (A5 a))<|wP I<|?_
     by_cases hlt:o.length<a.length
     ·exact wU 32 true I (dT (by omega))<|Ae I<|wU 35 (decide (n=0)) I (by rw[Bool.beq_eq_decide_eq];exact decide_eq_decide.2 (by omega))<|Aa I<|zC<|Au () tO ⟨I,I,I,I,I,I,congrArg (fun x=>some (Value.bool x)) (decide_eq_decide.2 ⟨fun h=>⟨hlt,h⟩,fun h=>h.2⟩),tO⟩ [] I
     ·refine wU 32 false I (dF (by omega))<|wP I<|?_
      iterate 2 refine Ac I I ?_
      exact Aa I<|zC<|Au () tO ⟨I,I,I,I,I,I,congrArg (fun x=>some (Value.bool x)) (dF (fun h=>hlt h.1)).symm,tO⟩ [] I
    ·intro _ _
     refine Av I (fun hc=> ?_) (fun hc=> ?_)
     ·have hc:=of_decide_eq_true hc
      refine xb<|Ak Tryz.hZ tH I I I I I I I I ?_
      exact wS 0 I I I<|wP I<|xc<|zP<|An tH I (.cell 0 I I I I I) (.tmp I) () (eL ho hi hc).symm tO fun W _=>As.nil _ _
     ·have hc:=of_decide_eq_false hc
      refine zI<|xe<|wP I<|Ak Tryz.hZ tH I I I I I I I I ?_
      refine wG I I fun _=>wS 1 I I I<|zC<|?_
      rename_i b8
      refine zE<|zA<|Bz (X:=Nat) (fun _=>[(0,str a),(2,Af b2),(3, .bool false),(4,str o),(5, .int .i64 (n:Nat)),(8,Af b8)]) (fun d=>[⟨b2,356,[.int .i64 0, .int .i64 0],true,none⟩,⟨b8,356,[.int .i64 (n:Nat), .int .i64 (d:Nat)],true,none⟩]) (fun d=>Dy n r=some d) ?_ ?_
      ·refine xb<|?_
       cases r with
       |nil=>
        exact Aa I<|Ao 42 (.bool false) I (Kp [])<|xa<|zS I<|zI<|Au 1 (G3.2 (.inl ⟨I,I⟩)) ⟨I,I,I,I,I,I,tO⟩ [] I
       |cons b t=>
        refine Aa I<|Ao 42 (.bool true) I (Kp (b::t))<|xa<|zR I<|xd<|wP I<|CA 0 tH I I I I I I I I I<|wP I<|wU 45 (decide (b≠47)) I (by rw[decide_not];exact congrArg not (He b 47))<|xa<|Av I (fun hb=> ?_) (fun hb=> ?_)
        ·have hb:=of_decide_eq_true hb
         have hd:Dy n (b::t)=none:=by
          unfold Dy
          rw[if_neg (by intro h;cases h),if_pos (show(b::t)[0]? ≠some 47 from fun h=>hb (Option.some.inj h))]
         refine xb<|Ak Tryz.hZ tH I I I I I I I I ?_
         exact wS 0 I I I<|wP I<|xc<|zP<|zP<|An tH I (.cell 0 I I I I I) (.tmp I) () (Yp ho hi hc hd).symm tO fun W _=>As.nil _ _
        ·have hb:=of_decide_eq_false hb
         obtain rfl:b=47:=Decidable.byContradiction hb
         refine zI<|xe<|wP I<|?_
         refine Ja 1 tH I I I I I I I I (by rw[List.length_cons];omega) ?_
         cases hj:F5 t with
         |none=>
          refine wC I I (fun W _=>(DA t W).cast (by rw[Ng,hj]))<|A8 I<|wS 1 I I I<|Aa I<|xg<|Ae I<|?_
          iterate 2 refine Ac I I ?_
          refine Aa I<|?_
          iterate 3 refine Ac I I ?_
          refine Aa I<|?_
          iterate 5 refine Ac I I ?_
          refine wP I<|xa<|zR I<|xb<|Ak Tryz.hZ tH I I I I I I I I ?_
          exact wS 0 I I I<|wP I<|xc<|zP<|An tH I (.cell 0 I I I I I) (.tmp I) () (Yp ho hi hc (Z9 hj)).symm tO fun W _=>As.nil _ _
         |some x=>
          obtain⟨d,r2⟩:=x
          have hd8:d<100000000:=(Fz.1 hj).2.1
          have hret: ∀ {v},Dy n (47::t)=none->v=LI->v=DK a:=fun h e=>e.trans (Yp ho hi hc h).symm
          refine wC I I (fun W _=>(DA t W).cast (by rw[Ng,hj]))<|A8 I<|wS 1 I I I<|Aa I<|xg<|A3 I<|?_
          by_cases hr2:r2=[]
          ·subst hr2
           refine wP I<|Ao 59 (.bool false) I (Kp [])<|Ae I<|wB 1 I I I<|wP I<|?_
           by_cases hd2:d<2
           ·refine wU 64 true I (dT (by omega))<|Aa I<|?_
            iterate 5 refine Ac I I ?_
            refine wP I<|xa<|zR I<|xb<|Ak Tryz.hZ tH I I I I I I I I ?_
            exact wS 0 I I I<|wP I<|xc<|zP<|An tH I (.cell 0 I I I I I) (.tmp I) () (hret (Tq hj (.inr (.inl hd2))) I) tO fun W _=>As.nil _ _
           ·refine wU 64 false I (dF (by omega))<|A3 I<|wB 1 I I I<|wC I I (fun W _=>Tz n d (by omega) (by omega) W)<|wP I<|?_
            by_cases hg:Nat.gcd n d=1
            ·exact wU 71 false rfl (by rw[hg];rfl)<|wP rfl<|xa<|zS rfl<|zI<|Au d (Zo hj (by rintro(h|h|h);exact h rfl;exact hd2 h;exact h hg)) ⟨rfl,rfl,rfl,rfl,rfl,rfl,trivial⟩ [] rfl
            ·refine wU 71 true I (by rw[bne_iff_ne];omega)<|wP I<|xa<|zR I<|xb<|Ak Tryz.hZ tH I I I I I I I I ?_
             exact wS 0 I I I<|wP I<|xc<|zP<|An tH I (.cell 0 I I I I I) (.tmp I) () (hret (Tq hj (.inr (.inr hg))) I) tO fun W _=>As.nil _ _
          ·refine wP I<|Ao 59 (.bool true) I ((Kp r2).trans (congrArg Value.bool (dT hr2)))<|Aa I<|?_
           iterate 3 refine Ac I I ?_
           refine Aa I<|?_
           iterate 5 refine Ac I I ?_
           refine wP I<|xa<|zR I<|xb<|Ak Tryz.hZ tH I I I I I I I I ?_
           exact wS 0 I I I<|wP I<|xc<|zP<|An tH I (.cell 0 I I I I I) (.tmp I) () (hret (Tq hj (.inl hr2)) I) tO fun W _=>As.nil _ _
      ·intro d hd
       have hval:=eK ho hi hc hd
       refine xd<|Aa I<|Ao 75 (.int .i64 (o.length:Nat)) I (congrArg (fun n:Nat=>Value.int .i64 (n:Int)) (A5 o))<|Aa I<|Ao 77 (.int .i64 (a.length:Nat)) I (congrArg (fun n:Nat=>Value.int .i64 (n:Int)) (A5 a))<|wP I<|?_
       by_cases hlt:o.length<a.length
       ·rw[if_pos hlt] at hval
        exact wU 78 true I (dT (by omega))<|xa<|zR I<|zB<|Aa I<|wV 80 (-(n:Int)) I (by show w64 (0-(n:Int))=_;rw[AC (by omega) (by omega)];omega)<|wP I<|wS 1 I I I<|xg<|wB 1 I I I<|wS 0 I I I<|wP I<|xc<|An tH I (.cell 0 I I I I I) (.tmp I) () hval.symm tO fun W _=>As.nil _ _
       ·rw[if_neg hlt] at hval
        exact wU 78 false I (dF (by omega))<|xa<|zS I<|zI<|xe<|wB 1 I I I<|wS 0 I I I<|wP I<|xc<|An tH I (.cell 0 I I I I I) (.tmp I) () hval.symm tO fun W _=>As.nil _ _
theorem aC {x y:Nat} (hx:x<bs) (hy:y<bs):x*y<=999999998000000001:=(Nat.mul_le_mul (Nat.le_of_lt_succ hx) (Nat.le_of_lt_succ hy):x*y<=999999999*999999999)
theorem KD (W:World) (p q:Option Addr) (cap cap2:Nat) (a b:Nat) (hA:AS W p (lbs bs a)) (hB:AS W q (lbs bs b)) (hna:(lbs bs a).length<=1000000) (hnb:(lbs bs b).length<=1000000):
  Ag Tryz.prog 335 #[slv p (lbs bs a).length cap,slv q (lbs bs b).length cap2] W (fun x:NV=>FB x (lbs bs (a*b)).length) (fun x=>Ip x (lbs bs (a*b))) (fun x=>[Gu x (lbs bs (a*b))]):=by
 have hla:=CC bs2 a
 have hlb:=CC bs2 b
 have hal:=Bq bs2 a
 have hbl:=Bq bs2 b
 obtain⟨na,hna'⟩: ∃n,(lbs bs a).length=n:=⟨_,rfl⟩
 obtain⟨nb,hnb'⟩: ∃n,(lbs bs b).length=n:=⟨_,rfl⟩
 obtain⟨M,hM⟩: ∃M,M=na+nb+1:=⟨_,rfl⟩
 rw[hna'] at hna hal
 rw[hnb'] at hnb hbl
 refine Ab Tryz.func335 I I I ?_
 rw[hna',hnb']
 refine xb<|wP I<|xg<|Bb I<|wV 16 (M:Nat) I (by show w64 (w64 ((na:Int)+nb)+1)=_;rw[B1 (by omega),Az (by omega),hM])<|?_
 refine Fl Tryz.vec43 M I I I I I I I (by simp only[maxLen];omega) (by omega) ?_
 intro g
 have ez:Du (Value.cells (.int .i64 0)).toList M=nI (List.replicate M 0)++[]:=by rw[List.append_nil];exact JC M
 rw[ez]
 refine wP I<|xa<|xd<|Ae I<|xa<|zH<|?_
 refine A6 (X:=Nat×List Nat) (fun x=>[(1,slv q nb cap2),(5,slv (some ⟨g,0,none⟩) M M),(18,slv p na cap),(19, .int .i64 (na:Nat)),(20, .int .i64 (x.1:Nat))]) (fun x=>[⟨g,3,nI x.2++[],true,none⟩])
  (fun x=>x.1<=na/\x.2.length=M/\(∀y∈x.2,y<bs)/\lv bs x.2=a%bs^x.1*b) (fun x=>na-x.1) (0,List.replicate M 0) ⟨Nat.zero_le _,List.length_replicate,fun y hy=>by rw[List.eq_of_mem_replicate hy];decide,by rw[H7];show 0=a%bs^0*b;rw[Nat.pow_zero,Nat.mod_one,Nat.zero_mul]⟩ ⟨rfl,rfl,rfl,rfl,rfl,trivial⟩ [] rfl ?_
 rintro⟨i,out⟩ ⟨hi,hlen,hob,hov⟩
 have hi:i<=na:=hi
 have hlen:out.length=M:=hlen
 refine xb<|wP I<|xa<|zA<|Av I (fun hc=> ?_) (fun hc=> ?_)
 ·have hi':i<na:=by simp at hc;omega
  clear hc
  obtain⟨pb,po,rfl,hrow⟩:=hA.row (show i<(lbs bs a).length by omega)
  obtain⟨x,hx⟩: ∃x,lim (lbs bs a) i=x:=⟨_,rfl⟩
  have hrx: ∀W' bx,Hp W bx W'->Al W' pb (po+i*1) [.int .i64 (x:Nat)]:=fun W' bx hp=>by
   have:=(hrow i (by omega)).hp hp
   rwa [hx] at this
  have hxb:x<bs:=by rw[<-hx];exact CQ bs2 hla i
  have hxe:x=a/bs^i%bs:=by rw[<-hx];exact C1 bs2 a i
  refine xh<|wP I<|wJ ?_
  refine wL 0 I I (fun W' hp=>hrx W' _ hp) I<|Aa I<|xg<|wP I<|xg<|Ae I<|wV 27 ((nb+1:Nat):Int) I (Az (by omega))<|wP I<|xa<|zH<|?_
  refine A6 (X:=Nat×List Nat×Nat) (fun x'=>[(1,slv q nb cap2),(5,slv (some ⟨g,0,none⟩) M M),(6, .int .i64 (i:Nat)),(7, .int .i64 (x:Nat)),(8, .int .i64 (x'.2.2:Nat)),(18,slv (some ⟨pb,po,none⟩) na cap),(19, .int .i64 (na:Nat)),(20, .int .i64 (i:Nat)),(27, .int .i64 ((nb+1:Nat):Int)),(28, .int .i64 (x'.1:Nat))]) (fun x'=>[⟨g,3,nI x'.2.1++[],true,none⟩])
   (fun x'=>x'.1<=nb+1/\x'.2.1.length=M/\(∀y∈x'.2.1,y<bs)/\x'.2.2<bs/\lv bs x'.2.1+bs^(i+x'.1)*x'.2.2=lv bs out+bs^i*(x*(b%bs^x'.1))) (fun x'=>nb+1-x'.1) (0,out,0) ⟨Nat.zero_le _,hlen,hob,show 0<bs by decide,by show lv bs out+bs^(i+0)*0=lv bs out+bs^i*(x*(b%bs^0));rw[Nat.pow_zero,Nat.mod_one];simp⟩ ⟨rfl,rfl,rfl,rfl,rfl,rfl,rfl,rfl,rfl,rfl,trivial⟩ [] rfl ?_
  rintro⟨k,u,c⟩ ⟨hk,hul,hub,hcb,huv⟩
  have hk:k<=nb+1:=hk
  have hul:u.length=M:=hul
  refine xb<|wP I<|xa<|zA<|Av I (fun hc=> ?_) (fun hc=> ?_)
  ·have hk':k<nb+1:=by simp at hc;omega
   clear hc
   have hik:i+k<u.length:=by rw[hul];omega
   obtain⟨o,ho⟩: ∃o,lim u (i+k)=o:=⟨_,rfl⟩
   obtain⟨y,hy⟩: ∃y,lim (lbs bs b) k=y:=⟨_,rfl⟩
   have hob':o<bs:=by rw[<-ho];exact CQ bs2 hub _
   have hyb:y<bs:=by rw[<-hy];exact CQ bs2 hlb _
   have hou:u[i+k]? =some o:=by rw[Fc hik,ho]
   obtain⟨n,hn⟩: ∃n,n=o+x*y+c:=⟨_,rfl⟩
   have hnb2:=QH hxb hyb hob' hcb hn
   have hn63:n<1000000000000000000:=hnb2.2
   have hxy:=aC hxb hyb
   have hyy:=hy
   rw[C1 bs2] at hyy
   have hstep:=LC (n:=n) hou huv (by rw[hn,hyy])
   refine xh<|Aa I<|xa<|zA<|zU<|E7 I<|qV 34 ((i+k:Nat):Int) I (B1 (by omega))<|qJ ?_
   refine qL 0 I I (fun W' hp=>Al.of_intsX hp 0 I hik ho) I<|Ct I<|qC I I (fun W' hp=>Hn W' q cap2 nb (lbs bs b) k y (hB.hp hp) hnb' (by omega) hy)<|E7 I<|qV 44 (n:Nat) I (by show w64 (w64 ((o:Int)+w64 ((x:Int)*y))+c)=_;rw[D2 (by omega),B1 (by omega),B1 (by omega),hn])<|qP I<|zD<|xa<|zB<|A3 I<|wV 48 ((i+k:Nat):Int) I (B1 (by omega))<|wP I<|Ks I I I I I (by decide) ?_
   refine wP I<|Kt I I I I I (by decide) ?_
   refine wV 52 ((n/bs:Nat):Int) I (Dn (show n/bs<_ by have:=hnb2.1;show n/bs<9223372036854775808;have h9:bs=1000000000:=I;omega))<|wJ ?_
   refine BT 0 (nI (u.set (i+k) (n%bs))++[]) tH I I I I I I I I I I (by show 0+(i+k)*1+1<=(nI u++[]).length;rw[List.append_nil,CH];omega) (DU hik (n%bs)) ?_
   exact wP I<|zC<|xj<|Aa I<|zC<|Ax (k+1,u.set (i+k) (n%bs),n/bs) ⟨hk',by rw[List.length_set];exact hul,E6 hub (Nat.mod_lt _ (by decide)),hnb2.1,hstep⟩ (by show nb+1-(k+1)<nb+1-k;omega) ⟨I,I,I,I,I,I,I,I,I,congrArg (fun z=>some (Value.int .i64 z)) (Az (by omega)),tO⟩ [] I
  ·have hk':k=nb+1:=by simp at hc;omega
   subst hk'
   clear hc
   obtain⟨h1,_⟩:=W9 bs2 huv hbl hxb (by rw[hov];exact Rj bs2 hbl)
   have h2:=T2 (a:=a) (b:=b) (i:=i) hov
   rw[<-hxe, <-h1] at h2
   exact xf<|xj<|Aa I<|zC<|Ax (i+1,u) ⟨hi',hul,hub,h2⟩ (by show na-(i+1)<na-i;omega) ⟨I,I,I,I,congrArg (fun z=>some (Value.int .i64 z)) (Az (by omega)),tO⟩ [] I
 ·have hi':i=na:=by simp at hc;omega
  subst hi'
  clear hc
  rw[Nat.mod_eq_of_lt hal] at hov
  refine xf<|xe<|?_
  have hV0:(⟨some g,M,[]⟩:Vec).OK 1 out.length (nI out):=⟨JO _,(fun h=>by cases h),fun _=>⟨by show _<=M;omega,by show M<=maxLen;simp only[maxLen];omega,by show(nI out).length+0=M*1;rw[CH];omega⟩⟩
  obtain⟨j',hV2,he⟩:=Gl hV0 hob
  refine wP I<|Ao 56 (slv (some ⟨g,0,none⟩) out.length M) I (by rw[hlen])<|wC I I (fun W hp=>Dd W _ M _ (AS.of_bx hp 0 I) hob (by omega) (by omega))<|wP I<|xc<|?_
  rw[hov] at hV2 he
  exact Ar tH I (.tmp I) ((g,M,j'):NV) (by rw[hov]) hV2 fun W hp=>As.of_hp1 hp 0 (by show some (⟨g,3,nI out++[],true,none⟩:Bx)=some ⟨g,3,nI (lbs bs (a*b))++j',true,none⟩;rw[he])
theorem DB (l p:List UInt8):Cd Tryz.prog 54 [str l,str p] (.tuple #[str (trimPrefix l p), .bool (hasPrefix l p)]):=by
 intro W
 refine Ag.of1 ((Tryz.strings_CutPrefix ⟨l.toArray⟩ ⟨p.toArray⟩ W).mono ?_)
 rintro e w' ⟨rfl,rfl⟩
 exact⟨I,Below.refl _ _⟩
theorem S1 (n:Int):hasPrefix (itoa n) [45]=decide (n<0):=by
 unfold itoa
 split
 ·rename_i h
  rw[dT h];rfl
 ·rename_i h
  rw[dF h]
  obtain⟨b,r,hb,h3,h4⟩:=Dc n.toNat
  rw[hb]
  have:(45:UInt8)≠b:=fun e=>by rw[<-e] at h3;exact absurd h3 (by decide)
  simp[hasPrefix,List.isPrefixOf,this]
theorem Qf (s:List UInt8) (W:World):Ag Tryz.prog 331 #[str s] W (fun b:Nat=> .func (.func 346) #[] #[.pointer (some ⟨b,0,none⟩)]) (fun _=>True) (fun b=>[⟨b,9,[str s],true,none⟩]):=by
 refine Ab Tryz.func331 I I I<|xb<|?_
 refine Lr rfl rfl rfl rfl ?_;intro b
 exact wP I<|xg<|Aa I<|xc<|Ar tH I (.tmp I) b I tO fun W hp=>As.of_hp hp
abbrev dgs (n k:Nat):Nat:=n/10^k%10
theorem St (b n:Nat) (hn:(decDigits n).length<4611686018427387904):
  Vq Tryz.prog 346 [.pointer (some ⟨b,0,none⟩)] (decDigits n).length (fun k=>[.int .i64 (k:Nat), .int .i64 (dgs n k:Nat)]) (fun W=>Al W b 0 [str (decDigits n)]):=by
 refine⟨fun y J Jx hNeed hdr hY W hJ=> ?_⟩
 obtain⟨l,hl⟩: ∃l,decDigits n=l:=⟨_,rfl⟩
 have hget: ∀k,k<l.length->l[l.length-1-k]? =some (UInt8.ofNat (48+dgs n k)):=fun k hk=>by
  have:=bP (n:=n) (i:=k) (by rw[hl];exact hk)
  rwa [hl] at this
 rw[hl] at hn hY hNeed⊢
 refine E2 (args:=[.func (.yield y) #[] #[], .pointer (some ⟨b,0,none⟩)]) (J0:=J 0) Tryz.func346 I I I hJ ?_
 refine xb<|wL 0 I I (fun W hp=>hNeed 0 W hp) I<|wP I<|wV 5 (l.length:Nat) I (congrArg (fun n:Nat=>(n:Int)) (A5 l))<|wP I<|xa<|zH<|En (X:=Nat) (fun k=>[(0, .func (.yield y) #[] #[]),(1, .pointer (some ⟨b,0,none⟩)),(5, .int .i64 (l.length:Nat)),(6, .int .i64 (k:Nat))]) J (fun k=>k<=l.length) (fun k=>l.length-k) 0 (Nat.zero_le _) ⟨I,I,I,I,tO⟩ (fun W h=>h) ?_
 intro k hk
 refine xb<|wP I<|xa<|zA<|Av I (fun hc=> ?_) (fun hc=> ?_)
 ·have hk':k<l.length:=by simp at hc;omega
  clear hc
  have hd10:dgs n k<10:=Nat.mod_lt _ (by omega)
  refine xh<|Aa I<|xg<|Aa I<|wL 0 I I (fun W hp=>hNeed k W hp) I<|wL 0 I I (fun W hp=>hNeed k W hp) I<|wP I<|wV 13 (l.length:Nat) I (congrArg (fun n:Nat=>(n:Int)) (A5 l))<|Ae I<|wV 16 ((l.length-1-k:Nat):Int) I (by show w64 (w64 ((l.length:Int)-1)-k)=_;rw[AC (x:=(l.length:Int)-1) (by omega) (by omega),AC (by omega) (by omega)];omega)<|CA (l.length-1-k) tH I I I I I I I I (hget k hk')<|Ao 17 (.int .u8 ((48+dgs n k:Nat):Int)) I (congrArg (Value.int .u8) (congrArg (fun n:Nat=>(n:Int)) (Dv hd10)))<|?_
  refine wP I<|Ao 18 (.int .u8 (dgs n k:Nat)) I (congrArg (Value.int .u8) (by show IntKind.u8.wrap (((48+dgs n k:Nat):Int)-48)=_;rw[show((48+dgs n k:Nat):Int)-48=(dgs n k:Nat) by omega,Vb (by omega) (by omega)]))<|Ye Tryz.underlying5 Tryz.underlying3 I I I I ?_
  refine wV 19 (dgs n k:Nat) I (Dn (by omega))<|F6 (A1:=J (k+1)) (A2:=Jx) I I I I I I (fun W hp=>hY k W hk' hp) ?_ ?_
  ·exact wP I<|xa<|zS I<|zI<|xj<|Aa I<|zC<|D5 (k+1) hk' (by omega) ⟨I,I,I,congrArg (fun z=>some (Value.int .i64 z)) (Az (by omega)),tO⟩ (fun W h=>h)
  ·exact wP I<|xa<|zR I<|zO<|zQ<|zP<|zP<|zQ<|CP I (fun W h=>h)
 ·have hk':k=l.length:=by simp at hc;omega
  subst hk'
  exact xf<|Io I fun W h=>h
theorem E3 (W:World) (n:Int) (hn:(decDigits n.natAbs).length<=1000000):
  Ag Tryz.prog 311 #[str (itoa n)] W (fun x:NV=> .agg #[.bool (decide (n<0)),FB x (lbs bs n.natAbs).length]) (fun x=>Ip x (lbs bs n.natAbs)) (fun x=>[Gu x (lbs bs n.natAbs)]):=by
 obtain⟨m,hm⟩: ∃m,n.natAbs=m:=⟨_,rfl⟩
 obtain⟨L,hL⟩: ∃L,(decDigits m).length=L:=⟨_,rfl⟩
 obtain⟨K,hK⟩: ∃K,K=(L+8)/9:=⟨_,rfl⟩
 rw[hm] at hn⊢
 rw[hL] at hn
 refine Ab Tryz.func311 I I I<|xb<|wG I I fun _=>zC<|?_
 rename_i b2
 refine xe<|wP I<|wC I I (fun W _=>DB (itoa n) [45] W)<|Ao 11 (.tuple #[str (decDigits m), .bool (decide (n<0))]) I (by rw[Ce,S1,hm])<|A8 I<|xg<|Ae I<|wV 16 (L:Nat) I (congrArg (fun n:Nat=>(n:Int)) ((A5 _).trans hL))<|Aa I<|wV 18 ((L+8:Nat):Int) I (by show w64 (w64 ((L:Int)+9)-1)=_;rw[AC (x:=(L:Int)+9) (by omega) (by omega),AC (by omega) (by omega)];omega)<|Kt I I I I I (by decide) ?_
 refine wV 19 (K:Nat) I (by show w64 (((L+8:Nat):Int).tdiv ((9:Nat):Int))=_;rw[Fs, <-hK];exact Dn (by omega)) ?_
 refine Fl Tryz.vec43 K I I I I I I I (by simp only[maxLen];omega) (by omega) ?_
 intro g
 have ez:Du (Value.cells (.int .i64 0)).toList K=nI (List.replicate K 0)++[]:=by rw[List.append_nil];exact JC K
 rw[ez]
 refine Ak Tryz.hZ tH I I I I I I I I ?_
 refine wG I I fun _=>wS 2 I I I<|zC<|?_
 rename_i b5
 refine xe<|wG I I fun _=>wS 3 I I I<|zC<|?_
 rename_i b6
 refine zE<|xd<|wP I<|wD (X:=Nat) I I (fun W _=>Qf (decDigits m) W) ?_
 intro b7 _
 refine xa<|zH<|?_
 refine Eh (X:=List Nat×Nat) (fun x=>[⟨b2,388,[.bool false, .slice none 0 0],true,none⟩,⟨g,3,nI x.1++[],true,none⟩,⟨b5,388,[.bool (decide (n<0)),slv (some ⟨g,0,none⟩) K K],true,none⟩,⟨b6,3,[.int .i64 (x.2:Nat)],true,none⟩,⟨b7,9,[str (decDigits m)],true,none⟩])
  (fun k x=>x.1.length=K/\(∀y∈x.1,y<bs)/\lv bs x.1=m%10^k/\(k%9≠0->x.2=10^(k%9))) (fun _ _=>False) (List.replicate K 0,1) rfl (by kernel_rfl) (St b7 m (by omega)) (fun _=>rfl)
  ⟨List.length_replicate,Ll (by decide) K,by rw[H7];show 0=m%10^0;rw[Nat.pow_zero,Nat.mod_one],fun h=>absurd rfl h⟩ [] rfl (fun k x W _ hp=>Al.of_bx hp 4 rfl rfl) ?_ ?_ (fun _ _ _ _ _ h=>h.elim)
 ·rintro k ⟨l,u⟩ d Lo rec hk ⟨hl,hlb,hlv,hu⟩ hrec
  have hl:l.length=K:=hl
  rw[hL] at hk
  have hj:k/9<l.length:=by rw[hl];omega
  obtain⟨o,ho⟩: ∃o,lim l (k/9)=o:=⟨_,rfl⟩
  have hlo:l[k/9]? =some o:=by rw[Fc hj,ho]
  obtain⟨dg,hdg⟩: ∃x,dgs m k=x:=⟨_,rfl⟩
  have hd10:dg<10:=by rw[<-hdg];exact Nat.mod_lt _ (by omega)
  obtain⟨q1,q2,q3⟩:=Wl (w:=9) (B:=bs) (n:=m) (by decide) (by decide) hlb hlv hlo hdg.symm
  have h10:10^(k%9)<=100000000:=by
   have:10^(k%9)<=10^8:=Nat.pow_le_pow_right (by omega) (by omega)
   simpa using this
  have hdu:dg*10^(k%9)<=1000000000:=by
   have:=Nat.mul_le_mul (Nat.le_of_lt hd10) h10
   omega
  have q2':o+dg*10^(k%9)<1000000000:=q2
  refine xb<|wP I<|xa<|zB<|wP I<|zC<|CJ 6 hrec I ?_
  refine zH<|xd<|wP I<|Ks I I I I I (by decide) ?_
  refine wP I<|xa<|Bz (X:=Unit) (fun _=>[(2,Af b2),(5,Af b5),(6,Af b6),(7, .int .i64 (k:Nat)),(8, .int .i64 (dg:Nat))]) (fun _=>[⟨b2,388,[.bool false, .slice none 0 0],true,none⟩,⟨g,3,nI l++[],true,none⟩,⟨b5,388,[.bool (decide (n<0)),slv (some ⟨g,0,none⟩) K K],true,none⟩,⟨b6,3,[.int .i64 ((10^(k%9):Nat):Int)],true,none⟩,⟨b7,9,[str (decDigits m)],true,none⟩,B7 d,Bc Lo rec .busy none]) (fun _=>True) ?_ ?_
  ·refine Av I (fun hc=> ?_) (fun hc=> ?_)
   ·have hk0:k%9=0:=by
     have h':(((k:Nat):Int).tmod ((9:Nat):Int)==0)=true:=hc
     rw[Qp,beq_iff_eq] at h';omega
    exact zB<|wS 3 I I I<|zC<|Au () tO ⟨I,I,I,I,congrArg (fun n:Nat=>some (Value.int .i64 (n:Int))) hdg,tO⟩ [] (by rw[hk0];rfl)
   ·have hk0:k%9≠0:=by
     have h':(((k:Nat):Int).tmod ((9:Nat):Int)==0)=false:=hc
     rw[Qp,beq_eq_false_iff_ne] at h';omega
    exact zI<|Au () tO ⟨I,I,I,I,congrArg (fun n:Nat=>some (Value.int .i64 (n:Int))) hdg,tO⟩ [] (by rw[<-hu hk0];rfl)
  ·intro _ _
   refine zA<|zU<|qP I<|qB 2 I I I<|qP I<|Tj I I I I I (by decide) ?_
   refine qV 32 ((k/9:Nat):Int) I (by show w64 (((k:Nat):Int).tdiv ((9:Nat):Int))=_;rw[Fs];exact Dn (by omega))<|qJ ?_
   refine qL 0 I I (fun W' hp=>Al.of_intsX hp 1 I hj ho) I<|qP I<|qB 3 I I I<|AO I<|qV 38 ((o+dg*10^(k%9):Nat):Int) I (by show w64 ((o:Int)+w64 ((dg:Int)*((10^(k%9):Nat):Int)))=_;rw[D2 (by omega),B1 (by omega)])<|qJ ?_
   refine Tc ?_
   refine BT 1 (nI (l.set (k/9) (o+dg*10^(k%9)))++[]) tH I I I I I I I I I I (by show 0+(k/9)*1+1<=(nI l++[]).length;rw[List.append_nil,CH];omega) (DU hj _) ?_
   refine xa<|zB<|wB 3 I I I<|wP I<|wV 41 ((10^(k%9)*10:Nat):Int) I (D2 (Nat.lt_of_le_of_lt (Nat.mul_le_mul_right 10 h10) (by decide)))<|wS 3 I I I<|zC<|zN<|?_
   refine BQ 6 (l.set (k/9) (o+dg*10^(k%9)),10^(k%9)*10) hrec I ⟨by rw[List.length_set];exact hl,E6 hlb q2,q3,fun h=> ?_⟩ [] I
   show 10^(k%9)*10=10^((k+1)%9)
   rw[show(k+1)%9=k%9+1 by omega,Nat.pow_succ]
 ·rintro⟨l,u⟩ d Lo rec ⟨hl,hlb,hlv,_⟩
  have hl:l.length=K:=hl
  have hlv:lv bs l=m%10^(decDigits m).length:=hlv
  rw[hL] at hlv
  have hmL:m<10^L:=by rw[<-hL];exact Sa m
  rw[Nat.mod_eq_of_lt hmL] at hlv
  have hV0:(⟨some g,K,[]⟩:Vec).OK 1 l.length (nI l):=⟨JO _,(fun h=>by cases h),fun _=>⟨by show _<=K;omega,by show K<=maxLen;simp only[maxLen];omega,by show(nI l).length+0=K*1;rw[CH];omega⟩⟩
  obtain⟨j',hV2,he⟩:=Gl hV0 hlb
  refine zN<|xe<|wP I<|wB 2 I I I<|Ao 43 (slv (some ⟨g,0,none⟩) l.length K) I (by rw[hl])<|wC I I (fun W hp=>Dd W _ K _ (AS.of_bx hp 1 I) hlb (by omega) (by omega))<|wP I<|wS 2 I I I<|xg<|wB 2 I I I<|wS 0 I I I<|xc<|?_
  rw[hlv] at hV2 he
  refine C2 5 I ?_
  exact Ar tH I (.cell 0 I I I I I) ((g,K,j'):NV) (by rw[hlv];rfl) hV2 fun W hp=>As.of_hp1 hp 1 (by show some (⟨g,3,nI l++[],true,none⟩:Bx)=some ⟨g,3,nI (lbs bs m)++j',true,none⟩;rw[he])
def DM (W:World):Prop:= ∃m,W.cell? ⟨0,0,none⟩=some (.int .i64 m)
theorem Rq {W0 W:World} {b:Nat} {v:Value} (h:W0.cell? ⟨b,0,none⟩=some v) (hb:Below W0.heap.size W0 W):W.cell? ⟨b,0,none⟩=some v:=by
 have hlt:b<W0.heap.size:=by
  obtain⟨c,e,fr,h1,_⟩:=Sort.cells_of_cell? h
  exact(Array.getElem?_eq_some_iff.1 h1).1
 have e:=hb.block b hlt
 unfold World.cell? at h⊢
 simp only at h⊢
 rw[e]
 exact h
theorem DM.below {W0 W:World} (h:DM W0) (hb:Below W0.heap.size W0 W):DM W:=by
 obtain⟨m,h1⟩:=h
 exact⟨m,Rq h1 hb⟩
theorem DM.hp {W0 W:World} {bxs:List Bx} (h:DM W0) (hp:Hp W0 bxs W):DM W:=h.below hp.below
theorem Rz (W:World) (l:List UInt8) (hl:l.length<=4000000000) (hv:DM W):
  Ag Tryz.prog 82 #[str l,str [47]] W (fun _:Unit=> .tuple #[str (cut l [47]).1,str (cut l [47]).2.1, .bool (cut l [47]).2.2]) (fun _=>True) (fun _=>[]):=by
 obtain⟨m,hm⟩:=hv
 have hsz:(⟨l.toArray⟩:ByteArray).size=l.length:=by show l.toArray.size=_;simp
 refine Ag.of1 ((Tryz.strings_Cut ⟨l.toArray⟩ ⟨#[47]⟩ m W (by rw[hsz];omega) hm).mono ?_)
 rintro e W' ⟨rfl,n,rfl⟩
 refine⟨I, ?_⟩
 have:=GS W n #[]
 rwa [Sort.grow_empty] at this
def okB (s:List UInt8):Prop:=ldn s=s.length/\s≠[]/\(1<s.length->s[0]? ≠some 48)
instance (s:List UInt8):Decidable (okB s):=by unfold okB;infer_instance
theorem XF (s:List UInt8):(dgN s=0\/dgN s<s.length)↔ ¬okB s:=by
 have hle:=ID s
 unfold dgN okB
 by_cases h:1<ldn s/\s[0]? =some 48
 ·rw[if_pos h]
  exact⟨fun _ hk=>hk.2.2 (by omega) h.2,fun _=> .inl I⟩
 ·rw[if_neg h]
  constructor
  ·rintro(h1|h1) ⟨h2,h3,_⟩
   ·exact h3 (List.length_eq_zero_iff.1 (by omega))
   ·omega
  ·intro hk
   by_cases h1:ldn s=0
   ·exact .inl h1
   ·by_cases h2:ldn s<s.length
    ·exact .inr h2
    ·exact absurd ⟨by omega,fun e=>h1 (by rw[e];rfl),fun h3 h4=>h ⟨by omega,h4⟩⟩ hk
theorem VR {x:List UInt8}:HD x=none↔ ¬(okB (trimPrefix x [45])/\ ¬(hasPrefix x [45]=true/\trimPrefix x [45]=[48])):=by
 unfold HD okB
 constructor
 ·intro h hc
  rw[if_pos ⟨hc.1.1,hc.1.2.1,hc.1.2.2,hc.2⟩] at h
  cases h
 ·intro h
  exact if_neg fun hc=>h ⟨⟨hc.1,hc.2.1,hc.2.2.1⟩,hc.2.2.2⟩
abbrev Ju (a b:List UInt8):Value:= .agg #[str a,str b]
def Lw (a:List UInt8):Value:=match frm a with
 |none=> .tuple #[Ju [] [], .bool false]
 |some (z,d)=> .tuple #[Ju (itoa z) (decDigits d), .bool true]
theorem fL {a:List UInt8} (h:HD (cut a [47]).1=none):Lw a= .tuple #[Ju [] [], .bool false]:=by
 have e:frm a=none:=by unfold frm;rw[h]
 rw[Lw,e]
theorem fO {a:List UInt8} (h:HD (cut a [47]).1≠none) (hf:(cut a [47]).2.2=false):Lw a= .tuple #[Ju (cut a [47]).1 [49], .bool true]:=by
 cases hi:HD (cut a [47]).1 with
 |none=>exact absurd hi h
 |some z=>
  have e:frm a=some (z,1):=by unfold frm;rw[hi];exact if_pos hf
  rw[Lw,e,Gz.1 hi]
  show Value.tuple #[Ju (itoa z) (decDigits 1), .bool true]=_
  rw[L8]
theorem fK {a:List UInt8} (h:HD (cut a [47]).1≠none) (hf: ¬(cut a [47]).2.2=false) (hk:okB (cut a [47]).2.1/\(cut a [47]).2.1≠[48]/\(cut a [47]).2.1≠[49]):Lw a= .tuple #[Ju (cut a [47]).1 (cut a [47]).2.1, .bool true]:=by
 cases hi:HD (cut a [47]).1 with
 |none=>exact absurd hi h
 |some z=>
  have e:frm a=some (z,D9 (cut a [47]).2.1):=by unfold frm;rw[hi];exact(if_neg hf).trans (if_pos ⟨hk.1.1,hk.1.2.1,hk.1.2.2,hk.2.1,hk.2.2⟩)
  rw[Lw,e]
  show Value.tuple #[Ju (itoa z) (decDigits (D9 _)), .bool true]=_
  rw[GA _ rfl (OT hk.1), <-Gz.1 hi]
theorem fP {a:List UInt8} (h:HD (cut a [47]).1≠none) (hf: ¬(cut a [47]).2.2=false) (hk: ¬(okB (cut a [47]).2.1/\(cut a [47]).2.1≠[48]/\(cut a [47]).2.1≠[49])):Lw a= .tuple #[Ju [] [], .bool false]:=by
 cases hi:HD (cut a [47]).1 with
 |none=>exact absurd hi h
 |some z=>
  have e:frm a=none:=by unfold frm;rw[hi];exact(if_neg hf).trans (if_neg fun hc=>hk ⟨⟨hc.1,hc.2.1,hc.2.2.1⟩,hc.2.2.2⟩)
  rw[Lw,e]
theorem ZA (a:List UInt8):(cut a [47]).1.length<=a.length/\(cut a [47]).2.1.length<=a.length:=by
 rcases E9 47 a with h|⟨x,y,rfl,hx⟩
 ·rw[Hs h];exact⟨Nat.le_refl _,Nat.zero_le _⟩
 ·rw[IT y hx,List.length_append,List.length_cons]
  constructor<;>simp<;>omega
theorem H2 (a b:List UInt8):((⟨a.toArray⟩:ByteArray).toList==(⟨b.toArray⟩:ByteArray).toList)=decide (a=b):=by
 by_cases h:a=b
 ·subst h;simp
 ·rw[dF h,beq_eq_false_iff_ne]
  intro e;exact h (by simpa using e)
theorem MP (a:List UInt8) (hl:a.length<=4000000000) (W:World) (hv:DM W):
  Ag Tryz.prog 282 #[str a] W (fun _:Unit=>Lw a) (fun _=>True) (fun _=>[]):=by
 obtain⟨hx1,hy1⟩:=ZA a
 refine Ab Tryz.func282 I I I<|xb<|wG I I fun _=>wP I<|zC<|?_
 rename_i b2
 refine xe<|wP I<|wC I I (fun W hp=>Rz W a hl (hv.hp hp))<|Bb I<|wP I<|zC<|?_
 have hA:= @fL a
 have hB:= @fO a
 have hC:= @fK a
 have hD:= @fP a
 obtain⟨x,hx⟩: ∃x,(cut a [47]).1=x:=⟨_,rfl⟩
 obtain⟨y,hy⟩: ∃y,(cut a [47]).2.1=y:=⟨_,rfl⟩
 obtain⟨f,hf⟩: ∃f,(cut a [47]).2.2=f:=⟨_,rfl⟩
 rw[hx] at hx1
 rw[hy] at hy1
 simp only[hx,hy,hf] at hA hB hC hD⊢
 obtain⟨o,ho⟩: ∃o,trimPrefix x [45]=o:=⟨_,rfl⟩
 obtain⟨p,hp⟩: ∃p,hasPrefix x [45]=p:=⟨_,rfl⟩
 have hol:o.length<=x.length:=by rw[<-ho,Ck];split;rw[List.length_drop];omega;exact Nat.le_refl _
 have hN:= @VR x
 rw[ho,hp] at hN
 refine xe<|wP I<|wC I I (fun W _=>(DB x [45] W).cast (by rw[ho,hp]))<|A8 I<|xa<|xd<|wP I<|wC I I (fun W _=>Iz o (by omega) W)<|wP I<|zC<|?_
 have hdg:=XF o
 have hdl:dgN o<=o.length:=by unfold dgN;split;exact Nat.zero_le _;exact ID o
 obtain⟨n,hn⟩: ∃n,dgN o=n:=⟨_,rfl⟩
 rw[hn] at hdg hdl
 rw[hn]
 refine zE<|zA<|Bz (X:=Bool) (fun c=>[(2,Af b2),(4,str x),(5,str y),(6, .bool f),(38, .bool c)]) (fun _=>[⟨b2,335,[str [],str []],true,none⟩]) (fun c=>(c=true↔HD x=none)) ?_ ?_
 ·refine zB<|wP I<|?_
  by_cases h0:n=0
  ·refine Ao 24 (.int .i64 0) I (by rw[h0];rfl)<|Aa I<|?_
   iterate 4 refine Ac I I ?_
   refine Aa I<|?_
   iterate 5 refine Ac I I ?_
   exact wP I<|zC<|Au true ⟨fun _=>hN.2 fun h=>hdg.1 (.inl h0) h.1,fun _=>rfl⟩ ⟨I,I,I,I,I,tO⟩ [] I
  ·refine wP I<|wU 25 false I (by rw[beq_eq_false_iff_ne];omega)<|A3 I<|Ao 29 (.int .i64 (o.length:Nat)) I (congrArg (fun n:Nat=>Value.int .i64 (n:Int)) (A5 o))<|wP I<|?_
   by_cases h1:n<o.length
   ·refine wU 30 true I (dT (by omega))<|Aa I<|?_
    iterate 5 refine Ac I I ?_
    exact wP I<|zC<|Au true ⟨fun _=>hN.2 fun h=>hdg.1 (.inr h1) h.1,fun _=>rfl⟩ ⟨I,I,I,I,I,tO⟩ [] I
   ·have hok:okB o:=Decidable.byContradiction fun h=>(hdg.2 h).elim h0 h1
    refine wU 30 false I (dF (by omega))<|A3 I<|?_
    cases p with
    |false=>
     iterate 2 refine Ac I I ?_
     exact wP rfl<|wP rfl<|zC<|Au false ⟨fun h=>(by cases h),fun h=>absurd h fun h=>hN.1 h ⟨hok,fun h=>(by cases h.1)⟩⟩ ⟨rfl,rfl,rfl,rfl,rfl,trivial⟩ [] rfl
    |true=>
     refine Aa I<|wU 36 (decide (o=[48])) I (H2 o [48])<|Aa I<|zC<|?_
     exact Au (decide (o=[48])) (by
      rw[decide_eq_true_iff,hN]
      exact⟨fun h h2=>h2.2 ⟨I,h⟩,fun h=>Decidable.byContradiction fun h2=>h ⟨hok,fun h3=>h2 h3.2⟩⟩) ⟨I,I,I,I,I,tO⟩ [] I
 ·intro c hc
  refine Av I (fun hcc=> ?_) (fun hcc=> ?_)
  ·refine xb<|Ak Tryz.hZ tH I I I I I I I I ?_
   exact wS 0 I I I<|wP I<|xc<|zP<|An tH I (.cell 0 I I I I I) (.tmp I) () (hA (hc.1 hcc)).symm tO fun W _=>As.nil _ _
  ·have hi:HD x≠none:=fun h=>by rw[hc.2 h] at hcc;cases hcc
   have hB:=hB hi
   have hC:=hC hi
   have hD:=hD hi
   refine zI<|zE<|xd<|Aa I<|?_
   cases f with
   |false=>
    refine xa<|zR I<|xb<|wP I<|Ak Tryz.hZ tH I I I I I I I I ?_
    exact wS 0 I I I<|wP I<|xc<|zP<|An tH I (.cell 0 I I I I I) (.tmp I) () (hB I).symm tO fun W _=>As.nil _ _
   |true=>
    have hC:=hC (by decide)
    have hD:=hD (by decide)
    refine xa<|zS I<|zI<|zE<|xd<|wP I<|wC I I (fun W _=>Iz y (by omega) W)<|wP I<|zC<|?_
    have hdg:=XF y
    have hdl:dgN y<=y.length:=by unfold dgN;split;exact Nat.zero_le _;exact ID y
    obtain⟨n,hn⟩: ∃n,dgN y=n:=⟨_,rfl⟩
    rw[hn] at hdg hdl
    rw[hn]
    refine zE<|zA<|Bz (X:=Bool) (fun c=>[(2,Af b2),(4,str x),(5,str y),(61, .bool c)]) (fun _=>[⟨b2,335,[str [],str []],true,none⟩]) (fun c=>(c=false↔(okB y/\y≠[48]/\y≠[49]))) ?_ ?_
    ·refine zB<|wP I<|?_
     by_cases h0:n=0
     ·refine Ao 46 (.int .i64 0) I (by rw[h0];rfl)<|Aa I<|?_
      iterate 4 refine Ac I I ?_
      refine Aa I<|?_
      iterate 2 refine Ac I I ?_
      refine Aa I<|?_
      iterate 2 refine Ac I I ?_
      exact wP rfl<|zC<|Au true ⟨fun h=>(by cases h),fun h=>absurd h.1 (hdg.1 (.inl h0))⟩ ⟨rfl,rfl,rfl,rfl,trivial⟩ [] rfl
     ·refine wP I<|wU 47 false I (by rw[beq_eq_false_iff_ne];omega)<|A3 I<|Ao 51 (.int .i64 (y.length:Nat)) I (congrArg (fun n:Nat=>Value.int .i64 (n:Int)) (A5 y))<|wP I<|?_
      by_cases h1:n<y.length
      ·refine wU 52 true I (dT (by omega))<|Aa I<|?_
       iterate 2 refine Ac I I ?_
       refine Aa I<|?_
       iterate 2 refine Ac I I ?_
       exact wP rfl<|zC<|Au true ⟨fun h=>(by cases h),fun h=>absurd h.1 (hdg.1 (.inr h1))⟩ ⟨rfl,rfl,rfl,rfl,trivial⟩ [] rfl
      ·have hok:okB y:=Decidable.byContradiction fun h=>(hdg.2 h).elim h0 h1
       refine wU 52 false I (dF (by omega))<|A3 I<|?_
       by_cases h2:y=[48]
       ·refine wU 56 true I ((H2 y [48]).trans (dT h2))<|Aa I<|?_
        iterate 2 refine Ac I I ?_
        exact wP rfl<|zC<|Au true ⟨fun h=>(by cases h),fun h=>absurd h2 h.2.1⟩ ⟨rfl,rfl,rfl,rfl,trivial⟩ [] rfl
       ·refine wU 56 false I ((H2 y [48]).trans (dF h2))<|A3 I<|wU 60 (decide (y=[49])) I (H2 y [49])<|wP I<|zC<|?_
        exact Au (decide (y=[49])) (by
         rw[decide_eq_false_iff_not]
         exact⟨fun h=>⟨hok,h2,h⟩,fun h=>h.2.2⟩) ⟨I,I,I,I,tO⟩ [] I
    ·intro c hc
     refine Av I (fun hcc=> ?_) (fun hcc=> ?_)
     ·refine xb<|Ak Tryz.hZ tH I I I I I I I I ?_
      exact wS 0 rfl rfl rfl<|wP rfl<|xc<|zP<|An tH rfl (.cell 0 rfl rfl rfl rfl rfl) (.tmp rfl) () (hD fun h=>by rw[hc.2 h] at hcc;cases hcc).symm trivial fun W _=>As.nil _ _
     ·refine zI<|xe<|Aa I<|Ak Tryz.hZ tH I I I I I I I I ?_
      exact wS 0 I I I<|wP I<|xc<|An tH I (.cell 0 I I I I I) (.tmp I) () (hC (hc.1 hcc)).symm tO fun W _=>As.nil _ _
theorem Lb (n:Int) (h0: -1000000000000000000<n) (h1:n<1000000000000000000):(itoa n).length<=20:=by
 have h:=Fa 18 n.natAbs (by decide) (by
  have:(10:Nat)^18=1000000000000000000:=by decide
  omega)
 unfold itoa
 split
 ·rw[List.length_cons];omega
 ·rw[show n.toNat=n.natAbs by omega];omega
structure BS where
 p:Value
 v:Value
 g:Option (Nat×Array Value×Nat×Nat)
def BS.zero:BS:=⟨.pointer none, .slice none 0 0,none⟩
def BS.b1 (x:BS) (b:Nat):Bx:=⟨b,183,[x.p,x.v],true,none⟩
def BS.b2 (x:BS):Bx:=match x.g with
 |none=>CN
 |some (g,cur,f1,f2)=>⟨g,0,[],true,some (.obj (.cells cur 5 (f1,f2)))⟩
structure BS.OK (x:BS) (b:Nat) (l:List UInt8):Prop where
 p:x.p= .pointer none\/x.p=Af b
 row:(x.g=none/\x.v= .slice none 0 0/\l=[])\/ ∃g cap cur f1 f2,x.g=some (g,cur,f1,f2)/\x.v= .slice (some ⟨g,0,none⟩) l.length cap/\f2<=l.length/\l.length<=cap/\cap<=maxLen/\cur.size=cap/\cur.toList.take l.length=Lib.byteCells l/\g≠b
theorem BS.OK.zero (b:Nat):BS.zero.OK b []:=⟨.inl rfl, .inl ⟨rfl,rfl,rfl⟩⟩
theorem U5 {W0 W:World} {bxs:List Bx} {b:Nat} {x:BS} {l:List UInt8} (hp:Hp W0 bxs W) (i j:Nat) (hi:nth bxs i=some (x.b1 b)) (hj:nth bxs j=some x.b2) (hx:x.OK b l):Lib.IsBuilderF 183 5 W0.heap.size b (Lib.byteCells l) W:=by
 rw[AT] at hi hj
 have h1:=hp.at_ i _ hi rfl
 have hb1:W.heap[b]? =some (.cells #[x.p,x.v] 183 (0,0)):=h1.1
 have hat:Lib.BuilderAtF 183 5 W0.heap.size b x.p (Lib.byteCells l) W:=by
  refine⟨h1.2,x.v,hb1, ?_, ?_⟩
  ·rw[Lib.byteCells_length]
   refine⟨by rw[Lib.byteCells_length,Nat.mul_one], ?_⟩
   rcases hx.row with⟨_,hv,hl⟩|⟨g,cap,cur,f1,f2,hg,hv,h3,h4,h5,h6,h7,_⟩
   ·exact .inl ⟨hv,by rw[hl];rfl⟩
   ·obtain⟨p,v,gg⟩:=x
    simp only at hg hv
    subst hg
    have h2:=hp.at_ j _ hj rfl
    exact .inr ⟨g,cap,cur,(f1,f2),hv,h2.2,h2.1,by simpa using h3,h4,h5,by simpa using h6,by simpa using h7⟩
  ·rcases hx.row with⟨_,hv,_⟩|⟨g,cap,cur,f1,f2,hg,hv,_,_,_,_,_,h8⟩
   ·rw[hv];simp[Value.ownBlock]
   ·rw[hv];simpa[Value.ownBlock] using h8
 rcases hx.p with e|e
 ·rw[e] at hat;exact .inl hat
 ·rw[e] at hat;exact .inr hat
def Sj (B:Bx):Bool:=match B.raw with
 |none=> !B.on|| !(Nat.beq B.ty 5)
 |some (.obj (.cells ..))=> !B.on
 |some (.obj _)=>true
 |some (.grp l)=>l.all fun p=>match p.2 with| .cells .. =>false|_=>true
theorem Wh {B:Bx} (h:Sj B=true) {q:Nat×Obj} (hq:q∈B.blk): ∀c fz,q.2≠ .cells c 5 fz:=by
 intro c fz e
 obtain⟨b,ty,cells,on,raw⟩:=B
 cases on with
 |false=>cases hq
 |true=>
  cases raw with
  |none=>
   obtain rfl:=List.mem_singleton.1 hq
   have e':(Obj.cells cells.toArray ty (0,0))= .cells c 5 fz:=e
   injection e' with _ e2 _
   subst e2
   exact absurd h (by simp[Sj])
  |some r=>
   cases r with
   |obj o=>
    obtain rfl:=List.mem_singleton.1 hq
    have e':o= .cells c 5 fz:=e
    subst e'
    exact absurd h (by simp[Sj])
   |grp l=>
    have hq':q∈l:=hq
    have:=List.all_eq_true.1 h q hq'
    rw[e] at this
    cases this
def Hy (i j:Nat):Nat->List Bx->Bool
 |_,[]=>true
 |k,B::l=>(Nat.beq k i||Nat.beq k j||Sj B)&&Hy i j (k+1) l
theorem Lv {i j:Nat}: ∀ {l:List Bx} {k m:Nat} {B:Bx},Hy i j k l=true->l[m]? =some B->k+m≠i->k+m≠j->Sj B=true
 |[],_,_,_,_,h,_,_=>by simp at h
 |C::l,k,0,B,h,hm,hi,hj=>by
  obtain rfl:C=B:=by simpa using hm
  simp only[Hy,Bool.and_eq_true,Bool.or_eq_true] at h
  rcases h.1 with(h|h)|h
  ·exact absurd (Nat.eq_of_beq_eq_true h) (by simpa using hi)
  ·exact absurd (Nat.eq_of_beq_eq_true h) (by simpa using hj)
  ·exact h
 |C::l,k,m+1,B,h,hm,hi,hj=>by
  simp only[Hy,Bool.and_eq_true] at h
  exact Lv (k:=k+1) h.2 (by simpa using hm) (by omega) (by omega)
theorem KV {W0 W W':World} {bxs:List Bx} {b:Nat} {x:BS} {l:List UInt8} {p:Value} (hp:Hp W0 bxs W) (i j:Nat) (hij:Nat.beq i j=false) (hi:nth bxs i=some (x.b1 b)) (hj:nth bxs j=some x.b2) (hr:Hy i j 0 bxs=true) (hpp:p= .pointer none\/p=Af b)
  (hat:Lib.BuilderAtF 183 5 W0.heap.size b p (Lib.byteCells l) W') (hb:Below W0.heap.size W W') (ho:Lib.OthersKept 5 (some b) W W'):
  ∃x':BS,x'.OK b l/\Below W0.heap.size W0 W'/\As W0 W' ((bxs.set i (x'.b1 b)).set j x'.b2):=by
 rw[AT] at hi hj
 have hij':i≠j:=fun e=>by rw[e,Nat.beq_refl] at hij;cases hij
 obtain⟨hB,v,hbk,hown,hne⟩:=hat
 rw[Lib.byteCells_length] at hown
 have hi2:i<bxs.length:=(List.getElem?_eq_some_iff.1 hi).1
 have hj2:j<bxs.length:=(List.getElem?_eq_some_iff.1 hj).1
 obtain⟨x',hx',hv1,h2⟩: ∃x':BS,x'.OK b l/\(x'.p=p/\x'.v=v)/\ ∀q∈x'.b2.blk,W'.heap[q.1]? =some q.2/\W0.heap.size<=q.1/\q.1≠b/\(∃c fz,q.2= .cells c 5 fz)/\(x'.b2.blk.map (·.1)).Nodup:=by
  rcases hown.2 with⟨rfl,hn⟩|⟨g,cap,cur,fz,rfl,hbg,hg,hf,hnc,hcm,hcs,htake⟩
  ·refine⟨⟨p, .slice none 0 0,none⟩,⟨hpp, .inl ⟨rfl,rfl,List.length_eq_zero_iff.1 hn⟩⟩,⟨rfl,rfl⟩,fun q hq=>by cases hq⟩
  ·have hgb:g≠b:=fun e=>hne (by rw[e];rfl)
   refine⟨⟨p, .slice (some ⟨g,0,none⟩) l.length cap,some (g,cur,fz.1,fz.2)⟩,⟨hpp, .inr ⟨g,cap,cur,fz.1,fz.2,I,I,by simpa using hf,hnc,hcm,by simpa using hcs,by simpa using htake,hgb⟩⟩,⟨I,I⟩,fun q hq=> ?_⟩
   obtain rfl:=List.mem_singleton.1 hq
   exact⟨hg,hbg,hgb,⟨cur,_,I⟩,List.nodup_cons.2 ⟨List.not_mem_nil,List.nodup_nil⟩⟩
 have hother: ∀(k:Nat) (C:Bx),k≠i->k≠j->bxs[k]? =some C-> ∀q∈C.blk,W'.heap[q.1]? =some q.2/\W0.heap.size<=q.1/\q.1≠b/\ ∀c fz,q.2≠ .cells c 5 fz:=fun k C h3 h4 hk q hq=>by
  have h5:=hp.own.cell k C hk q hq
  have h6:=Wh (Lv hr hk (by omega) (by omega)) hq
  have h7:q.1≠b:=fun e=>hp.own.apart k i C (x.b1 b) hk hi h3 q hq (b,_) (List.mem_cons_self ..) e
  exact⟨ho q.1 q.2 h5.1 (fun e=>h7 (Option.some.inj e)) h6,h5.2,h7,h6⟩
 have hget: ∀(k:Nat) (C:Bx),((bxs.set i (x'.b1 b)).set j x'.b2)[k]? =some C->(k=j/\C=x'.b2)\/(k=i/\k≠j/\C=x'.b1 b)\/(k≠i/\k≠j/\bxs[k]? =some C):=fun k C h=>by
  rcases Cw h with h|⟨h3,h⟩
  ·exact .inl h
  ·rcases Cw h with⟨h4,h5⟩|⟨h4,h⟩
   ·exact .inr (.inl ⟨h4,h3,h5⟩)
   ·exact .inr (.inr ⟨h4,h3,h⟩)
 have hb1: ∀q∈(x'.b1 b).blk,q=(b, .cells #[p,v] 183 (0,0)):=fun q hq=>by
  obtain rfl:=List.mem_singleton.1 hq
  show(b,Obj.cells #[x'.p,x'.v] _ _)=_
  rw[hv1.1,hv1.2];rfl
 refine⟨x',hx',hp.below.trans hb,fun k C hk q hq=> ?_,fun k C hk=> ?_,fun k m C E hk hm hne q hq q' hq'=> ?_⟩
 ·rcases hget k C hk with⟨rfl,rfl⟩|⟨rfl,_,rfl⟩|⟨h3,h4,hk⟩
  ·exact⟨(h2 q hq).1,(h2 q hq).2.1⟩
  ·rw[hb1 q hq];exact⟨hbk,hB⟩
  ·have:=hother k C h3 h4 hk q hq
   exact⟨this.1,this.2.1⟩
 ·rcases hget k C hk with⟨rfl,rfl⟩|⟨rfl,_,rfl⟩|⟨h3,h4,hk⟩
  ·cases hbl:x'.b2.blk with
   |nil=>exact List.nodup_nil
   |cons q r=>
    rw[<-hbl]
    exact(h2 q (by rw[hbl];exact List.mem_cons_self ..)).2.2.2.2
  ·exact List.nodup_cons.2 ⟨List.not_mem_nil,List.nodup_nil⟩
  ·exact hp.own.nd k C hk
 ·have e2: ∀q∈x'.b2.blk, ∀(k:Nat) (C:Bx),k≠i->k≠j->bxs[k]? =some C-> ∀q'∈C.blk,q.1≠q'.1:=fun q hq k C h3 h4 hk q' hq' e=>by
   have ha:=h2 q hq
   have hb:=hother k C h3 h4 hk q' hq'
   obtain⟨c,fz,hc⟩:=ha.2.2.2.1
   have:some q.2=some q'.2:=by rw[<-ha.1, <-hb.1,e]
   exact hb.2.2.2 c fz ((Option.some.inj this).symm.trans hc)
  rcases hget k C hk with⟨rfl,rfl⟩|⟨rfl,h5,rfl⟩|⟨h3,h4,hk'⟩<;>rcases hget m E hm with⟨rfl,rfl⟩|⟨rfl,h6,rfl⟩|⟨h7,h8,hm'⟩
  ·exact absurd I hne
  ·rw[hb1 q' hq'];exact(h2 q hq).2.2.1
  ·exact e2 q hq m E h7 h8 hm' q' hq'
  ·rw[hb1 q hq];exact fun e=>(h2 q' hq').2.2.1 e.symm
  ·exact absurd I hne
  ·rw[hb1 q hq];exact fun e=>(hother m E h7 h8 hm' q' hq').2.2.1 e.symm
  ·exact fun e=>e2 q' hq' k C h3 h4 hk' q hq e.symm
  ·rw[hb1 q' hq'];exact(hother k C h3 h4 hk' q hq).2.2.1
  ·exact hp.own.apart k m C E hk' hm' hne q hq q' hq'
section
variable {r:Option Nat} {n:Nat} {W0:World} {N:Nat} {D:List Deferred} {ops:List Oper} {Q:Exit->Act->World->Prop} {o:Oper} {rest:List Oper} {env:Env} {bxs:List Bx}
theorem Dr (i j:Nat) {x:BS} {b:Nat} {l:List UInt8} (s:List UInt8) {c:Call} {f:Operand} {d:Nat} (hij:Nat.beq i j=false) (hi:nth bxs i=some (x.b1 b)) (hj:nth bxs j=some x.b2) (hr:Hy i j 0 bxs=true) (hx:x.OK b l) (hl:l.length+s.length<=500000000)
  (hg:Aj ops N env o=some true) (hd:o.dst=some d) (ho:o.op= .call c) (hc:c.callee= .value f) (hf:evO N env f=some (.func (.func 142) #[] #[])) (ha:Cl (evO N env) c.args.toList=some [Af b,str s])
  (h: ∀x':BS,x'.OK b (l++s)->WL r n Tryz.prog N D ops Q rest ((d, .tuple #[.int .i64 (s.length:Nat), .nilIface])::env) (Hp W0 ((bxs.set i (x'.b1 b)).set j x'.b2))):WL r n Tryz.prog N D ops Q (o::rest) env (Hp W0 bxs):=by
 refine Eg (X:=BS) (val:=fun _=> .tuple #[.int .i64 (s.length:Nat), .nilIface]) (Φ:=fun x'=>x'.OK b (l++s)) (capt:=[]) (vs:=[Af b,str s]) (fun x'=>(bxs.set i (x'.b1 b)).set j x'.b2) hg hd ho hc hf ha (by kernel_rfl) (fun W hp=> ?_) h
 refine(Tryz.Builder_WriteString_k W0.heap.size b (Lib.byteCells l) ⟨s.toArray⟩ W (U5 hp i j hi hj hx) (by rw[Lib.byteCells_length];show _+s.toArray.size<=_;rw[List.size_toArray];omega) hp.below.size).mono ?_
 rintro e W' ⟨rfl,hat,hb,hk⟩
 have e1:Lib.byteCells l++strCells ⟨s.toArray⟩=Lib.byteCells (l++s):=by simp[Lib.byteCells,strCells]
 rw[e1] at hat
 obtain⟨x',h1,h2,h3⟩:=KV hp i j hij hi hj hr (.inr rfl) hat hb hk
 exact⟨x',congrArg (fun z:Nat=>Ending.returned (.tuple #[.int .i64 (z:Int), .nilIface])) (A5 s),h1,h2,h3⟩
theorem KU (i j:Nat) {x:BS} {b:Nat} {l:List UInt8} (ch:UInt8) {c:Call} {f:Operand} {d:Nat} (hij:Nat.beq i j=false) (hi:nth bxs i=some (x.b1 b)) (hj:nth bxs j=some x.b2) (hr:Hy i j 0 bxs=true) (hx:x.OK b l) (hl:l.length+1<=500000000)
  (hg:Aj ops N env o=some true) (hd:o.dst=some d) (ho:o.op= .call c) (hc:c.callee= .value f) (hf:evO N env f=some (.func (.func 144) #[] #[])) (ha:Cl (evO N env) c.args.toList=some [Af b, .int .u8 (ch.toNat:Nat)])
  (h: ∀x':BS,x'.OK b (l++[ch])->WL r n Tryz.prog N D ops Q rest ((d, .nilIface)::env) (Hp W0 ((bxs.set i (x'.b1 b)).set j x'.b2))):WL r n Tryz.prog N D ops Q (o::rest) env (Hp W0 bxs):=by
 refine Eg (X:=BS) (val:=fun _=> .nilIface) (Φ:=fun x'=>x'.OK b (l++[ch])) (capt:=[]) (vs:=[Af b, .int .u8 (ch.toNat:Nat)]) (fun x'=>(bxs.set i (x'.b1 b)).set j x'.b2) hg hd ho hc hf ha (by kernel_rfl) (fun W hp=> ?_) h
 refine(Tryz.Builder_WriteByte_k W0.heap.size b (Lib.byteCells l) ch.toNat W (U5 hp i j hi hj hx) (by rw[Lib.byteCells_length];omega) hp.below.size).mono ?_
 rintro e W' ⟨rfl,hat,hb,hk⟩
 have e1:Lib.byteCells l++[.int .u8 (ch.toNat:Int)]=Lib.byteCells (l++[ch]):=by simp[Lib.byteCells]
 rw[e1] at hat
 obtain⟨x',h1,h2,h3⟩:=KV hp i j hij hi hj hr (.inr rfl) hat hb hk
 exact⟨x',I,h1,h2,h3⟩
theorem GI (i j:Nat) {x:BS} {b:Nat} {l:List UInt8} {c:Call} {f:Operand} {d:Nat} (hij:Nat.beq i j=false) (hi:nth bxs i=some (x.b1 b)) (hj:nth bxs j=some x.b2) (hr:Hy i j 0 bxs=true) (hx:x.OK b l)
  (hg:Aj ops N env o=some true) (hd:o.dst=some d) (ho:o.op= .call c) (hc:c.callee= .value f) (hf:evO N env f=some (.func (.func 118) #[] #[])) (ha:Cl (evO N env) c.args.toList=some [Af b])
  (h: ∀x':BS,x'.OK b l->WL r n Tryz.prog N D ops Q rest ((d,str l)::env) (Hp W0 ((bxs.set i (x'.b1 b)).set j x'.b2))):WL r n Tryz.prog N D ops Q (o::rest) env (Hp W0 bxs):=by
 refine Eg (X:=BS) (val:=fun _=>str l) (Φ:=fun x'=>x'.OK b l) (capt:=[]) (vs:=[Af b]) (fun x'=>(bxs.set i (x'.b1 b)).set j x'.b2) hg hd ho hc hf ha (by kernel_rfl) (fun W hp=> ?_) h
 refine(Tryz.Builder_String_any_k W0.heap.size b l W (U5 hp i j hi hj hx) hp.below.size).mono ?_
 rintro e W' ⟨rfl,hat,hb,hk⟩
 rcases hat with hat|hat
 ·obtain⟨x',h1,h2,h3⟩:=KV hp i j hij hi hj hr (.inl rfl) hat hb hk
  exact⟨x',I,h1,h2,h3⟩
 ·obtain⟨x',h1,h2,h3⟩:=KV hp i j hij hi hj hr (.inr rfl) hat hb hk
  exact⟨x',I,h1,h2,h3⟩
end
theorem Ek (p:Option Addr) (n cap:Nat) (W:World):Ag Tryz.prog 336 #[slv p n cap] W (fun b:Nat=> .func (.func 348) #[] #[.pointer (some ⟨b,0,none⟩)]) (fun _=>True) (fun b=>[⟨b,43,[slv p n cap],true,none⟩]):=by
 refine Ab Tryz.func336 I I I<|xb<|?_
 refine Lr rfl rfl rfl rfl ?_;intro b
 exact wP I<|xg<|Aa I<|xc<|Ar tH I (.tmp I) b I tO fun W hp=>As.of_hp hp
structure XA (b:Nat) (p:Option Addr) (cap:Nat) (l:List Nat) (W:World):Prop where
 var:Al W b 0 [slv p l.length cap]
 ints:AS W p l
theorem Ga (b:Nat) (p:Option Addr) (cap:Nat) (l:List Nat) (hn:l.length<4611686018427387904):
  Vq Tryz.prog 348 [.pointer (some ⟨b,0,none⟩)] l.length (fun k=>[.int .i64 ((l.length-1-k:Nat):Int), .int .i64 (lim l (l.length-1-k):Nat)]) (XA b p cap l):=by
 refine⟨fun y J Jx hNeed hdr hY W hJ=> ?_⟩
 refine E2 (args:=[.func (.yield y) #[] #[], .pointer (some ⟨b,0,none⟩)]) (J0:=J 0) Tryz.func348 I I I hJ ?_
 refine xb<|wL 0 I I (fun W hp=>(hNeed 0 W hp).var) I<|Aa I<|wV 6 ((l.length:Int)-1-(0:Nat)) I (by show w64 ((l.length:Int)-1)=_;rw[AC (by omega) (by omega)];omega)<|wP I<|xa<|zH<|En (X:=Nat) (fun k=>[(0, .func (.yield y) #[] #[]),(1, .pointer (some ⟨b,0,none⟩)),(3, .int .i64 ((l.length:Int)-1-(k:Nat)))]) J (fun k=>k<=l.length) (fun k=>l.length-k) 0 (Nat.zero_le _) ⟨I,I,I,tO⟩ (fun W h=>h) ?_
 intro k hk
 refine xd<|Aa I<|xa<|Av I (fun hc=> ?_) (fun hc=> ?_)
 ·have hk':k<l.length:=by simp at hc;omega
  clear hc
  have hi:l.length-1-k<l.length:=by omega
  have e1:(l.length:Int)-1-(k:Nat)=((l.length-1-k:Nat):Int):=by omega
  obtain⟨b2,off,rfl,hrow⟩: ∃b2 off,p=some ⟨b2,off,none⟩/\ ∀W,J k W->Al W b2 (off+(l.length-1-k)*1) [.int .i64 (lim l (l.length-1-k):Nat)]:=by
   obtain⟨b2,off,e,_⟩:=(hNeed 0 W hJ).ints.row hi
   refine⟨b2,off,e,fun W hW=> ?_⟩
   obtain⟨b3,off3,e',h⟩:=(hNeed k W hW).ints.row hi
   rw[e] at e'
   cases e'
   exact h _ hi
  refine xh<|Aa I<|wV 12 ((l.length-1-k:Nat):Int) I e1<|wL 0 I I (fun W hp=>(hNeed k W hp).var) I<|wP I<|wV 14 ((l.length-1-k:Nat):Int) I e1<|wJ ?_
  refine wL 0 I I (fun W hp=>hrow W hp) I<|F6 (A1:=J (k+1)) (A2:=Jx) I I I I I I (fun W hp=>hY k W hk' hp) ?_ ?_
  ·exact wP I<|xa<|zS I<|zI<|xj<|Ae I<|zC<|D5 (k+1) hk' (by omega) ⟨I,I,congrArg (fun z=>some (Value.int .i64 z)) (by show w64 ((l.length:Int)-1-(k:Nat)-1)=_;rw[AC (by omega) (by omega)];omega),tO⟩ (fun W h=>h)
  ·exact wP I<|xa<|zR I<|zO<|zQ<|zP<|zP<|zQ<|CP I (fun W h=>h)
 ·have hk':k=l.length:=by simp at hc;omega
  subst hk'
  exact xf<|Io I fun W h=>h
def sg (mi:Bool) (m:Nat):Int:=if mi then -(m:Int) else m
def sgn (mi:Bool):List UInt8:=if mi then[45] else[]
theorem Jn (m:Nat):itoa (m:Int)=decDigits m:=by
 unfold itoa
 rw[if_neg (by omega)];rfl
theorem ZK {mi:Bool} {m:Nat} (hm:m≠0):itoa (sg mi m)=sgn mi++decDigits m:=by
 cases mi with
 |false=>exact Jn m
 |true=>
  unfold itoa sg
  rw[if_pos rfl,if_pos (by omega)]
  show 45::decDigits (-(m:Int)).natAbs=_
  rw[Int.natAbs_neg,Int.natAbs_natCast];rfl
theorem UT (mi:Bool):sg mi 0=0:=by cases mi<;>rfl
theorem KH (c:UInt8): ∀n,repeatL [c] n=List.replicate n c
 |0=>rfl
 |n+1=>by
  have:=KH c n
  simp_all [repeatL,List.replicate_succ]
theorem OA (n:Nat) (hn:n<=1000000):Cd Tryz.prog 349 [str [48], .int .i64 (n:Nat)] (str (List.replicate n 48)):=by
 intro W
 refine Ag.of1 ((Tryz.strings_Repeat ⟨#[48]⟩ n W (by omega) (by show 1*n<=_;omega)).mono ?_)
 rintro e w' ⟨rfl,hb⟩
 refine⟨?_,hb⟩
 show Ending.returned (str (repeatL [48] n))=_
 rw[KH]
theorem M7 {m:Nat} (hm:m≠0):0<(lbs bs m).length:=by
 rcases Nat.eq_zero_or_pos (lbs bs m).length with h|h
 ·exact absurd ((JD bs2).1 (List.length_eq_zero_iff.1 h)) hm
 ·exact h
def wrt (mi:Bool) (m K k:Nat):List UInt8:=if k=0 then sgn mi else sgn mi++decDigits (m/bs^(K-k))
theorem YT {mi:Bool} {m K:Nat} (hK:(lbs bs m).length=K) (hm:m≠0):wrt mi m K 0++decDigits (lim (lbs bs m) (K-1))=wrt mi m K 1:=by
 have h1:=Bq bs2 m
 have h0:=M7 hm
 rw[hK] at h1 h0
 have h2:m/bs^(K-1)<bs:=Nat.div_lt_of_lt_mul (by rw[<-Nat.pow_succ,show(K-1).succ=K by omega];exact h1)
 show sgn mi++_=sgn mi++_
 rw[C1 bs2,Nat.mod_eq_of_lt h2]
theorem Xw {mi:Bool} {m K k:Nat} (hK:(lbs bs m).length=K) (hm:m≠0) (h0:0<k) (hk:k<K):(wrt mi m K k++List.replicate (9-(decDigits (lim (lbs bs m) (K-1-k))).length) 48)++decDigits (lim (lbs bs m) (K-1-k))=wrt mi m K (k+1):=by
 have h1:=PP bs2 hm
 rw[hK] at h1
 unfold wrt
 rw[if_neg (by omega),if_neg (by omega),List.append_assoc,List.append_assoc]
 congr 1
 have hq:m/bs^(K-k)≠0:=by
  have h2:bs^(K-k)<=bs^(K-1):=Nat.pow_le_pow_right (by decide) (by omega)
  have h3:0<bs^(K-k):=Nat.pow_pos (by decide)
  have:=Nat.div_pos (Nat.le_trans h2 h1) h3
  omega
 have h9:bs=10^9:=by decide
 have hl:=CQ bs2 (CC bs2 m) (K-1-k)
 have:=Sp _ hq 9 (lim (lbs bs m) (K-1-k)) (by omega) (by rw[<-h9];exact hl)
 unfold pad at this
 rw[<-this, <-h9,C1 bs2]
 have h4:m/bs^(K-k)=m/bs^(K-1-k)/bs:=by
  rw[Nat.div_div_eq_div_mul, <-Nat.pow_succ,show(K-1-k).succ=K-k by omega]
 rw[h4,show K-(k+1)=K-1-k by omega]
 congr 1
 have:=Nat.mod_add_div (m/bs^(K-1-k)) bs
 omega
theorem Zj {mi:Bool} {m K k:Nat} (hK:(lbs bs m).length=K) (hK2:K<=10000):(wrt mi m K k).length<=100000:=by
 have hs:(sgn mi).length<=1:=by cases mi<;>decide
 unfold wrt
 split
 ·omega
 ·have h1:=Bq bs2 m
  rw[hK] at h1
  have h9:bs^K=10^(9*K):=by rw[show bs=10^9 by decide, <-Nat.pow_mul]
  rw[h9] at h1
  have h2:m/bs^(K-k)<10^(9*K+1):=Nat.lt_of_le_of_lt (Nat.div_le_self ..) (Nat.lt_of_lt_of_le h1 (Nat.pow_le_pow_right (by decide) (by omega)))
  have:=Fa (9*K+1) _ (by omega) h2
  rw[List.length_append];omega
theorem RG (W:World) (p:Option Addr) (cap:Nat) (mi:Bool) (m:Nat) (hA:AS W p (lbs bs m)) (hK2:(lbs bs m).length<=10000) (ht:AZ W):
  Ag Tryz.prog 340 #[.agg #[.bool mi,slv p (lbs bs m).length cap]] W (fun _:Unit=>str (itoa (sg mi m))) (fun _=>True) (fun _=>[]):=by
 obtain⟨K,hK⟩: ∃K,(lbs bs m).length=K:=⟨_,rfl⟩
 rw[hK] at hK2
 refine Ab Tryz.func340 I I I<|xb<|wF I I fun _=>wP I<|zC<|?_
 rename_i b1
 refine zE<|xd<|wP I<|wB 0 I I I<|Aa I<|xa<|?_
 by_cases hm:m=0
 ·have h0:(lbs bs m).length=0:=by rw[hm,Di];rfl
  refine Bi 10 (.bool true) I (congrArg Value.bool (by rw[h0];rfl)) ?_
  exact zR I<|xb<|wP I<|xc<|zP<|wR1 I I (by rw[hm,UT,NX])
 ·have h0:=M7 hm
  refine Bi 10 (.bool false) I (congrArg Value.bool (by rw[beq_eq_false_iff_ne];omega)) ?_
  refine zS I<|zI<|xe<|wG I I fun _=>zC<|?_
  rename_i b3
  refine zE<|xd<|M1 ?_
  refine wP I<|wB 0 I I I<|xa<|Bz (X:=BS) (fun _=>[(1,Af b1),(3,Af b3)]) (fun x=>[⟨b1,388,[.bool mi,slv p (lbs bs m).length cap],true,none⟩,x.b1 b3,x.b2]) (fun x=>x.OK b3 (sgn mi)) ?_ ?_
  ·refine Av I (fun hc=> ?_) (fun hc=> ?_)
   ·refine zB<|KU (x:=BS.zero) (l:=[]) 1 2 45 I I I I (BS.OK.zero b3) (by decide) I I I I I I ?_
    intro x' hx'
    exact zC<|Au x' (by rw[hc];exact hx') ⟨I,I,tO⟩ [] I
   ·exact zI<|Au BS.zero (by rw[hc];exact BS.OK.zero b3) ⟨I,I,tO⟩ [] I
  ·intro x0 hx0
   refine xd<|wP I<|wB 0 I I I<|wD (X:=Nat) I I (fun W _=>Ek p (lbs bs m).length cap W) ?_
   intro b16 _
   refine xa<|zH<|?_
   refine Eh (X:=BS) (fun x=>[⟨b1,388,[.bool mi,slv p (lbs bs m).length cap],true,none⟩,x.b1 b3,x.b2,⟨b16,43,[slv p (lbs bs m).length cap],true,none⟩])
    (fun k x=>x.OK b3 (wrt mi m K k)) (fun _ _=>False) x0 rfl (by kernel_rfl) (Ga b16 p cap (lbs bs m) (by omega)) (fun _=>rfl) hx0 [] rfl (fun k x W _ hp=>⟨Al.of_bx hp 3 rfl rfl,hA.hp hp⟩) ?_ ?_ (fun _ _ _ _ _ h=>h.elim)
   ·rintro k x d Lo rec hk hx hrec
    rw[hK] at hk
    have hwl:=Zj (mi:=mi) (k:=k) hK hK2
    obtain⟨v,hv⟩: ∃v,lim (lbs bs m) (K-1-k)=v:=⟨_,rfl⟩
    have hvb:v<bs:=by rw[<-hv];exact CQ bs2 (CC bs2 m) _
    have hvb':v<1000000000:=hvb
    have hvl:(decDigits v).length<=9:=Fa 9 v (by omega) hvb
    refine xb<|wP I<|xa<|zB<|wP I<|zC<|CJ 5 hrec I ?_
    refine Bi 5 (.int .i64 (v:Nat)) I (by rw[hK,hv]) ?_
    refine Bi 4 (.int .i64 ((K-1-k:Nat):Int)) I (by rw[hK]) ?_
    refine zH<|xb<|wP I<|wC I I (fun W hp=>(AF (v:Nat) (by omega) (by omega) W (ht.hp hp)).cast (by rw[Jn]))<|wP I<|xa<|xd<|Aa I<|wB 0 I I I<|wP I<|Ao 24 (.int .i64 (K:Nat)) I (congrArg (fun n:Nat=>Value.int .i64 (n:Int)) hK)<|wP I<|wV 25 ((K-1:Nat):Int) I (by show w64 ((K:Int)-1)=_;rw[AC (by omega) (by omega)];omega)<|wP I<|xa<|?_
    by_cases hk0:k=0
    ·subst hk0
     refine Bi 26 (.bool false) I (congrArg Value.bool (by rw[decide_eq_false_iff_not];omega)) ?_
     refine zS I<|zI<|zE<|zB<|wP I<|Dr (x:=x) (l:=wrt mi m K 0) 1 2 (decDigits v) I I I I hx (by omega) I I I I I I ?_
     intro x' hx'
     have e:=YT (mi:=mi) hK hm
     rw[show K-1-0=K-1 by omega] at hv
     rw[hv] at e
     rw[e] at hx'
     exact zC<|zN<|BQ 5 x' hrec I hx' [] I
    ·refine Bi 26 (.bool true) I (congrArg Value.bool (by rw[decide_eq_true_iff];omega)) ?_
     refine zR I<|zB<|Aa I<|wV 28 ((decDigits v).length:Nat) I (congrArg (fun n:Nat=>(n:Int)) (A5 _))<|wP I<|wV 29 ((9-(decDigits v).length:Nat):Int) I (by show w64 (9-((decDigits v).length:Int))=_;rw[AC (by omega) (by omega)];omega)<|wC I I (fun W _=>OA (9-(decDigits v).length) (by omega) W)<|?_
     refine Dr (x:=x) (l:=wrt mi m K k) 1 2 (List.replicate (9-(decDigits v).length) 48) I I I I hx (by rw[List.length_replicate];omega) I I I I I I ?_
     intro x1 hx1
     refine xa<|zB<|wP I<|?_
     refine Dr (x:=x1) (l:=wrt mi m K k++List.replicate (9-(decDigits v).length) 48) 1 2 (decDigits v) I I I I hx1 (by rw[List.length_append,List.length_replicate];omega) I I I I I I ?_
     intro x' hx'
     have e:=Xw (mi:=mi) hK hm (by omega) hk
     rw[hv] at e
     rw[e] at hx'
     exact zC<|zN<|BQ 5 x' hrec I hx' [] I
   ·rintro x d Lo rec hx
    rw[hK] at hx
    have e:wrt mi m K K=itoa (sg mi m):=by
     unfold wrt
     rw[if_neg (by omega),Nat.sub_self,Nat.pow_zero,Nat.div_one,ZK hm]
    rw[e] at hx
    refine zN<|xe<|GI (x:=x) (l:=itoa (sg mi m)) 1 2 I I I I hx I I I I I I ?_
    intro x' hx'
    refine wP I<|xc<|C2 4 I ?_
    exact wR1 I I I
def mxd:Nat:=300
def BN:Nat:=10^mxd
theorem K6 {m:Nat}:(decDigits m).length<=300↔m<BN:=by
 constructor
 ·intro h
  exact Nat.lt_of_lt_of_le (Sa m) (Nat.pow_le_pow_right (by decide) (show(decDigits m).length<=mxd from h))
 ·intro h
  exact(Fa mxd m (by decide) h:(decDigits m).length<=mxd)
theorem SX (mi:Bool) (m:Nat):(sg mi m).natAbs=m:=by
 cases mi with
 |false=>rfl
 |true=>show(-(m:Int)).natAbs=m;rw[Int.natAbs_neg,Int.natAbs_natCast]
def P3 (z:Int):Value:=if z.natAbs<BN then .tuple #[str (itoa z), .int .i64 0] else .tuple #[str [], .int .i64 4]
theorem JG (W:World) (p:Option Addr) (cap:Nat) (mi:Bool) (m:Nat) (hA:AS W p (lbs bs m)) (hK2:(lbs bs m).length<=10000) (ht:AZ W):
  Ag Tryz.prog 313 #[.agg #[.bool mi,slv p (lbs bs m).length cap]] W (fun _:Unit=>P3 (sg mi m)) (fun _=>True) (fun _=>[]):=by
 refine Ab Tryz.func313 I I I<|xb<|wF I I fun _=>Aa I<|xg<|wB 0 I I I<|wC I I (fun W hp=>RG W p cap mi m (hA.hp hp) hK2 (ht.hp hp))<|wP I<|xa<|xd<|wP I<|wC I I (fun W _=>CE (itoa (sg mi m)) [45] W)<|Ao 8 (str (decDigits m)) I (by rw[Ce,SX])<|wP I<|wV 9 ((decDigits m).length:Nat) I (congrArg (fun n:Nat=>(n:Int)) (A5 _))<|wP I<|?_
 refine xa<|?_
 by_cases h:m<BN
 ·have h1:=K6.2 h
  refine Bi 10 (.bool false) I (congrArg Value.bool (by rw[decide_eq_false_iff_not];omega)) ?_
  exact zS I<|zI<|xe<|Ae I<|xc<|wR2 I I (by rw[P3,if_pos (by rw[SX];exact h)])
 ·have h1: ¬(decDigits m).length<=300:=fun e=>h (K6.1 e)
  refine Bi 10 (.bool true) I (congrArg Value.bool (by rw[decide_eq_true_iff];omega)) ?_
  exact zR I<|xb<|Aa I<|xc<|zP<|wR2 I I (by rw[P3,if_neg (by rw[SX];exact h)])
theorem DT {B n i:Nat}:n/B^i=n/B^(i+1)*B+n/B^i%B:=by
 have h1:n/B^(i+1)=n/B^i/B:=by rw[Nat.pow_succ,Nat.div_div_eq_div_mul]
 rw[h1]
 have:=Nat.mod_add_div (n/B^i) B
 rw[Nat.mul_comm];omega
theorem NB {a b m:Nat} (h:a/m<b/m):a<b:=by
 rcases Nat.lt_or_ge a b with h1|h1
 ·exact h1
 ·exact absurd (Nat.div_le_div_right (c:=m) h1) (by omega)
theorem K7 {a b:Nat} (h:(lbs bs a).length<(lbs bs b).length):a<b:=by
 rcases Nat.lt_or_ge a b with h1|h1
 ·exact h1
 ·have:=(El bs2 (n:=b)).2 (Nat.lt_of_le_of_lt h1 (Bq bs2 a))
  omega
def Yk (a b:Nat) (c:Int):Prop:=(c<0↔a<b)/\(c=0↔a=b)
theorem Yz {a b i:Nat} (h:a/bs^(i+1)=b/bs^(i+1)) (hne:lim (lbs bs a) i≠lim (lbs bs b) i):Yk a b ((lim (lbs bs a) i:Int)-lim (lbs bs b) i):=by
 rw[C1 bs2,C1 bs2] at hne⊢
 have e1:=DT (B:=bs) (n:=a) (i:=i)
 have e2:=DT (B:=bs) (n:=b) (i:=i)
 rw[h] at e1
 rcases Nat.lt_or_ge (a/bs^i%bs) (b/bs^i%bs) with h1|h1
 ·have h2:a<b:=NB (m:=bs^i) (by omega)
  exact⟨⟨fun _=>h2,fun _=>by omega⟩,⟨fun _=>by omega,fun _=>by omega⟩⟩
 ·have h2:b<a:=NB (m:=bs^i) (by omega)
  exact⟨⟨fun _=>by omega,fun _=>by omega⟩,⟨fun _=>by omega,fun _=>by omega⟩⟩
theorem Is (W:World) (p q:Option Addr) (cap cap2 a b:Nat) (hA:AS W p (lbs bs a)) (hB:AS W q (lbs bs b)) (hna:(lbs bs a).length<=1000000) (hnb:(lbs bs b).length<=1000000):
  Ag Tryz.prog 333 #[slv p (lbs bs a).length cap,slv q (lbs bs b).length cap2] W (fun c:Int=> .int .i64 c) (Yk a b) (fun _=>[]):=by
 refine Ab Tryz.func333 I I I<|xb<|wF I I fun _=>wG I I fun _=>zC<|?_
 rename_i b3 b4
 refine zE<|xd<|Aa I<|wB 0 I I I<|Aa I<|xa<|?_
 by_cases hlen:(lbs bs a).length=(lbs bs b).length
 ·refine Bi 11 (.bool false) I (congrArg Value.bool (by rw[bne_eq_false_iff_eq];omega)) ?_
  refine zS I<|zI<|zE<|xd<|wP I<|wD (X:=Nat) I I (fun W _=>Ek p (lbs bs a).length cap W) ?_
  intro b18 _
  refine xa<|zH<|?_
  obtain⟨K,hK⟩: ∃K,(lbs bs a).length=K:=⟨_,rfl⟩
  have hKb:(lbs bs b).length=K:=by omega
  refine Eh (X:=Int) (fun x=>[⟨b3,43,[slv q (lbs bs b).length cap2],true,none⟩,⟨b4,3,[.int .i64 x],true,none⟩,⟨b18,43,[slv p (lbs bs a).length cap],true,none⟩])
   (fun k _=>a/bs^(K-k)=b/bs^(K-k)) (fun c x=>c= .ret/\Yk a b x) 0 rfl (by kernel_rfl) (Ga b18 p cap (lbs bs a) (by omega)) (fun _=>rfl)
   (by have h1:=Bq bs2 a;have h2:=Bq bs2 b;rw[hK] at h1;rw[hKb] at h2;rw[Nat.sub_zero,Nat.div_eq_of_lt h1,Nat.div_eq_of_lt h2]) [] rfl (fun k x W _ hp=>⟨Al.of_bx hp 2 rfl rfl,hA.hp hp⟩) ?_ ?_ ?_
  ·rintro k x d Lo rec hk hx hrec
   rw[hK] at hk
   have hi:K-1-k<(lbs bs b).length:=by omega
   have hup:a/bs^(K-1-k+1)=b/bs^(K-1-k+1):=by rw[show K-1-k+1=K-k by omega];exact hx
   obtain⟨qb,qo,rfl,hrow⟩:=hB.row hi
   refine xb<|wP I<|xa<|zB<|wP I<|zC<|CJ 4 hrec I ?_
   refine Bi 5 (.int .i64 ((K-1-k:Nat):Int)) I (by rw[hK]) ?_
   refine Bi 6 (.int .i64 (lim (lbs bs a) (K-1-k):Nat)) I (by rw[hK]) ?_
   refine zH<|xb<|wP I<|wB 0 I I I<|wP I<|wJ ?_
   refine wL 0 I I (fun W' hp=>(hrow (K-1-k) hi).hp hp) I<|wP I<|xa<|?_
   by_cases hne:lim (lbs bs a) (K-1-k)=lim (lbs bs b) (K-1-k)
   ·refine Bi 26 (.bool false) I (congrArg Value.bool (by rw[bne_eq_false_iff_eq,hne])) ?_
    refine zS I<|zI<|zN<|BQ 4 x hrec I ?_ [] I
    show a/bs^(K-(k+1))=b/bs^(K-(k+1))
    rw[C1 bs2,C1 bs2] at hne
    rw[show K-(k+1)=K-1-k by omega,DT (n:=a),DT (n:=b),hup,hne]
   ·refine Bi 26 (.bool true) I (congrArg Value.bool (by rw[bne_iff_ne];omega)) ?_
    refine zR I<|xb<|wP I<|wB 0 I I I<|wP I<|wJ ?_
    refine wL 0 I I (fun W' hp=>(hrow (K-1-k) hi).hp hp) I ?_
    have h1:=CQ bs2 (CC bs2 a) (K-1-k)
    have h2:=CQ bs2 (CC bs2 b) (K-1-k)
    have h1':lim (lbs bs a) (K-1-k)<1000000000:=h1
    have h2':lim (lbs bs b) (K-1-k)<1000000000:=h2
    exact wP I<|wV 32 ((lim (lbs bs a) (K-1-k):Int)-lim (lbs bs b) (K-1-k)) I (AC (by omega) (by omega))<|wS 1 I I I<|xc<|zQ<|BA 4 ((lim (lbs bs a) (K-1-k):Int)-lim (lbs bs b) (K-1-k)) hrec I ⟨I,Yz hup hne⟩ [] I
  ·rintro x d Lo rec hx
   rw[hK,Nat.sub_self,Nat.pow_zero,Nat.div_one,Nat.div_one] at hx
   refine zN<|xe<|wS 1 I I I<|xc<|C2 3 I ?_
   exact Ar tH I (.cell 1 I I I I I) (0:Int) I ⟨⟨fun h=>by omega,fun h=>by omega⟩,⟨fun _=>hx,fun _=>rfl⟩⟩ fun W _=>As.nil _ _
  ·rintro x d Lo rec c ⟨rfl,hx⟩
   refine zO<|zQ<|zP<|C2 3 I ?_
   exact Ar tH I (.cell 1 I I I I I) x I hx fun W _=>As.nil _ _
 ·refine Bi 11 (.bool true) I (congrArg Value.bool (by rw[bne_iff_ne];omega)) ?_
  refine zR I<|xb<|Aa I<|wB 0 I I I<|Aa I<|wV 16 (((lbs bs a).length:Int)-(lbs bs b).length) I (AC (by omega) (by omega))<|wS 1 I I I<|xc<|zP<|Ar tH I (.cell 1 I I I I I) (((lbs bs a).length:Int)-(lbs bs b).length) I ?_ fun W _=>As.nil _ _
  rcases Nat.lt_or_ge (lbs bs a).length (lbs bs b).length with h|h
  ·have:=K7 h
   exact⟨⟨fun _=>this,fun _=>by omega⟩,⟨fun _=>by omega,fun _=>by omega⟩⟩
  ·have:=K7 (a:=b) (b:=a) (by omega)
   exact⟨⟨fun _=>by omega,fun _=>by omega⟩,⟨fun _=>by omega,fun _=>by omega⟩⟩
theorem X9 (r:Nat):lv bs [r]=r:=by show r+bs*0=r;rw[Nat.mul_zero,Nat.add_zero]
theorem FD (W:World) (p:Option Addr) (cap a dv:Nat) (hA:AS W p (lbs bs a)) (hna:(lbs bs a).length<=1000000) (hd0:0<dv) (hd1:dv<bs):
  Ag Tryz.prog 334 #[slv p (lbs bs a).length cap, .int .i64 (dv:Nat)] W (fun x:NV×NV=> .tuple #[FB x.1 (lbs bs (a/dv)).length,FB x.2 (lbs bs (a%dv)).length]) (fun x=>Ip x.1 (lbs bs (a/dv))/\Ip x.2 (lbs bs (a%dv))) (fun x=>[Gu x.1 (lbs bs (a/dv)),Gu x.2 (lbs bs (a%dv))]):=by
 obtain⟨K,hK⟩: ∃K,(lbs bs a).length=K:=⟨_,rfl⟩
 have hd1':dv<1000000000:=hd1
 have hal:=Bq bs2 a
 rw[hK] at hna hal
 refine Ab Tryz.func334 I I I<|xb<|wF I I fun _=>wG I I fun _=>wP I<|zC<|?_
 rename_i b3 b4
 refine xe<|Aa I<|?_
 refine Fl Tryz.vec43 K I I I I I (congrArg (fun n:Nat=>(n:Int)) hK) (congrArg (fun n:Nat=>(n:Int)) hK) (by simp only[maxLen];omega) (by omega) ?_
 intro g
 have ez:Du (Value.cells (.int .i64 0)).toList K=nI (List.replicate K 0)++[]:=by rw[List.append_nil];exact JC K
 rw[ez]
 refine wS 1 I I I<|xg<|wG I I fun _=>wS 3 I I I<|zC<|?_
 rename_i b6
 refine zE<|xd<|wP I<|wD (X:=Nat) I I (fun W _=>Ek p (lbs bs a).length cap W) ?_
 intro b13 _
 refine xa<|zH<|?_
 refine Eh (X:=List Nat×Nat×Nat) (fun x=>[⟨b3,3,[.int .i64 (dv:Nat)],true,none⟩,⟨b4,43,[slv (some ⟨g,0,none⟩) K K],true,none⟩,⟨g,3,nI x.1++[],true,none⟩,⟨b6,3,[.int .i64 (x.2.2:Nat)],true,none⟩,⟨b13,43,[slv p (lbs bs a).length cap],true,none⟩])
  (fun k x=>x.1.length=K/\(∀y∈x.1,y<bs)/\lv bs x.1=bs^(K-k)*x.2.1/\a/bs^(K-k)=x.2.1*dv+x.2.2/\x.2.2<dv) (fun _ _=>False) (List.replicate K 0,0,0) rfl (by kernel_rfl) (Ga b13 p cap (lbs bs a) (by omega)) (fun _=>rfl)
  ⟨List.length_replicate,Ll (by decide) K,by rw[H7];show 0=bs^(K-0)*0;rw[Nat.mul_zero],by show a/bs^(K-0)=0*dv+0;rw[Nat.sub_zero,Nat.div_eq_of_lt hal];omega,hd0⟩ [] rfl (fun k x W _ hp=>⟨Al.of_bx hp 4 rfl rfl,hA.hp hp⟩) ?_ ?_ (fun _ _ _ _ _ h=>h.elim)
 ·rintro k ⟨l,qh,rs⟩ d Lo rec hk ⟨hl,hlb,hlv,hq,hr⟩ hrec
  have hl:l.length=K:=hl
  have hlv:lv bs l=bs^(K-k)*qh:=hlv
  have hq:a/bs^(K-k)=qh*dv+rs:=hq
  have hr:rs<dv:=hr
  rw[hK] at hk
  have hi:K-1-k<l.length:=by rw[hl];omega
  obtain⟨v,hv⟩: ∃v,lim (lbs bs a) (K-1-k)=v:=⟨_,rfl⟩
  have hvb:v<bs:=by rw[<-hv];exact CQ bs2 (CC bs2 a) _
  have hvb':v<1000000000:=hvb
  have hve:v=a/bs^(K-1-k)%bs:=by rw[<-hv];exact C1 bs2 a _
  obtain⟨n,hn⟩: ∃n,n=v+rs*bs:=⟨_,rfl⟩
  have hrs:rs*1000000000<=999999999*1000000000:=Nat.mul_le_mul_right _ (by omega)
  have hn63:n<2000000000000000000:=by rw[hn];show v+rs*1000000000<_;omega
  have hnq:=XB (B:=bs) (d:=dv) hvb hr hn
  have hnq':n/dv<1000000000:=hnq
  have hs:=TD (B:=bs) (d:=dv) (q:=qh) (r:=rs) (i:=K-1-k) (by rw[show K-1-k+1=K-k by omega];exact hq) (n:=n) (by rw[hn,hve])
  have hzero:l[K-1-k]? =some 0:=by
   rw[Fc hi,CY bs2 _ hlb,hlv,show K-k=K-1-k+1 by omega,Nat.pow_succ,Nat.mul_assoc,Nat.mul_div_cancel_left _ (Nat.pow_pos (by decide)),Nat.mul_mod_right]
  have hset:=JW (B:=bs) (n/dv) hzero
  rw[Nat.mul_zero,Nat.add_zero,hlv,show K-k=K-1-k+1 by omega,Nat.pow_succ,Nat.mul_assoc, <-Nat.mul_add] at hset
  refine xb<|wP I<|xa<|zB<|wP I<|zC<|CJ 6 hrec I ?_
  refine Bi 7 (.int .i64 ((K-1-k:Nat):Int)) I (by rw[hK]) ?_
  refine Bi 8 (.int .i64 (v:Nat)) I (by rw[hK,hv]) ?_
  refine zH<|xb<|wP I<|wB 3 I I I<|Aa I<|wV 19 (n:Nat) I (by show w64 ((v:Int)+w64 ((rs:Int)*((1000000000:Nat):Int)))=_;rw[D2 (by omega),B1 (by omega)];exact congrArg (fun n:Nat=>(n:Int)) hn.symm)<|wP I<|xa<|?_
  refine JI (X:=Unit) (fun _=>[]) (fun _=>[⟨b3,3,[.int .i64 (dv:Nat)],true,none⟩,⟨b4,43,[slv (some ⟨g,0,none⟩) K K],true,none⟩,⟨g,3,nI (l.set (K-1-k) (n/dv))++[],true,none⟩,⟨b6,3,[.int .i64 ((n%dv:Nat):Int)],true,none⟩,⟨b13,43,[slv p (lbs bs a).length cap],true,none⟩,B7 d,Bc Lo rec .busy none])
   2 [⟨b3,3,[.int .i64 (dv:Nat)],true,none⟩,⟨b4,43,[slv (some ⟨g,0,none⟩) K K],true,none⟩,CN,CN,⟨b13,43,[slv p (lbs bs a).length cap],true,none⟩,B7 d,Bc Lo rec .busy none] Tryz.mixed (by kernel_rfl) ?_ ?_
  ·refine qB 1 I I I<|AO I<|qB 0 I I I<|Tj I I I I I (by omega) ?_
   refine qV 24 ((n/dv:Nat):Int) I (by rw[Fs];exact Dn (by omega))<|qP I<|qB 0 I I I<|Kc I I I I I (by omega) ?_
   refine qJ ?_
   refine Cp<|wX<|wZ<|?_
   refine BT 2 (nI (l.set (K-1-k) (n/dv))++[]) tH I I I I I I I I I I (by show 0+(K-1-k)*1+1<=(nI l++[]).length;rw[List.append_nil,CH];omega) (DU hi _) ?_
   refine zC<|Aw<|wX<|wZ<|wS 3 I I I<|zC<|Aw<|?_
   refine B6 I (by((repeat (first|refine B3.same ?_|refine B3.off I ?_));exact tO)) ?_
   exact AR () tO [0,1,2,3,4,5,6] (by decide) I
  intro _
  refine zN ?_
  refine BQ 6 (l.set (K-1-k) (n/dv),bs*qh+n/dv,n%dv) hrec I ⟨by rw[List.length_set];exact hl,E6 hlb hnq, ?_, ?_,Nat.mod_lt _ hd0⟩ [] I
  ·show lv bs _=bs^(K-(k+1))*_
   rw[hset,show K-(k+1)=K-1-k by omega]
  ·show a/bs^(K-(k+1))=(bs*qh+n/dv)*dv+n%dv
   rw[show K-(k+1)=K-1-k by omega,hs,Nat.mul_comm qh]
 ·rintro⟨l,qh,rs⟩ d Lo rec ⟨hl,hlb,hlv,hq,hr⟩
  have hl:l.length=K:=hl
  have hr:rs<dv:=hr
  have hlv:lv bs l=bs^(K-(lbs bs a).length)*qh:=hlv
  have hq:a/bs^(K-(lbs bs a).length)=qh*dv+rs:=hq
  rw[hK,Nat.sub_self,Nat.pow_zero] at hlv hq
  rw[Nat.one_mul] at hlv
  rw[Nat.div_one] at hq
  have e1:a/dv=qh:=by rw[hq,Nat.mul_comm,Nat.mul_add_div hd0,Nat.div_eq_of_lt hr,Nat.add_zero]
  have e2:a%dv=rs:=by rw[hq,Nat.mul_comm,Nat.mul_add_mod,Nat.mod_eq_of_lt hr]
  have hV0:(⟨some g,K,[]⟩:Vec).OK 1 l.length (nI l):=⟨JO _,(fun h=>by cases h),fun _=>⟨by show _<=K;omega,by show K<=maxLen;simp only[maxLen];omega,by show(nI l).length+0=K*1;rw[CH];omega⟩⟩
  obtain⟨j',hV2,he⟩:=Gl hV0 hlb
  have hrb: ∀y∈[rs],y<bs:=fun y hy=>by obtain rfl:=List.mem_singleton.1 hy;exact Nat.lt_trans hr hd1
  refine zN<|zE<|zA<|?_
  refine JI (X:=Nat) (fun bR=>[(4,Af b4),(5,slv (some ⟨bR,0,none⟩) (lbs bs (lv bs [rs])).length 1)]) (fun bR=>[⟨b3,3,[.int .i64 (dv:Nat)],true,none⟩,⟨b4,43,[slv (some ⟨g,0,none⟩) (lbs bs (lv bs l)).length K],true,none⟩,⟨g,3,nI l++[],true,none⟩,⟨b6,3,[.int .i64 (rs:Nat)],true,none⟩,⟨b13,43,[slv p (lbs bs a).length cap],true,none⟩,B7 d,Bc Lo rec .exhausted none,⟨bR,3,nI [rs]++[],true,none⟩])
   4 [⟨b3,3,[.int .i64 (dv:Nat)],true,none⟩,⟨b4,43,[slv (some ⟨g,0,none⟩) K K],true,none⟩,⟨g,3,nI l++[],true,none⟩,⟨b6,3,[.int .i64 (rs:Nat)],true,none⟩,⟨b13,43,[slv p (lbs bs a).length cap],true,none⟩,B7 d,Bc Lo rec .exhausted none] Tryz.mixed (by kernel_rfl) ?_ ?_
  ·refine qB 1 I I I<|DO 29 (slv (some ⟨g,0,none⟩) l.length K) I (by rw[hl])<|qC I I (fun W hp=>Dd W _ K _ (AS.of_bx hp 2 I) hlb (by omega) (by omega))<|qB 3 I I I<|Cp<|wX<|wZ<|Ai Tryz.hZ tH I I I I I I I I I I I fun bR=> ?_
   refine zC<|Aw<|wX<|wZ<|wC I I (fun W hp=>Dd W _ 1 [rs] (AS.of_bx (junk:=[]) hp 7 I) hrb (Nat.le_refl _) (by show 1<_;omega))<|zC<|Aw<|wX<|wZ<|wS 1 I I I<|zC<|Aw<|wY<|wZ<|wP I<|zC<|Aw<|Cq I (by kernel_rfl) ?_
   exact AR bR ⟨I,I,tO⟩ [0,1,2,3,4,5,6,7] (by decide) I
  intro bR
  have hR0:(⟨some bR,1,[]⟩:Vec).OK 1 [rs].length (nI [rs]):=⟨rfl,(fun h=>by cases h),fun _=>⟨Nat.le_refl _,(show 1<=maxLen by decide),rfl⟩⟩
  obtain⟨j2,hR2,he2⟩:=Gl hR0 hrb
  refine zE<|zO<|?_
  rw[hlv] at hV2 he
  rw[X9] at hR2 he2
  rw[<-e1] at hV2 he
  have he2':nI [rs]++[]=nI (lbs bs (a%dv))++j2:=by rw[e2];exact he2
  rw[<-e2] at hR2
  refine C2 5 I ?_
  refine An tH I (.cell 1 I I I I I) (.tmp I) (((g,K,j'),(bR,1,j2)):NV×NV) (by rw[hlv,X9, <-e1, <-e2]) ⟨hV2,hR2⟩ fun W hp=> ?_
  refine(hp.pick (l:=[⟨g,3,nI l++[],true,none⟩,⟨bR,3,nI [rs]++[],true,none⟩]) [2,7] (by decide) I).own.sub id ?_ (fun _ _ _ _ _ _ h=>h)
  intro k B hk _
  rw[he,he2']
  exact hk
theorem ZS {U B j n:Nat} (hn:2<=n) (h:U<B^(j+n+1)):U/B^(j+n)%B*B+U/B^(j+n-1)%B=U/B^(j+n-1)/\U/B^(j+n-2)=U/B^(j+n-1)*B+U/B^(j+n-2)%B:=by
 have e1:=DT (B:=B) (n:=U) (i:=j+n-1)
 have e2:=DT (B:=B) (n:=U) (i:=j+n-2)
 rw[show j+n-1+1=j+n by omega] at e1
 rw[show j+n-2+1=j+n-1 by omega] at e2
 have h3:U/B^(j+n)<B:=Nat.div_lt_of_lt_mul (by rw[<-Nat.pow_succ];exact h)
 rw[Nat.mod_eq_of_lt h3]
 exact⟨e1.symm,e2⟩
theorem Yc {U V B j n q r v1 v2:Nat} (hn:2<=n) (hB:2<=B) (hv1:v1=V/B^(n-1)) (hv2:v2=V/B^(n-2)%B) (htop:U/B^(j+n-1)=q*v1+r)
  (hc:q*v2>r*B+U/B^(j+n-2)%B):U/B^j/V<q:=by
 have e2:=DT (B:=B) (n:=U) (i:=j+n-2)
 rw[show j+n-2+1=j+n-1 by omega,htop] at e2
 have e3:=DT (B:=B) (n:=V) (i:=n-2)
 rw[show n-2+1=n-1 by omega, <-hv1, <-hv2] at e3
 have hm:0<B^(n-2):=Nat.pow_pos (by omega)
 have hV:(v1*B+v2)*B^(n-2)<=V:=by rw[<-e3];exact Nat.div_mul_le_self ..
 refine Td (UJ (m:=B^(n-2)) hV hm (top:=U/B^(j+n-2)) ?_ ?_)
 ·rw[Nat.div_div_eq_div_mul, <-Nat.pow_add,show j+(n-2)=j+n-2 by omega]
 ·rw[e2,Nat.mul_add,Nat.add_mul,Nat.mul_assoc]
  omega
theorem VK {U V B j n v1:Nat} (hn:2<=n) (hB:2<=B) (hv1:v1=V/B^(n-1)) (h1:0<v1):U/B^j/V<=U/B^(j+n-1)/v1:=by
 rcases Nat.lt_or_ge (U/B^(j+n-1)/v1) (U/B^j/V) with h|h
 ·exfalso
  have hm:0<B^(n-1):=Nat.pow_pos (by omega)
  have hV:v1*B^(n-1)<=V:=by rw[hv1];exact Nat.div_mul_le_self ..
  have h2:U/B^(j+n-1)<U/B^j/V*v1:=Nat.lt_mul_of_div_lt h h1
  have h3:=Td (UJ hV hm (top:=U/B^(j+n-1)) (W:=U/B^j) (q:=U/B^j/V) (by rw[Nat.div_div_eq_div_mul, <-Nat.pow_add,show j+(n-1)=j+n-1 by omega]) h2)
  omega
 ·exact h
theorem LV (W:World) (p q:Option Addr) (cap cap2 j:Nat) (u v:List Nat) (hA:AS W p u) (hB:AS W q v) (hub: ∀y∈u,y<bs) (hvb: ∀y∈v,y<bs) (hn:2<=v.length) (hju:j+v.length<u.length) (hl:u.length<=1000000)
  (hU:lv bs u<lv bs v*bs^(j+1)) (hv1:499999999<=lv bs v/bs^(v.length-1)):
  Ag Tryz.prog 337 #[slv p u.length cap,slv q v.length cap2, .int .i64 (j:Nat)] W (fun x:Nat=> .int .i64 (x:Nat)) (fun x=>lv bs u/bs^j/lv bs v<=x/\x<=2100000000) (fun _=>[]):=by
 obtain⟨n,hn'⟩: ∃n,v.length=n:=⟨_,rfl⟩
 obtain⟨U,hU'⟩: ∃x,lv bs u=x:=⟨_,rfl⟩
 obtain⟨V,hV'⟩: ∃x,lv bs v=x:=⟨_,rfl⟩
 have hVlt:=Gw bs2 hvb
 rw[hn',hV'] at hVlt
 rw[hn'] at hn hju hv1
 rw[hU',hV'] at hU
 rw[hV'] at hv1
 have hUlt:U<bs^(j+n+1):=by
  have h1:V*bs^(j+1)<=bs^n*bs^(j+1):=Nat.mul_le_mul_right _ (by omega)
  rw[<-Nat.pow_add,show n+(j+1)=j+n+1 by omega] at h1
  omega
 obtain⟨hd1,hd2⟩:=ZS hn hUlt
 obtain⟨top,htop⟩: ∃t,U/bs^(j+n-1)=t:=⟨_,rfl⟩
 obtain⟨v1,hv1'⟩: ∃t,V/bs^(n-1)=t:=⟨_,rfl⟩
 obtain⟨v2,hv2'⟩: ∃t,V/bs^(n-2)%bs=t:=⟨_,rfl⟩
 obtain⟨u2,hu2'⟩: ∃t,U/bs^(j+n-2)%bs=t:=⟨_,rfl⟩
 obtain⟨u1,hu1'⟩: ∃t,U/bs^(j+n-1)%bs=t:=⟨_,rfl⟩
 obtain⟨u0,hu0'⟩: ∃t,U/bs^(j+n)%bs=t:=⟨_,rfl⟩
 have hu2b:u2<1000000000:=by rw[<-hu2'];exact Nat.mod_lt _ (by decide)
 have hu1b:u1<1000000000:=by rw[<-hu1'];exact Nat.mod_lt _ (by decide)
 have hu0b:u0<1000000000:=by rw[<-hu0'];exact Nat.mod_lt _ (by decide)
 have hv2b:v2<1000000000:=by rw[<-hv2'];exact Nat.mod_lt _ (by decide)
 have hv1b:v1<1000000000:=by rw[<-hv1'];exact Nat.div_lt_of_lt_mul (by rw[<-Nat.pow_succ,show(n-1).succ=n by omega];exact hVlt)
 rw[hv1'] at hv1
 rw[hu0',hu1',htop] at hd1
 have hd1:u0*1000000000+u1=top:=hd1
 have htop18:top<1000000000000000000:=by omega
 have lu: ∀i,i<u.length->lim u i=U/bs^i%bs:=fun i _=>by rw[CY bs2 i hub,hU']
 have lvv: ∀i,lim v i=V/bs^i%bs:=fun i=>by rw[CY bs2 i hvb,hV']
 have lv1:lim v (n-1)=v1:=by
  rw[lvv,hv1',Nat.mod_eq_of_lt hv1b]
 obtain⟨pb,po,rfl,hrow⟩:=hA.row (show j<u.length by omega)
 obtain⟨qb,qo,rfl,hrow2⟩:=hB.row (show 0<v.length by omega)
 have ru0: ∀W' bx,Hp W bx W'->Al W' pb (po+(j+n)*1) [.int .i64 (u0:Nat)]:=fun W' bx hp=>by have:=(hrow (j+n) (by omega)).hp hp;rwa [lu _ (by omega),hu0'] at this
 have ru1: ∀W' bx,Hp W bx W'->Al W' pb (po+(j+n-1)*1) [.int .i64 (u1:Nat)]:=fun W' bx hp=>by have:=(hrow (j+n-1) (by omega)).hp hp;rwa [lu _ (by omega),hu1'] at this
 have ru2: ∀W' bx,Hp W bx W'->Al W' pb (po+(j+n-2)*1) [.int .i64 (u2:Nat)]:=fun W' bx hp=>by have:=(hrow (j+n-2) (by omega)).hp hp;rwa [lu _ (by omega),hu2'] at this
 have rv1: ∀W' bx,Hp W bx W'->Al W' qb (qo+(n-1)*1) [.int .i64 (v1:Nat)]:=fun W' bx hp=>by have:=(hrow2 (n-1) (by omega)).hp hp;rwa [lv1] at this
 have rv2: ∀W' bx,Hp W bx W'->Al W' qb (qo+(n-2)*1) [.int .i64 (v2:Nat)]:=fun W' bx hp=>by have:=(hrow2 (n-2) (by omega)).hp hp;rwa [lvv,hv2'] at this
 have hq0:=VK (U:=U) (V:=V) (B:=bs) (j:=j) hn bs2 hv1'.symm (by omega)
 rw[htop] at hq0
 have hq2:top/v1<=2100000000:=by
  have:top/v1<=top/499999999:=Nat.div_le_div_left hv1 (by decide)
  omega
 have hqB:U/bs^j/V<1000000000:=by
  refine Nat.div_lt_of_lt_mul (Nat.div_lt_of_lt_mul ?_)
  have:bs^j*(V*1000000000)=V*bs^(j+1):=by rw[Nat.pow_succ];show _=V*(bs^j*1000000000);grind
  omega
 refine Ab Tryz.func337 I I I ?_
 rw[hn']
 refine xb<|wP I<|xg<|Ae I<|xa<|zA<|zU<|E7 I<|qV 16 ((j+n:Nat):Int) I (B1 (by omega))<|qJ ?_
 refine qL 0 I I (fun W' hp=>ru0 W' _ hp) I<|PQ I<|qV 24 ((j+n-1:Nat):Int) I (by show w64 (w64 ((j:Int)+n)-1)=_;rw[B1 (by omega),AC (by omega) (by omega)];omega)<|qJ ?_
 refine qL 0 I I (fun W' hp=>ru1 W' _ hp) I<|qP I<|qV 27 (top:Nat) I (by show w64 (w64 ((u0:Int)*((1000000000:Nat):Int))+u1)=_;rw[D2 (by omega),B1 (by omega),hd1])<|qP I<|zD<|xa<|zA<|zU<|E7 I<|qV 31 ((n-1:Nat):Int) I (by show w64 ((n:Int)-1)=_;rw[AC (by omega) (by omega)];omega)<|qJ ?_
 refine qL 0 I I (fun W' hp=>rv1 W' _ hp) I<|Tj I I I I I (by omega) ?_
 refine qV 34 ((top/v1:Nat):Int) I (by rw[Fs];exact Dn (by omega))<|E7 I<|qV 38 ((n-1:Nat):Int) I (by show w64 ((n:Int)-1)=_;rw[AC (by omega) (by omega)];omega)<|qJ ?_
 refine qL 0 I I (fun W' hp=>rv1 W' _ hp) I<|Kc I I I I I (by omega) ?_
 refine AO I<|zD<|xa<|F2 (X:=Nat) (fun x=>[(9, .int .i64 (x:Nat))]) (fun _=>[]) (fun x=>U/bs^j/V<=x/\x<=2100000000) ?_ ?_
 ·refine Jq ?_
  refine A6 (X:=Nat×Nat) (fun x=>[(0,slv (some ⟨pb,po,none⟩) u.length cap),(1,slv (some ⟨qb,qo,none⟩) n cap2),(2, .int .i64 (j:Nat)),(7, .int .i64 (n:Nat)),(9, .int .i64 (x.1:Nat)),(10, .int .i64 (x.2:Nat))]) (fun _=>[])
   (fun x=>U/bs^j/V<=x.1/\x.1<=2100000000/\top=x.1*v1+x.2/\x.2<1000000000) (fun x=>x.1) (top/v1,top%v1) ⟨hq0,hq2,by show top=top/v1*v1+top%v1;rw[Nat.mul_comm];exact(Nat.div_add_mod top v1).symm,by have:=Nat.mod_lt top (show v1>0 by omega);show top%v1<_;omega⟩ ⟨rfl,rfl,rfl,rfl,rfl,rfl,trivial⟩ [] rfl ?_
  rintro⟨x,rr⟩ ⟨hx1,hx2,hx3,hx4⟩
  have hx1:U/bs^j/V<=x:=hx1
  have hx2:x<=2100000000:=hx2
  have hx3:top=x*v1+rr:=hx3
  have hx4:rr<1000000000:=hx4
  refine zA<|zA<|zU<|AO I<|?_
  by_cases hc1:1000000000<=x
  ·refine qU 43 true I (dT (by omega))<|qP I<|?_
   iterate 22 refine Cy I I ?_
   refine qP I<|zD<|xa<|zR I<|zI<|zE<|zH<|zA<|zU<|PQ I<|qV 73 ((n-1:Nat):Int) I (by show w64 ((n:Int)-1)=_;rw[AC (by omega) (by omega)];omega)<|qJ ?_
   refine qL 0 I I (fun W' hp=>rv1 W' _ hp) I<|Ct I<|qV 9 ((x-1:Nat):Int) I (by show w64 ((x:Int)-1)=_;rw[AC (by omega) (by omega)];omega)<|qV 10 ((rr+v1:Nat):Int) I (B1 (by omega))<|zD<|xg<|Aa I<|xa<|?_
   have hx5:x*v1=(x-1)*v1+v1:=by rw[<-Nat.succ_mul];congr 1;omega
   refine Av I (fun hc=> ?_) (fun hc=> ?_)
   ·exact zJ<|zM I<|zK<|zL<|Au (x-1) ⟨by omega,by omega⟩ ⟨I,tO⟩ [] I
   ·have hc':rr+v1<1000000000:=by
     have h':decide (((rr+v1:Nat):Int)≥1000000000)=false:=hc
     rw[decide_eq_false_iff_not] at h';omega
    exact zI<|zN<|Ax (x-1,rr+v1) ⟨by show _<=x-1;omega,by show x-1<=_;omega,by show top=(x-1)*v1+(rr+v1);omega,hc'⟩ (by show x-1<x;omega) ⟨I,I,I,I,I,I,tO⟩ [] I
  ·refine qU 43 false I (dF (by omega)) ?_
   have hxv:x*v2<=999999999*999999999:=Nat.mul_le_mul (by omega) (by omega)
   refine Ct I<|qU 46 true I (dT (by omega))<|Mf I<|qV 51 ((n-2:Nat):Int) I (by show w64 ((n:Int)-2)=_;rw[AC (by omega) (by omega)];omega)<|qJ ?_
   refine qL 0 I I (fun W' hp=>rv2 W' _ hp) I ?_
   iterate 8 refine qP I ?_
   refine qV 61 ((j+n-2:Nat):Int) I (by show w64 (w64 ((j:Int)+n)-2)=_;rw[B1 (by omega),AC (by omega) (by omega)];omega)<|qJ ?_
   refine qL 0 I I (fun W' hp=>ru2 W' _ hp) I<|AO I<|?_
   refine DO 65 (.bool (decide (x*v2>rr*1000000000+u2))) I (congrArg Value.bool (by
    show decide (w64 ((x:Int)*v2)>w64 (w64 ((rr:Int)*((1000000000:Nat):Int))+u2))=_
    rw[D2 (by omega),D2 (by omega),B1 (by omega)]
    exact decide_eq_decide.2 (by omega))) ?_
   refine AO I<|zD<|xa<|Av I (fun hc=> ?_) (fun hc=> ?_)
   ·have hc':x*v2>rr*1000000000+u2:=of_decide_eq_true hc
    have hlt:=Yc (U:=U) (V:=V) (B:=bs) (j:=j) (q:=x) (r:=rr) hn bs2 hv1'.symm hv2'.symm (by rw[htop,hx3]) (by rw[hu2'];exact hc')
    have hx0:0<x:=Nat.lt_of_le_of_lt (Nat.zero_le _) hlt
    refine zI<|zE<|zH<|zA<|zU<|PQ I<|qV 73 ((n-1:Nat):Int) I (by show w64 ((n:Int)-1)=_;rw[AC (by omega) (by omega)];omega)<|qJ ?_
    refine qL 0 I I (fun W' hp=>rv1 W' _ hp) I<|Ct I<|qV 9 ((x-1:Nat):Int) I (by show w64 ((x:Int)-1)=_;rw[AC (by omega) (by omega)];omega)<|qV 10 ((rr+v1:Nat):Int) I (B1 (by omega))<|zD<|xg<|Aa I<|xa<|?_
    have hx5:x*v1=(x-1)*v1+v1:=by rw[<-Nat.succ_mul];congr 1;omega
    refine Av I (fun hc2=> ?_) (fun hc2=> ?_)
    ·exact zJ<|zM I<|zK<|zL<|Au (x-1) ⟨by omega,by omega⟩ ⟨I,tO⟩ [] I
    ·have hc':rr+v1<1000000000:=by
      have h':decide (((rr+v1:Nat):Int)≥1000000000)=false:=hc2
      rw[decide_eq_false_iff_not] at h';omega
     exact zI<|zN<|Ax (x-1,rr+v1) ⟨by show _<=x-1;omega,by show x-1<=_;omega,by show top=(x-1)*v1+(rr+v1);omega,hc'⟩ (by show x-1<x;omega) ⟨I,I,I,I,I,I,tO⟩ [] I
   ·exact xf<|Au x ⟨hx1,hx2⟩ ⟨I,tO⟩ [] I
 ·rintro x hx
  refine xb<|Aa I<|xc<|?_
  rw[hU',hV']
  exact Ar tH I (.tmp I) x I hx fun W _=>As.nil _ _
theorem PJ {W W1:World} {g b off:Nat} {c:List Value} {l:List Bx} (h:Al W b off c) (hne:b≠g) (hp:Hp (Ez W) (Ad (BI W g)::l) W1):Al W1 b off c:=by
 have hm:(b,W.heap[b]'h.lt)∈BI W g:=E4.2 ⟨hne,Array.getElem?_eq_getElem h.lt⟩
 have h1:=hp.own.cell 0 _ rfl (b,W.heap[b]'h.lt) hm
 have e:W1.heap[b]? =W.heap[b]? :=by rw[h1.1,Array.getElem?_eq_getElem h.lt]
 refine⟨(Array.getElem?_eq_some_iff.1 h1.1).1,fun j u hu=> ?_⟩
 have h2:=h.get j u hu
 unfold World.cell? at h2⊢
 simp only at h2⊢
 rw[e]
 exact h2
theorem AS.others {W W1:World} {g:Nat} {q:Option Addr} {v:List Nat} {l:List Bx} (h:AS W q v) (hne: ∀b off,q=some ⟨b,off,none⟩->b≠g) (hp:Hp (Ez W) (Ad (BI W g)::l) W1):AS W1 q v:=by
 rcases h with h|⟨b,off,h1,h2⟩
 ·exact .inl h
 ·exact .inr ⟨b,off,h1,PJ h2 (hne b off h1) hp⟩
structure Wg (u v:List Nat) (j x:Nat) (y:List Nat×Nat):Prop where
 len:y.1.length=u.length
 lt: ∀z∈y.1,z<bs
 val:lv bs y.1+bs^j*(x*lv bs v)=lv bs u+bs^(j+(v.length+1))*y.2
 drop:y.1.drop (j+(v.length+1))=u.drop (j+(v.length+1))
structure ZW (u v:List Nat) (j x:Nat) (y:List Nat×Nat):Prop where
 len:y.1.length=u.length
 lt: ∀z∈y.1,z<bs
 val:lv bs y.1+bs^(j+(v.length+1))*y.2=lv bs u+bs^j*(x*lv bs v)
 drop:y.1.drop (j+(v.length+1))=u.drop (j+(v.length+1))
theorem Vt {u v:List Nat} {j x:Nat} {y z:List Nat×Nat} (hu: ∀a∈u,a<bs) (h1:Wg u v j x y) (h2:ZW y.1 v j x z):z.1=u:=by
 have hv:lv bs z.1+bs^(j+(v.length+1))*z.2=lv bs u+bs^(j+(v.length+1))*y.2:=h2.val.trans h1.val
 have hm:=congrArg (· %bs^(j+(v.length+1))) hv
 simp only[Nat.add_mul_mod_self_left] at hm
 rw[<-OY bs2 h2.lt, <-OY bs2 hu] at hm
 have ht:=bV bs2 (fun a ha=>h2.lt a (List.mem_of_mem_take ha)) (fun a ha=>hu a (List.mem_of_mem_take ha)) (by rw[List.length_take,List.length_take,h2.len,h1.len]) hm
 rw[<-List.take_append_drop (j+(v.length+1)) z.1,ht,h2.drop,h1.drop,List.take_append_drop]
theorem Zz {u v:List Nat} {j x:Nat} {y:List Nat×Nat} (h:Wg u v j x y) (h0:y.2=0):lv bs y.1+bs^j*(x*lv bs v)=lv bs u:=by
 have:=h.val
 rw[h0,Nat.mul_zero] at this
 exact this
theorem Xo {u v:List Nat} {j x:Nat} {y:List Nat×Nat} (hu: ∀a∈u,a<bs) (h:Wg u v j x y) (h0:0<y.2) (hU:lv bs u<bs^(j+(v.length+1))):lv bs u/bs^j/lv bs v<x:=by
 obtain⟨m,hm⟩: ∃m,m=j+(v.length+1):=⟨_,rfl⟩
 have hval:=h.val
 have hdrop:=h.drop
 rw[<-hm] at hval hdrop hU
 have e1:lv bs y.1=lv bs (y.1.take m)+bs^(y.1.take m).length*lv bs (y.1.drop m):=by rw[<-Fq,List.take_append_drop]
 have e2:lv bs u=lv bs (u.take m)+bs^(u.take m).length*lv bs (u.drop m):=by rw[<-Fq,List.take_append_drop]
 have el:(y.1.take m).length=(u.take m).length:=by rw[List.length_take,List.length_take,h.len]
 rw[hdrop,el] at e1
 have hy:=Gw bs2 (l:=y.1.take m) fun a ha=>h.lt a (List.mem_of_mem_take ha)
 have hlm:bs^(y.1.take m).length<=bs^m:=Nat.pow_le_pow_right (by decide) (by rw[List.length_take];omega)
 have hc:bs^m*1<=bs^m*y.2:=Nat.mul_le_mul_left _ h0
 refine Td (Nat.div_lt_of_lt_mul ?_)
 obtain⟨A,hA⟩: ∃A,bs^(u.take m).length*lv bs (u.drop m)=A:=⟨_,rfl⟩
 have e3:lv bs (u.take m)=lv bs u:=by rw[OY bs2 hu,Nat.mod_eq_of_lt hU]
 rw[hA] at e1 e2
 omega
theorem SF (W:World) (g cap cap2 j x:Nat) (junk:List Value) (q:Option Addr) (u v:List Nat) (hg:W.heap[g]? =some (.cells (nI u++junk).toArray 3 (0,0))) (hB:AS W q v) (hne: ∀b off,q=some ⟨b,off,none⟩->b≠g)
  (hub: ∀a∈u,a<bs) (hvb: ∀a∈v,a<bs) (hju:j+v.length<u.length) (hl:u.length<=1000000) (hx:x<=2100000000):
  Calls Tryz.prog 338 #[slv (some ⟨g,0,none⟩) u.length cap,slv q v.length cap2, .int .i64 (j:Nat), .int .i64 (x:Nat)] W fun e W'=> ∃y:List Nat×Nat,e= .returned ((fun y:List Nat×Nat=> .bool (decide ((y.2:Int)>0))) y)/\Wg u v j x y/\Rt W W' g ((fun _=>g) y) ((fun y:List Nat×Nat=> .cells (nI y.1++junk).toArray 3 (0,0)) y):=by
 have key:Calls Tryz.prog 338 [slv (some ⟨g,0,none⟩) u.length cap,slv q v.length cap2, .int .i64 (j:Nat), .int .i64 (x:Nat)].toArray W fun e W'=> ∃y:List Nat×Nat,e= .returned ((fun y:List Nat×Nat=> .bool (decide ((y.2:Int)>0))) y)/\Wg u v j x y/\Below (Ez W).heap.size (Ez W) W'/\As (Ez W) W' ((fun y:List Nat×Nat=>[Ad (BI W g),⟨g,3,nI y.1++junk,true,none⟩]) y):=by
  refine G6 (X:=List Nat×Nat) (val:=fun y=> .bool (decide ((y.2:Int)>0))) (Φ:=Wg u v j x) (nb:=fun y=>[Ad (BI W g),⟨g,3,nI y.1++junk,true,none⟩]) (Hp.enterT (B:=⟨g,3,nI u++junk,true,none⟩) I hg) Tryz.func338 I I I ?_
  obtain⟨n,hn⟩: ∃n,v.length=n:=⟨_,rfl⟩
  rw[hn] at hju⊢
  have hVn:lv bs v<bs^(n+1):=by
   have h1:=Gw bs2 hvb
   rw[hn] at h1
   exact Nat.lt_of_lt_of_le h1 (Nat.pow_le_pow_right (by decide) (by omega))
  refine xb<|wP I<|xg<|wP I<|xa<|xd<|Ae I<|wV 14 ((n+1:Nat):Int) I (Az (by omega))<|wP I<|xa<|zH<|?_
  refine A6 (X:=Nat×List Nat×Nat) (fun y=>[(0,slv (some ⟨g,0,none⟩) u.length cap),(1,slv q n cap2),(2, .int .i64 (j:Nat)),(3, .int .i64 (x:Nat)),(9, .int .i64 (y.2.2:Nat)),(14, .int .i64 ((n+1:Nat):Int)),(15, .int .i64 (y.1:Nat))]) (fun y=>[Ad (BI W g),⟨g,3,nI y.2.1++junk,true,none⟩])
   (fun y=>y.1<=n+1/\y.2.1.length=u.length/\(∀a∈y.2.1,a<bs)/\y.2.2<=3000000000/\lv bs y.2.1+bs^j*(x*(lv bs v%bs^y.1))=lv bs u+bs^(j+y.1)*y.2.2/\y.2.1.drop (j+(n+1))=u.drop (j+(n+1))) (fun y=>n+1-y.1) (0,u,0) ⟨Nat.zero_le _,rfl,hub,Nat.zero_le _,by show lv bs u+bs^j*(x*(lv bs v%bs^0))=lv bs u+bs^(j+0)*0;rw[Nat.pow_zero,Nat.mod_one];simp,rfl⟩ ⟨rfl,rfl,rfl,rfl,rfl,rfl,rfl,trivial⟩ [] rfl ?_
  rintro⟨i,l,c⟩ ⟨hi,hll,hlb,hcb,hval,hdr⟩
  have hi:i<=n+1:=hi
  have hll:l.length=u.length:=hll
  have hcb:c<=3000000000:=hcb
  refine xb<|wP I<|xa<|zA<|Av I (fun hc=> ?_) (fun hc=> ?_)
  ·have hi':i<n+1:=by simp at hc;omega
   clear hc
   have hji:j+i<l.length:=by omega
   obtain⟨o,ho⟩: ∃o,lim l (j+i)=o:=⟨_,rfl⟩
   obtain⟨y,hy⟩: ∃y,lim v i=y:=⟨_,rfl⟩
   have hob:o<1000000000:=by rw[<-ho];exact CQ bs2 hlb _
   have hyb:y<1000000000:=by rw[<-hy];exact CQ bs2 hvb _
   have hlo:l[j+i]? =some o:=by rw[Fc hji,ho]
   have hyy:y=lv bs v/bs^i%bs:=by rw[<-hy];exact CY bs2 i hvb
   have hxy:x*y<=2100000000*999999999:=Nat.mul_le_mul hx (by omega)
   have exy:(x:Int)*y=((x*y:Nat):Int):=(Int.natCast_mul x y).symm
   obtain⟨xy,hxyv⟩: ∃t,x*y=t:=⟨_,rfl⟩
   rw[hxyv] at hxy exy
   refine xh<|Aa I<|xa<|zA<|zU<|E7 I<|qV 21 ((j+i:Nat):Int) I (B1 (by omega))<|qJ ?_
   refine qL 0 I I (fun W' hp=>Al.of_intsX hp 1 I hji ho) I<|Mf I<|qC I I (fun W' hp=>Hn W' q cap2 n v i y (hB.others hne hp) hn (by omega) hy)<|AO I<|qV 31 ((o:Int)-c-xy) I (by show w64 (w64 ((o:Int)-c)-w64 ((x:Int)*y))=_;rw[exy,Dn (by omega),AC (x:=(o:Int)-c) (by omega) (by omega),AC (by omega) (by omega)])<|qP I<|zD<|xg<|wP I<|xa<|xd<|Aa I<|?_
   refine xa<|?_
   refine Bz (X:=Nat×Nat) (fun z=>[(0,slv (some ⟨g,0,none⟩) u.length cap),(1,slv q n cap2),(2, .int .i64 (j:Nat)),(3, .int .i64 (x:Nat)),(9, .int .i64 (z.1:Nat)),(10, .int .i64 (i:Nat)),(11, .int .i64 ((o:Int)-c-xy)),(14, .int .i64 ((n+1:Nat):Int)),(15, .int .i64 (i:Nat))]) (fun _=>[Ad (BI W g),⟨g,3,nI l++junk,true,none⟩])
    (fun z=>z.2<1000000000/\z.2+c+xy=o+1000000000*z.1/\z.1<=3000000000) ?_ ?_
   ·refine Av I (fun hc=> ?_) (fun hc=> ?_)
    ·have hc':o<c+xy:=by
      have h':decide ((o:Int)-c-xy<0)=true:=hc
      rw[decide_eq_true_iff] at h';omega
     obtain⟨dd,hdd⟩: ∃t,c+xy-o=t:=⟨_,rfl⟩
     refine zB<|A3 I<|?_
     refine Ao 37 (.int .i64 ((dd+999999999:Nat):Int)) I (congrArg (Value.int .i64) (by
      show w64 (w64 (w64 (0-((o:Int)-c-xy))+1000000000)-1)=_
      rw[AC (x:=0-((o:Int)-c-xy)) (by omega) (by omega),AC (x:=0-((o:Int)-c-xy)+1000000000) (by omega) (by omega),AC (by omega) (by omega)]
      omega)) ?_
     refine Kt I I I I I (by decide) ?_
     exact wV 38 (((dd+999999999)/1000000000:Nat):Int) I (by show w64 (((dd+999999999:Nat):Int).tdiv ((1000000000:Nat):Int))=_;rw[Fs];exact Dn (by omega))<|wP I<|zC<|Au ((dd+999999999)/1000000000,(dd+999999999)/1000000000*1000000000-dd) ⟨by show(dd+999999999)/1000000000*1000000000-dd<_;omega,by show(dd+999999999)/1000000000*1000000000-dd+c+xy=o+1000000000*((dd+999999999)/1000000000);omega,by show(dd+999999999)/1000000000<=_;omega⟩ ⟨I,I,I,I,I,I,I,I,I,tO⟩ [] I
    ·have hc':c+xy<=o:=by
      have h':decide ((o:Int)-c-xy<0)=false:=hc
      rw[decide_eq_false_iff_not] at h';omega
     exact zI<|Au (0,o-c-xy) ⟨by show o-c-xy<_;omega,by show o-c-xy+c+xy=o+1000000000*0;omega,Nat.zero_le _⟩ ⟨I,I,I,I,I,I,I,I,I,tO⟩ [] I
   ·rintro⟨c',nn⟩ ⟨hn1,hn2,hn3⟩
    have hn1:nn<1000000000:=hn1
    have hn2:nn+c+xy=o+1000000000*c':=hn2
    have hn3:c'<=3000000000:=hn3
    have hstep:=V9 (B:=bs) (n:=nn) (c':=c') hlo hval (by rw[<-hyy,hxyv];exact hn2)
    refine zB<|A3 I<|wV 42 ((j+i:Nat):Int) I (B1 (by omega))<|A3 I<|?_
    refine Ao 46 (.int .i64 (nn:Nat)) I (congrArg (Value.int .i64) (by
     show w64 (((o:Int)-c-xy)+w64 ((c':Int)*((1000000000:Nat):Int)))=_
     rw[D2 (by omega),AC (by omega) (by omega)]
     omega)) ?_
    refine wJ ?_
    refine BT 1 (nI (l.set (j+i) nn)++junk) tH I I I I I I I I I I (by show 0+(j+i)*1+1<=(nI l++junk).length;rw[List.length_append,CH];omega) (DU hji nn) ?_
    exact zC<|xj<|Aa I<|zC<|Ax (i+1,l.set (j+i) nn,c') ⟨hi',by rw[List.length_set];exact hll,E6 hlb hn1,hn3,hstep,by rw[List.drop_set_of_lt (by omega)];exact hdr⟩ (by show n+1-(i+1)<n+1-i;omega) ⟨I,I,I,I,I,I,congrArg (fun z=>some (Value.int .i64 z)) (Az (by omega)),tO⟩ [] I
  ·have hi':i=n+1:=by simp at hc;omega
   subst hi'
   have hval:lv bs l+bs^j*(x*(lv bs v%bs^(n+1)))=lv bs u+bs^(j+(n+1))*c:=hval
   rw[Nat.mod_eq_of_lt hVn] at hval
   refine xf<|xe<|Ae I<|xc<|?_
   refine Ar tH I (.tmp I) (l,c) I ⟨hll,hlb,by rw[hn];exact hval,by rw[hn];exact hdr⟩ fun W1 hp=> ?_
   exact(hp.pick (l:=[Ad (BI W g),⟨g,3,nI l++junk,true,none⟩]) [0,1] (by decide) I).own
 refine key.mono ?_
 rintro e W' ⟨y,he,hy,hb,hn'⟩
 exact⟨y,he,hy,UC hg I hb hn'⟩
theorem MQ (W:World) (g cap cap2 j x:Nat) (junk:List Value) (q:Option Addr) (u v:List Nat) (hg:W.heap[g]? =some (.cells (nI u++junk).toArray 3 (0,0))) (hB:AS W q v) (hne: ∀b off,q=some ⟨b,off,none⟩->b≠g)
  (hub: ∀a∈u,a<bs) (hvb: ∀a∈v,a<bs) (hju:j+v.length<u.length) (hl:u.length<=1000000) (hx:x<=2100000000):
  Calls Tryz.prog 339 #[slv (some ⟨g,0,none⟩) u.length cap,slv q v.length cap2, .int .i64 (j:Nat), .int .i64 (x:Nat)] W fun e W'=> ∃y:List Nat×Nat,e= .returned ((fun _:List Nat×Nat=>slv (some ⟨g,0,none⟩) u.length cap) y)/\ZW u v j x y/\Rt W W' g ((fun _=>g) y) ((fun y:List Nat×Nat=> .cells (nI y.1++junk).toArray 3 (0,0)) y):=by
 have key:Calls Tryz.prog 339 [slv (some ⟨g,0,none⟩) u.length cap,slv q v.length cap2, .int .i64 (j:Nat), .int .i64 (x:Nat)].toArray W fun e W'=> ∃y:List Nat×Nat,e= .returned ((fun _:List Nat×Nat=>slv (some ⟨g,0,none⟩) u.length cap) y)/\ZW u v j x y/\Below (Ez W).heap.size (Ez W) W'/\As (Ez W) W' ((fun y:List Nat×Nat=>[Ad (BI W g),⟨g,3,nI y.1++junk,true,none⟩]) y):=by
  refine G6 (X:=List Nat×Nat) (val:=fun _=>slv (some ⟨g,0,none⟩) u.length cap) (Φ:=ZW u v j x) (nb:=fun y=>[Ad (BI W g),⟨g,3,nI y.1++junk,true,none⟩]) (Hp.enterT (B:=⟨g,3,nI u++junk,true,none⟩) I hg) Tryz.func339 I I I ?_
  obtain⟨n,hn⟩: ∃n,v.length=n:=⟨_,rfl⟩
  rw[hn] at hju⊢
  have hVn:lv bs v<bs^(n+1):=by
   have h1:=Gw bs2 hvb
   rw[hn] at h1
   exact Nat.lt_of_lt_of_le h1 (Nat.pow_le_pow_right (by decide) (by omega))
  refine xb<|wP I<|xg<|wP I<|xa<|xd<|Ae I<|wV 14 ((n+1:Nat):Int) I (Az (by omega))<|wP I<|xa<|zH<|?_
  refine A6 (X:=Nat×List Nat×Nat) (fun y=>[(0,slv (some ⟨g,0,none⟩) u.length cap),(1,slv q n cap2),(2, .int .i64 (j:Nat)),(3, .int .i64 (x:Nat)),(9, .int .i64 (y.2.2:Nat)),(14, .int .i64 ((n+1:Nat):Int)),(15, .int .i64 (y.1:Nat))]) (fun y=>[Ad (BI W g),⟨g,3,nI y.2.1++junk,true,none⟩])
   (fun y=>y.1<=n+1/\y.2.1.length=u.length/\(∀a∈y.2.1,a<bs)/\y.2.2<=3000000000/\lv bs y.2.1+bs^(j+y.1)*y.2.2=lv bs u+bs^j*(x*(lv bs v%bs^y.1))/\y.2.1.drop (j+(n+1))=u.drop (j+(n+1))) (fun y=>n+1-y.1) (0,u,0) ⟨Nat.zero_le _,rfl,hub,Nat.zero_le _,by show lv bs u+bs^(j+0)*0=lv bs u+bs^j*(x*(lv bs v%bs^0));rw[Nat.pow_zero,Nat.mod_one];simp,rfl⟩ ⟨rfl,rfl,rfl,rfl,rfl,rfl,rfl,trivial⟩ [] rfl ?_
  rintro⟨i,l,c⟩ ⟨hi,hll,hlb,hcb,hval,hdr⟩
  have hi:i<=n+1:=hi
  have hll:l.length=u.length:=hll
  have hcb:c<=3000000000:=hcb
  refine xb<|wP I<|xa<|zA<|Av I (fun hc=> ?_) (fun hc=> ?_)
  ·have hi':i<n+1:=by simp at hc;omega
   clear hc
   have hji:j+i<l.length:=by omega
   obtain⟨o,ho⟩: ∃o,lim l (j+i)=o:=⟨_,rfl⟩
   obtain⟨y,hy⟩: ∃y,lim v i=y:=⟨_,rfl⟩
   have hob:o<1000000000:=by rw[<-ho];exact CQ bs2 hlb _
   have hyb:y<1000000000:=by rw[<-hy];exact CQ bs2 hvb _
   have hlo:l[j+i]? =some o:=by rw[Fc hji,ho]
   have hyy:y=lv bs v/bs^i%bs:=by rw[<-hy];exact CY bs2 i hvb
   have hxy:x*y<=2100000000*999999999:=Nat.mul_le_mul hx (by omega)
   obtain⟨nn,hnn⟩: ∃t,t=o+x*y+c:=⟨_,rfl⟩
   have hstep:=LC (B:=bs) (n:=nn) hlo hval (by rw[<-hyy];exact hnn)
   have hn3:nn/1000000000<=3000000000:=by omega
   refine xh<|Aa I<|xa<|zA<|zU<|E7 I<|qV 21 ((j+i:Nat):Int) I (B1 (by omega))<|qJ ?_
   refine qL 0 I I (fun W' hp=>Al.of_intsX hp 1 I hji ho) I<|Ct I<|qC I I (fun W' hp=>Hn W' q cap2 n v i y (hB.others hne hp) hn (by omega) hy)<|E7 I<|qV 31 (nn:Nat) I (by show w64 (w64 ((o:Int)+w64 ((x:Int)*y))+c)=_;rw[D2 (by omega),B1 (by omega),B1 (by omega),hnn])<|qP I<|zD<|xa<|zB<|A3 I<|wV 35 ((j+i:Nat):Int) I (B1 (by omega))<|wP I<|Ks I I I I I (by decide) ?_
   refine wP I<|Kt I I I I I (by decide) ?_
   refine wV 39 ((nn/bs:Nat):Int) I (by show w64 ((nn:Int).tdiv ((bs:Nat):Int))=_;rw[Fs];exact Dn (Nat.lt_of_le_of_lt hn3 (by decide)))<|wJ ?_
   refine BT 1 (nI (l.set (j+i) (nn%bs))++junk) tH I I I I I I I I I I (by show 0+(j+i)*1+1<=(nI l++junk).length;rw[List.length_append,CH];omega) (DU hji (nn%bs)) ?_
   exact wP I<|zC<|xj<|Aa I<|zC<|Ax (i+1,l.set (j+i) (nn%bs),nn/bs) ⟨hi',by rw[List.length_set];exact hll,E6 hlb (Nat.mod_lt _ (by decide)),hn3,hstep,by rw[List.drop_set_of_lt (by omega)];exact hdr⟩ (by show n+1-(i+1)<n+1-i;omega) ⟨I,I,I,I,I,I,congrArg (fun z=>some (Value.int .i64 z)) (Az (by omega)),tO⟩ [] I
  ·have hi':i=n+1:=by simp at hc;omega
   subst hi'
   have hval:lv bs l+bs^(j+(n+1))*c=lv bs u+bs^j*(x*(lv bs v%bs^(n+1))):=hval
   rw[Nat.mod_eq_of_lt hVn] at hval
   refine xf<|xe<|Aa I<|xc<|?_
   refine Ar tH I (.tmp I) (l,c) I ⟨hll,hlb,by rw[hn];exact hval,by rw[hn];exact hdr⟩ fun W1 hp=> ?_
   exact(hp.pick (l:=[Ad (BI W g),⟨g,3,nI l++junk,true,none⟩]) [0,1] (by decide) I).own
 refine key.mono ?_
 rintro e W' ⟨y,he,hy,hb,hn'⟩
 exact⟨y,he,hy,UC hg I hb hn'⟩
theorem YP {f:Nat} (h0:0<f) (h1:f<bs):lbs bs f=[f]:=by
 rw[Gh bs2 (by omega),Nat.mod_eq_of_lt h1,Nat.div_eq_of_lt h1,Di]
theorem Ly {a b:Nat} (h:a<=b):(lbs bs a).length<=(lbs bs b).length:=(El bs2).2 (Nat.lt_of_le_of_lt h (Bq bs2 b))
theorem Wd {t f:Nat} (ht:2<=t) (hf:1<=f) (h:1000000000<f*t+t):499999999<=(t-1)*f:=by
 obtain⟨t',rfl⟩: ∃t',t=t'+2:=⟨t-2,by omega⟩
 obtain⟨f',rfl⟩: ∃f',f=f'+1:=⟨f-1,by omega⟩
 rw[show t'+2-1=t'+1 by omega]
 have e1:(f'+1)*(t'+2)=f'*t'+2*f'+t'+2:=by grind
 have e2:(t'+1)*(f'+1)=f'*t'+f'+t'+1:=by grind
 rw[e1] at h
 rw[e2]
 omega
theorem ZD {b n f:Nat} (hn:(lbs bs b).length=n) (hn1:1<=n) (hf:f=bs/(lim (lbs bs b) (n-1)+1)):1<=f/\f<bs/\(lbs bs (b*f)).length=n/\499999999<=b*f/bs^(n-1):=by
 have hb0:b≠0:=fun e=>by rw[e,Di] at hn;simp at hn;omega
 have h1:=PP bs2 hb0
 have h2:=Bq bs2 b
 rw[hn] at h1 h2
 have hlt:b/bs^(n-1)<bs:=Nat.div_lt_of_lt_mul (by rw[<-Nat.pow_succ,show(n-1).succ=n by omega];exact h2)
 rw[C1 bs2,Nat.mod_eq_of_lt hlt] at hf
 obtain⟨m,hm⟩: ∃m,bs^(n-1)=m:=⟨_,rfl⟩
 have hm0:0<m:=by rw[<-hm];exact Nat.pow_pos (by decide)
 rw[hm] at h1 hlt hf
 obtain⟨t,ht⟩: ∃t,b/m=t:=⟨_,rfl⟩
 rw[ht] at hlt hf
 have ht1:1<=t:=by rw[<-ht];exact Nat.div_pos h1 hm0
 have hbt:b<(t+1)*m:=by rw[<-ht];exact Nat.lt_mul_of_div_lt (Nat.lt_succ_self _) hm0
 have hbt2:t*m<=b:=by rw[<-ht];exact Nat.div_mul_le_self ..
 have hft:f*(t+1)<=bs:=by rw[hf];exact Nat.div_mul_le_self ..
 have hf1:1<=f:=by rw[hf];exact Nat.div_pos (by omega) (by omega)
 have hfb:f<bs:=by
  have:f*2<=f*(t+1):=Nat.mul_le_mul_left _ (by omega)
  omega
 have hpn:bs^n=bs*m:=by rw[<-hm,Nat.mul_comm, <-Nat.pow_succ,show(n-1).succ=n by omega]
 have hu:b*f<bs^n:=by
  have h3:b*f<(t+1)*m*f:=Nat.mul_lt_mul_of_pos_right hbt (by omega)
  have h4:(t+1)*m*f=f*(t+1)*m:=by grind
  have h5:=Nat.mul_le_mul_right m hft
  rw[hpn];omega
 refine⟨hf1,hfb, ?_, ?_⟩
 ·have h3:=(El bs2).2 hu
  have h4:=Ly (Nat.le_mul_of_pos_right b hf1)
  omega
 ·rw[hm,Nat.le_div_iff_mul_le hm0]
  have h3:=Nat.lt_succ_of_le (Nat.le_refl (bs/(t+1)))
  have h4:bs<(f+1)*(t+1):=by rw[hf];exact Nat.lt_mul_of_div_lt h3 (by omega)
  have h5:=Wd (t:=t+1) (f:=f) (by omega) hf1 (by
   have:(f+1)*(t+1)=f*(t+1)+(t+1):=by rw[Nat.add_mul,Nat.one_mul]
   have h9:bs=1000000000:=rfl
   omega)
  rw[Nat.add_sub_cancel] at h5
  have h6:t*m*f<=b*f:=Nat.mul_le_mul_right _ hbt2
  have h7:=Nat.mul_le_mul_right m h5
  have h8:t*f*m=t*m*f:=by grind
  omega
theorem bO {a b f Q R:Nat} (hf:0<f) (h:a*f=Q*(b*f)+R) (hR:R<b*f):a/b=Q/\R/f=a%b:=by
 have h1:Q*b*f<=a*f:=by rw[h,Nat.mul_assoc];omega
 have h2:Q*b<=a:=Nat.le_of_mul_le_mul_right h1 hf
 obtain⟨r,rfl⟩: ∃r,a=Q*b+r:=⟨a-Q*b,by omega⟩
 have h3:R=r*f:=by
  rw[Nat.add_mul,Nat.mul_assoc] at h
  omega
 subst h3
 have h4:r<b:=Nat.lt_of_mul_lt_mul_right hR
 rw[Nat.mul_div_cancel _ hf]
 have e:Q*b+r=b*Q+r:=by rw[Nat.mul_comm]
 rw[e]
 exact⟨by rw[Nat.mul_add_div (by omega),Nat.div_eq_of_lt h4,Nat.add_zero],by rw[Nat.mul_add_mod,Nat.mod_eq_of_lt h4]⟩
theorem XS {U V L L' Q x j:Nat} (h:U=Q*V*bs^(j+1)+L) (hx:L/bs^j/V<=x) (hV:0<V) (hL:L'+bs^j*(x*V)=L):U=(bs*Q+x)*V*bs^j+L'/\L'<V*bs^j:=by
 have hp:0<bs^j:=Nat.pow_pos (by decide)
 constructor
 ·rw[h, <-hL,Nat.pow_succ];grind
 ·have h1:L/bs^j<(x+1)*V:=Nat.lt_mul_of_div_lt (Nat.lt_succ_of_le hx) hV
  have h2:L<(x+1)*V*bs^j:=Nat.lt_mul_of_div_lt h1 hp
  have h3:(x+1)*V*bs^j=bs^j*(x*V)+V*bs^j:=by grind
  omega
theorem WY {V L L' x j:Nat} (hL:L'+bs^j*(x*V)=L) (h:L<V*bs^(j+1)):x<bs:=by
 rcases Nat.lt_or_ge x bs with h1|h1
 ·exact h1
 ·have h2:bs^j*(bs*V)<=bs^j*(x*V):=Nat.mul_le_mul_left _ (Nat.mul_le_mul_right _ h1)
  have h3:V*bs^(j+1)=bs^j*(bs*V):=by rw[Nat.pow_succ];grind
  omega
theorem J2 (W:World) (p q:Option Addr) (cap a f:Nat) (hA:AS W p (lbs bs a)) (hF:AS W q [f]) (hna:(lbs bs a).length<=1000000) (h0:0<f) (h1:f<bs):
  Ag Tryz.prog 335 #[slv p (lbs bs a).length cap,slv q 1 1] W (fun x:NV=>FB x (lbs bs (a*f)).length) (fun x=>Ip x (lbs bs (a*f))) (fun x=>[Gu x (lbs bs (a*f))]):=by
 have e:=YP h0 h1
 have:=KD W p q cap 1 a f hA (by rw[e];exact hF) hna (by rw[e];show 1<=1000000;decide)
 rwa [e] at this
structure VX (b:Nat) (p:Option Addr) (cap n k:Nat) (W:World):Prop where
 var:Al W b 0 [slv p n cap]
 int: ∀b2 off,p=some ⟨b2,off,none⟩->k<n->Al W b2 (off+(n-1-k)*1) [.int .i64 0]
theorem LZ (b b2 off:Nat) (cap n:Nat) (hn:n<4611686018427387904):
  QG Tryz.prog 348 [.pointer (some ⟨b,0,none⟩)] n (fun k=>[.int .i64 ((n-1-k:Nat):Int), .int .i64 0]) (VX b (some ⟨b2,off,none⟩) cap n):=by
 refine⟨fun y J Jx hNeed hdr hY W hJ=> ?_⟩
 refine E2 (args:=[.func (.yield y) #[] #[], .pointer (some ⟨b,0,none⟩)]) (J0:=J 0) Tryz.func348 I I I hJ ?_
 refine xb<|wL 0 I I (fun W hp=>(hNeed 0 W hp).var) I<|Aa I<|wV 6 ((n:Int)-1-(0:Nat)) I (by show w64 ((n:Int)-1)=_;rw[AC (by omega) (by omega)];omega)<|wP I<|xa<|zH<|En (X:=Nat) (fun k=>[(0, .func (.yield y) #[] #[]),(1, .pointer (some ⟨b,0,none⟩)),(3, .int .i64 ((n:Int)-1-(k:Nat)))]) J (fun k=>k<=n) (fun k=>n-k) 0 (Nat.zero_le _) ⟨I,I,I,tO⟩ (fun W h=>h) ?_
 intro k hk
 refine xd<|Aa I<|xa<|Av I (fun hc=> ?_) (fun hc=> ?_)
 ·have hk':k<n:=by simp at hc;omega
  clear hc
  have e1:(n:Int)-1-(k:Nat)=((n-1-k:Nat):Int):=by omega
  refine xh<|Aa I<|wV 12 ((n-1-k:Nat):Int) I e1<|wL 0 I I (fun W hp=>(hNeed k W hp).var) I<|wP I<|wV 14 ((n-1-k:Nat):Int) I e1<|wJ ?_
  refine wL 0 I I (fun W hp=>(hNeed k W hp).int b2 off I hk') I<|F6 (A1:=J (k+1)) (A2:=Jx) I I I I I I (fun W hp=>hY k W hk' hp) ?_ ?_
  ·exact wP I<|xa<|zS I<|zI<|xj<|Ae I<|zC<|D5 (k+1) hk' (by omega) ⟨I,I,congrArg (fun z=>some (Value.int .i64 z)) (by show w64 ((n:Int)-1-(k:Nat)-1)=_;rw[AC (by omega) (by omega)];omega),tO⟩ (fun W h=>h)
  ·exact wP I<|xa<|zR I<|zO<|zQ<|zP<|zP<|zQ<|CP I (fun W h=>h)
 ·have hk':k=n:=by simp at hc;omega
  subst hk'
  exact xf<|Io I fun W h=>h
def dvV (p:Option Addr) (cap a b:Nat) (x:Vec×Option NV):Value:= .tuple #[x.1.val (lbs bs (a/b)).length,match x.2 with
 |none=>slv p (lbs bs a).length cap
 |some R=>FB R (lbs bs (a%b)).length]
def fF (a b:Nat) (x:Vec×Option NV):Prop:=x.1.OK 1 (lbs bs (a/b)).length (nI (lbs bs (a/b)))/\match x.2 with
 |none=>a<b
 |some R=>Ip R (lbs bs (a%b))
def dvB (a b:Nat) (x:Vec×Option NV):List Bx:=x.1.bx 3 (nI (lbs bs (a/b)))::match x.2 with
 |none=>[]
 |some R=>[Gu R (lbs bs (a%b))]
theorem ZE {l:List Nat} (h: ∀x∈l,x<bs): ∀x∈l++[0],x<bs:=fun x hx=>by
 rcases List.mem_append.1 hx with hx|hx
 ·exact h x hx
 ·rw[List.mem_singleton.1 hx];decide
theorem Zp (l:List Nat):lv bs (l++[0])=lv bs l:=by
 rw[Fq]
 show lv bs l+bs^l.length*(0+bs*0)=_
 simp
theorem OB (W:World) (p q:Option Addr) (cap cap2 a b:Nat) (hA:AS W p (lbs bs a)) (hB:AS W q (lbs bs b)) (hb:b≠0) (hna:(lbs bs a).length<=100000) (hnb:(lbs bs b).length<=100000):
  Ag Tryz.prog 312 #[slv p (lbs bs a).length cap,slv q (lbs bs b).length cap2] W (dvV p cap a b) (fF a b) (dvB a b):=by
 refine Ab Tryz.func312 I I I<|xb<|wG I I fun _=>wP I<|zC<|?_
 rename_i b4
 refine zE<|xd<|Aa I<|wD (X:=Int) I I (fun W' hp=>Is W' p q cap cap2 a b (hA.hp hp) (hB.hp hp) (by omega) (by omega)) ?_
 intro c hc
 refine wP I<|xa<|?_
 by_cases hab:a<b
 ·refine Bi 14 (.bool true) I (congrArg Value.bool (dT (hc.1.2 hab))) ?_
  refine zR I<|xb<|wP I<|wS 0 I I I<|wP I<|xc<|zP<|An tH I (.cell 0 I I I I I) (.tmp I) (Vec.empty,none) I ⟨?_,hab⟩ fun W' hp=> ?_
  ·rw[Nat.div_eq_of_lt hab,Di];exact Vec.OK.empty 1
  ·exact Own.one (fun p hp=>by cases hp) List.nodup_nil
 have hba:b<=a:=by omega
 refine Bi 14 (.bool false) I (congrArg Value.bool (dF (fun h=>hab (hc.1.1 h)))) ?_
 refine zS I<|zI<|zE<|xd<|Ae I<|xa<|?_
 by_cases hone:(lbs bs b).length=1
 ·refine Bi 18 (.bool true) I (congrArg Value.bool (by rw[hone];rfl)) ?_
  have hblt:=Bq bs2 b
  rw[hone,Nat.pow_one] at hblt
  obtain⟨qb,qo,rfl,hrow⟩:=hB.row (show 0<(lbs bs b).length by omega)
  have hb0:lim (lbs bs b) 0=b:=by rw[C1 bs2,Nat.pow_zero,Nat.div_one,Nat.mod_eq_of_lt hblt]
  have hrb: ∀W' bx,Hp W bx W'->Al W' qb (qo+0*1) [.int .i64 (b:Nat)]:=fun W' bx hp=>by
   have:=(hrow 0 (by omega)).hp hp
   rwa [hb0] at this
  refine zR I<|xb<|Aa I<|wJ ?_
  refine wL 0 I I (fun W' hp=>hrb W' _ hp) I<|wD (X:=NV×NV) I I (fun W' hp=>FD W' p cap a b (hA.hp hp) (by omega) (by omega) hblt) ?_
  rintro⟨V1,V2⟩ ⟨hV1,hV2⟩
  refine Aa I<|wS 0 I I I<|wP I<|xc<|zP<|An tH I (.cell 0 I I I I I) (.tmp I) (nvV V1,some V2) I ⟨hV1,hV2⟩ fun W' hp=> ?_
  exact(hp.pick (l:=[Gu V1 (lbs bs (a/b)),Gu V2 (lbs bs (a%b))]) [1,2] (by decide) I).own
 obtain⟨n,hn⟩: ∃n,(lbs bs b).length=n:=⟨_,rfl⟩
 have hn0:=M7 hb
 rw[hn] at hone hn0
 refine Bi 18 (.bool false) I (congrArg Value.bool (by rw[hn,beq_eq_false_iff_ne];omega)) ?_
 obtain⟨qb,qo,rfl,hrow⟩:=hB.row (show n-1<(lbs bs b).length by omega)
 obtain⟨f,hf⟩: ∃f,f=bs/(lim (lbs bs b) (n-1)+1):=⟨_,rfl⟩
 obtain⟨hf1,hf2,hvn,hnorm⟩:=ZD hn (by omega) hf
 have hbtl:lim (lbs bs b) (n-1)<1000000000:=CQ bs2 (CC bs2 b) _
 refine zS I<|zI<|xe<|Ae I<|Ao 28 (.int .i64 (n:Nat)) I (congrArg (fun n:Nat=>Value.int .i64 (n:Int)) hn)<|wP I<|wV 29 ((n-1:Nat):Int) I (by show w64 ((n:Int)-1)=_;rw[AC (by omega) (by omega)];omega)<|wJ ?_
 refine wL 0 I I (fun W' hp=>(hrow (n-1) (by omega)).hp hp) I<|wP I<|wV 32 ((lim (lbs bs b) (n-1)+1:Nat):Int) I (Az (by omega))<|Kt I I I I I (by omega) ?_
 refine wV 33 (f:Nat) I (by show w64 (((bs:Nat):Int).tdiv ((lim (lbs bs b) (n-1)+1:Nat):Int))=_;rw[Fs, <-hf];exact Dn (Nat.lt_trans hf2 (by decide)))<|wP I<|zC<|?_
 have hF1:a*f≠0:=Nat.mul_ne_zero (by omega) (by omega)
 have hF2:b*f≠0:=Nat.mul_ne_zero hb (by omega)
 refine xe<|Aa I<|Ai Tryz.hZ tH I I I I I I I I I I I fun bF=> ?_
 refine wD (X:=NV) I I (fun W' hp=>J2 W' p _ cap a f (hA.hp hp) (AS.of_bx (l:=[f]) (junk:=[]) hp 1 I) (by omega) hf1 hf2) ?_
 intro V1 hV1
 refine Ai Tryz.hZ tH I I I I I I I I I I I fun bZ=> ?_
 have hua:(lbs bs a).length<=(lbs bs (a*f)).length:=Ly (Nat.le_mul_of_pos_right a hf1)
 have hua2:(lbs bs (a*f)).length<=(lbs bs a).length+1:=(El bs2).2 (by
  rw[Nat.pow_succ]
  have h1:=Bq bs2 a
  exact Nat.mul_lt_mul'' h1 hf2)
 obtain⟨M,hM⟩: ∃M,(lbs bs (a*f)).length=M:=⟨_,rfl⟩
 rw[hM] at hua hua2
 refine AA (V:=nvV V1) (len:=(lbs bs (a*f)).length) (xs:=nI (lbs bs (a*f))) 2 3 Tryz.vec43 (M+1) (nI (lbs bs (a*f)++[0])) I I I I I I I I I I I hV1 I I (by rw[hM]) (Tr (lbs bs (a*f)) [0]).symm (by simp only[maxLen];omega) (by omega) I ?_
 intro gu cu ju hVu
 refine Aa I<|Ai Tryz.hZ tH I I I I I I I I I I I fun bG=> ?_
 refine wD (X:=NV) I I (fun W' hp=>J2 W' (some ⟨qb,qo,none⟩) _ cap2 b f (hB.hp hp) (AS.of_bx (l:=[f]) (junk:=[]) hp 4 I) (by omega) hf1 hf2) ?_
 rintro⟨gv,cv,jv⟩ hVv
 refine wG I I fun _=>wG I I fun _=>wS 6 I I I<|wS 7 I I I<|zC<|?_
 rename_i b7 b8
 obtain⟨u0,hu0⟩: ∃l,lbs bs (a*f)++[0]=l:=⟨_,rfl⟩
 obtain⟨v,hv⟩: ∃l,lbs bs (b*f)=l:=⟨_,rfl⟩
 have hul:u0.length=M+1:=by rw[<-hu0,List.length_append,hM];rfl
 have hvl:v.length=n:=by rw[<-hv];exact hvn
 have hub: ∀x∈u0,x<bs:=by rw[<-hu0];exact ZE (CC bs2 _)
 have hvb: ∀x∈v,x<bs:=by rw[<-hv];exact CC bs2 _
 have huv:lv bs u0=a*f:=by rw[<-hu0,Zp,PY bs2]
 have hvv:lv bs v=b*f:=by rw[<-hv];exact PY bs2 _
 have hnM:n<=M:=by
  have:=Ly hba
  omega
 have hcv:v.length<=cv:=by have:=(hVv.cap (by simp)).1;rw[hv] at this;exact this
 rw[hu0,hv]
 rw[hu0] at hVu
 refine zE<|zA<|zH<|?_
 refine A6 (X:=Unit) (fun _=>[(0,slv p (lbs bs a).length cap),(4,Af b4),(6, .int .i64 (f:Nat)),(7,Af b7),(8,Af b8)]) (fun _=>[⟨b4,43,[.slice none 0 0],true,none⟩,⟨bF,3,[.int .i64 (f:Nat)],true,none⟩,⟨gu,3,nI u0++ju,true,none⟩,⟨bZ,3,[.int .i64 0],true,none⟩,⟨bG,3,[.int .i64 (f:Nat)],true,none⟩,⟨gv,3,nI v++jv,true,none⟩,⟨b7,43,[slv (some ⟨gu,0,none⟩) (M+1) cu],true,none⟩,⟨b8,43,[slv (some ⟨gv,0,none⟩) v.length cv],true,none⟩])
  (fun _=>True) (fun _=>0) () trivial ⟨rfl,rfl,rfl,rfl,rfl,trivial⟩ [] rfl ?_
 intro _ _
 refine xd<|wB 6 I I I<|A3 I<|wV 48 (((lbs bs a).length+1:Nat):Int) I (Az (by omega))<|wP I<|xa<|Bi 49 (.bool false) I (congrArg Value.bool (dF (by omega))) ?_
 refine zS I<|xf<|xe<|?_
 obtain⟨K,hK⟩: ∃K,K=M+1-n:=⟨_,rfl⟩
 refine wB 6 I I I<|wP I<|wB 7 I I I<|Aa I<|wV 57 (K:Nat) I (by show w64 (((M+1:Nat):Int)-(v.length:Nat))=_;rw[hvl,AC (by omega) (by omega)];omega)<|?_
 refine Fl Tryz.vec43 K I I I I I I I (by simp only[maxLen];omega) (by omega) ?_
 intro gq
 have ez:Du (Value.cells (.int .i64 0)).toList K=nI (List.replicate K 0)++[]:=by rw[List.append_nil];exact JC K
 rw[ez]
 refine wS 0 I I I<|xa<|xd<|wB 0 I I I<|wD (X:=Nat) I I (fun W _=>Ek _ K K W) ?_
 intro bI _
 refine xa<|zH<|?_
 refine NP (X:=List Nat×List Nat×Nat) (fun x=>[⟨b4,43,[slv (some ⟨gq,0,none⟩) K K],true,none⟩,⟨bF,3,[.int .i64 (f:Nat)],true,none⟩,⟨gu,3,nI x.2.1++ju,true,none⟩,⟨bZ,3,[.int .i64 0],true,none⟩,⟨bG,3,[.int .i64 (f:Nat)],true,none⟩,⟨gv,3,nI v++jv,true,none⟩,⟨b7,43,[slv (some ⟨gu,0,none⟩) (M+1) cu],true,none⟩,⟨b8,43,[slv (some ⟨gv,0,none⟩) v.length cv],true,none⟩,⟨gq,3,nI x.1++[],true,none⟩,⟨bI,43,[slv (some ⟨gq,0,none⟩) K K],true,none⟩])
  (fun k x=>(x.1.length=K/\(∀y∈x.1,y<bs)/\lv bs x.1=bs^(K-k)*x.2.2)/\x.2.1.length=M+1/\(∀y∈x.2.1,y<bs)/\a*f=x.2.2*(b*f)*bs^(K-k)+lv bs x.2.1/\lv bs x.2.1<b*f*bs^(K-k)) (fun _ _=>False) (List.replicate K 0,u0,0) rfl (by kernel_rfl) (LZ bI gq 0 K K (by omega)) (fun _=>rfl)
  ⟨⟨List.length_replicate,Ll (by decide) K,by rw[H7];show 0=bs^(K-0)*0;rw[Nat.mul_zero]⟩,hul,hub,by show a*f=0*(b*f)*bs^(K-0)+lv bs u0;rw[huv];omega, ?_⟩ [] rfl ?_ ?_ ?_ (fun _ _ _ _ _ h=>h.elim)
 ·show lv bs u0<b*f*bs^(K-0)
  have h1:=Bq bs2 (a*f)
  have h2:=PP bs2 hF2
  rw[hM] at h1
  rw[hvn] at h2
  have h3:bs^(n-1)*bs^K<=b*f*bs^K:=Nat.mul_le_mul_right _ h2
  rw[<-Nat.pow_add,show n-1+K=M by omega] at h3
  rw[huv,Nat.sub_zero];omega
 ·rintro k ⟨ql,ul,Q⟩ W' ⟨⟨hql,hqb,hqv⟩,_⟩ hp
  have hql:ql.length=K:=hql
  have hqv:lv bs ql=bs^(K-k)*Q:=hqv
  refine⟨Al.of_bx hp 9 I I,fun b2 off e hk=> ?_⟩
  cases e
  refine Al.of_intsX hp 8 I (by omega) ?_
  rw[CY bs2 _ hqb,hqv,show K-k=K-1-k+1 by omega,Nat.pow_succ,Nat.mul_assoc,Nat.mul_div_cancel_left _ (Nat.pow_pos (by decide)),Nat.mul_mod_right]
 ·rintro k ⟨ql,ul,Q⟩ d Lo rec hk ⟨⟨hql,hqb,hqv⟩,hull,hulb,hU,hUs⟩ hrec
  have hql:ql.length=K:=hql
  have hqv:lv bs ql=bs^(K-k)*Q:=hqv
  have hull:ul.length=M+1:=hull
  have hU:a*f=Q*(b*f)*bs^(K-k)+lv bs ul:=hU
  have hUs:lv bs ul<b*f*bs^(K-k):=hUs
  have hulb: ∀y∈ul,y<bs:=hulb
  have hqb: ∀y∈ql,y<bs:=hqb
  obtain⟨j,hj⟩: ∃j,K-1-k=j:=⟨_,rfl⟩
  have hjK:j<ql.length:=by omega
  rw[show K-k=j+1 by omega] at hqv hU hUs
  have hju:j+v.length<ul.length:=by omega
  have hUm:lv bs ul<bs^(j+(v.length+1)):=by
   have h1:=Gw bs2 hvb
   rw[hvv] at h1
   have h2:b*f*bs^(j+1)<=bs^v.length*bs^(j+1):=Nat.mul_le_mul_right _ (by omega)
   rw[<-Nat.pow_add,show v.length+(j+1)=j+(v.length+1) by omega] at h2
   omega
  refine zB<|wP I<|zC<|CJ 11 hrec I ?_
  refine Bi 9 (.int .i64 (j:Nat)) I (by rw[hj]) ?_
  refine zH<|xb<|wB 6 I I I<|wB 7 I I I<|wP I<|Ao 63 (slv (some ⟨gu,0,none⟩) ul.length cu) I (by rw[hull])<|?_
  refine wD (X:=Nat) I I (fun W' hp=>LV W' _ _ cu cv j ul v (AS.of_bx hp 2 I) (AS.of_bx hp 5 I) hulb hvb (by omega) hju (by omega) (by rw[hvv];exact hUs) (by rw[hvv,hvl];exact hnorm)) ?_
  rintro x0 ⟨hx0,hx0b⟩
  rw[List.append_nil]
  refine wP I<|xa<|zA<|zH<|?_
  refine A6 (X:=Nat) (fun x=>[(7,Af b7),(8,Af b8),(4,Af b4),(9, .int .i64 (j:Nat)),(10, .int .i64 (x:Nat))]) (fun _=>[⟨b4,43,[slv (some ⟨gq,0,none⟩) K K],true,none⟩,⟨bF,3,[.int .i64 (f:Nat)],true,none⟩,⟨gu,3,nI ul++ju,true,none⟩,⟨bZ,3,[.int .i64 0],true,none⟩,⟨bG,3,[.int .i64 (f:Nat)],true,none⟩,⟨gv,3,nI v++jv,true,none⟩,⟨b7,43,[slv (some ⟨gu,0,none⟩) (M+1) cu],true,none⟩,⟨b8,43,[slv (some ⟨gv,0,none⟩) v.length cv],true,none⟩,⟨gq,3,nI ql++[],true,none⟩,⟨bI,43,[slv (some ⟨gq,0,none⟩) K K],true,none⟩,B7 d,Bc Lo rec .busy none])
   (fun x=>lv bs ul/bs^j/lv bs v<=x/\x<=2100000000) (fun x=>x) x0 ⟨hx0,hx0b⟩ ⟨rfl,rfl,rfl,rfl,rfl,trivial⟩ [] rfl ?_
  rintro x ⟨hx1,hx2⟩
  have hgv: ∀W' bx,Hp W bx W'->nth bx 2=some (⟨gu,3,nI ul++ju,true,none⟩:Bx)->nth bx 5=some (⟨gv,3,nI v++jv,true,none⟩:Bx)->gv≠gu:=fun W' bx hp h2 h5=>by
   rw[AT] at h2 h5
   exact hp.own.apart 5 2 _ _ h5 h2 (by decide) (gv,_) (List.mem_cons_self ..) (gu,_) (List.mem_cons_self ..)
  refine xd<|wB 6 I I I<|wB 7 I I I<|Aa I<|Ao 67 (slv (some ⟨gu,0,none⟩) ul.length cu) I (by rw[hull])<|?_
  refine Mh (X:=List Nat×Nat) (L1:=[]) (L2:=[]) (capt:=[]) 2 (fun y=>⟨gu,3,nI y.1++ju,true,none⟩) rfl rfl rfl rfl rfl rfl (by kernel_rfl) rfl rfl (fun _ _=>rfl) (fun W' hp=>SF W' gu cu cv j x ju (some ⟨gv,0,none⟩) ul v (hp.at_ 2 _ rfl rfl).1 (AS.of_bx hp 5 rfl) (fun b off e=>by cases e;exact hgv W' _ hp rfl rfl) hulb hvb hju (by omega) hx2) ?_
  rintro⟨ul1,c1⟩ hT1
  refine xa<|Av I (fun hc1=> ?_) (fun hc1=> ?_)
  ·have hc1':0<c1:=by
    have h':decide ((c1:Int)>0)=true:=hc1
    rw[decide_eq_true_iff] at h';omega
   have hfar:=Xo hulb hT1 hc1' hUm
   have hl1:ul1.length=ul.length:=hT1.len
   refine zI<|zE<|zH<|xb<|wB 6 I I I<|wB 7 I I I<|Aa I<|Ao 72 (slv (some ⟨gu,0,none⟩) ul1.length cu) I (by rw[hl1,hull])<|?_
   refine Mh (X:=List Nat×Nat) (L1:=[]) (L2:=[]) (capt:=[]) 2 (fun y=>⟨gu,3,nI y.1++ju,true,none⟩) I I I I I I (by kernel_rfl) I I (fun _ _=>rfl) (fun W' hp=>MQ W' gu cu cv j x ju (some ⟨gv,0,none⟩) ul1 v (hp.at_ 2 _ I I).1 (AS.of_bx hp 5 I) (fun b off e=>by
    cases e
    exact hp.own.apart 5 2 _ _ I I (by decide) (gv,_) (List.mem_cons_self ..) (gu,_) (List.mem_cons_self ..)) hT1.lt hvb (by omega) (by omega) hx2) ?_
   rintro⟨ul2,c2⟩ hT2
   have e2:=Vt hulb hT1 hT2
   have e2':ul2=ul:=e2
   subst e2'
   exact Ao 76 (slv (some ⟨gu,0,none⟩) (M+1) cu) I (by rw[hl1,hull])<|wS 6 I I I<|xa<|zB<|Aa I<|wV 78 ((x-1:Nat):Int) I (by show w64 ((x:Int)-1)=_;rw[AC (by omega) (by omega)];have:=Nat.lt_of_le_of_lt (Nat.zero_le _) hfar;omega)<|wP I<|zC<|zN<|Ax (x-1) ⟨Nat.le_sub_one_of_lt hfar,by omega⟩ (by have:=Nat.lt_of_le_of_lt (Nat.zero_le _) hfar;omega) ⟨I,I,I,I,I,tO⟩ [] I
  ·have hc1':c1=0:=by
    have h':decide ((c1:Int)>0)=false:=hc1
    rw[decide_eq_false_iff_not] at h';omega
   have hok:=Zz hT1 hc1'
   have hok':lv bs ul1+bs^j*(x*(b*f))=lv bs ul:=by rw[<-hvv];exact hok
   rw[hvv] at hx1
   have hxb:=WY hok' hUs
   have hxb':x<1000000000:=hxb
   obtain⟨hr1,hr2⟩:=XS hU hx1 (by omega) hok'
   have hzero:ql[j]? =some 0:=by
    rw[Fc hjK,CY bs2 _ hqb,hqv,Nat.pow_succ,Nat.mul_assoc,Nat.mul_div_cancel_left _ (Nat.pow_pos (by decide)),Nat.mul_mod_right]
   have hset:=JW (B:=bs) x hzero
   rw[Nat.mul_zero,Nat.add_zero,hqv,Nat.pow_succ,Nat.mul_assoc, <-Nat.mul_add] at hset
   refine xf<|zE<|zB<|wB 0 I I I<|Aa I<|wJ ?_
   refine BT 8 (nI (ql.set j x)++[]) tH I I I I I I I I I I (by show 0+j*1+1<=(nI ql++[]).length;rw[List.append_nil,CH];omega) (DU hjK x) ?_
   refine zC<|zN<|?_
   refine BQ 11 (ql.set j x,ul1,bs*Q+x) hrec I ⟨⟨by rw[List.length_set];exact hql,E6 hqb hxb, ?_⟩,by rw[hT1.len];exact hull,hT1.lt, ?_, ?_⟩ [] I
   ·show lv bs (ql.set j x)=bs^(K-(k+1))*(bs*Q+x)
    rw[hset,show K-(k+1)=j by omega]
   ·show a*f=(bs*Q+x)*(b*f)*bs^(K-(k+1))+lv bs ul1
    rw[show K-(k+1)=j by omega];exact hr1
   ·show lv bs ul1<b*f*bs^(K-(k+1))
    rw[show K-(k+1)=j by omega];exact hr2
 ·rintro⟨ql,ul,Q⟩ d Lo rec ⟨⟨hql,hqb,hqv⟩,hull,hulb,hU,hUs⟩
  have hql:ql.length=K:=hql
  have hqv:lv bs ql=bs^(K-K)*Q:=hqv
  have hull:ul.length=M+1:=hull
  have hU:a*f=Q*(b*f)*bs^(K-K)+lv bs ul:=hU
  have hUs:lv bs ul<b*f*bs^(K-K):=hUs
  have hulb: ∀y∈ul,y<bs:=hulb
  have hqb: ∀y∈ql,y<bs:=hqb
  rw[Nat.sub_self,Nat.pow_zero] at hqv hU hUs
  rw[Nat.one_mul] at hqv
  rw[Nat.mul_one] at hU hUs
  obtain⟨e1,e2⟩:=bO (show 0<f by omega) hU hUs
  have hul2:(lbs bs (lv bs ul)).length<=M+1:=by
   have:=(El bs2).2 (Gw bs2 hulb)
   omega
  have hV0:(⟨some gq,K,[]⟩:Vec).OK 1 ql.length (nI ql):=⟨JO _,(fun h=>by cases h),fun _=>⟨by show _<=K;omega,by show K<=maxLen;simp only[maxLen];omega,by show(nI ql).length+0=K*1;rw[CH];omega⟩⟩
  obtain⟨j',hV2,he⟩:=Gl hV0 hqb
  rw[hqv, <-e1] at hV2 he
  refine zN<|xe<|wB 6 I I I<|Ao 84 (slv (some ⟨gu,0,none⟩) ul.length cu) I (by rw[hull])<|wC I I (fun W' hp=>Dd W' _ cu _ (AS.of_bx hp 2 I) hulb (by have:=(hVu.cap (by simp)).1;have h9:M+1<=cu:=this;omega) (by omega))<|wP I<|wD (X:=NV×NV) I I (fun W' hp=>FD W' _ cu (lv bs ul) f ((AS.of_bx hp 2 I).trim hulb) (by omega) (by omega) hf2) ?_
  rintro⟨R1,R2⟩ ⟨hR1, -⟩
  refine A3 I<|xg<|wB 0 I I I<|Ao 90 (slv (some ⟨gq,0,none⟩) ql.length K) I (by rw[hql])<|wC I I (fun W' hp=>Dd W' _ K _ (AS.of_bx hp 8 I) hqb (by omega) (by omega))<|wP I<|wS 0 I I I<|wP I<|xc<|?_
  rw[e2] at hR1
  refine C2 10 I ?_
  refine An tH I (.cell 0 I I I I I) (.tmp I) ((⟨some gq,K,j'⟩:Vec),some R1) ?_ ⟨hV2,hR1⟩ fun W' hp=> ?_
  ·show Value.tuple #[slv (some ⟨gq,0,none⟩) (lbs bs (lv bs ql)).length K,FB R1 (lbs bs (lv bs ul/f)).length]= .tuple #[slv (some ⟨gq,0,none⟩) (lbs bs (a/b)).length K,FB R1 (lbs bs (a%b)).length]
   rw[hqv, <-e1,e2]
  ·have h:=(hp.pick (l:=[⟨gq,3,nI ql++[],true,none⟩,Gu R1 (lbs bs (lv bs ul/f))]) [8,12] (by decide) rfl).own
   rw[he,e2] at h
   exact h
end
end Go.Proofs.YtidgbjcdppjknaaGreatDoor
