/-
  Lemmas that the theorem levelOrders_upto_card needs (part 6 of 8).
-/
import Derived.Test.YtmblgcglonikiaaGreatDoorLoe
import Derived.Shelf.SlSortCmp.Insertion
import Derived.Lib.SlicesCompact
import Derived.Shelf.Lays
import Derived.Shelf.SlLaysN
import Derived.Shelf.Small.Bits
import Derived.Shelf.SlicesG.CompactS
import Derived.Laws.Shifts
import Derived.Lib.Overlaps
set_option maxHeartbeats 64000000
namespace Go.Proofs.YtmblgcglonikiaaGreatDoor
section
open Go Go.RowKit Go.Am
set_option maxRecDepth 10000
-- BOXES 2
def JV (rs:List (List Sd)) (r i s k:Nat):Bool:=
 !((r==s)&&(decide (k≤i)||(k==i+1)||((i==0)&&(k+1==(rg rs r).length))))&&E1 (sd (rg rs r) i) (sd (rg rs r) (nxt (rg rs r).length i)) (sd (rg rs s) k) (sd (rg rs s) (nxt (rg rs s).length k))
theorem MJ {rs:List (List Sd)} {r i s k:Nat} (hr:r<rs.length) (hi:i<(rg rs r).length) (hs:s<rs.length) (hk:k<(rg rs s).length) (h:JV rs r i s k=true):crs rs=true:=by
 unfold JV at h
 obtain⟨h1,h2⟩:=Bool.and_eq_true_iff.1 h
 cases hc:crs rs with
 |true=>rfl
 |false=>
  have:=(Qj rs).1 hc r i s k hr hi hs hk (fun hn=>by
   obtain⟨rfl,hn⟩:=hn
   rw[Ho hi,Ho hk] at hn
   have:((r==r)&&(decide (k≤i)||(k==i+1)||((i==0)&&(k+1==(rg rs r).length))))=true:=by
    simp only[beq_self_eq_true,Bool.true_and,Bool.or_eq_true,Bool.and_eq_true,decide_eq_true_eq,beq_iff_eq]
    revert hn
    split<;>split<;>intro hn<;>omega
   rw[this] at h1;cases h1)
  rw[show E1 (bsd rs (r,i)) (esd rs (r,i)) (bsd rs (s,k)) (esd rs (s,k))=true from h2] at this
  cases this
theorem U7 {rs:List (List Sd)} (h: ∀r i s k,r<rs.length→i<(rg rs r).length→s<rs.length→k<(rg rs s).length→r≤s→JV rs r i s k=false):crs rs=false:=by
 have one: ∀r i s k,r<rs.length→i<(rg rs r).length→s<rs.length→k<(rg rs s).length→(r<s∨(r=s∧i<k))→ ¬near rs r i s k→E1 (bsd rs (r,i)) (esd rs (r,i)) (bsd rs (s,k)) (esd rs (s,k))=false:=fun r i s k hr hi hs hk ho hn=>by
  have hb:=h r i s k hr hi hs hk (by omega)
  unfold JV at hb
  have:((r==s)&&(decide (k≤i)||(k==i+1)||((i==0)&&(k+1==(rg rs r).length))))=false:=by
   by_cases e:r=s
   ·subst e
    have hik:i<k:=by omega
    rw[beq_self_eq_true,Bool.true_and,Bool.eq_false_iff]
    intro h2
    refine hn ⟨I, ?_⟩
    rw[Ho hi,Ho hk]
    simp only[Bool.or_eq_true,Bool.and_eq_true,decide_eq_true_eq,beq_iff_eq] at h2
    split<;>split<;>omega
   ·rw[beq_eq_false_iff_ne.2 e];rfl
  rw[this,Bool.not_false,Bool.true_and] at hb
  exact hb
 refine(Qj rs).2 fun r i s k hr hi hs hk hn=> ?_
 by_cases ho:r<s∨(r=s∧i<k)
 ·exact one r i s k hr hi hs hk ho hn
 ·rw[K3]
  have hne: ¬(r=s∧i=k):=fun⟨e1,e2⟩=>hn ⟨e1, .inl e2⟩
  refine one s k r i hs hk hr hi (by omega) fun hn2=>hn ?_
  obtain⟨rfl,hn2⟩:=hn2
  exact⟨I,by omega⟩
theorem M6 (W:World) (p:Option Addr) (cap:Nat) (rs:List (List Sd)) (hn:rs.length<4611686018427387904) (hl: ∀l∈rs,l.length<4611686018427387904) (hR:BD W p rs):
  Ad Tryz.prog 105 #[slv p rs.length cap] W (fun _:Unit=> .bool (crs rs)) (fun _=>True) (fun _=>[]):=by
 refine Ab (args:=[slv p rs.length cap]) Tryz.func105 I I I ?_
 refine zA (zB (wP I (Aa (zE (zA (zA (zB (wP I (Aa (zE (zH ?_)))))))))))
 refine Ar (X:=Nat) (fun r=>[(0,slv p rs.length cap),(3, .int .i64 (r:Nat))]) (fun _=>[])
  (fun r=>r≤rs.length∧ ∀r' i s k,r'<r→r'<rs.length→i<(rg rs r').length→s<rs.length→k<(rg rs s).length→r'≤s→JV rs r' i s k=false) (fun r=>rs.length-r) 0 ⟨Nat.zero_le _,fun r' i s k h=>absurd h (Nat.not_lt_zero _)⟩ ⟨rfl,rfl,trivial⟩ [] rfl ?_
 rintro r ⟨hr,P1⟩
 refine zA (zA (zB (wP I (wP I (wP I (wP I (Aa (zE ?_))))))))
 refine Af I (fun h=> ?_) (fun h=> ?_)
 rotate_left
 ·have e:r=rs.length:=by simp at h;omega
  subst e
  refine zJ (zK (zK (zL (zE (zA (zB (wP I (Aa (zE (zO ?_))))))))))
  have hc:crs rs=false:=U7 fun r' i s k h1 h2 h3 h4 h5=>P1 r' i s k h1 h1 h2 h3 h4 h5
  exact wR1 I I (by rw[hc])
 have hr:r<rs.length:=by simp at h;omega
 clear h
 obtain⟨b,off,rfl,hrow⟩:=hR.row hr
 obtain⟨q,cap2,hq1,hq2⟩:=hrow r hr
 have hlr:=hl _ (List.mem_of_getElem? (Bd hr))
 refine zI (zE (zA (zH (zA (zB (wP I (Aa (zE (zH ?_)))))))))
 refine Ar (X:=Nat) (fun i=>[(0,slv (some ⟨b,off,none⟩) rs.length cap),(3, .int .i64 (r:Nat)),(4, .int .i64 (i:Nat))]) (fun _=>[])
  (fun i=>i≤(rg rs r).length∧ ∀i' s k,i'<i→i'<(rg rs r).length→s<rs.length→k<(rg rs s).length→r≤s→JV rs r i' s k=false) (fun i=>(rg rs r).length-i) 0 ⟨Nat.zero_le _,fun i' s k h=>absurd h (Nat.not_lt_zero _)⟩ ⟨rfl,rfl,rfl,trivial⟩ [] rfl ?_
 rintro i ⟨hi,P2⟩
 refine zA (zA (zB (wP I (wP I (wP I ?_)))))
 refine wJ ?_
 refine wL 0 I I (fun W hp=>hq1.hp hp) I (wP I (wP I (Aa (zE ?_))))
 refine Af I (fun h=> ?_) (fun h=> ?_)
 rotate_left
 ·have e:i=(rg rs r).length:=by simp at h;omega
  subst e
  refine zJ (zK (zK (zL (zN (zE (zB (wP I (wP I (wP I (Aa ?_))))))))))
  refine Al (r+1) ⟨hr,fun r' i' s k h0 h1 h2 h3 h4 h5=> ?_⟩ (by omega) ⟨I,congrArg (fun z=>some (Value.int .i64 z)) (AE (x:=(r:Int)+1) (by omega) (by omega)),O⟩ [] I
  by_cases e:r'=r
  ·subst e;exact P2 i' s k h2 h2 h3 h4 h5
  ·exact P1 r' i' s k (by omega) h1 h2 h3 h4 h5
 have hi:i<(rg rs r).length:=by simp at h;omega
 clear h
 refine zI (zE (zA (zH (zA (zB (wP I (wP I (Aa (zE (zH ?_))))))))))
 refine Ar (X:=Nat) (fun s=>[(0,slv (some ⟨b,off,none⟩) rs.length cap),(3, .int .i64 (r:Nat)),(4, .int .i64 (i:Nat)),(5, .int .i64 (s:Nat))]) (fun _=>[])
  (fun s=>s≤rs.length∧r≤s∧ ∀s' k,s'<s→s'<rs.length→k<(rg rs s').length→r≤s'→JV rs r i s' k=false) (fun s=>rs.length-s) r ⟨by omega,Nat.le_refl _,fun s' k h0 _ _ h5=>absurd h0 (by omega)⟩ ⟨rfl,rfl,rfl,rfl,trivial⟩ [] rfl ?_
 rintro s ⟨hs,hrs,P3⟩
 refine zA (zA (zB (wP I (wP I (wP I (wP I (Aa (zE ?_))))))))
 refine Af I (fun h=> ?_) (fun h=> ?_)
 rotate_left
 ·have e:s=rs.length:=by simp at h;omega
  subst e
  refine zJ (zK (zK (zL (zN (zE (zB (wP I (wP I (wP I (Aa ?_))))))))))
  refine Al (i+1) ⟨hi,fun i' s k h0 h2 h3 h4 h5=> ?_⟩ (by omega) ⟨I,I,congrArg (fun z=>some (Value.int .i64 z)) (AE (x:=(i:Int)+1) (by omega) (by omega)),O⟩ [] I
  by_cases e:i'=i
  ·subst e;exact P3 s k h3 h3 h4 h5
  ·exact P2 i' s k (by omega) h2 h3 h4 h5
 have hs:s<rs.length:=by simp at h;omega
 clear h
 obtain⟨q',cap3,hq3,hq4⟩:=hrow s hs
 have hls:=hl _ (List.mem_of_getElem? (Bd hs))
 refine zI (zE (zA (zH (zA (zB (wP I (Aa (zE (zH ?_)))))))))
 refine Ar (X:=Nat) (fun k=>[(0,slv (some ⟨b,off,none⟩) rs.length cap),(3, .int .i64 (r:Nat)),(4, .int .i64 (i:Nat)),(5, .int .i64 (s:Nat)),(6, .int .i64 (k:Nat))]) (fun _=>[])
  (fun k=>k≤(rg rs s).length∧ ∀k',k'<k→JV rs r i s k'=false) (fun k=>(rg rs s).length-k) 0 ⟨Nat.zero_le _,fun k' h=>absurd h (Nat.not_lt_zero _)⟩ ⟨rfl,rfl,rfl,rfl,rfl,trivial⟩ [] rfl ?_
 rintro k ⟨hk,P4⟩
 refine zA (zA (zB (wP I (wP I (wP I ?_)))))
 refine wJ ?_
 refine wL 0 I I (fun W hp=>hq3.hp hp) I (wP I (wP I (Aa (zE ?_))))
 refine Af I (fun h=> ?_) (fun h=> ?_)
 rotate_left
 ·have e:k=(rg rs s).length:=by simp at h;omega
  subst e
  refine zJ (zK (zK (zL (zN (zE (zB (wP I (wP I (wP I (Aa ?_))))))))))
  refine Al (s+1) ⟨hs,by omega,fun s' k h0 h3 h4 h5=> ?_⟩ (by omega) ⟨I,I,I,congrArg (fun z=>some (Value.int .i64 z)) (AE (x:=(s:Int)+1) (by omega) (by omega)),O⟩ [] I
  by_cases e:s'=s
  ·subst e;exact P4 k h4
  ·exact P3 s' k (by omega) h3 h4 h5
 have hk:k<(rg rs s).length:=by simp at h;omega
 clear h
 have fin:JV rs r i s k=false→ ∀k',k'<k+1→JV rs r i s k'=false:=fun h k' hk'=>by
  by_cases e:k'=k
  ·subst e;exact h
  ·exact P4 k' (by omega)
 have e1: ∀z:Int,z=(k:Int)+1→w64 z=((k+1:Nat):Int):=fun z h=>by rw[h,Ai (by omega) (by omega)];omega
 -- the side is left out
 have skip:((r==s)&&(decide (k≤i)||(k==i+1)||((i==0)&&(k+1==(rg rs r).length))))=true→JV rs r i s k=false:=fun h=>by unfold JV;rw[h];rfl
 have test:((r==s)&&(decide (k≤i)||(k==i+1)||((i==0)&&(k+1==(rg rs r).length))))=false→JV rs r i s k=E1 (sd (rg rs r) i) (sd (rg rs r) (nxt (rg rs r).length i)) (sd (rg rs s) k) (sd (rg rs s) (nxt (rg rs s).length k)):=fun h=>by unfold JV;rw[h];rfl
 obtain⟨C1,c1⟩: ∃b,((r:Int)==(s:Int))=b:=⟨_,rfl⟩
 obtain⟨C2,c2⟩: ∃b,decide ((k:Int)≤(i:Int))=b:=⟨_,rfl⟩
 obtain⟨C3,c3⟩: ∃b,((k:Int)==w64 ((i:Int)+1))=b:=⟨_,rfl⟩
 obtain⟨C4,c4⟩: ∃b,((i:Int)==0)=b:=⟨_,rfl⟩
 obtain⟨C5,c5⟩: ∃b,((k:Int)==w64 (((rg rs r).length:Nat)-1))=b:=⟨_,rfl⟩
 have hC:((r==s)&&(decide (k≤i)||(k==i+1)||((i==0)&&(k+1==(rg rs r).length))))=(C1&&(C2||C3||(C4&&C5))):=by
  rw[Ai (by omega) (by omega)] at c3 c5
  rw[←c1, ←c2, ←c3, ←c4, ←c5,C7]
  have a2:decide (k≤i)=decide ((k:Int)≤(i:Int)):=by by_cases h:k≤i;rw[dT h,dT (by omega)];rw[dF h,dF (by omega)]
  have a3:(k==i+1)=((k:Int)==(i:Int)+1):=by rw[Bool.eq_iff_iff,beq_iff_eq,beq_iff_eq];omega
  have a4:(i==0)=((i:Int)==0):=by rw[Bool.eq_iff_iff,beq_iff_eq,beq_iff_eq];omega
  have a5:(k+1==(rg rs r).length)=((k:Int)==((rg rs r).length:Nat)-1):=by rw[Bool.eq_iff_iff,beq_iff_eq,beq_iff_eq];omega
  rw[a2,a3,a4,a5]
 refine zI (zE (zA (zH (zA (zB (wP I (wP I ?_)))))))
 refine wJ ?_
 refine wL 0 I I (fun W hp=>hq1.hp hp) I (wP I (wP I (Aa (zE (zA (zA (zB (wP I (wP I (wP I (wP I ?_)))))))))))
 refine AF 47 I (fun h47=> ?_) (fun h47=> ?_)
 ·refine wP I (wP I (wP I (wP I ?_)))
  refine AF 51 I (fun h51=> ?_) (fun h51=> ?_)
  ·refine Ae I I ?_
   iterate 3 refine Ae I I ?_
   refine wP I (wP I ?_)
   iterate 8 refine Ae I I ?_
   refine wP I (wP I (Aa ?_))
   have e:(C1&&(C2||C3||(C4&&C5)))=true:=by first|(rw[show C1=true from c1.symm.trans h47,show C2=true from c2.symm.trans h51];rfl)|(rw[show C1=true from c1.symm.trans h47,show C3=true from c3.symm.trans h57];cases C2<;>rfl)
   exact zE (zR I (zJ (zK (zL (zE (zB (wP I (wP I (wP I (Aa (Al (k+1) ⟨hk,fin (skip (hC.trans e))⟩ (by omega) ⟨I,I,I,I,congrArg (fun z=>some (Value.int .i64 z)) (AE (x:=(k:Int)+1) (by omega) (by omega)),O⟩ [] I)))))))))))
  ·refine wP I ?_
   iterate 5 refine wP I ?_
   refine AF 57 I (fun h57=> ?_) (fun h57=> ?_)
   ·refine Ae I I ?_
    iterate 7 refine Ae I I ?_
    refine wP I (wP I (Aa ?_))
    have e:(C1&&(C2||C3||(C4&&C5)))=true:=by first|(rw[show C1=true from c1.symm.trans h47,show C2=true from c2.symm.trans h51];rfl)|(rw[show C1=true from c1.symm.trans h47,show C3=true from c3.symm.trans h57];cases C2<;>rfl)
    exact zE (zR I (zJ (zK (zL (zE (zB (wP I (wP I (wP I (Aa (Al (k+1) ⟨hk,fin (skip (hC.trans e))⟩ (by omega) ⟨I,I,I,I,congrArg (fun z=>some (Value.int .i64 z)) (AE (x:=(k:Int)+1) (by omega) (by omega)),O⟩ [] I)))))))))))
   ·refine wP I (wP I (wP I ?_))
    refine AF 60 I (fun h60=> ?_) (fun h60=> ?_)
    ·refine wP I ?_
     iterate 6 refine wP I ?_
     refine Aa (zE ?_)
     refine Af I (fun hx=> ?_) (fun hx=> ?_)
     ·have e:(C1&&(C2||C3||(C4&&C5)))=true:=by first|(rw[show C1=true from c1.symm.trans h47,show C3=true from c3.symm.trans h57];cases C2<;>rfl)|(rw[show C1=true from c1.symm.trans h47,show C4=true from c4.symm.trans h60,show C5=true from c5.symm.trans hx];cases C2<;>cases C3<;>rfl)|(rw[show C1=true from c1.symm.trans h47,show C3=true from c3.symm.trans hx];cases C2<;>rfl)
      exact zJ (zK (zL (zE (zB (wP I (wP I (wP I (Aa (Al (k+1) ⟨hk,fin (skip (hC.trans e))⟩ (by omega) ⟨I,I,I,I,congrArg (fun z=>some (Value.int .i64 z)) (AE (x:=(k:Int)+1) (by omega) (by omega)),O⟩ [] I)))))))))
     ·have e:(C1&&(C2||C3||(C4&&C5)))=false:=by first|(rw[show C2=false from c2.symm.trans h51,show C3=false from c3.symm.trans h57,show C5=false from c5.symm.trans hx,Bool.and_false];cases C1<;>rfl)
      refine zI (zE (zA (zU (qP I (qP I ?_)))))
      refine qJ ?_
      refine qL 0 I I (fun W hp=>hq1.hp hp) I (qP I (qP I (qP I ?_)))
      refine qJ ?_
      refine qL 0 I I (fun W hp=>hq3.hp hp) I (qP I (qC I I (fun W hp=>Ia W q q' cap2 cap3 (rg rs r) (rg rs s) i k hlr hls (hq2.hp hp) (hq4.hp hp) hi hk) (A4 (Aa (zE ?_)))))
      refine Af I (fun h=> ?_) (fun h=> ?_)
      ·refine zA (zB (wP I (Aa (zE (zO (zQ (zP (zP (zQ (zQ (zP (zP (zQ (zQ ?_))))))))))))))
       refine zP (zP (zQ (zQ (zP (zP (zQ (zP ?_)))))))
       have hc:crs rs=true:=MJ hr hi hs hk ((test (hC.trans e)).trans h)
       exact wR1 I I (by rw[hc])
      ·exact zI (zN (zE (zB (wP I (wP I (wP I (Aa (Al (k+1) ⟨hk,fin ((test (hC.trans e)).trans h)⟩ (by omega) ⟨I,I,I,I,congrArg (fun z=>some (Value.int .i64 z)) (AE (x:=(k:Int)+1) (by omega) (by omega)),O⟩ [] I))))))))
    ·refine Ae I I ?_
     iterate 3 refine Ae I I ?_
     refine wP I (wP I (wP I (Aa ?_)))
     have e:(C1&&(C2||C3||(C4&&C5)))=false:=by first|(rw[show C1=false from c1.symm.trans h47];rfl)|(rw[show C2=false from c2.symm.trans h51,show C3=false from c3.symm.trans h57,show C4=false from c4.symm.trans h60,Bool.false_and];cases C1<;>rfl)
     refine zE (zS I (zI (zE (zA (zU (qP I (qP I ?_)))))))
     refine qJ ?_
     refine qL 0 I I (fun W hp=>hq1.hp hp) I (qP I (qP I (qP I ?_)))
     refine qJ ?_
     refine qL 0 I I (fun W hp=>hq3.hp hp) I (qP I (qC I I (fun W hp=>Ia W q q' cap2 cap3 (rg rs r) (rg rs s) i k hlr hls (hq2.hp hp) (hq4.hp hp) hi hk) (A4 (Aa (zE ?_)))))
     refine Af I (fun h=> ?_) (fun h=> ?_)
     ·refine zA (zB (wP I (Aa (zE (zO (zQ (zP (zP (zQ (zQ (zP (zP (zQ (zQ ?_))))))))))))))
      refine zP (zP (zQ (zQ (zP (zP (zQ (zP ?_)))))))
      have hc:crs rs=true:=MJ hr hi hs hk ((test (hC.trans e)).trans h)
      exact wR1 I I (by rw[hc])
     ·exact zI (zN (zE (zB (wP I (wP I (wP I (Aa (Al (k+1) ⟨hk,fin ((test (hC.trans e)).trans h)⟩ (by omega) ⟨I,I,I,I,congrArg (fun z=>some (Value.int .i64 z)) (AE (x:=(k:Int)+1) (by omega) (by omega)),O⟩ [] I))))))))
 ·refine Ae I I ?_
  iterate 18 refine Ae I I ?_
  refine wP I (Aa ?_)
  have e:(C1&&(C2||C3||(C4&&C5)))=false:=by first|(rw[show C1=false from c1.symm.trans h47];rfl)|(rw[show C2=false from c2.symm.trans h51,show C3=false from c3.symm.trans h57,show C4=false from c4.symm.trans h60,Bool.false_and];cases C1<;>rfl)
  refine zE (zS I (zI (zE (zA (zU (qP I (qP I ?_)))))))
  refine qJ ?_
  refine qL 0 I I (fun W hp=>hq1.hp hp) I (qP I (qP I (qP I ?_)))
  refine qJ ?_
  refine qL 0 I I (fun W hp=>hq3.hp hp) I (qP I (qC I I (fun W hp=>Ia W q q' cap2 cap3 (rg rs r) (rg rs s) i k hlr hls (hq2.hp hp) (hq4.hp hp) hi hk) (A4 (Aa (zE ?_)))))
  refine Af I (fun h=> ?_) (fun h=> ?_)
  ·refine zA (zB (wP I (Aa (zE (zO (zQ (zP (zP (zQ (zQ (zP (zP (zQ (zQ ?_))))))))))))))
   refine zP (zP (zQ (zQ (zP (zP (zQ (zP ?_)))))))
   have hc:crs rs=true:=MJ hr hi hs hk ((test (hC.trans e)).trans h)
   exact wR1 I I (by rw[hc])
  ·exact zI (zN (zE (zB (wP I (wP I (wP I (Aa (Al (k+1) ⟨hk,fin ((test (hC.trans e)).trans h)⟩ (by omega) ⟨I,I,I,I,congrArg (fun z=>some (Value.int .i64 z)) (AE (x:=(k:Int)+1) (by omega) (by omega)),O⟩ [] I))))))))
-- BOXES 2
def NL (rs:List (List Sd)) (r s:Nat):Bool:=(s==r)||(GJ (rg rs s) (sd (rg rs r) 0).x (sd (rg rs r) 0).y (rg rs s).length==(s==0))
def SV (rs:List (List Sd)) (r:Nat):Bool:=(r==0)||(!decide (twR (rg rs r) (rg rs r).length≥0)&&(List.range rs.length).all (NL rs r))
def HD (rs:List (List Sd)):Bool:= !decide (twR (rg rs 0) (rg rs 0).length≤0)&&(List.range rs.length).all (SV rs)
theorem NR (W:World) (p:Option Addr) (cap:Nat) (rs:List (List Sd)) (hn:rs.length<4611686018427387904) (hl: ∀l∈rs,l.length<4611686018427387904) (hne: ∀l∈rs,l≠[]) (h0:0<rs.length) (hR:BD W p rs):
  Ad Tryz.prog 106 #[slv p rs.length cap] W (fun _:Unit=> .bool (HD rs)) (fun _=>True) (fun _=>[]):=by
 obtain⟨b,off,rfl,hrow⟩:=hR.row h0
 obtain⟨q0,cap0,hq1,hq2⟩:=hrow 0 h0
 refine Ab (args:=[slv (some ⟨b,off,none⟩) rs.length cap]) Tryz.func106 I I I ?_
 refine zA (zB (wP I (Aa (zE (zA (zA (zB (wP I ?_))))))))
 refine wJ ?_
 refine wL 0 I I (fun W hp=>hq1.hp hp) I (wC I I (fun W hp=>KV W q0 cap0 (rg rs 0) (hl _ (List.mem_of_getElem? (Bd h0))) (hq2.hp hp)) (wP I (Aa (zE ?_))))
 refine Af I (fun h=> ?_) (fun h=> ?_)
 ·refine zA (zB (wP I (Aa (zE (zO (zP ?_))))))
  have hf:HD rs=false:=by unfold HD;rw[show decide (twR (rg rs 0) (rg rs 0).length≤0)=true from h];rfl
  exact wR1 I I (by rw[hf])
 have hA:decide (twR (rg rs 0) (rg rs 0).length≤0)=false:=h
 clear h
 refine zI (zE (zA (zA (zB (wP I (Aa (zE (zH ?_))))))))
 refine Ar (X:=Nat) (fun r=>[(0,slv (some ⟨b,off,none⟩) rs.length cap),(3, .int .i64 (r:Nat))]) (fun _=>[]) (fun r=>1≤r∧r≤rs.length∧ ∀j,j<r→SV rs j=true) (fun r=>rs.length-r) 1
  ⟨Nat.le_refl _,h0,fun j hj=>by rw[show j=0 by omega];rfl⟩ ⟨rfl,rfl,trivial⟩ [] rfl ?_
 rintro r ⟨hr1,hr,hok⟩
 refine zA (zA (zB (wP I (wP I (wP I (wP I (Aa (zE ?_))))))))
 refine Af I (fun h=> ?_) (fun h=> ?_)
 rotate_left
 ·have e:r=rs.length:=by simp at h;omega
  subst e
  refine zJ (zK (zK (zL (zE (zA (zB (wP I (Aa (zE (zO ?_))))))))))
  have ht:HD rs=true:=by unfold HD;rw[hA,List.all_eq_true.2 fun j hj=>hok j (List.mem_range.1 hj)];rfl
  exact wR1 I I (by rw[ht])
 have hr:r<rs.length:=by simp at h;omega
 clear h
 obtain⟨q,cap2,hq3,hq4⟩:=hrow r hr
 have hlr:=hl _ (List.mem_of_getElem? (Bd hr))
 have hner:0<(rg rs r).length:=List.length_pos_iff.2 (hne _ (List.mem_of_getElem? (Bd hr)))
 have hr0:(r==0)=false:=beq_eq_false_iff_ne.2 (by omega)
 refine zI (zE (zA (zH (zA (zA (zB (wP I (wP I ?_))))))))
 refine wJ ?_
 refine wL 0 I I (fun W hp=>hq3.hp hp) I (wC I I (fun W hp=>KV W q cap2 (rg rs r) hlr (hq4.hp hp)) (wP I (Aa (zE ?_))))
 refine Af I (fun h=> ?_) (fun h=> ?_)
 ·refine zA (zB (wP I (Aa (zE (zO (zP (zQ (zP (zP (zQ (zP ?_)))))))))))
  have hf:HD rs=false:=by unfold HD;rw[BO hr (by unfold SV;rw[hr0,show decide (twR (rg rs r) (rg rs r).length≥0)=true from h];rfl),Bool.and_false]
  exact wR1 I I (by rw[hf])
 have hB:decide (twR (rg rs r) (rg rs r).length≥0)=false:=h
 clear h
 refine zI (zE (zA (zB (wP I (Aa (zE (zH ?_)))))))
 refine Ar (X:=Nat) (fun s=>[(0,slv (some ⟨b,off,none⟩) rs.length cap),(3, .int .i64 (r:Nat)),(4, .int .i64 (s:Nat))]) (fun _=>[]) (fun s=>s≤rs.length∧ ∀j,j<s→NL rs r j=true) (fun s=>rs.length-s) 0
  ⟨Nat.zero_le _,fun j hj=>absurd hj (Nat.not_lt_zero _)⟩ ⟨rfl,rfl,rfl,trivial⟩ [] rfl ?_
 rintro s ⟨hs,hoks⟩
 refine zA (zA (zB (wP I (wP I (wP I (wP I (Aa (zE ?_))))))))
 refine Af I (fun h=> ?_) (fun h=> ?_)
 rotate_left
 ·have e:s=rs.length:=by simp at h;omega
  subst e
  refine zJ (zK (zK (zL (zN (zE (zB (wP I (wP I (wP I (Aa ?_))))))))))
  refine Al (r+1) ⟨by omega,hr,fun j hj=> ?_⟩ (by omega) ⟨I,congrArg (fun z=>some (Value.int .i64 z)) (AE (x:=(r:Int)+1) (by omega) (by omega)),O⟩ [] I
  by_cases e:j=r
  ·subst e
   unfold SV
   rw[hB,List.all_eq_true.2 fun m hm=>hoks m (List.mem_range.1 hm),hr0];rfl
  ·exact hok j (by omega)
 have hs:s<rs.length:=by simp at h;omega
 clear h
 obtain⟨q',cap3,hq5,hq6⟩:=hrow s hs
 have hls:=hl _ (List.mem_of_getElem? (Bd hs))
 have next:NL rs r s=true→ ∀j,j<s+1→NL rs r j=true:=fun h j hj=>by
  by_cases e:j=s
  ·subst e;exact h
  ·exact hoks j (by omega)
 obtain⟨b3,off3,rfl,hrow3⟩:=hq4.row hner
 refine zI (zE (zA (zH (zA (zU (qP I (qP I (qP I (qP I ?_)))))))))
 refine He 31 I (fun h31=> ?_) (fun h31=> ?_)
 ·refine qP I (qP I ?_)
  refine qJ ?_
  refine qL 0 I I (fun W hp=>hq5.hp hp) I (qP I (qP I ?_))
  refine qJ ?_
  refine qL 0 I I (fun W hp=>hq3.hp hp) I ?_
  refine qJ ?_
  refine qP I (qL 0 I I (fun W hp=>(hrow3 0 hner).hp hp) I (qP I (qP I ?_)))
  refine qJ ?_
  refine qL 0 I I (fun W hp=>hq3.hp hp) I ?_
  refine qJ ?_
  refine qP I (qL 1 I I (fun W hp=>(hrow3 0 hner).hp hp) I (qC I I (fun W hp=>NW W q' cap3 (rg rs s) _ _ hls (hq6.hp hp)) (qP I (qP I ?_))))
  refine MA Tryz.underlying4 I I I I I I ?_
  refine qP I (A4 (Aa ?_))
  have e:(s==r)=false:=by have h':((s:Int) !=(r:Int))=true:=h31;rw[bne_iff_ne] at h';rw[beq_eq_false_iff_ne];omega
  refine zE ?_
  refine Af I (fun h=> ?_) (fun h=> ?_)
  ·refine zA (zB (wP I (Aa (zE (zO (zQ (zP (zP (zQ (zQ (zP (zP (zQ ?_)))))))))))))
   refine zP ?_
   have h':(GJ (rg rs s) (sd (rg rs r) 0).x (sd (rg rs r) 0).y (rg rs s).length==(s==0))=false:=by
    rw[←C7 s 0]
    have h2:(!(GJ (rg rs s) (sd (rg rs r) 0).x (sd (rg rs r) 0).y (rg rs s).length==((s:Int)==0)))=true:=h
    simpa using h2
   have hf:HD rs=false:=by unfold HD;rw[BO hr (by unfold SV;rw[hr0,BO hs (by unfold NL;rw[e,h'];rfl),Bool.and_false];rfl),Bool.and_false]
   exact wR1 I I (by rw[hf])
  ·have h':(GJ (rg rs s) (sd (rg rs r) 0).x (sd (rg rs r) 0).y (rg rs s).length==(s==0))=true:=by
    rw[←C7 s 0]
    have h2:(!(GJ (rg rs s) (sd (rg rs r) 0).x (sd (rg rs r) 0).y (rg rs s).length==((s:Int)==0)))=false:=h
    simpa using h2
   exact zI (zN (zE (zB (wP I (wP I (wP I (Aa (Al (s+1) ⟨hs,next (by unfold NL;rw[h',Bool.or_true])⟩ (by omega) ⟨I,I,congrArg (fun z=>some (Value.int .i64 z)) (AE (x:=(s:Int)+1) (by omega) (by omega)),O⟩ [] I))))))))
 ·refine BA I I ?_
  iterate 21 refine BA I I ?_
  refine qP I (A4 (Aa ?_))
  have e:(s==r)=true:=by have h':((s:Int) !=(r:Int))=false:=h31;rw[bne_eq_false_iff_eq] at h';rw[beq_iff_eq];omega
  exact zE (zS I (zI (zN (zE (zB (wP I (wP I (wP I (Aa (Al (s+1) ⟨hs,next (by unfold NL;rw[e];rfl)⟩ (by omega) ⟨I,I,congrArg (fun z=>some (Value.int .i64 z)) (AE (x:=(s:Int)+1) (by omega) (by omega)),O⟩ [] I))))))))))
def HW (l:List Sd) (k:Nat):Bool:= !(decide (Ku l k<0)&&((sd l (prv l.length k)).gable||(sd l k).gable||((sd l (prv l.length k)).plate !=(sd l k).plate)))
def KL (rs:List (List Sd)):Bool:=rs.all (fun l=>(List.range l.length).all (HW l))&&AY rs rs.length
theorem Ph (W:World) (p:Option Addr) (cap:Nat) (rs:List (List Sd)) (hn:rs.length<4611686018427387904) (hl: ∀l∈rs,l.length<4611686018427387904) (hR:BD W p rs):
  Ad Tryz.prog 107 #[slv p rs.length cap] W (fun _:Unit=> .bool (KL rs)) (fun _=>True) (fun _=>[]):=by
 refine Ab (args:=[slv p rs.length cap]) Tryz.func107 I I I ?_
 refine zA (zB (wP I (Aa (zE (zA (zB (wP I (Aa (zE (zA (zA (zB (wP I ?_)))))))))))))
 refine Aa (zE (zH ?_))
 refine Ar (X:=Nat) (fun r=>[(0,slv p rs.length cap),(3, .bool (AY rs r)),(4, .int .i64 (r:Nat))]) (fun _=>[]) (fun r=>r≤rs.length∧ ∀j,j<r→(List.range (rg rs j).length).all (HW (rg rs j))=true) (fun r=>rs.length-r) 0
  ⟨Nat.zero_le _,fun j hj=>absurd hj (Nat.not_lt_zero _)⟩ ⟨rfl,rfl,rfl,trivial⟩ [] rfl ?_
 rintro r ⟨hr,hok⟩
 refine zA (zA (zB (wP I (wP I (wP I (wP I (Aa (zE ?_))))))))
 refine Af I (fun h=> ?_) (fun h=> ?_)
 rotate_left
 ·have e:r=rs.length:=by simp at h;omega
  subst e
  refine zJ (zK (zK (zL (zE (zA (zB (wP I (wP I (Aa (zE (zO ?_)))))))))))
  have ht:KL rs=AY rs rs.length:=by
   unfold KL
   rw[List.all_eq_true.2 fun l hl=> ?_,Bool.true_and]
   obtain⟨j,hj,e⟩:=List.getElem_of_mem hl
   have:=hok j hj
   rw[show rg rs j=l by simp[rg,hj,e]] at this
   exact this
  exact wR1 I I (by rw[ht])
 have hr:r<rs.length:=by simp at h;omega
 clear h
 obtain⟨b,off,rfl,hrow⟩:=hR.row hr
 obtain⟨q,cap2,hq1,hq2⟩:=hrow r hr
 have hlr:=hl _ (List.mem_of_getElem? (Bd hr))
 refine zI (zE (zA (zH (zA (zB (wP I (wP I ?_)))))))
 refine wJ ?_
 refine wL 0 I I (fun W hp=>hq1.hp hp) I (wP I (Aa (zE (zA (zB (wP I (Aa (zE (zH ?_)))))))))
 refine Ar (X:=Nat) (fun i=>[(0,slv (some ⟨b,off,none⟩) rs.length cap),(3, .bool (Bq (rg rs r) (AY rs r) i)),(4, .int .i64 (r:Nat)),(5,slv q (rg rs r).length cap2),(6, .int .i64 (i:Nat))]) (fun _=>[]) (fun i=>i≤(rg rs r).length∧ ∀j,j<i→HW (rg rs r) j=true) (fun i=>(rg rs r).length-i) 0
  ⟨Nat.zero_le _,fun j hj=>absurd hj (Nat.not_lt_zero _)⟩ ⟨rfl,rfl,rfl,rfl,rfl,trivial⟩ [] rfl ?_
 rintro i ⟨hi,hoki⟩
 refine zA (zA (zB (wP I (wP I (wP I (wP I (Aa (zE ?_))))))))
 refine Af I (fun h=> ?_) (fun h=> ?_)
 rotate_left
 ·have e:i=(rg rs r).length:=by simp at h;omega
  subst e
  refine zJ (zK (zK (zL (zN (zE (zB (wP I (wP I (wP I (Aa ?_))))))))))
  refine Al (r+1) ⟨hr,fun j hj=> ?_⟩ (by omega) ⟨I,I,congrArg (fun z=>some (Value.int .i64 z)) (AE (x:=(r:Int)+1) (by omega) (by omega)),O⟩ [] I
  by_cases e:j=r
  ·subst e;exact List.all_eq_true.2 fun m hm=>hoki m (List.mem_range.1 hm)
  ·exact hok j (by omega)
 have hi:i<(rg rs r).length:=by simp at h;omega
 clear h
 have hi2:=Gx hi
 obtain⟨b3,off3,rfl,hrow3⟩:=hq2.row hi
 have bad:HW (rg rs r) i=false→KL rs=false:=fun h=>by
  unfold KL
  have:rs.all (fun l=>(List.range l.length).all (HW l))=false:=Bool.eq_false_iff.2 fun e=>by
   have:=List.all_eq_true.1 e _ (List.mem_of_getElem? (Bd hr))
   rw[BO hi h] at this;cases this
  rw[this];rfl
 have good:HW (rg rs r) i=true→ ∀j,j<i+1→HW (rg rs r) j=true:=fun h j hj=>by
  by_cases e:j=i
  ·subst e;exact h
  ·exact hoki j (by omega)
 refine zI (zE (Au (BJ ?_)))
 repeat refine Au ?_
 refine MV (X:=Nat×Nat) (fun y=>[(0,slv (some ⟨b,off,none⟩) rs.length cap),(3, .bool (Bq (rg rs r) (AY rs r) i)),(4, .int .i64 (r:Nat)),(5,slv (some ⟨b3,off3,none⟩) (rg rs r).length cap2),(6, .int .i64 (i:Nat)),(7, .pointer (some ⟨y.1,0,none⟩)),(8, .pointer (some ⟨y.2,0,none⟩))])
  (fun y=>[⟨y.1,80,(sd (rg rs r) (prv (rg rs r).length i)).cells,true,none⟩,⟨y.2,80,(sd (rg rs r) i).cells,true,none⟩]) 4 Tryz.mixed (by kernel_rfl) ?_ ?_
 ·refine qP I ?_
  iterate 5 refine qP I ?_
  refine qV 30 ((i+(rg rs r).length-1:Nat):Int) I (show w64 (w64 ((i:Nat)+((rg rs r).length:Nat))-1)=((i+(rg rs r).length-1:Nat):Int) by rw[Ai (x:=(i:Nat)+((rg rs r).length:Nat)) (by omega) (by omega),Ai (by omega) (by omega)];omega) (qP I (qP I ?_))
  refine EB I I I I I (by omega) ?_
  refine qV 33 (prv (rg rs r).length i:Nat) I (show Int.tmod ((i+(rg rs r).length-1:Nat):Int) ((rg rs r).length:Nat)=(prv (rg rs r).length i:Nat) from(Int.ofNat_tmod _ _).symm) ?_
  refine qJ ?_
  refine qL 0 I I (fun W hp=>(hrow3 _ hi2).hp hp) I (qP I (qP I ?_))
  refine qJ ?_
  refine qL 0 I I (fun W hp=>(hrow3 i hi).hp hp) I (CH (wX ?_))
  refine RS.cons ?_ (RS.cons ?_ (RS.nil))
  ·refine Ah Tryz.hZ rfl rfl rfl rfl ?_;intro b7
   refine Aa (Ag (wX (wZ ?_)))
   refine Ah Tryz.hZ rfl rfl rfl rfl ?_;intro b8
   refine Aa (Ag (wX (wZ (wS 0 I I I (Aa (Ag (wX (wZ (wS 1 I I I (Aa (Ag ?_)))))))))))
   (first|refine Be rfl (by((repeat (first|refine Bh.same ?_|refine Bh.off rfl ?_));exact trivial)) ?_|refine AD rfl (by kernel_rfl) ?_);(first|exact A6 (b7,b8) ⟨rfl,rfl,rfl,rfl,rfl,rfl,rfl,trivial⟩ [0,1] (by decide) rfl|exact A6 (b7,b8) ⟨rfl,rfl,rfl,rfl,rfl,rfl,rfl,trivial⟩ [1,0] (by decide) rfl)
  ·refine Ah Tryz.hZ rfl rfl rfl rfl ?_;intro b8
   refine Aa (Ag (wX (wZ ?_)))
   refine Ah Tryz.hZ rfl rfl rfl rfl ?_;intro b7
   refine Aa (Ag (wX (wZ (wS 1 I I I (Aa (Ag (wX (wZ (wS 0 I I I (Aa (Ag ?_)))))))))))
   (first|refine Be rfl (by((repeat (first|refine Bh.same ?_|refine Bh.off rfl ?_));exact trivial)) ?_|refine AD rfl (by kernel_rfl) ?_);(first|exact A6 (b7,b8) ⟨rfl,rfl,rfl,rfl,rfl,rfl,rfl,trivial⟩ [0,1] (by decide) rfl|exact A6 (b7,b8) ⟨rfl,rfl,rfl,rfl,rfl,rfl,rfl,trivial⟩ [1,0] (by decide) rfl)
 rintro⟨b7,b8⟩
 obtain⟨C1,c1⟩: ∃b,decide (Ku (rg rs r) i<0)=b:=⟨_,rfl⟩
 obtain⟨C4,c4⟩: ∃b,((sd (rg rs r) (prv (rg rs r).length i)).plate !=(sd (rg rs r) i).plate)=b:=⟨_,rfl⟩
 have hC:HW (rg rs r) i= !(C1&&((sd (rg rs r) (prv (rg rs r).length i)).gable||(sd (rg rs r) i).gable||C4)):=by unfold HW;rw[c1,c4]
 refine zE (zA (zA (zB (wP I (wP I (wC I I (fun W hp=>MZ W _ cap2 (rg rs r) i hlr (hq2.hp hp) hi) (wP I (wP I ?_))))))))
 refine AF 44 I (fun h44=> ?_) (fun h44=> ?_)
 ·refine wP I (wB 0 I I I (wP I ?_))
  refine AF 47 I (fun h47=> ?_) (fun h47=> ?_)
  ·refine Ae I I ?_
   refine Ae I I ?_
   refine wP I (wP I ?_)
   iterate 5 refine Ae I I ?_
   refine wP I (wP I (Aa ?_))
   have e:HW (rg rs r) i=false:=by
    rw[hC,show C1=true from c1.symm.trans h44]
    first
    |(rw[show(sd (rg rs r) (prv (rg rs r).length i)).gable=true from h47];rfl)
    |(rw[show(sd (rg rs r) i).gable=true from h51];cases(sd (rg rs r) (prv (rg rs r).length i)).gable<;>rfl)
   refine zE (zR I (zA (zB (wP I (Aa (zE (zO (zP (zQ (zP (zP (zQ (zQ ?_)))))))))))))
   exact zP (zP (zQ (zP (wR1 I I (by rw[bad e])))))
  ·refine wP I (wB 1 I I I (wP I (wP I ?_)))
   refine AF 51 I (fun h51=> ?_) (fun h51=> ?_)
   ·refine Ae I I ?_
    iterate 4 refine Ae I I ?_
    refine wP I (wP I (Aa ?_))
    have e:HW (rg rs r) i=false:=by
     rw[hC,show C1=true from c1.symm.trans h44]
     first
     |(rw[show(sd (rg rs r) (prv (rg rs r).length i)).gable=true from h47];rfl)
     |(rw[show(sd (rg rs r) i).gable=true from h51];cases(sd (rg rs r) (prv (rg rs r).length i)).gable<;>rfl)
    refine zE (zR I (zA (zB (wP I (Aa (zE (zO (zP (zQ (zP (zP (zQ (zQ ?_)))))))))))))
    exact zP (zP (zQ (zP (wR1 I I (by rw[bad e])))))
   ·refine wP I (wB 0 I I I (wP I (wB 1 I I I (wP I (wP I (wP I (Aa (zE ?_))))))))
    refine Af I (fun hx=> ?_) (fun hx=> ?_)
    ·have e:HW (rg rs r) i=false:=by
      rw[hC,show C1=true from c1.symm.trans h44,show C4=true from c4.symm.trans hx]
      cases(sd (rg rs r) (prv (rg rs r).length i)).gable<;>cases(sd (rg rs r) i).gable<;>rfl
     refine zA (zB (wP I (Aa (zE (zO (zP (zQ (zP (zP (zQ (zQ (zP (zP ?_)))))))))))))
     exact zQ (zP (wR1 I I (by rw[bad e])))
    ·have e:HW (rg rs r) i=true:=by
      rw[hC,show(sd (rg rs r) (prv (rg rs r).length i)).gable=false from h47]
      rw[show(sd (rg rs r) i).gable=false from h51,show C4=false from c4.symm.trans hx]
      cases C1<;>rfl
     refine zI (zE (zB (wP I (wP I ?_))))
     refine AF 60 I (fun h60=> ?_) (fun h60=> ?_)
     ·refine Ae I I ?_
      iterate 2 refine Ae I I ?_
      exact wP I (wP I (Aa (zN (zE (zB (wP I (wP I (wP I (Aa (Al (i+1) ⟨hi,good e⟩ (by omega) ⟨I,congrArg (fun z=>some (Value.bool z)) (show _=(Bq (rg rs r) (AY rs r) i|| !(sd (rg rs r) i).gable) by first|(rw[show Bq (rg rs r) (AY rs r) i=true from h60];rfl)|(rw[show Bq (rg rs r) (AY rs r) i=false from h60];rfl)),I,I,congrArg (fun z=>some (Value.int .i64 z)) (AE (x:=(i:Int)+1) (by omega) (by omega)),O⟩ [_,_] I))))))))))
     ·exact wP I (wB 1 I I I (wP I (wP I (wP I (Aa (zN (zE (zB (wP I (wP I (wP I (Aa (Al (i+1) ⟨hi,good e⟩ (by omega) ⟨I,congrArg (fun z=>some (Value.bool z)) (show _=(Bq (rg rs r) (AY rs r) i|| !(sd (rg rs r) i).gable) by first|(rw[show Bq (rg rs r) (AY rs r) i=true from h60];rfl)|(rw[show Bq (rg rs r) (AY rs r) i=false from h60];rfl)),I,I,congrArg (fun z=>some (Value.int .i64 z)) (AE (x:=(i:Int)+1) (by omega) (by omega)),O⟩ [_,_] I)))))))))))))
 ·refine Ae I I ?_
  iterate 12 refine Ae I I ?_
  refine wP I (Aa ?_)
  have e:HW (rg rs r) i=true:=by rw[hC,show C1=false from c1.symm.trans h44];rfl
  refine zE (zS I (zI (zE (zB (wP I (wP I ?_))))))
  refine AF 60 I (fun h60=> ?_) (fun h60=> ?_)
  ·refine Ae I I ?_
   iterate 2 refine Ae I I ?_
   exact wP I (wP I (Aa (zN (zE (zB (wP I (wP I (wP I (Aa (Al (i+1) ⟨hi,good e⟩ (by omega) ⟨I,congrArg (fun z=>some (Value.bool z)) (show _=(Bq (rg rs r) (AY rs r) i|| !(sd (rg rs r) i).gable) by first|(rw[show Bq (rg rs r) (AY rs r) i=true from h60];rfl)|(rw[show Bq (rg rs r) (AY rs r) i=false from h60];rfl)),I,I,congrArg (fun z=>some (Value.int .i64 z)) (AE (x:=(i:Int)+1) (by omega) (by omega)),O⟩ [_,_] I))))))))))
  ·exact wP I (wB 1 I I I (wP I (wP I (wP I (Aa (zN (zE (zB (wP I (wP I (wP I (Aa (Al (i+1) ⟨hi,good e⟩ (by omega) ⟨I,congrArg (fun z=>some (Value.bool z)) (show _=(Bq (rg rs r) (AY rs r) i|| !(sd (rg rs r) i).gable) by first|(rw[show Bq (rg rs r) (AY rs r) i=true from h60];rfl)|(rw[show Bq (rg rs r) (AY rs r) i=false from h60];rfl)),I,I,congrArg (fun z=>some (Value.int .i64 z)) (AE (x:=(i:Int)+1) (by omega) (by omega)),O⟩ [_,_] I)))))))))))))
-- BOXES 1
def NC (rs:List (List Sd)):Int:=
 if rs.any (fun l=>l.length==0)=true then 5
 else if tot rs=0 then 5
 else if tot rs>24 then 4
 else if rs.flatten.any (fun s=> !rgd s)=true then 2
 else if rs.any (fun l=> !Jh l)=true then 14
 else if crs rs=true then 15
 else if (!HD rs|| !KL rs)=true then 14
 else 0
theorem PY (W:World) (p:Option Addr) (cap:Nat) (rs:List (List Sd)) (hn:rs.length<4611686018427387904) (hT:tot rs<1099511627776) (hR:BD W p rs):
  Ad Tryz.prog 49 #[AO p rs.length cap] W (fun _:Unit=> .int .i64 (NC rs)) (fun _=>True) (fun _=>[]):=by
 have hl: ∀l∈rs,l.length<4611686018427387904:=fun l h=>by have:=H0 h;omega
 refine Ab (args:=[AO p rs.length cap]) Tryz.func49 I I I ?_
 refine zA (zB ?_)
 (refine A3 rfl rfl rfl rfl ?_;intro)
 refine wP I (Aa ?_)
 rename_i b1
 refine zE (zA (zA (zB (wP I (wB 0 I I I (wP I (wP I (Aa (zE ?_)))))))))
 refine Af I (fun h=> ?_) (fun h=> ?_)
 ·refine zA (zB (wP I (Aa (zE (zO (zP ?_))))))
  have h0:rs=[]:=by have h':(((rs.length:Nat):Int)==0)=true:=h;rw[beq_iff_eq] at h';exact List.length_eq_zero_iff.1 (by omega)
  exact wR1 rfl rfl (by subst h0;rfl)
 have hpos:0<rs.length:=by have h':(((rs.length:Nat):Int)==0)=false:=h;rw[beq_eq_false_iff_ne] at h';omega
 clear h
 obtain⟨b,off,rfl,hrow⟩:=hR.row hpos
 refine zI (zE (zA (zB (wP I (Aa (zE (zA (zA (zB (wP I (Aa (zE (zH ?_)))))))))))))
 refine Ar (X:=Nat) (fun k=>[(1, .pointer (some ⟨b1,0,none⟩)),(3, .int .i64 (tot (rs.take k):Nat)),(4, .int .i64 (k:Nat))]) (fun _=>[⟨b1,24,[slv (some ⟨b,off,none⟩) rs.length cap],true,none⟩])
  (fun k=>k≤rs.length∧ ∀j,j<k→(rg rs j).length≠0) (fun k=>rs.length-k) 0 ⟨Nat.zero_le _,fun j hj=>absurd hj (Nat.not_lt_zero _)⟩ ⟨rfl,rfl,rfl,trivial⟩ [] rfl ?_
 rintro k ⟨hk,hok⟩
 refine zA (zA (zB (wP I (wP I (wB 0 I I I (wP I (wP I (Aa (zE ?_)))))))))
 refine Af I (fun h=> ?_) (fun h=> ?_)
 ·have hk:k<rs.length:=by simp at h;omega
  clear h
  obtain⟨q,cap2,hq1,hq2⟩:=hrow k hk
  refine zI (zE (zA (zH (zA (zA (zB (wP I (wB 0 I I I (wP I ?_)))))))))
  refine wJ ?_
  refine wL 0 I I (fun W hp=>hq1.hp hp) I (wP I (wP I (Aa (zE ?_))))
  refine Af I (fun h=> ?_) (fun h=> ?_)
  ·refine zA (zB (wP I (Aa (zE (zO (zP (zQ (zP (zP (zQ (zP ?_)))))))))))
   have he:rs.any (fun l=>l.length==0)=true:=List.any_eq_true.2 ⟨_,List.mem_of_getElem? (Bd hk),by have h':((((rg rs k).length:Nat):Int)==0)=true:=h;rw[beq_iff_eq] at h'⊢;omega⟩
   exact wR1 I I (by unfold NC;rw[if_pos he])
  have hz:(rg rs k).length≠0:=by
   have h':((((rg rs k).length:Nat):Int)==0)=false:=h
   rw[beq_eq_false_iff_ne] at h';omega
  clear h
  refine zI (zE (zB (wP I (wP I (wB 0 I I I (wP I ?_))))))
  refine wJ ?_
  refine wL 0 I I (fun W hp=>hq1.hp hp) I (wP I (wP I (wP I (Aa ?_))))
  have hs:w64 ((tot (rs.take k):Nat)+((rg rs k).length:Nat))=(tot (rs.take (k+1)):Nat):=by
   have h1:=Bj hk
   have h2:=Cf rs (k+1)
   rw[Ai (by omega) (by omega)];omega
  refine zN (zE (zB ?_))
  refine Ak 3 _ I (congrArg (Value.int .i64) hs) ?_
  refine wP I (wP I (wP I (Aa ?_)))
  refine Al (k+1) ⟨hk,fun j hj=> ?_⟩ (by omega) ⟨I,I,congrArg (fun z=>some (Value.int .i64 z)) (AE (x:=(k:Int)+1) (by omega) (by omega)),O⟩ [] I
  by_cases e:j=k
  ·subst e;exact hz
  ·exact hok j (by omega)
 have e:k=rs.length:=by simp at h;omega
 subst e
 clear h
 rw[List.take_length]
 have hne: ∀l∈rs,l≠[]:=fun l hl e=>by
  obtain⟨i,hi,e2⟩:=List.getElem_of_mem hl
  have:=hok i hi
  rw[show rg rs i=rs[i] by simp[rg,hi],e2,e] at this
  exact this I
 have he:rs.any (fun l=>l.length==0)=false:=Bool.eq_false_iff.2 fun h2=>by
  obtain⟨l,h3,h4⟩:=List.any_eq_true.1 h2
  rw[beq_iff_eq] at h4
  exact hne l h3 (List.length_eq_zero_iff.1 h4)
 have hN: ¬(rs.any (fun l=>l.length==0)=true):=by rw[he];decide
 have h0: ¬tot rs=0:=by
  have h1:=H0 (List.mem_of_getElem? (Bd hpos))
  have h2:=hok 0 hpos
  omega
 refine zJ (zK (zK (zL (zE (zA (zA (zB (wP I (wP I (Aa (zE ?_)))))))))))
 refine Af I (fun h=> ?_) (fun h=> ?_)
 ·refine zA (zB (wP I (Aa (zE (zO (zP ?_))))))
  have h1:tot rs>24:=by have h':decide (((tot rs:Nat):Int)>24)=true:=h;rw[decide_eq_true_iff] at h';omega
  exact wR1 I I (by unfold NC;rw[if_neg hN,if_neg h0,if_pos h1])
 have h1: ¬tot rs>24:=by have h':decide (((tot rs:Nat):Int)>24)=false:=h;rw[decide_eq_false_iff_not] at h';omega
 clear h
 refine zI (zE (zA (zA (zB (wP I (Aa (zE (zH ?_))))))))
 refine Ar (X:=Nat) (fun k=>[(1, .pointer (some ⟨b1,0,none⟩)),(5, .int .i64 (k:Nat))]) (fun _=>[⟨b1,24,[slv (some ⟨b,off,none⟩) rs.length cap],true,none⟩])
  (fun k=>k≤rs.length∧ ∀j,j<k→ ∀s∈rg rs j,rgd s=true) (fun k=>rs.length-k) 0 ⟨Nat.zero_le _,fun j hj=>absurd hj (Nat.not_lt_zero _)⟩ ⟨rfl,rfl,trivial⟩ [] rfl ?_
 rintro k ⟨hk,hok2⟩
 refine zA (zA (zB (wP I (wP I (wB 0 I I I (wP I (wP I (Aa (zE ?_)))))))))
 refine Af I (fun h=> ?_) (fun h=> ?_)
 ·have hk:k<rs.length:=by simp at h;omega
  clear h
  obtain⟨q,cap2,hq1,hq2⟩:=hrow k hk
  have hlk:=hl _ (List.mem_of_getElem? (Bd hk))
  refine zI (zE (zA (zH (zA (zB (wP I (Aa (zE (zH ?_)))))))))
  refine Ar (X:=Nat) (fun i=>[(1, .pointer (some ⟨b1,0,none⟩)),(5, .int .i64 (k:Nat)),(6, .int .i64 (i:Nat))]) (fun _=>[⟨b1,24,[slv (some ⟨b,off,none⟩) rs.length cap],true,none⟩])
   (fun i=>i≤(rg rs k).length∧ ∀j,j<i→rgd (sd (rg rs k) j)=true) (fun i=>(rg rs k).length-i) 0 ⟨Nat.zero_le _,fun j hj=>absurd hj (Nat.not_lt_zero _)⟩ ⟨rfl,rfl,rfl,trivial⟩ [] rfl ?_
  rintro i ⟨hi,hoki⟩
  refine zA (zA (zB (wP I (wP I (wB 0 I I I (wP I ?_))))))
  refine wJ ?_
  refine wL 0 I I (fun W hp=>hq1.hp hp) I (wP I (wP I (Aa (zE ?_))))
  refine Af I (fun h=> ?_) (fun h=> ?_)
  ·have hi:i<(rg rs k).length:=by simp at h;omega
   clear h
   obtain⟨b4,off4,rfl,hrow4⟩:=hq2.row hi
   refine zI (zE (zA (zH (zA (zB (wP I (wB 0 I I I (wP I ?_))))))))
   refine wJ ?_
   refine wL 0 I I (fun W hp=>hq1.hp hp) I (wP I ?_)
   refine wJ ?_
   refine wL 0 I I (fun W hp=>(hrow4 i hi).hp hp) I (wC I I (fun W _=>NN (sd (rg rs k) i) W) (wP I (Aa (zE ?_))))
   refine Af I (fun h=> ?_) (fun h=> ?_)
   ·refine zA (zB (wP I (Aa (zE (zO (zQ (zP (zP (zQ (zQ (zP (zP (zQ ?_)))))))))))))
    refine zP ?_
    have h2:rs.flatten.any (fun s=> !rgd s)=true:=List.any_eq_true.2 ⟨sd (rg rs k) i,List.mem_flatten.2 ⟨rg rs k,List.mem_of_getElem? (Bd hk),List.mem_of_getElem? (Ex hi)⟩,h⟩
    exact wR1 I I (by unfold NC;rw[if_neg hN,if_neg h0,if_neg h1,if_pos h2])
   ·have hg:rgd (sd (rg rs k) i)=true:=by have h':(!rgd (sd (rg rs k) i))=false:=h;simpa using h'
    refine zI (zN (zE (zB (wP I (wP I (wP I (Aa ?_)))))))
    refine Al (i+1) ⟨hi,fun j hj=> ?_⟩ (by omega) ⟨I,I,congrArg (fun z=>some (Value.int .i64 z)) (AE (x:=(i:Int)+1) (by omega) (by omega)),O⟩ [] I
    by_cases e:j=i
    ·subst e;exact hg
    ·exact hoki j (by omega)
  ·have e:i=(rg rs k).length:=by simp at h;omega
   subst e
   refine zJ (zK (zK (zL (zN (zE (zB (wP I (wP I (wP I (Aa ?_))))))))))
   refine Al (k+1) ⟨hk,fun j hj s hs=> ?_⟩ (by omega) ⟨I,congrArg (fun z=>some (Value.int .i64 z)) (AE (x:=(k:Int)+1) (by omega) (by omega)),O⟩ [] I
   by_cases e:j=k
   ·subst e
    obtain⟨m,hm,e⟩:=List.getElem_of_mem hs
    have:=hoki m hm
    rw[show sd (rg rs j) m=s by simp[sd,hm,e]] at this
    exact this
   ·exact hok2 j (by omega) s hs
 have e:k=rs.length:=by simp at h;omega
 subst e
 clear h
 have hrg: ∀l∈rs, ∀s∈l,rgd s=true:=fun l hl s hs=>by
  obtain⟨i,hi,e2⟩:=List.getElem_of_mem hl
  have:=hok2 i hi
  rw[show rg rs i=l by simp[rg,hi,e2]] at this
  exact this s hs
 have h2: ¬(rs.flatten.any (fun s=> !rgd s)=true):=fun h=>by
  obtain⟨s,hs,h⟩:=List.any_eq_true.1 h
  obtain⟨l,hl,hs⟩:=List.mem_flatten.1 hs
  rw[hrg l hl s hs] at h;cases h
 refine zJ (zK (zK (zL (zE (zA (zA (zB (wP I (Aa (zE (zH ?_)))))))))))
 refine Ar (X:=Nat) (fun k=>[(1, .pointer (some ⟨b1,0,none⟩)),(7, .int .i64 (k:Nat))]) (fun _=>[⟨b1,24,[slv (some ⟨b,off,none⟩) rs.length cap],true,none⟩])
  (fun k=>k≤rs.length∧ ∀j,j<k→Jh (rg rs j)=true) (fun k=>rs.length-k) 0 ⟨Nat.zero_le _,fun j hj=>absurd hj (Nat.not_lt_zero _)⟩ ⟨rfl,rfl,trivial⟩ [] rfl ?_
 rintro k ⟨hk,hok3⟩
 refine zA (zA (zB (wP I (wP I (wB 0 I I I (wP I (wP I (Aa (zE ?_)))))))))
 refine Af I (fun h=> ?_) (fun h=> ?_)
 ·have hk:k<rs.length:=by simp at h;omega
  clear h
  obtain⟨q,cap2,hq1,hq2⟩:=hrow k hk
  have hlk:=hl _ (List.mem_of_getElem? (Bd hk))
  refine zI (zE (zA (zH (zA (zB (wP I (wB 0 I I I (wP I ?_))))))))
  refine wJ ?_
  refine wL 0 I I (fun W hp=>hq1.hp hp) I (wC I I (fun W hp=>NQ W q cap2 (rg rs k) hlk (hq2.hp hp)) (wP I (Aa (zE ?_))))
  refine Af I (fun h=> ?_) (fun h=> ?_)
  ·refine zA (zB (wP I (Aa (zE (zO (zQ (zP (zP (zQ (zP ?_))))))))))
   have h3:rs.any (fun l=> !Jh l)=true:=List.any_eq_true.2 ⟨_,List.mem_of_getElem? (Bd hk),h⟩
   exact wR1 I I (by unfold NC;rw[if_neg hN,if_neg h0,if_neg h1,if_neg h2,if_pos h3])
  ·have hg:Jh (rg rs k)=true:=by have h':(!Jh (rg rs k))=false:=h;simpa using h'
   refine zI (zN (zE (zB (wP I (wP I (wP I (Aa ?_)))))))
   refine Al (k+1) ⟨hk,fun j hj=> ?_⟩ (by omega) ⟨I,congrArg (fun z=>some (Value.int .i64 z)) (AE (x:=(k:Int)+1) (by omega) (by omega)),O⟩ [] I
   by_cases e:j=k
   ·subst e;exact hg
   ·exact hok3 j (by omega)
 have e:k=rs.length:=by simp at h;omega
 subst e
 clear h
 have h3: ¬(rs.any (fun l=> !Jh l)=true):=fun h=>by
  obtain⟨l,hl,h⟩:=List.any_eq_true.1 h
  obtain⟨i,hi,e2⟩:=List.getElem_of_mem hl
  have:=hok3 i hi
  rw[show rg rs i=l by simp[rg,hi,e2]] at this
  rw[this] at h;cases h
 refine zJ (zK (zK (zL (zE (zA (zA (zB (wP I (wB 0 I I I (wC I I (fun W hp=>M6 W _ cap rs hn hl (hR.below (Nat.le_refl _) hp.below)) (Aa (zE ?_))))))))))))
 refine Af I (fun h=> ?_) (fun h=> ?_)
 ·exact zA (zB (wP I (Aa (zE (zO (zP (wR1 I I (by unfold NC;rw[if_neg hN,if_neg h0,if_neg h1,if_neg h2,if_neg h3,if_pos h]))))))))
 have h4: ¬(crs rs=true):=by rw[h];decide
 clear h
 refine zI (zE (zA (zA (zB (wP I (wB 0 I I I (wC I I (fun W hp=>NR W _ cap rs hn hl hne hpos (hR.below (Nat.le_refl _) hp.below)) (wP I (wP I ?_)))))))))
 refine AF 84 I (fun h84=> ?_) (fun h84=> ?_)
 ·refine Ae I I ?_
  iterate 3 refine Ae I I ?_
  refine wP I (Aa ?_)
  have h5:(!HD rs|| !KL rs)=true:=by rw[show(!HD rs)=true from h84];rfl
  exact zE (zR I (zA (zB (wP I (Aa (zE (zO (zP (wR1 I I (by unfold NC;rw[if_neg hN,if_neg h0,if_neg h1,if_neg h2,if_neg h3,if_neg h4,if_pos h5]))))))))))
 ·refine wP I (wB 0 I I I (wC I I (fun W hp=>Ph W _ cap rs hn hl (hR.below (Nat.le_refl _) hp.below)) (wP I (wP I (Aa ?_)))))
  have h':(!HD rs)=false:=h84
  refine zE ?_
  refine Af I (fun h=> ?_) (fun h=> ?_)
  ·refine zA (zB (wP I (Aa (zE (zO (zP ?_))))))
   have h5:(!HD rs|| !KL rs)=true:=by rw[h',show(!KL rs)=true from h];rfl
   exact wR1 I I (by unfold NC;rw[if_neg hN,if_neg h0,if_neg h1,if_neg h2,if_neg h3,if_neg h4,if_pos h5])
  ·refine zI (zE (zA (zB (wP I (Aa (zE (zO ?_)))))))
   have h5: ¬((!HD rs|| !KL rs)=true):=by rw[h',show(!KL rs)=false from h];decide
   exact wR1 I I (by unfold NC;rw[if_neg hN,if_neg h0,if_neg h1,if_neg h2,if_neg h3,if_neg h4,if_neg h5])
end
section
open Go Go.RowKit Go.Am
theorem Fz (a:Int):(sgI a= -1∧a<0)∨(sgI a=0∧a=0)∨(sgI a=1∧a>0):=by
 unfold sgI
 rcases Int.lt_trichotomy a 0 with h|h|h
 ·rw[if_pos h];exact .inl ⟨rfl,h⟩
 ·rw[if_neg (by omega),if_neg (by omega)];exact .inr (.inl ⟨rfl,h⟩)
 ·rw[if_neg (by omega),if_pos h];exact .inr (.inr ⟨rfl,h⟩)
theorem Th {l:List Sd} (hr: ∀s∈l,inR s) {i:Nat} (hi:i<l.length):Nr l i=sgI ((sd l (nxt l.length i)).x-(sd l i).x)∧Np l i=sgI ((sd l (nxt l.length i)).y-(sd l i).y):=by
 obtain⟨s1,s2,s3,s4⟩:=CZ hr hi
 obtain⟨n1,n2,n3,n4⟩:=CZ hr (DP hi)
 unfold Nr Np
 rw[d64 ⟨n1,n2⟩ ⟨s1,s2⟩,d64 ⟨n3,n4⟩ ⟨s3,s4⟩]
 exact⟨I,I⟩
theorem LZ {l:List Sd} (hr: ∀s∈l,inR s) {i:Nat} (hi:i<l.length):axR l i=true↔ ¬(((sd l (nxt l.length i)).x-(sd l i).x=0)↔((sd l (nxt l.length i)).y-(sd l i).y=0)):=by
 obtain⟨e1,e2⟩:=Th hr hi
 unfold axR
 rw[e1,e2]
 generalize (sd l (nxt l.length i)).x-(sd l i).x=a
 generalize (sd l (nxt l.length i)).y-(sd l i).y=b
 rcases Fz a with⟨ea,ha⟩|⟨ea,ha⟩|⟨ea,ha⟩<;>rcases Fz b with⟨eb,hb⟩|⟨eb,hb⟩|⟨eb,hb⟩<;>rw[ea,eb]
 ·rw[show(w64 (w64 (-1* -1)+w64 (-1* -1))==1)=false by decide];constructor<;>intro h;cases h;omega
 ·rw[show(w64 (w64 (-1* -1)+w64 (0*0))==1)=true by decide];constructor<;>intro h;omega;rfl
 ·rw[show(w64 (w64 (-1* -1)+w64 (1*1))==1)=false by decide];constructor<;>intro h;cases h;omega
 ·rw[show(w64 (w64 (0*0)+w64 (-1* -1))==1)=true by decide];constructor<;>intro h;omega;rfl
 ·rw[show(w64 (w64 (0*0)+w64 (0*0))==1)=false by decide];constructor<;>intro h;cases h;omega
 ·rw[show(w64 (w64 (0*0)+w64 (1*1))==1)=true by decide];constructor<;>intro h;omega;rfl
 ·rw[show(w64 (w64 (1*1)+w64 (-1* -1))==1)=false by decide];constructor<;>intro h;cases h;omega
 ·rw[show(w64 (w64 (1*1)+w64 (0*0))==1)=true by decide];constructor<;>intro h;omega;rfl
 ·rw[show(w64 (w64 (1*1)+w64 (1*1))==1)=false by decide];constructor<;>intro h;cases h;omega
theorem Kv {l:List Sd} (hr: ∀s∈l,inR s) {i:Nat} (hi:i<l.length) (h1:axR l i=true) (h2:axR l (prv l.length i)=true):
  (Ku l i≠0↔ ¬(((sd l i).x-(sd l (prv l.length i)).x=0)↔((sd l (nxt l.length i)).x-(sd l i).x=0)))∧(Ku l i≠0→(Ku l i<0↔Iq (sd l (prv l.length i)) (sd l i) (sd l (nxt l.length i))=false)):=by
 have a1:=(LZ hr hi).1 h1
 have a2:=(LZ hr (Gx hi)).1 h2
 obtain⟨e1,e2⟩:=Th hr hi
 obtain⟨e3,e4⟩:=Th hr (Gx hi)
 rw[Ys hi] at a2 e3 e4
 have i1:=CZ hr hi
 have i2:=CZ hr (DP hi)
 have i3:=CZ hr (Gx hi)
 rw[Vy i3 i1 i2,decide_eq_false_iff_not]
 unfold Ku
 rw[e1,e2,e3,e4]
 generalize (sd l (nxt l.length i)).x-(sd l i).x=c at*
 generalize (sd l (nxt l.length i)).y-(sd l i).y=d at*
 generalize (sd l i).x-(sd l (prv l.length i)).x=a at*
 generalize (sd l i).y-(sd l (prv l.length i)).y=b at*
 have pp: ∀x y:Int,x>0→y>0→x*y>0:=fun x y h h'=>Int.mul_pos h h'
 have pn: ∀x y:Int,x>0→y<0→x*y<0:=fun x y h h'=>Int.mul_neg_of_pos_of_neg h h'
 have np: ∀x y:Int,x<0→y>0→x*y<0:=fun x y h h'=>Int.mul_neg_of_neg_of_pos h h'
 have nn: ∀x y:Int,x<0→y<0→x*y>0:=fun x y h h'=>Int.mul_pos_of_neg_of_neg h h'
 by_cases ha:a=0
 ·subst ha
  have hb:b≠0:=by omega
  rw[show sgI 0=0 from rfl,Int.zero_mul,Int.zero_mul]
  by_cases hd:d=0
  ·subst hd
   have hc:c≠0:=by omega
   rcases Fz b with⟨eb,hb'⟩|⟨eb,hb'⟩|⟨eb,hb'⟩<;>rcases Fz c with⟨ec,hc'⟩|⟨ec,hc'⟩|⟨ec,hc'⟩<;>first|omega|skip
   ·rw[eb,ec,show w64 (w64 0-w64 (-1* -1))= -1 by decide];have:=nn b c hb' hc';omega
   ·rw[eb,ec,show w64 (w64 0-w64 (-1*1))=1 by decide];have:=np b c hb' hc';omega
   ·rw[eb,ec,show w64 (w64 0-w64 (1* -1))=1 by decide];have:=pn b c hb' hc';omega
   ·rw[eb,ec,show w64 (w64 0-w64 (1*1))= -1 by decide];have:=pp b c hb' hc';omega
  ·have hc:c=0:=by omega
   subst hc
   rw[show sgI 0=0 from rfl,Int.mul_zero,show w64 (w64 0-w64 0)=0 by decide]
   omega
 ·have hb:b=0:=by omega
  subst hb
  rw[show sgI 0=0 from rfl,Int.zero_mul,Int.zero_mul]
  by_cases hc:c=0
  ·subst hc
   have hd:d≠0:=by omega
   rcases Fz a with⟨eb,hb'⟩|⟨eb,hb'⟩|⟨eb,hb'⟩<;>rcases Fz d with⟨ec,hc'⟩|⟨ec,hc'⟩|⟨ec,hc'⟩<;>first|omega|skip
   ·rw[eb,ec,show w64 (w64 (-1* -1)-w64 0)=1 by decide];have:=nn a d hb' hc';omega
   ·rw[eb,ec,show w64 (w64 (-1*1)-w64 0)= -1 by decide];have:=np a d hb' hc';omega
   ·rw[eb,ec,show w64 (w64 (1* -1)-w64 0)= -1 by decide];have:=pn a d hb' hc';omega
   ·rw[eb,ec,show w64 (w64 (1*1)-w64 0)=1 by decide];have:=pp a d hb' hc';omega
  ·have hd:d=0:=by omega
   subst hd
   rw[show sgI 0=0 from rfl,Int.mul_zero,show w64 (w64 0-w64 0)=0 by decide]
   omega
theorem VC {l:List Sd} (hr: ∀s∈l,inR s):Jh l=shp l:=by
 rw[Bool.eq_iff_iff]
 constructor
 ·intro h
  unfold Jh at h
  obtain⟨h1,h2⟩:=Bool.and_eq_true_iff.1 h
  have ok: ∀i,i<l.length→axR l i=true∧Ku l i≠0:=fun i hi=>by
   have:=List.all_eq_true.1 h1 i (List.mem_range.2 hi)
   unfold okR at this
   obtain⟨a,b⟩:=Bool.and_eq_true_iff.1 this
   exact⟨a,by simpa using b⟩
  exact Zr hr (of_decide_eq_true h2) fun i hi=>⟨(LZ hr hi).1 (ok i hi).1,(Kv hr hi (ok i hi).1 (ok _ (Gx hi)).1).1.1 (ok i hi).2⟩
 ·intro h
  have ax: ∀i,i<l.length→axR l i=true:=fun i hi=>(LZ hr hi).2 (Fa hr h hi).1
  unfold Jh
  rw[dT (TS h),Bool.and_true]
  refine List.all_eq_true.2 fun i hi=> ?_
  have hi:=List.mem_range.1 hi
  have:=(Kv hr hi (ax i hi) (ax _ (Gx hi))).1.2 (Fa hr h hi).2
  unfold okR
  rw[ax i hi,beq_eq_false_iff_ne.2 this];rfl
theorem Xn {l:List Sd} (hr: ∀s∈l,inR s) (h:shp l=true) {i:Nat} (hi:i<l.length):Ku l i≠0∧(Ku l i<0↔Iq (sd l (prv l.length i)) (sd l i) (sd l (nxt l.length i))=false):=by
 have ax: ∀i,i<l.length→axR l i=true:=fun i hi=>(LZ hr hi).2 (Fa hr h hi).1
 have t:=Kv hr hi (ax i hi) (ax _ (Gx hi))
 have hne:=t.1.2 (Fa hr h hi).2
 exact⟨hne,t.2 hne⟩
theorem ZK {l:List Sd} (hr: ∀s∈l,inR s) (h:shp l=true) {i:Nat} (hi:i<l.length):HW l i=CS l i:=by
 have t:=(Xn hr h hi).2
 unfold HW CS MP
 cases hl:Iq (sd l (prv l.length i)) (sd l i) (sd l (nxt l.length i)) with
 |true=>rw[dF (fun e=>by rw[t.1 e] at hl;cases hl)];rfl
 |false=>
  rw[dT (t.2 hl),Bool.true_and,Bool.false_or]
  have e: ∀a b:Int,(!(false||false||(a !=b)))=(!false&& !false&&(b==a)):=fun a b=>by
   by_cases h:a=b
   ·subst h;simp
   ·rw[bne_iff_ne.2 h,beq_eq_false_iff_ne.2 (fun x=>h x.symm)];rfl
  cases(sd l i).gable<;>cases(sd l (prv l.length i)).gable<;>first|rfl|exact e _ _
theorem Zg {rs:List (List Sd)} (hin:Vj rs) (hs: ∀l∈rs,shp l=true):KL rs=jnd rs:=by
 unfold KL jnd
 congr 1
 rw[Bool.eq_iff_iff,List.all_eq_true,List.all_eq_true]
 have e: ∀l∈rs,((List.range l.length).all (HW l))=G6 l:=fun l hl=>O9 fun i hi=>ZK (hin l hl) (hs l hl) hi
 constructor<;>intro h l hl
 ·rw[←e l hl];exact h l hl
 ·rw[e l hl];exact h l hl
theorem YR {l:List Sd} (h: ∀s∈l,inR s): ∀k,k≤l.length→k≤1000000→twR l k=AI (EG l) k∧ -(k*4294967296:Int)≤twR l k∧twR l k≤k*4294967296
 |0,_,_=>⟨rfl,by simp[twR],by simp[twR]⟩
 |k+1,hk,hm=>by
  obtain⟨h1,h2,h3⟩:=YR h k (by omega) (by omega)
  have hs:=CZ h (show k<l.length by omega)
  have hn:=CZ h (DP (show k<l.length by omega))
  obtain⟨a1,a2⟩:=I9 hs.1 hs.2.1 hn.2.2.1 hn.2.2.2
  obtain⟨b1,b2⟩:=I9 hs.2.2.1 hs.2.2.2 hn.1 hn.2.1
  have e:twR l (k+1)=twR l k+EG l k:=by
   show w64 (w64 (twR l k+w64 ((sd l k).x*(sd l (nxt l.length k)).y))-w64 ((sd l (nxt l.length k)).x*(sd l k).y))=_
   unfold EG
   rw[Int.mul_comm (sd l (nxt l.length k)).x,Ai (x:=(sd l k).x*_) (by omega) (by omega),Ai (x:=(sd l k).y*_) (by omega) (by omega),Ai (x:=twR l k+_) (by omega) (by omega)]
   rw[Ai (by omega) (by omega)];omega
  have ec:EG l k=(sd l k).x*(sd l (nxt l.length k)).y-(sd l k).y*(sd l (nxt l.length k)).x:=rfl
  refine⟨by rw[e,h1];rfl, ?_, ?_⟩<;>rw[e,ec]<;>push_cast<;>omega
theorem VE {l:List Sd} (h: ∀s∈l,inR s) (px py:Int): ∀k,k≤l.length→GJ l px py k=Ed l px py k
 |0,_=>rfl
 |k+1,hk=>by
  have hs:=CZ h (show k<l.length by omega)
  have hn:=CZ h (DP (show k<l.length by omega))
  have e:Lj (sd l k) (sd l (nxt l.length k)) px py=IV (sd l k) (sd l (nxt l.length k)) px py:=by
   unfold Lj IV
   rw[d64 ⟨hn.1,hn.2.1⟩ ⟨hs.1,hs.2.1⟩]
   generalize sd l k=t
   generalize sd l (nxt l.length k)=u
   by_cases hx:t.x=u.x
   ·rw[beq_iff_eq.2 hx,beq_iff_eq.2 (show u.x-t.x=0 by omega),hx]
    rw[Bool.true_and,Bool.and_assoc]
    congr 1
    unfold loy hiy
    by_cases h1:t.y>py<;>by_cases h2:u.y>py
    ·rw[dT h1,dT h2,dF (by split<;>omega)];rfl
    ·rw[dT h1,dF h2,dT (by split<;>omega),dT (by split<;>omega)];rfl
    ·rw[dF h1,dT h2,dT (by split<;>omega),dT (by split<;>omega)];rfl
    ·rw[dF h1,dF h2,dF (p:=py<_) (by split<;>omega),Bool.and_false];rfl
   ·rw[beq_eq_false_iff_ne.2 hx,beq_eq_false_iff_ne.2 (show u.x-t.x≠0 by omega)];rfl
  show(if Lj (sd l k) (sd l (nxt l.length k)) px py=true then !GJ l px py k else GJ l px py k)=(if IV (sd l k) (sd l (nxt l.length k)) px py=true then !Ed l px py k else Ed l px py k)
  rw[e,VE h px py k (by omega)]
theorem Zd {rs:List (List Sd)} (hin:Vj rs) (hs: ∀l∈rs,shp l=true) (hc:crs rs=false) (hT:tot rs≤24) (hpos:0<rs.length):HD rs=plc rs:=by
 have ar: ∀r,r<rs.length→twR (rg rs r) (rg rs r).length=CL (rg rs r) (rg rs r).length∧CL (rg rs r) (rg rs r).length≠0:=fun r hr=>by
  have hm:rg rs r∈rs:=List.mem_of_getElem? (Bd hr)
  have hlen:=H0 hm
  rw[(YR (hin _ hm) _ (Nat.le_refl _) (by omega)).1,(OU (hin _ hm) _ (Nat.le_refl _) (by omega)).1]
  exact⟨I,XV hin hs hc hr⟩
 have pk: ∀r s,r<rs.length→s<rs.length→r≠0→NL rs r s=FQ rs r s:=fun r s hr hs' h0=>by
  unfold NL FQ
  rw[VE (hin _ (List.mem_of_getElem? (Bd hs'))) _ _ _ (Nat.le_refl _),beq_eq_false_iff_ne.2 h0,Bool.or_false]
 have all: ∀r,r<rs.length→r≠0→((List.range rs.length).all (NL rs r))=((List.range rs.length).all (FQ rs r)):=fun r hr h0=>O9 fun s hs'=>pk r s hr hs' h0
 rw[Bool.eq_iff_iff]
 constructor
 ·intro h
  unfold HD at h
  obtain⟨h1,h2⟩:=Bool.and_eq_true_iff.1 h
  refine List.all_eq_true.2 fun r hr=> ?_
  have hr:=List.mem_range.1 hr
  have hr2:=List.all_eq_true.1 h2 r (List.mem_range.2 hr)
  obtain⟨a1,a2⟩:=ar r hr
  unfold Dv
  by_cases e:r=0
  ·subst e
   rw[a1] at h1
   have h1: ¬CL (rg rs 0) (rg rs 0).length≤0:=by simpa using h1
   rw[dT (by omega)]
   exact Bool.and_eq_true_iff.2 ⟨I,List.all_eq_true.2 fun k _=>by unfold FQ;simp⟩
  ·unfold SV at hr2
   rw[beq_eq_false_iff_ne.2 e,Bool.false_or,a1] at hr2
   obtain⟨b1,b2⟩:=Bool.and_eq_true_iff.1 hr2
   have b1: ¬CL (rg rs r) (rg rs r).length≥0:=by simpa using b1
   rw[dF (by omega),beq_eq_false_iff_ne.2 e, ←all r hr e,b2];rfl
 ·intro h
  have pr: ∀r,r<rs.length→Dv rs r=true:=fun r hr=>List.all_eq_true.1 h r (List.mem_range.2 hr)
  unfold HD
  have h0:=pr 0 hpos
  unfold Dv at h0
  obtain⟨c1,_⟩:=Bool.and_eq_true_iff.1 h0
  obtain⟨a1,a2⟩:=ar 0 hpos
  have c2:CL (rg rs 0) (rg rs 0).length>0:=by simpa using c1
  rw[a1,dF (by omega),Bool.not_false,Bool.true_and]
  refine List.all_eq_true.2 fun r hr=> ?_
  have hr:=List.mem_range.1 hr
  unfold SV
  by_cases e:r=0
  ·subst e;rfl
  ·have h1:=pr r hr
   unfold Dv at h1
   obtain⟨d1,d2⟩:=Bool.and_eq_true_iff.1 h1
   obtain⟨a1,a2⟩:=ar r hr
   rw[beq_eq_false_iff_ne.2 e,beq_iff_eq,decide_eq_false_iff_not] at d1
   rw[a1,dF (by omega),all r hr e,d2]
   simp
theorem Yb (rs:List (List Sd)):NC rs=chk rs:=by
 unfold NC chk
 by_cases hN:rs.any (fun l=>l.length==0)=true
 ·rw[if_pos hN,if_pos hN]
 rw[if_neg hN,if_neg hN]
 by_cases h0:tot rs=0
 ·rw[if_pos h0,if_pos h0]
 rw[if_neg h0,if_neg h0]
 by_cases h1:tot rs>24
 ·rw[if_pos h1,if_pos h1]
 rw[if_neg h1,if_neg h1]
 by_cases h2:rs.flatten.any (fun s=> !rgd s)=true
 ·rw[if_pos h2,if_pos h2]
 rw[if_neg h2,if_neg h2]
 have hg: ∀l∈rs, ∀s∈l,rgd s=true:=YN (by simpa using h2)
 have hin:Vj rs:=fun l hl s hs=>TU (hg l hl s hs)
 have e3:rs.any (fun l=> !Jh l)=rs.any (fun l=> !shp l):=by
  rw[Bool.eq_iff_iff,List.any_eq_true,List.any_eq_true]
  constructor<;>rintro⟨l,hl,h⟩
  ·exact⟨l,hl,by rw[←VC (hin l hl)];exact h⟩
  ·exact⟨l,hl,by rw[VC (hin l hl)];exact h⟩
 rw[e3]
 by_cases h3:rs.any (fun l=> !shp l)=true
 ·rw[if_pos h3,if_pos h3]
 rw[if_neg h3,if_neg h3]
 have hs: ∀l∈rs,shp l=true:=fun l hl=>by
  cases h:shp l with
  |true=>rfl
  |false=>exact absurd (List.any_eq_true.2 ⟨l,hl,by rw[h];rfl⟩) h3
 by_cases h4:crs rs=true
 ·rw[if_pos h4,if_pos h4]
 rw[if_neg h4,if_neg h4]
 have hpos:0<rs.length:=by
  cases rs with
  |nil=>exact absurd rfl h0
  |cons x rs=>simp
 rw[Zd hin hs (by simpa using h4) (by omega) hpos,Zg hin hs]
end
section
open Go Go.RowKit Go.Am
set_option maxRecDepth 10000
-- BOXES 1
theorem Hg (W:World) (p:Option Addr) (cap:Nat) (rs:List (List Sd)) (hn:rs.length<4611686018427387904) (hT:tot rs<1099511627776) (hR:BD W p rs):
  Ad Tryz.prog 49 #[AO p rs.length cap] W (fun _:Unit=> .int .i64 (chk rs)) (fun _=>True) (fun _=>[]):=
 (PY W p cap rs hn hT hR).cast (by rw[Yb])
theorem UL (W:World) (p:Option Addr) (cap:Nat) (rs:List (List Sd)) (hn:rs.length<4611686018427387904) (hR:BD W p rs) (hc:chk rs=0):
  Ad Tryz.prog 54 #[AO p rs.length cap] W (fun V:Vec=> .tuple #[V.val rs.flatten.length, .int .i64 0]) (fun V=>V.OK 7 rs.flatten.length (cellsOf rs.flatten)) (fun V=>[V.bx 80 (cellsOf rs.flatten)]):=by
 obtain⟨hne,hT,_⟩:=DL hc
 refine Ab (args:=[AO p rs.length cap]) Tryz.func54 I I I ?_
 refine zA (zB ?_)
 (refine A3 rfl rfl rfl rfl ?_;intro)
 refine wP I (wP I (Aa ?_))
 rename_i b1
 refine zE (zA (zA (zB (wB 0 I I I (wC I I (fun W hp=>(Hg W p cap rs hn (by omega) (hR.hp hp)).cast (by rw[hc])) (wP I (Aa (zE (zS I (zI (zE (zA (zB ?_)))))))))))))
 refine wP I (Aa (zE (zA (zA (zB (wP I (Aa (zE (zH ?_)))))))))
 refine DM ?_
 refine Ar (X:=Nat×Vec) (fun x=>[(1, .pointer (some ⟨b1,0,none⟩)),(4,x.2.val (tot (rs.take x.1))),(5, .int .i64 (x.1:Nat))]) (fun x=>[⟨b1,24,[slv p rs.length cap],true,none⟩,x.2.bx 80 (cellsOf (rs.take x.1).flatten)])
  (fun x=>x.1≤rs.length∧x.2.OK 7 (tot (rs.take x.1)) (cellsOf (rs.take x.1).flatten)) (fun x=>rs.length-x.1) (0,Vec.empty) ⟨Nat.zero_le _,Vec.OK.empty 7⟩ ⟨rfl,rfl,rfl,trivial⟩ [] rfl ?_
 rintro⟨k,V⟩ ⟨hk,hV⟩
 refine zA (zA (zB (wP I (wP I (wB 0 I I I (wP I (wP I (Aa (zE ?_)))))))))
 refine Af I (fun h=> ?_) (fun h=> ?_)
 ·have hk:k<rs.length:=by simp at h;omega
  clear h
  obtain⟨b,off,rfl,hrow⟩:=hR.row hk
  obtain⟨q,cap2,hq1,hq2⟩:=hrow k hk
  refine zI (zE (zA (zH (zB (wP I (wP I (wB 0 I I I (wP I ?_))))))))
  refine wJ ?_
  refine wL 0 I I (fun W hp=>hq1.hp hp) I ?_
  obtain⟨b2,off2,rfl,hRk⟩: ∃b off,q=some ⟨b,off,none⟩∧FA W b off (rg rs k):=by
   rcases hq2 with h|h
   ·exact absurd h (hne _ (List.mem_of_getElem? (Bd hk)))
   ·exact h
  have h1:=Bj hk
  have h2:=Cf rs (k+1)
  refine CW (len:=tot (rs.take k)) 1 Tryz.vec76 I I I I I I I I I hV (Ev (rg rs k)) (fun W hp j u hj=> ?_) (Lf _) (by simp only[maxLen];omega) (by omega) ?_
  ·have hR':BW W (some ⟨b2,off2,none⟩) (rg rs k):=BW.hp (.inr ⟨b2,off2,rfl,hRk⟩) hp
   rcases hR' with h|⟨b3,off3,e,hR'⟩
   ·exact absurd h (hne _ (List.mem_of_getElem? (Bd hk)))
   ·cases e
    rw[Addr.add_none]
    exact hR'.cells j u hj
  intro V' hV' _
  have e3:cellsOf (rs.take k).flatten++cellsOf (rg rs k)=cellsOf (rs.take (k+1)).flatten:=by rw[KD hk,HL]
  rw[e3, ←h1] at hV'
  rw[e3, ←h1]
  exact wP I (Aa (zN (zE (zB (wP I (wP I (wP I (Aa (Al (k+1,V') ⟨hk,hV'⟩ (by show rs.length-(k+1)<rs.length-k;omega) ⟨I,I,congrArg (fun z=>some (Value.int .i64 z)) (AE (x:=(k:Int)+1) (by omega) (by omega)),O⟩ [] I)))))))))
 ·have e:k=rs.length:=by simp at h;omega
  subst e
  rw[List.take_length] at hV
  rw[List.take_length]
  exact zJ (zK (zK (zL (zE (zA (zB (wP I (wP I (wP I (Aa (zE (zO (AK tH I (.tmp I) (.tmp I) V (by rw[FD]) (by rw[FD];exact hV) fun W hp=>Av.of_hp1 hp 1 I)))))))))))))
end
section
open Go Go.RowKit Go.Am Go.Lib
set_option maxRecDepth 10000
-- BOXES 4
-- CODE2
theorem DO (p q:Rat) (h:Sz2 p q) (W:World) (ht:AJ W):Ad Tryz.prog 55 #[str (Ac p),str (Ac q)] W (fun _:Unit=> .int .i64 (Co p q)) (fun _=>True) (fun _=>[]):=by
 refine Ab (args:=[str (Ac p),str (Ac q)]) Tryz.func55 I I I ?_
 refine zA (zB (wP I (Aa (zE (zA (zB (wP I (wP I (wC I I (fun W1 hp=>Nx p q h W1 (ht.hp hp)) ?_)))))))))
 iterate 5 refine wP I ?_
 exact Aa (zE (zA (zB (wP I (wP I (Aa (zE (zO (wR1 I I I)))))))))
theorem IS (z:Int) (hl:(itoa z).length≤1000):AQ Tryz.prog 114 [str (itoa z)] (.int .i64 ((decDigits z.natAbs).length:Nat)):=by
 intro W
 obtain⟨c,hc,hc45⟩:=En z
 have hl0:0<(itoa z).length:=(List.getElem?_eq_some_iff.1 hc).1
 refine Ab Tryz.func114 I I I ?_
 refine zA (zB (wP I (Aa (zE (zA (zA (zB (wP I ?_))))))))
 refine AU 0 tH I I I I I I I I hc ?_
 refine wP I (wU 5 (decide (z<0)) I ((DW c 45).trans hc45) (Aa (zE ?_)))
 refine Af I (fun hn=> ?_) (fun hn=> ?_)
 ·have hn:z<0:=of_decide_eq_true hn
  have e:(itoa z).length=1+(decDigits z.natAbs).length:=by rw[BL,G9,if_pos hn,List.length_append];rfl
  refine zA (zB (wP I (wP I ?_)))
  refine Ak 7 (.int .i64 ((itoa z).length:Nat)) I (congrArg (fun n:Nat=>Value.int .i64 (n:Int)) (Az _)) ?_
  exact wP I (wV 8 ((decDigits z.natAbs).length:Nat) I ((Ai (by omega) (by omega)).trans (by omega)) (wP I (Aa (zE (zO (zP (wR1 I I I)))))))
 ·have hn: ¬z<0:=of_decide_eq_false hn
  have e:itoa z=decDigits z.natAbs:=by rw[BL,G9,if_neg hn];rfl
  refine zI (zE (zA (zB (wP I (wP I ?_)))))
  refine Ak 10 (.int .i64 ((decDigits z.natAbs).length:Nat)) I (congrArg (fun n:Nat=>Value.int .i64 (n:Int)) ((Az _).trans (by rw[e]))) ?_
  exact wP I (Aa (zE (zO (wR1 I I I))))
def Ta (a:List UInt8):Bool:=match frm a with
 |none=>false
 |some (z,d)=>decide (20<(decDigits z.natAbs).length)||decide (20<(decDigits d).length)
theorem LW (q:Rat):Ta (Ac q)=(decide (20<(decDigits q.num.natAbs).length)||decide (20<(decDigits q.den).length)):=by
 unfold Ta Ac
 rw[ER q.num q.den_pos]
theorem T4 {q:Rat}:Ta (Ac q)=false↔szQ q 20:=by
 rw[LW,Bool.or_eq_false_iff,decide_eq_false_iff_not,decide_eq_false_iff_not]
 constructor
 ·rintro⟨h1,h2⟩
  exact⟨Nat.lt_of_lt_of_le (E0 _) (Nat.pow_le_pow_right (by decide) (by omega)),Nat.lt_of_lt_of_le (E0 _) (Nat.pow_le_pow_right (by decide) (by omega))⟩
 ·rintro⟨h1,h2⟩
  have l1:=CK 20 _ (by decide) h1
  have l2:=CK 20 _ (by decide) h2
  exact⟨by omega,by omega⟩
def Kw (a:List UInt8):Int:=if (rdR a).2≠0 then(rdR a).2 else if Ta a=true then 4 else 0
theorem UE {a:List UInt8} (h:Kw a=0): ∃q,szQ q 20∧a=Ac q:=by
 unfold Kw at h
 by_cases h1:(rdR a).2=0
 ·obtain⟨q,_,rfl⟩:=L8 h1
  rw[if_neg (fun h=>h h1)] at h
  cases h2:Ta (Ac q) with
  |true=>rw[h2,if_pos rfl] at h;exact absurd h (by decide)
  |false=>exact⟨q,T4.1 h2,rfl⟩
 ·rw[if_pos h1] at h;exact absurd h h1
theorem QT {q:Rat} (h:szQ q 20):Kw (Ac q)=0:=by
 unfold Kw
 rw[K6 (h.ok (by decide)),if_neg (fun h=>h rfl),T4.2 h,if_neg (by decide)]
theorem Fl (W:World) (p:Option Addr) (cap:Nat) (rs:List (List Sd)) (hn:rs.length<4611686018427387904) (hT:tot rs<1099511627776) (hR:BD W p rs) (a:List UInt8) (hl:a.length≤4000000000) (ht:AJ W):
  Ad Tryz.prog 53 #[AO p rs.length cap,str a] W (fun _:Unit=> .int .i64 (if chk rs≠0 then 1 else Kw a)) (fun _=>True) (fun _=>[]):=by
 refine Ab (args:=[AO p rs.length cap,str a]) Tryz.func53 I I I ?_
 refine zA (zB ?_)
 (refine A3 rfl rfl rfl rfl ?_;intro)
 refine wP I (Aa ?_)
 rename_i b2
 refine zE (zA (zA (zB (wB 0 I I I (wC I I (fun W1 hp=>Hg W1 p cap rs hn hT (hR.hp hp)) (wP I ?_))))))
 by_cases hc:chk rs=0
 rotate_left
 ·exact wU 11 true I (bne_iff_ne.2 hc) (Aa (zE (zR I (zA (zB (wP I (Aa (zE (zO (zP (wR1 I I (by rw[if_pos hc]))))))))))))
 rw[if_neg (fun h=>h hc)]
 refine wU 11 false I (bne_eq_false_iff_eq.2 hc) (Aa (zE (zS I (zI (zE (zA (zA (zB (wP I (wC I I (fun W1 hp=>Hz a (by omega) W1 (ht.hp hp)) (wP I (Aa (zE ?_)))))))))))))
 refine zA (zB (wP I (wP I ?_)))
 by_cases he:(rdR a).2=0
 rotate_left
 ·exact wU 15 true I (bne_iff_ne.2 he) (Aa (zE (zR I (zA (zB (wP I (wP I (Aa (zE (zO (zP (wR1 I I (by unfold Kw;rw[if_pos he])))))))))))))
 obtain⟨q,hk,rfl⟩:=L8 he
 have hE:Kw (Ac q)=if Ta (Ac q)=true then 4 else 0:=by unfold Kw;rw[if_neg (fun h=>h he)]
 rw[hE,LW]
 have hi:(itoa q.num).length≤1000:=by
  have:=hk.1.dd
  rw[BL,List.length_append]
  have:=I8 q.num
  omega
 have hj:(itoa ((q.den:Nat):Int)).length≤1000:=by
  have:=hk.2.dd
  rw[BL,List.length_append]
  have:=I8 ((q.den:Nat):Int)
  omega
 refine wU 15 false I (bne_eq_false_iff_eq.2 he) (Aa (zE (zS I (zI (zE (zA (zB (wP I (wC I I (fun W1 hp=>(Ks hk W1 (ht.hp hp)).cast (v':= .tuple #[str (itoa q.num),str (itoa ((q.den:Nat):Int)), .int .i64 0]) (by rw[EC])) ?_)))))))))
 iterate 7 refine wP I ?_
 refine Aa (zE (zA (zA (zB (wP I (wC I I (fun W1 _=>IS q.num hi W1) (wP I ?_)))))))
 by_cases h1:20<(decDigits q.num.natAbs).length
 ·refine wU 25 true I (dT (by omega)) (wP I ?_)
  iterate 3 refine Ae I I ?_
  exact wP I (Aa (zE (zR I (zA (zB (wP I (Aa (zE (zO (zP (wR1 I I (by rw[dT h1];rfl))))))))))))
 refine wU 25 false I (dF (by omega)) (wP I (wP I (wC I I (fun W1 _=>(IS ((q.den:Nat):Int) hj W1).cast (v':= .int .i64 ((decDigits q.den).length:Nat)) (by rw[Int.natAbs_natCast])) (wP I ?_))))
 rw[dF h1,Bool.false_or]
 by_cases h2:20<(decDigits q.den).length
 ·exact wU 29 true I (dT (by omega)) (wP I (Aa (zE (zR I (zA (zB (wP I (Aa (zE (zO (zP (wR1 I I (by rw[dT h2];rfl)))))))))))))
 exact wU 29 false I (dF (by omega)) (wP I (Aa (zE (zS I (zI (zE (zA (zB (wP I (Aa (zE (zO (wR1 I I (by rw[dF h2];rfl))))))))))))))
theorem Ur {f:FrP} (h:f.OK) (t:Rat):(if f.hd<0 then 0-Pf f t else Pf f t)=f.velA t:=by
 unfold Pf FrP.velA FrP.vel
 rcases h.hd with e|e
 ·rw[e,if_neg (by decide),show((1:Int):Rat)=1 from rfl]
  split<;>grind
 ·rw[e,if_pos (by decide),show((-1:Int):Rat)= -1 from rfl]
  split<;>grind
theorem H8 (f:FrP) (h:f.OK) (t:Rat) (hz:szQ t 36) (W:World) (ht:AJ W):
  Ad Tryz.prog 125 #[frV f,str (Ac t)] W (fun _:Unit=>str (Ac (f.velA t))) (fun _=>True) (fun _=>[]):=by
 have zs:szQ (Pf f t) 36:=by unfold Pf;split;exact⟨by decide,by decide⟩;exact h.sp
 have z0:szQ (0:Rat) 1:=⟨by decide,by decide⟩
 have e0:Ac (0:Rat)=[48]:=E2.2 rfl
 refine Ab (args:=[frV f,str (Ac t)]) Tryz.func125 I I I ?_
 refine zA (zB ?_)
 (refine A3 rfl rfl rfl rfl ?_;intro)
 refine wP I (Aa ?_)
 rename_i b2
 refine zE (zA (zB (wB 0 I I I (wP I (wC I I (fun W1 hp=>Pd f h t hz W1 (ht.hp hp)) ?_)))))
 iterate 5 refine wP I ?_
 refine Aa (zE (zA (zA (zB (wP I (wB 0 I I I (wP I (Aa (zE ?_)))))))))
 refine Af I (fun hh=> ?_) (fun hh=> ?_)
 ·have hh:f.hd<0:=of_decide_eq_true hh
  have e:=Ur h t
  rw[if_pos hh] at e
  refine zB (wP I ?_)
  refine wC I I (fun W1 hp=>(by
   have h1:=Mj 0 (Pf f t) (sz2 z0 zs (by decide)) W1 (ht.hp hp)
   rw[e0,e] at h1
   exact h1)) ?_
  exact wP I (wP I (wP I (wP I (Aa (zE (zA (zB (wP I (wP I (Aa (zE (zO (wR1 I I I)))))))))))))
 ·have hh: ¬f.hd<0:=of_decide_eq_false hh
  have e:=Ur h t
  rw[if_neg hh] at e
  exact zI (zE (zA (zB (wP I (wP I (Aa (zE (zO (wR1 I I (by rw[e]))))))))))
-- BOXES 5
-- CODE2
section
variable {r:Option Nat} {n:Nat} {P:Program} {N:Nat} {D:List Deferred} {ops:List Oper} {Q:Exit→Act→World→Prop} {o:Oper} {rest:List Oper} {env:Env} {A:World→Prop}
theorem NY {ρ:Operand→Value} {t e:TypeId} {m c:Nat} {x y:Operand} {k:IntKind} {b off:Nat} {z:Int} (ht:P.underlying t=some (.array m e)) (hs: ∀W,(Go.sizeOf e).run P W= .ok c W) (ho:o.op= .indexAddr t x y)
  (hx:ρ x= .pointer (some ⟨b,off,none⟩)) (hy:ρ y= .int k z) (h0:0≤z∧z<m) (W:World):(execOp ρ o).run P W= .ok (.value (.pointer (some ⟨b,off+z.toNat*c,none⟩))) W:=by
 simp[execOp,ho,hx,hy,Instr.indexAt,Instr.sureAddr,asIntOf,run_underlying ht,hs,h0.1,h0.2,Addr.add_none]
theorem P9 {d:Nat} {t e:TypeId} {m c:Nat} {x y:Operand} {k:IntKind} {b off:Nat} {z:Int} (ht:P.underlying t=some (.array m e)) (hs: ∀W,(Go.sizeOf e).run P W= .ok c W) (hg:A7 ops N env o=some true) (hd:o.dst=some d) (ho:o.op= .indexAddr t x y)
  (hx:evO N env x=some (.pointer (some ⟨b,off,none⟩))) (hy:evO N env y=some (.int k z)) (h0:0≤z∧z<m)
  (h:WL r n P N D ops Q rest ((d, .pointer (some ⟨b,off+z.toNat*c,none⟩))::env) A):WL r n P N D ops Q (o::rest) env A:=
 Dm hg hd (fun c e=>by rw[ho] at e;cases e) (fun _ W hρ _=>NY ht hs ho (hρ _ _ hx) (hρ _ _ hy) h0 W) h
end
def hdg (s t:Sd):Nat:=if s.x<t.x then 0 else if s.y<t.y then 1 else if t.x<s.x then 2 else 3
theorem ZJ (s t:Sd):hdg s t<4:=by
 unfold hdg
 split
 ·decide
 ·split
  ·decide
  ·split<;>decide
theorem NJ (s t:Sd) (W:World):Ad Tryz.prog 153 #[s.val,t.val] W (fun _:Unit=> .int .i64 (hdg s t:Nat)) (fun _=>True) (fun _=>[]):=by
 refine Ab (args:=[s.val,t.val]) Tryz.func153 I I I ?_
 refine zA (zB ?_)
 (refine A3 rfl rfl rfl rfl ?_;intro)
 (refine A3 rfl rfl rfl rfl ?_;intro)
 refine wP I (Aa (zE (zA (zH (zA (zB (wP I (wB 1 I I I (wP I (wB 0 I I I (wP I (wP I (Aa ?_)))))))))))))
 refine zE ?_
 refine Af I (fun h=> ?_) (fun h=> ?_)
 ·have c:s.x<t.x:=by have h:=of_decide_eq_true h;omega
  clear h
  have e:hdg s t=0:=by unfold hdg;rw[if_pos c]
  exact zA (zB (wP I (Aa (zE (zO (zQ (zP (wR1 I I (by rw[e];rfl)))))))))
 have c1: ¬s.x<t.x:=by have h:=of_decide_eq_false h;omega
 clear h
 refine zA (zB (wP I (wB 1 I I I (wP I (wB 0 I I I (wP I (wP I (Aa (zE ?_)))))))))
 refine Af I (fun h=> ?_) (fun h=> ?_)
 ·have c:s.y<t.y:=by have h:=of_decide_eq_true h;omega
  clear h
  have e:hdg s t=1:=by unfold hdg;rw[if_neg c1,if_pos c]
  exact zA (zB (wP I (Aa (zE (zO (zQ (zP (wR1 I I (by rw[e];rfl)))))))))
 have c2: ¬s.y<t.y:=by have h:=of_decide_eq_false h;omega
 clear h
 refine zA (zB (wP I (wB 1 I I I (wP I (wB 0 I I I (wP I (wP I (Aa (zE ?_)))))))))
 refine Af I (fun h=> ?_) (fun h=> ?_)
 ·have c:t.x<s.x:=by have h:=of_decide_eq_true h;omega
  clear h
  have e:hdg s t=2:=by unfold hdg;rw[if_neg c1,if_neg c2,if_pos c]
  exact zA (zB (wP I (Aa (zE (zO (zQ (zP (wR1 I I (by rw[e];rfl)))))))))
 have c3: ¬t.x<s.x:=by have h:=of_decide_eq_false h;omega
 clear h
 have e:hdg s t=3:=by unfold hdg;rw[if_neg c1,if_neg c2,if_neg c3]
 exact zI (zN (zE (zA (zB (wP I (Aa (zE (zO (wR1 I I (by rw[e];rfl))))))))))
def Ou (k:Nat):Bool:=k==1||k==3
def LY (k:Nat):Int:=if k=0∨k=3 then 1 else -1
abbrev ZG:List Value:=[.bool false, .int .i64 1, .bool true, .int .i64 (-1), .bool false, .int .i64 (-1), .bool true, .int .i64 1]
def Kz (W:World):Prop:=An W 0 0 ZG
theorem Kz.hp {W0 W:World} {bxs:List Bx} (h:Kz W0) (hp:Hp W0 bxs W):Kz W:=An.hp h hp
theorem Kz.at_ {W:World} (h:Kz W) {k:Nat} (hk:k<4):An W 0 (0+k*2) [.bool (Ou k), .int .i64 (LY k)]:=by
 refine⟨h.lt,fun m u hu=> ?_⟩
 have hm:m=0∨m=1:=by
  have:=(List.getElem?_eq_some_iff.1 hu).1
  have:m<2:=this
  omega
 have hk:k=0∨k=1∨k=2∨k=3:=by omega
 have hg:=h.get (k*2+m) u (by
  rcases hk with rfl|rfl|rfl|rfl<;>rcases hm with rfl|rfl<;>exact hu)
 rw[Nat.zero_add] at hg
 rw[Nat.zero_add]
 exact hg
def frO (s t:Sd):FrP:=⟨Ou (hdg s t),if Ou (hdg s t) then s.x else s.y,LY (hdg s t),if s.gable then 0 else nrm s.run s.rise,(s.plate:Rat)⟩
theorem ED {s:Sd} (h:rgd s=true):(0≤s.x∧s.x≤65536)∧(0≤s.y∧s.y≤65536)∧(0≤s.plate∧s.plate≤65536)∧(s.gable=false→(1≤s.rise∧s.rise≤48)∧(1≤s.run∧s.run≤48)):=by
 unfold rgd btw at h
 simp only[Bool.and_eq_true,decide_eq_true_eq] at h
 obtain⟨h1,⟨⟨h2,h3⟩,h4⟩,h5⟩:=h
 refine⟨h2,h3,h4,fun e=> ?_⟩
 rw[e] at h1
 simpa using h1
theorem Ut (s t:Sd) (h:rgd s=true) (W:World) (hd:Kz W) (ht:AJ W):Ad Tryz.prog 93 #[s.val,t.val] W (fun _:Unit=>frV (frO s t)) (fun _=>True) (fun _=>[]):=by
 obtain⟨hx,hy,hp,hr⟩:=ED h
 obtain⟨k,hk⟩: ∃k,k=hdg s t:=⟨_,rfl⟩
 have hk4:k<4:=hk▸ZJ s t
 obtain⟨ax,hax⟩: ∃ax,ax=Ou k:=⟨_,rfl⟩
 obtain⟨dd,hdd⟩: ∃dd,dd=LY k:=⟨_,rfl⟩
 have hrow: ∀ {W1:World} {bxs:List Bx},Hp W bxs W1→An W1 0 (0+((k:Nat):Int).toNat*2) [.bool ax, .int .i64 dd]:=fun hp1=>by
  rw[Int.toNat_natCast,hax,hdd]
  exact(hd.hp hp1).at_ hk4
 have hf:frO s t=⟨ax,if ax then s.x else s.y,dd,if s.gable then 0 else nrm s.run s.rise,(s.plate:Rat)⟩:=by unfold frO;rw[←hk, ←hax, ←hdd]
 obtain⟨ps,hps⟩: ∃ps,ps=(if ax then s.x else s.y):=⟨_,rfl⟩
 obtain⟨sp,hsp⟩: ∃sp:Rat,sp=(if s.gable then 0 else nrm s.run s.rise):=⟨_,rfl⟩
 rw[←hps, ←hsp] at hf
 rw[hf]
 refine Ab (args:=[s.val,t.val]) Tryz.func93 I I I ?_
 refine zA (zB ?_)
 (refine A3 rfl rfl rfl rfl ?_;intro)
 (refine A3 rfl rfl rfl rfl ?_;intro)
 (refine Ah Tryz.hZ rfl rfl rfl rfl ?_;intro)
 refine Aa ?_
 rename_i b2 b3 b4
 refine zE (zA (zB (wB 0 I I I (wB 1 I I I (wC I I (fun W _=>(NJ s t W).cast (by rw[←hk])) ?_)))))
 refine P9 (c:=2) Tryz.underlying150 Tryz.sizeOf149 I I I I I ⟨by omega,by omega⟩ ?_
 refine wL 0 I I (fun W1 hp=>hrow hp) I ?_
 (refine Ah Tryz.hZ rfl rfl rfl rfl ?_;intro)
 refine wS 3 I I I (Aa ?_)
 rename_i b5
 refine zE (zA (zB (wP I (wB 3 I I I (wP I (wB 0 I I I (wP I (wB 3 I I I ?_))))))))
 refine A5 Tryz.hZ tH I I I I I I I I ?_
 (refine Ah Tryz.hZ rfl rfl rfl rfl ?_;intro)
 refine wS 4 I I I (Aa ?_)
 rename_i b6
 refine zE (zA (zA (zB (wP I (wB 3 I I I (Aa (A0 ?_)))))))
 try refine Au ?_
 refine A8 (X:=Unit) (fun _=>[(2,Ap b2),(4,Ap b4),(5,Ap b5),(6,Ap b6)]) (fun _=>[⟨b2,80,s.cells,true,none⟩,⟨b4,48,[.bool false, .int .i64 0, .int .i64 0,str [],str []],true,none⟩,⟨b6,48,[.bool ax, .int .i64 ps, .int .i64 dd,str (Ac 0),str []],true,none⟩]) (fun _=>True) ?_ ?_
 ·refine Af I (fun h1=> ?_) (fun h1=> ?_)
  ·have e1:ax=true:=h1
   exact zB (wP I (wB 0 I I I (wP I (wS 4 I I I (Aa (I1 () O ⟨I,I,I,I,O⟩ [0,2,4] (by decide) (by rw[hps,if_pos e1,E5];rfl)))))))
  ·have e1:ax=false:=h1
   exact zI (I1 () O ⟨I,I,I,I,O⟩ [0,2,4] (by decide) (by rw[hps,if_neg (by rw[e1];decide),E5];rfl))
 intro _ _
 refine zA (zA (zB (wP I (wB 0 I I I (wP I (Aa (A0 ?_)))))))
 try refine Au ?_
 refine A8 (X:=Unit) (fun _=>[(2,Ap b2),(4,Ap b4),(6,Ap b6)]) (fun _=>[⟨b2,80,s.cells,true,none⟩,⟨b4,48,[.bool false, .int .i64 0, .int .i64 0,str [],str []],true,none⟩,⟨b6,48,[.bool ax, .int .i64 ps, .int .i64 dd,str (Ac sp),str []],true,none⟩]) (fun _=>True) ?_ ?_
 ·refine Af I (fun h1=> ?_) (fun h1=> ?_)
  ·have e1:s.gable=false:=by simpa using h1
   obtain⟨r1,r2⟩:=hr e1
   exact zB (wP I (wB 0 I I I (wP I (wB 0 I I I (wC I I (fun W1 hp=>(K9 s.run s.rise (by omega) (by omega) W1 (ht.hp hp)).cast (by rw[ofR,if_neg (by omega)])) (wP I (wP I (wP I (wP I (wS 2 I I I (Aa (I1 () O ⟨I,I,I,O⟩ [0,1,2] (by decide) (by rw[hsp,if_neg (by rw[e1];decide)];rfl)))))))))))))
  ·have e1:s.gable=true:=by simpa using h1
   exact zI (I1 () O ⟨I,I,I,O⟩ [0,1,2] (by decide) (by rw[hsp,if_pos e1];rfl))
 intro _ _
 refine zA (zB (wP I (wB 0 I I I (wC I I (fun W1 hp=>(K9 s.plate 1 (by omega) (by decide) W1 (ht.hp hp)).cast (by rw[Um])) (wP I (wP I (wP I (wP I (wS 2 I I I (Aa (zE (zA (zB ?_)))))))))))))
 exact wB 2 I I I (wS 1 I I I (Aa (zE (zO (A9 tH I (.cell 1 I I I I I) () I O fun W _=>Av.nil _ _)))))
-- BOXES 4
-- CODE2
def QM (l:List Sd) (i:Nat):FrP:=frO (sd l i) (sd l (nxt l.length i))
def D4 (l:List Sd) (i:Nat):List FrP:=(List.range i).map (QM l)
def Bb (rs:List (List Sd)):Nat→List FrP
 |0=>[]
 |k+1=>Bb rs k++D4 (rg rs k) (rg rs k).length
def Ao (rs:List (List Sd)):List FrP:=Bb rs rs.length
def frC (l:List FrP):List Value:=l.flatMap fun f=>(frV f).cells.toList
theorem PF (a b:List FrP):frC (a++b)=frC a++frC b:=List.flatMap_append
theorem Yf (l:List FrP):(frC l).length=l.length*5:=by
 induction l with
 |nil=>rfl
 |cons f l ih=>show((frV f).cells.toList++frC l).length=_;rw[List.length_append,ih,List.length_cons];show 5+_=_;omega
theorem MG (l:List Sd) (i:Nat):(D4 l i).length=i:=by unfold D4;rw[List.length_map,List.length_range]
theorem O7 (l:List Sd) (i:Nat):D4 l (i+1)=D4 l i++[QM l i]:=by unfold D4;rw[List.range_succ,List.map_append];rfl
theorem Ic {rs:List (List Sd)}: ∀k,k≤rs.length→(Bb rs k).length=tot (rs.take k)
 |0,_=>rfl
 |k+1,h=>by
  show(Bb rs k++D4 _ _).length=_
  rw[List.length_append,Ic k (by omega),MG,Bj h]
theorem CR (rs:List (List Sd)):(Ao rs).length=tot rs:=by
 unfold Ao
 rw[Ic _ (Nat.le_refl _),List.take_length]
theorem TG {rs:List (List Sd)} {r i:Nat} (hi:i<(rg rs r).length): ∀k,r<k→k≤rs.length→(Bb rs k)[tot (rs.take r)+i]? =some (QM (rg rs r) i)
 |0,h,_=>absurd h (Nat.not_lt_zero _)
 |k+1,h,hk=>by
  have hl:=Ic (rs:=rs) k (by omega)
  show(Bb rs k++D4 _ _)[_]? =_
  by_cases e:r=k
  ·subst e
   rw[List.getElem?_append_right (by omega),hl,Nat.add_sub_cancel_left]
   unfold D4
   rw[List.getElem?_map,List.getElem?_range hi];rfl
  ·have ih:=TG hi k (by omega) (by omega)
   rw[List.getElem?_append_left (List.getElem?_eq_some_iff.1 ih).1]
   exact ih
theorem TR {rs:List (List Sd)} {r i:Nat} (hr:r<rs.length) (hi:i<(rg rs r).length):(Ao rs)[tot (rs.take r)+i]? =some (QM (rg rs r) i):=TG hi rs.length hr (Nat.le_refl _)
theorem Mf (W:World) (p:Option Addr) (cap:Nat) (rs:List (List Sd)) (hn:rs.length<4611686018427387904) (hR:BD W p rs) (hc:chk rs=0) (hd:Kz W) (ht:AJ W):
  Ad Tryz.prog 41 #[AO p rs.length cap] W (fun V:Vec=> .tuple #[V.val (Ao rs).length, .int .i64 0]) (fun V=>V.OK 5 (Ao rs).length (frC (Ao rs))) (fun V=>[V.bx 48 (frC (Ao rs))]):=by
 obtain⟨hne,hT,_⟩:=DL hc
 obtain⟨hrg,_⟩:=Cr hc
 refine Ab (args:=[AO p rs.length cap]) Tryz.func41 I I I ?_
 refine zA (zB ?_)
 (refine A3 rfl rfl rfl rfl ?_;intro)
 refine wP I (wP I (Aa ?_))
 rename_i b1
 refine zE (zA (zA (zB (wB 0 I I I (wC I I (fun W1 hp=>(Gl W1 p cap rs hn (by omega) (hR.hp hp)).cast (by rw[hc])) (wP I (Aa (zE (zS I (zI (zE (zA (zB ?_)))))))))))))
 refine wP I (Aa (zE (zA (zA (zB (wP I (wB 0 I I I (wP I (wP I (Aa (zE (zH ?_))))))))))))
 refine DM ?_
 refine Ar (X:=Nat×Vec) (fun s=>[(1,Ap b1),(4,s.2.val (Bb rs s.1).length),(13,slv p rs.length cap),(14, .int .i64 (rs.length:Nat)),(15, .int .i64 (s.1:Nat))]) (fun s=>[⟨b1,24,[slv p rs.length cap],true,none⟩,s.2.bx 48 (frC (Bb rs s.1))])
  (fun s=>s.1≤rs.length∧s.2.OK 5 (Bb rs s.1).length (frC (Bb rs s.1))) (fun s=>rs.length-s.1) (0,Vec.empty) ⟨Nat.zero_le _,Vec.OK.empty 5⟩ ⟨rfl,rfl,rfl,rfl,rfl,trivial⟩ [] rfl ?_
 rintro⟨k,V⟩ ⟨hk,hV⟩
 have hk:k≤rs.length:=hk
 have hV:V.OK 5 (Bb rs k).length (frC (Bb rs k)):=hV
 have hl:=Ic k hk
 refine zA (zB (wP I ?_))
 by_cases hlt:k<rs.length
 ·refine wU 16 true I (dT (by omega)) (Aa (zE (zA (zR I (zI (zE (zA (zH (zA (zB ?_))))))))))
  obtain⟨l,hle⟩: ∃l,l=rg rs k:=⟨_,rfl⟩
  have hs:=Bj hlt
  have hs1:=Cf rs (k+1)
  obtain⟨gR,oR,hpe,hrows⟩:=hR.row hlt
  obtain⟨q,c,hrow,hring⟩:=hrows k hlt
  rw[←hle] at hrow hring hs
  have hrl: ∀s∈l,rgd s=true:=fun s hs=>hrg l (by rw[hle];exact List.mem_of_getElem? (Bd hlt)) s hs
  have hln:l.length≤24:=by omega
  subst hpe
  refine wJ ?_
  refine wL 0 I I (fun W1 hp=>hrow.hp hp) I (wP I (Aa (zE (zA (zB (wP I (wP I (wP I (Aa (zE (zH ?_)))))))))))
  refine Ar (X:=Nat×Vec) (fun s=>[(1,Ap b1),(4,s.2.val ((Bb rs k).length+s.1)),(13,slv (some ⟨gR,oR,none⟩) rs.length cap),(14, .int .i64 (rs.length:Nat)),(15, .int .i64 (k:Nat)),(6,slv q l.length c),(19,slv q l.length c),(20, .int .i64 (l.length:Nat)),(21, .int .i64 (s.1:Nat))]) (fun s=>[⟨b1,24,[slv (some ⟨gR,oR,none⟩) rs.length cap],true,none⟩,s.2.bx 48 (frC (Bb rs k++D4 l s.1))])
   (fun s=>s.1≤l.length∧s.2.OK 5 ((Bb rs k).length+s.1) (frC (Bb rs k++D4 l s.1))) (fun s=>l.length-s.1) (0,V) ⟨Nat.zero_le _,by show V.OK 5 _ (frC (Bb rs k++[]));rw[List.append_nil];exact hV⟩ ⟨rfl,rfl,rfl,rfl,rfl,rfl,rfl,rfl,rfl,trivial⟩ [] (by show _=[_,V.bx 48 (frC (Bb rs k++[]))]++[];rw[List.append_nil,List.append_nil]) ?_
  rintro⟨i,U⟩ ⟨hi,hU⟩
  have hi:i≤l.length:=hi
  have hU:U.OK 5 ((Bb rs k).length+i) (frC (Bb rs k++D4 l i)):=hU
  refine zA (zB (wP I ?_))
  by_cases hil:i<l.length
  ·refine wU 22 true I (dT (by omega)) (Aa (zE (zA (zR I (zI (zE (zA (zH (zA (zB ?_))))))))))
   obtain⟨gS,oS,hqe,hsd⟩:=hring.row hil
   have hs0:=hsd i hil
   have hs1:=hsd (nxt l.length i) (DP hil)
   have hnl:=DP hil
   have hsuc:=O7 l i
   subst hqe
   refine wP I ?_
   refine wJ ?_
   refine wL 0 I I (fun W1 hp=>hs0.hp hp) I ?_
   (refine Ah Tryz.hZ rfl rfl rfl rfl ?_;intro)
   refine wP I (wS 2 I I I (Aa ?_))
   rename_i b8
   refine zE ?_
   refine By (X:= { V':Vec//V'.OK 5 ((Bb rs k).length+(i+1)) (frC (Bb rs k++D4 l (i+1))) }) [true,true,true,true,true,true,true,true,true,true,true,false,false,false] (fun V'=>[(1,Ap b1),(4,V'.1.val ((Bb rs k).length+(i+1))),(13,slv (some ⟨gR,oR,none⟩) rs.length cap),(14, .int .i64 (rs.length:Nat)),(15, .int .i64 (k:Nat)),(6,slv (some ⟨gS,oS,none⟩) l.length c),(19,slv (some ⟨gS,oS,none⟩) l.length c),(20, .int .i64 (l.length:Nat)),(21, .int .i64 (i:Nat))])
    (fun V'=>[⟨b1,24,[slv (some ⟨gR,oR,none⟩) rs.length cap],true,none⟩,V'.1.bx 48 (frC (Bb rs k++D4 l (i+1)))])
    3 [⟨b1,24,[slv (some ⟨gR,oR,none⟩) rs.length cap],true,none⟩,U.bx 48 (frC (Bb rs k++D4 l i)),⟨b8,80,(sd l i).cells,true,none⟩] Tryz.mixed (by kernel_rfl) ?_ ?_
   ·refine qP I (qB 2 I I I (qP I (qP I (qP I (qV 30 ((i+1:Nat):Int) I (At (by omega)) (qP I (qP I ?_)))))))
    refine EB I I I I I (by omega) ?_
    refine qV 33 (nxt l.length i:Nat) I (by rw[Int.tmod_eq_emod_of_nonneg (by omega)];exact(Int.natCast_emod _ _).symm) ?_
    refine qJ ?_
    refine qL 0 I I (fun W1 hp=>hs1.hp hp) I (qC I I (fun W1 hp=>Ut (sd l i) (sd l (nxt l.length i)) (hrl _ (List.mem_of_getElem? (Ex hil))) W1 (hd.hp hp) (ht.hp hp)) (CH (wX (wZ ?_))))
    refine As Tryz.hZ tH I I I I I I I I I I I fun bN=> ?_
    refine Aa (Ag (wX (wZ ?_)))
    refine AB (V:=U) (len:=(Bb rs k).length+i) (xs:=frC (Bb rs k++D4 l i)) 1 3 Tryz.vec63 ((Bb rs k).length+(i+1)) (frC (Bb rs k++D4 l (i+1))) rfl rfl rfl rfl rfl rfl rfl rfl rfl rfl rfl hU rfl rfl rfl (by rw[hsuc, ←List.append_assoc,PF (Bb rs k++D4 l i)];rfl) (by simp only[maxLen];omega) (by omega) rfl ?_;intro gV cV jV hV1
    refine Aa (Ag (wY (wZ (wP I (Aa (Ag ?_))))))
    refine AD I (by kernel_rfl) ?_
    exact A6 ⟨⟨some gV,cV,jV⟩,hV1⟩ ⟨I,I,I,I,I,I,I,I,I,O⟩ [0,1] (by decide) I
   intro V'
   exact zN (zE (zB (wP I (wV 39 ((i+1:Nat):Int) I (At (by omega)) (wP I (Aa (Al (i+1,V'.1) ⟨hil,V'.2⟩ (by show l.length-(i+1)<l.length-i;omega) ⟨I,I,I,I,I,I,I,I,I,O⟩ [] I)))))))
  have e:i=l.length:=by omega
  subst e
  refine wU 22 false I (dF (by omega)) (Aa (zE (zA (zS I (zJ (zK (zK (zL (zN (zE (zB ?_)))))))))))
  have hall:Bb rs (k+1)=Bb rs k++D4 l l.length:=by rw[hle];rfl
  have hall2:(Bb rs (k+1)).length=(Bb rs k).length+l.length:=by rw[hall,List.length_append,MG]
  exact wP I (wV 40 ((k+1:Nat):Int) I (At (by omega)) (wP I (Aa (Al (k+1,U) ⟨hlt,by show U.OK 5 (Bb rs (k+1)).length (frC (Bb rs (k+1)));rw[hall2,hall];exact hU⟩ (by show rs.length-(k+1)<rs.length-k;omega) ⟨I,by show some (U.val _)=some (U.val (Bb rs (k+1)).length);rw[hall2],I,I,I,O⟩ [] (by show _=[_,U.bx 48 (frC (Bb rs (k+1)))]++[];rw[hall];rfl)))))
 have e:k=rs.length:=by omega
 subst e
 refine wU 16 false I (dF (by omega)) (Aa (zE (zA (zS I (zJ (zK (zK (zL (zE (zA (zB (wP I (wP I (wP I ?_))))))))))))))
 exact Aa (zE (zO (AK tH I (.tmp I) (.tmp I) V I hV fun W1 hp=>Av.of_hp (hp.pick (l:=[V.bx 48 (frC (Bb rs rs.length))]) [1] (by decide) I))))
-- BOXES 2
theorem WB (a b:List UInt8):((⟨a.toArray⟩:ByteArray).toList==(⟨b.toArray⟩:ByteArray).toList)=decide (a=b):=AH a b
theorem JP (W:World) (p q:Option Addr) (cap cap2:Nat) (xs ys:List (List UInt8)) (hA:Pc W p xs) (hB:Pc W q ys) (hn:xs.length<4611686018427387904) (hm:ys.length<4611686018427387904):
  Ad Tryz.prog 13 #[slv p xs.length cap,slv q ys.length cap2] W (fun _:Unit=> .bool (decide (xs=ys))) (fun _=>True) (fun _=>[]):=by
 refine Ab (args:=[slv p xs.length cap,slv q ys.length cap2]) Tryz.func13 I I I ?_
 refine zA (zB (wP I (Aa (zE (zA (zA (zB ?_)))))))
 iterate 5 refine wP I ?_
 by_cases hl:xs.length=ys.length
 ·refine wU 10 false I (by rw[hl];simp) (Aa (zE (zS I (zI (zE (zA (zA (zB (wP I (wP I (wP I (Aa (A0 ?_)))))))))))))
  refine A8 (X:=Unit) (fun _=>[(4, .bool false)]) (fun _=>[]) (fun _=>xs=ys) ?_ ?_
  ·refine BJ ?_
   refine Ar (X:=Nat) (fun i=>[(0,slv p xs.length cap),(1,slv q ys.length cap2),(4, .bool false),(12, .int .i64 (xs.length:Nat)),(13, .int .i64 (i:Nat))]) (fun _=>[]) (fun i=>i≤xs.length∧xs.take i=ys.take i) (fun i=>xs.length-i) 0 ⟨Nat.zero_le _,I⟩ ⟨I,I,I,I,I,O⟩ [] I ?_
   rintro i ⟨hi,he⟩
   refine zA (zB (wP I ?_))
   by_cases hlt:i<xs.length
   ·refine wU 14 true I (dT (by omega)) (Aa (zE (zA (zR I (zI (zE (zA (zH (zA (zB ?_))))))))))
    obtain⟨pb,po,rfl,hr1⟩:=hA.row hlt
    obtain⟨qb,qo,rfl,hr2⟩:=hB.row (show i<ys.length by omega)
    refine wP I (wP I (Aa (zE (zA (zU (qP I (qP I ?_)))))))
    refine qJ ?_
    refine qL 0 I I (fun W hp=>(hr1 i hlt).hp hp) I (qP I (qP I ?_))
    refine qJ ?_
    refine qL 0 I I (fun W hp=>(hr2 i (by omega)).hp hp) I (qP I ?_)
    by_cases hx:xs[i]=ys[i]
    ·exact qU 24 false I (by show(!_)=false;rw[WB,dT hx];rfl) (A4 (Aa (zE (zS I (zI (zN (zE (zB (wP I (wV 25 ((i+1:Nat):Int) I (At (by omega)) (wP I (Aa (Al (i+1) ⟨hlt,by rw[List.take_add_one,List.take_add_one,he,List.getElem?_eq_getElem hlt,List.getElem?_eq_getElem (by omega),hx]⟩ (by show xs.length-(i+1)<xs.length-i;omega) ⟨I,I,I,I,I,O⟩ [] I)))))))))))))
    ·refine qU 24 true I (by show(!_)=true;rw[WB,dF hx];rfl) (A4 (Aa (zE (zR I (zA (zB (wP I (Aa (zE (zO (zQ (zP (zP ?_)))))))))))))
     exact zQ (zP (wR1 rfl rfl (by rw[dF fun e=>hx (by subst e;rfl)])))
   ·exact wU 14 false I (dF (by omega)) (Aa (zE (zA (zS I (zJ (zK (zK (zL (Aj () (by rw[List.take_of_length_le (by omega),List.take_of_length_le (by omega)] at he;exact he) ⟨I,O⟩ [] I)))))))))
  ·intro _ he
   have he:xs=ys:=he
   exact zA (zB (wP I (Aa (zE (zO (wR1 I I (by rw[dT he])))))))
 ·exact wU 10 true I (by rw[bne_iff_ne];omega) (Aa (zE (zR I (zA (zB (wP I (Aa (zE (zO (zP (wR1 I I (by rw[dF fun e=>hl (by rw[e])]))))))))))))
-- BOXES 4
abbrev frB (b:Nat) (f:FrP):Bx:=⟨b,48,(frV f).cells.toList,true,none⟩
theorem Nt (f g:FrP) (W:World):Ad Tryz.prog 94 #[frV f,frV g] W (fun x:Nat×Nat=> .func (.func 154) #[] #[Ap x.1,Ap x.2]) (fun _=>True) (fun x=>[frB x.1 f,frB x.2 g]):=by
 refine Ab (args:=[frV f,frV g]) Tryz.func94 I I I ?_
 refine zA (zB ?_)
 (refine A3 rfl rfl rfl rfl ?_;intro)
 (refine A3 rfl rfl rfl rfl ?_;intro)
 refine wP I (Aa ?_)
 rename_i b2 b3
 exact zE (zA (zB (wP I (wP I (Aa (zE (zO (A9 tH I (.tmp I) (b2,b3) I O fun W hp=>Av.of_hp hp))))))))
def CA (f g:FrP):Rat:=(g.pos:Rat)-(f.pos:Rat)
def AW (f g:FrP):List Rat:=
 [f.st,g.st]++(if f.vel=0 then[] else[f.st+CA f g/f.vel])++(if g.vel=0 then[] else[g.st-CA f g/g.vel])++
 (if f.vel=g.vel then[] else[(CA f g+(f.vel*f.st-g.vel*g.st))/(f.vel-g.vel)])
theorem U3 (f g:FrP):(AW f g).length≤5:=by
 unfold AW
 by_cases h1:f.vel=0<;>by_cases h2:g.vel=0<;>by_cases h3:f.vel=g.vel<;>simp only[h1,h2,h3,if_true,if_false]<;>(try split)<;>simp
end
section
theorem FrP.at_le {f:FrP} {t:Rat} (h:t≤f.st):f.at t=(f.pos:Rat):=by rw[FrP.at,if_pos h]
theorem FrP.at_ge {f:FrP} {t:Rat} (h:f.st≤t):f.at t=(f.pos:Rat)+f.vel*(t-f.st):=by
 by_cases e:t≤f.st
 ·have e2:t=f.st:=Rat.le_antisymm e h
  rw[FrP.at,if_pos e,e2];grind
 ·rw[FrP.at,if_neg e]
end
section
def HB (x:Rat):List Rat→List Rat
 |[]=>[x]
 |y::l=>if x<y then x::y::l else y::HB x l
def BC (l:List Rat):List Rat:=l.foldl (fun s x=>HB x s) []
theorem Sa (x:Rat): ∀l,(HB x l).length=l.length+1
 |[]=>rfl
 |y::l=>by
  unfold HB
  split
  ·rfl
  ·simp[Sa x l]
theorem M1 {x z:Rat}: ∀ {l},z∈HB x l↔z=x∨z∈l
 |[]=>by simp[HB]
 |y::l=>by
  unfold HB
  split
  ·simp
  ·rw[List.mem_cons,M1,List.mem_cons]
   constructor
   ·rintro(h|h|h)
    ·exact .inr (.inl h)
    ·exact .inl h
    ·exact .inr (.inr h)
   ·rintro(h|h|h)
    ·exact .inr (.inl h)
    ·exact .inl h
    ·exact .inr (.inr h)
theorem KZ {x:Rat}: ∀ {l},l.Pairwise (· ≤ ·)→(HB x l).Pairwise (· ≤ ·)
 |[],_=>by simp[HB]
 |y::l,h=>by
  have h2:=List.pairwise_cons.1 h
  unfold HB
  split
  ·rename_i hxy
   refine List.pairwise_cons.2 ⟨fun z hz=> ?_,h⟩
   rcases List.mem_cons.1 hz with rfl|hz
   ·exact Rat.le_of_lt hxy
   ·exact Rat.le_trans (Rat.le_of_lt hxy) (h2.1 z hz)
  ·rename_i hxy
   refine List.pairwise_cons.2 ⟨fun z hz=> ?_,KZ h2.2⟩
   rcases M1.1 hz with rfl|hz
   ·exact Rat.not_lt.1 hxy
   ·exact h2.1 z hz
theorem J1 (l:List Rat):(BC l).Pairwise (· ≤ ·):=by
 have: ∀(l s:List Rat),s.Pairwise (· ≤ ·)→(l.foldl (fun s x=>HB x s) s).Pairwise (· ≤ ·):=by
  intro l
  induction l with
  |nil=>exact fun s h=>h
  |cons x l ih=>exact fun s h=>ih _ (KZ h)
 exact this l [] List.Pairwise.nil
theorem O0 {z:Rat} {l:List Rat}:z∈BC l↔z∈l:=by
 have: ∀(l s:List Rat),z∈l.foldl (fun s x=>HB x s) s↔z∈l∨z∈s:=by
  intro l
  induction l with
  |nil=>exact fun s=>by simp
  |cons x l ih=>
   intro s
   rw[List.foldl_cons,ih,M1,List.mem_cons]
   constructor
   ·rintro(h|h|h)
    ·exact .inl (.inr h)
    ·exact .inl (.inl h)
    ·exact .inr h
   ·rintro((h|h)|h)
    ·exact .inr (.inl h)
    ·exact .inl h
    ·exact .inr (.inr h)
 rw[BC,this];simp
end
section
def Ba:List Rat→List Rat
 |[]=>[]
 |[x]=>[x]
 |x::y::l=>if y=x then Ba (x::l) else x::Ba (y::l)
termination_by l=>l.length
theorem OQ {z:Rat} (l:List Rat):z∈Ba l↔z∈l:=by
 fun_induction Ba l with
 |case1=>exact Iff.rfl
 |case2 x=>exact Iff.rfl
 |case3 x l ih=>rw[ih];simp
 |case4 x y l h ih=>rw[List.mem_cons,ih,List.mem_cons (b:=x)]
theorem Pv (l:List Rat) (h:l.Pairwise (· ≤ ·)):(Ba l).Pairwise (· < ·):=by
 fun_induction Ba l with
 |case1=>exact List.Pairwise.nil
 |case2 x=>simp
 |case3 x l ih=>
  exact ih (List.pairwise_cons.1 h).2
 |case4 x y l hne ih=>
  have h2:=List.pairwise_cons.1 h
  have h3:=List.pairwise_cons.1 h2.2
  refine List.pairwise_cons.2 ⟨fun z hz=> ?_,ih h2.2⟩
  have hxy:x<y:=Rat.lt_of_le_of_ne (h2.1 y (List.mem_cons_self ..)) fun e=>hne e.symm
  rcases List.mem_cons.1 ((OQ _).1 hz) with rfl|hz
  ·exact hxy
  ·exact Rat.not_le.1 fun e=>Rat.not_le.2 hxy (Rat.le_trans (h3.1 z hz) e)
theorem F0: ∀ {l m:List Rat},l.Pairwise (· < ·)→m.Pairwise (· < ·)→(∀z,z∈l↔z∈m)→l=m
 |[],[],_,_,_=>rfl
 |[],y::m,_,_,h=>absurd ((h y).2 (List.mem_cons_self ..)) List.not_mem_nil
 |x::l,[],_,_,h=>absurd ((h x).1 (List.mem_cons_self ..)) List.not_mem_nil
 |x::l,y::m,h1,h2,h=>by
  have a1:=List.pairwise_cons.1 h1
  have a2:=List.pairwise_cons.1 h2
  have hxy:x=y:=by
   rcases List.mem_cons.1 ((h x).1 (List.mem_cons_self ..)) with e|e
   ·exact e
   ·rcases List.mem_cons.1 ((h y).2 (List.mem_cons_self ..)) with e2|e2
    ·exact e2.symm
    ·exact absurd (Rat.le_of_lt (a1.1 y e2)) (Rat.not_le.2 (a2.1 x e))
  subst hxy
  rw[F0 a1.2 a2.2 fun z=> ?_]
  constructor
  ·intro hz
   rcases List.mem_cons.1 ((h z).1 (List.mem_cons_of_mem _ hz)) with e|e
   ·subst e;exact absurd (a1.1 z hz) Rat.lt_irrefl
   ·exact e
  ·intro hz
   rcases List.mem_cons.1 ((h z).2 (List.mem_cons_of_mem _ hz)) with e|e
   ·subst e;exact absurd (a2.1 z hz) Rat.lt_irrefl
   ·exact e
end
section
def Da (f g:FrP) (t:Rat):Bool:=decide (f.at t=g.at t)&&(decide (f.velB t≠g.velB t)||decide (f.velA t≠g.velA t))
def eqL (f g:FrP):List Rat:=Ba (BC ((AW f g).filter (Da f g)))
theorem Rr {f g:FrP} {t:Rat}:Da f g t=true↔f.at t=g.at t∧(f.velB t≠g.velB t∨f.velA t≠g.velA t):=by
 simp[Da]
theorem LU {f g:FrP} {t:Rat}:t∈eqL f g↔t∈AW f g∧Da f g t=true:=by
 rw[eqL,OQ,O0,List.mem_filter]
theorem To (f g:FrP):(eqL f g).Pairwise (· < ·):=Pv _ (J1 _)
theorem OA {f g:FrP} {t:Rat}:t∈AW f g↔t=f.st∨t=g.st∨(f.vel≠0∧t=f.st+CA f g/f.vel)∨(g.vel≠0∧t=g.st-CA f g/g.vel)∨
  (f.vel≠g.vel∧t=(CA f g+(f.vel*f.st-g.vel*g.st))/(f.vel-g.vel)):=by
 unfold AW
 by_cases h1:f.vel=0<;>by_cases h2:g.vel=0<;>by_cases h3:f.vel=g.vel<;>simp only[h1,h2,h3,if_true,if_false,List.mem_append,List.mem_cons,List.not_mem_nil,or_false,false_or,ne_eq,not_true,not_false_eq_true,true_and,false_and,or_assoc]<;>(try split)<;>simp_all
end
section
open Go Go.RowKit Go.Am Go.Lib
set_option maxRecDepth 10000
theorem Zq {z d:Int} (hz:0≤z) (hd:0<d):0≤(nrm z d).num:=by
 obtain⟨e,rfl⟩: ∃e:Nat,d=((e+1:Nat):Int):=⟨(d-1).toNat,by omega⟩
 unfold nrm
 rw[if_neg (by omega),mkRat,dif_neg (by omega),Rat.normalize_eq]
 exact Int.ediv_nonneg hz (by omega)
theorem Zh {s t:Sd} (h:rgd s=true):(frO s t).OK:=by
 obtain⟨hx,hy,hp,hr⟩:=ED h
 refine⟨?_, ?_, ?_, ?_, ?_, ?_⟩
 ·show 0≤(if _ then s.x else s.y);split<;>omega
 ·show(if _ then s.x else s.y)≤65536;split<;>omega
 ·show LY _=1∨LY _= -1
  unfold LY;split
  ·exact .inl I
  ·exact .inr I
 ·show szQ (if s.gable then(0:Rat) else nrm s.run s.rise) 36
  cases hg:s.gable with
  |true=>rw[if_pos rfl];exact⟨by decide,by decide⟩
  |false=>
   obtain⟨h1,h2⟩:=hr hg
   rw[if_neg (by decide)]
   exact szQ.mono (k:=2) (IE _ (by omega) (by show _<100;omega) (by show _<100;omega)) (by decide)
 ·exact szQ.mono (k:=5) (EJ (by show _<100000;omega) (by decide)) (by decide)
 ·show 0≤(if s.gable then(0:Rat) else nrm s.run s.rise).num
  cases hg:s.gable with
  |true=>rw[if_pos rfl];decide
  |false=>
   obtain⟨h1,h2⟩:=hr hg
   rw[if_neg (by decide)]
   exact Zq (by omega) (by omega)
end
section
theorem VL {f g:FrP} {t:Rat} (h:Da f g t=true):(f.vel≠0∧t=f.st+CA f g/f.vel∧f.st≤t∧t≤g.st)∨(g.vel≠0∧t=g.st-CA f g/g.vel∧g.st≤t∧t≤f.st)∨
  (f.vel≠g.vel∧t=(CA f g+(f.vel*f.st-g.vel*g.st))/(f.vel-g.vel)):=by
 rw[Rr] at h
 obtain⟨he,h⟩:=h
 have key: ∀(c1:f.st≤t∨t≤f.st) (c2:g.st≤t∨t≤g.st),True:=fun _ _=>trivial
 have both:f.st≤t→g.st≤t→f.vel≠g.vel→t=(CA f g+(f.vel*f.st-g.vel*g.st))/(f.vel-g.vel):=fun h1 h2 h3=>by
  rw[FrP.at_ge h1,FrP.at_ge h2] at he
  have:f.vel-g.vel≠0:=by grind
  unfold CA
  grind
 have fst:f.st≤t→t≤g.st→f.vel≠0→t=f.st+CA f g/f.vel:=fun h1 h2 h3=>by
  rw[FrP.at_ge h1,FrP.at_le h2] at he
  unfold CA
  grind
 have snd:t≤f.st→g.st≤t→g.vel≠0→t=g.st-CA f g/g.vel:=fun h1 h2 h3=>by
  rw[FrP.at_le h1,FrP.at_ge h2] at he
  unfold CA
  grind
 rcases h with h|h
 ·unfold FrP.velB at h
  by_cases c1:f.st<t
  ·rw[if_pos c1] at h
   by_cases c2:g.st<t
   ·rw[if_pos c2] at h
    exact .inr (.inr ⟨h,both (Rat.le_of_lt c1) (Rat.le_of_lt c2) h⟩)
   ·rw[if_neg c2] at h
    exact .inl ⟨h,fst (Rat.le_of_lt c1) (Rat.not_lt.1 c2) h,Rat.le_of_lt c1,Rat.not_lt.1 c2⟩
  ·rw[if_neg c1] at h
   by_cases c2:g.st<t
   ·rw[if_pos c2] at h
    exact .inr (.inl ⟨fun e=>h e.symm,snd (Rat.not_lt.1 c1) (Rat.le_of_lt c2) (fun e=>h e.symm),Rat.le_of_lt c2,Rat.not_lt.1 c1⟩)
   ·rw[if_neg c2] at h
    exact absurd I h
 ·unfold FrP.velA at h
  by_cases c1:t<f.st
  ·rw[if_pos c1] at h
   by_cases c2:t<g.st
   ·rw[if_pos c2] at h
    exact absurd I h
   ·rw[if_neg c2] at h
    exact .inr (.inl ⟨fun e=>h e.symm,snd (Rat.le_of_lt c1) (Rat.not_lt.1 c2) (fun e=>h e.symm),Rat.not_lt.1 c2,Rat.le_of_lt c1⟩)
  ·rw[if_neg c1] at h
   by_cases c2:t<g.st
   ·rw[if_pos c2] at h
    exact .inl ⟨h,fst (Rat.not_lt.1 c1) (Rat.le_of_lt c2) h,Rat.not_lt.1 c1,Rat.le_of_lt c2⟩
   ·rw[if_neg c2] at h
    exact .inr (.inr ⟨h,both (Rat.not_lt.1 c1) (Rat.not_lt.1 c2) h⟩)
theorem UD {f g:FrP} {t:Rat} (h:Da f g t=true):t∈eqL f g:=by
 rw[LU,OA]
 refine⟨?_,h⟩
 rcases VL h with⟨h0,h1,_⟩|⟨h0,h1,_⟩|⟨h0,h1⟩
 ·exact .inr (.inr (.inl ⟨h0,h1⟩))
 ·exact .inr (.inr (.inr (.inl ⟨h0,h1⟩)))
 ·exact .inr (.inr (.inr (.inr ⟨h0,h1⟩)))
end
section
def CE (a:Rat):List Rat→List Rat
 |[]=>[a]
 |b::l=>if a<b then a::b::l else if a=b then b::l else b::CE a l
theorem F8 {a z:Rat}: ∀ {l:List Rat},z∈CE a l↔z=a∨z∈l
 |[]=>by simp[CE]
 |b::l=>by
  unfold CE
  split
  ·simp
  ·split
   ·rename_i h
    subst h
    simp
   ·rw[List.mem_cons,F8,List.mem_cons]
    constructor
    ·rintro(h|h|h)
     ·exact .inr (.inl h)
     ·exact .inl h
     ·exact .inr (.inr h)
    ·rintro(h|h|h)
     ·exact .inr (.inl h)
     ·exact .inl h
     ·exact .inr (.inr h)
theorem DY {a:Rat}: ∀ {l:List Rat},l.Pairwise (· < ·)→(CE a l).Pairwise (· < ·)
 |[],_=>by simp[CE]
 |b::l,h=>by
  have h2:=List.pairwise_cons.1 h
  unfold CE
  split
  ·rename_i hab
   refine List.pairwise_cons.2 ⟨fun z hz=> ?_,h⟩
   rcases List.mem_cons.1 hz with rfl|hz
   ·exact hab
   ·have:=h2.1 z hz
    exact Rat.not_le.1 fun hc=>Rat.not_lt.2 (Rat.le_trans hc (Rat.le_of_lt hab)) this
  ·split
   ·exact h
   ·rename_i h1 hne
    have hba:b<a:=Rat.lt_of_le_of_ne (Rat.not_lt.1 h1) fun e=>hne e.symm
    refine List.pairwise_cons.2 ⟨fun z hz=> ?_,DY h2.2⟩
    rcases F8.1 hz with rfl|hz
    ·exact hba
    ·exact h2.1 z hz
def below (a:Rat) (l:List Rat):Nat:=(l.takeWhile fun z=>decide (z<a)).length
theorem JZ (a:Rat): ∀l:List Rat,below a l≤l.length
 |[]=>Nat.le_refl _
 |b::l=>by
  have ih:=JZ a l
  unfold below at ih⊢
  rw[List.takeWhile_cons]
  split
  ·simpa using ih
  ·simp
theorem Mo (a b:Rat) (l:List Rat):below a (b::l)=if b<a then below a l+1 else 0:=by
 unfold below
 rw[List.takeWhile_cons]
 by_cases h:b<a
 ·rw[if_pos h,if_pos (dT h)];rfl
 ·rw[if_neg h,if_neg (by simpa using h)];rfl
theorem Q2 {a:Rat}: ∀ {l:List Rat} (_:l.Pairwise (· < ·)) (i:Nat) (hi:i<l.length),l[i]<a↔i<below a l
 |b::l,h,i,hi=>by
  have h2:=List.pairwise_cons.1 h
  rw[Mo]
  by_cases hb:b<a
  ·rw[if_pos hb]
   cases i with
   |zero=>exact⟨fun _=>Nat.succ_pos _,fun _=>hb⟩
   |succ i=>
    have ih:=Q2 (a:=a) h2.2 i (by simpa using hi)
    rw[List.getElem_cons_succ,ih]
    omega
  ·rw[if_neg hb]
   refine⟨fun hc=> ?_,fun hc=>absurd hc (Nat.not_lt_zero _)⟩
   cases i with
   |zero=>exact absurd hc hb
   |succ i=>
    have h3:=h2.1 _ (List.getElem_mem (show i<l.length by simpa using hi))
    rw[List.getElem_cons_succ] at hc
    exact absurd (Rat.not_le.1 fun h4=>Rat.not_lt.2 (Rat.le_trans h4 (Rat.le_of_lt h3)) hc) hb
theorem PW {a:Rat}: ∀ {l:List Rat},l.Pairwise (· < ·)→CE a l=if l[below a l]? =some a then l else l.take (below a l)++a::l.drop (below a l)
 |[],_=>by simp[CE,below]
 |b::l,h=>by
  have h2:=List.pairwise_cons.1 h
  have ih:=PW (a:=a) h2.2
  unfold CE
  rw[Mo]
  by_cases hb:b<a
  ·have hn: ¬a<b:=Rat.not_lt.2 (Rat.le_of_lt hb)
   have hne: ¬a=b:=fun e=>by rw[e] at hb;exact Rat.lt_irrefl hb
   rw[if_neg hn,if_neg hne,if_pos hb,List.getElem?_cons_succ,List.take_succ_cons,List.drop_succ_cons,ih]
   split
   ·rfl
   ·rfl
  ·rw[if_neg hb]
   by_cases hab:a<b
   ·have hne: ¬(b::l)[0]? =some a:=fun e=>by
     have e:b=a:=by simpa using e
     rw[e] at hab;exact Rat.lt_irrefl hab
    rw[if_pos hab,if_neg hne];rfl
   ·have e:a=b:=Rat.le_antisymm (Rat.not_lt.1 hb) (Rat.not_lt.1 hab)
    subst e
    rw[if_neg hab,if_pos rfl,if_pos (by simp)]
def EE (l xs:List Rat):List Rat:=xs.foldl (fun o z=>CE z o) l
theorem Dn {z:Rat}: ∀(xs l:List Rat),z∈EE l xs↔z∈l∨z∈xs
 |[],l=>by simp[EE]
 |x::xs,l=>by
  show z∈EE (CE x l) xs↔_
  rw[Dn xs,F8,List.mem_cons]
  constructor
  ·rintro((h|h)|h)
   ·exact .inr (.inl h)
   ·exact .inl h
   ·exact .inr (.inr h)
  ·rintro(h|h|h)
   ·exact .inl (.inr h)
   ·exact .inl (.inl h)
   ·exact .inr h
theorem Cy: ∀(xs l:List Rat),l.Pairwise (· < ·)→(EE l xs).Pairwise (· < ·)
 |[],_,h=>h
 |_::xs,_,h=>Cy xs _ (DY h)
theorem JD (l xs ys:List Rat):EE l (xs++ys)=EE (EE l xs) ys:=List.foldl_append
theorem KR (l xs:List Rat) (y:Rat):EE l (xs++[y])=CE y (EE l xs):=JD l xs [y]
theorem RP (a:Rat): ∀l:List Rat,(CE a l).length≤l.length+1
 |[]=>Nat.le_refl _
 |b::l=>by
  have ih:=RP a l
  unfold CE
  split
  ·simp
  ·split
   ·simp
   ·simpa using ih
theorem EX: ∀(xs l:List Rat),(EE l xs).length≤l.length+xs.length
 |[],_=>Nat.le_refl _
 |x::xs,l=>by
  have h1:=EX xs (CE x l)
  have h2:=RP x l
  show(EE (CE x l) xs).length≤_
  rw[List.length_cons];omega
end
section
def alw (f g:FrP):Prop:=f.pos=g.pos∧f.sp=g.sp∧(f.sp=0∨(f.st=g.st∧f.hd=g.hd))
def ZY (f g:FrP) (z:Rat) (i k:Int):Int:=if Co (f.at z) (g.at z)≠0 then Co (f.at z) (g.at z) else if Co (f.velA z) (g.velA z)≠0 then Co (f.velA z) (g.velA z) else i-k
theorem I4 {p q:Rat}:Co p q=0↔p=q:=by
 unfold Co
 by_cases h:p<q
 ·rw[if_pos h]
  exact⟨fun e=>(by cases e),fun e=>by rw[e] at h;exact absurd h Rat.lt_irrefl⟩
 ·rw[if_neg h]
  by_cases e:p=q
  ·rw[if_pos e];exact⟨fun _=>e,fun _=>rfl⟩
  ·rw[if_neg e];exact⟨fun h=>(by cases h),fun h=>absurd h e⟩
end
section
def fr (F:List FrP) (i:Nat):FrP:=F.getD i ⟨false,0,1,0,0⟩
theorem Fj {F:List FrP} {i:Nat} (h:i<F.length):F[i]? =some (fr F i):=by simp[fr,h]
def Fh (F:List FrP) (i k:Nat):List (Nat×Nat):=if (fr F i).ax=(fr F k).ax then[(i,k)] else[]
def FV (F:List FrP) (i:Nat):List (Nat×Nat):=((List.range F.length).drop (i+1)).flatMap (Fh F i)
def prs (F:List FrP):List (Nat×Nat):=(List.range F.length).flatMap (FV F)
theorem Er {n j k:Nat}:k∈(List.range n).drop j↔j≤k∧k<n:=by
 rw[List.mem_drop_iff_getElem]
 constructor
 ·rintro⟨i,hi,e⟩
  rw[List.getElem_range] at e
  rw[List.length_range] at hi
  omega
 ·rintro⟨h1,h2⟩
  exact⟨k-j,by rw[List.length_range];omega,by rw[List.getElem_range];omega⟩
theorem Pi {F:List FrP} {q:Nat×Nat}:q∈prs F↔q.1<q.2∧q.2<F.length∧(fr F q.1).ax=(fr F q.2).ax:=by
 unfold prs FV Fh
 rw[List.mem_flatMap]
 constructor
 ·rintro⟨i,hi,h⟩
  obtain⟨k,hk,h⟩:=List.mem_flatMap.1 h
  obtain⟨k1,k2⟩:=Er.1 hk
  split at h
  ·rename_i e
   obtain rfl:=List.mem_singleton.1 h
   exact⟨k1,k2,e⟩
  ·cases h
 ·rintro⟨h1,h2,h3⟩
  refine⟨q.1,List.mem_range.2 (by omega),List.mem_flatMap.2 ⟨q.2,Er.2 ⟨h1,h2⟩, ?_⟩⟩
  rw[if_pos h3]
  exact List.mem_singleton.2 I
def E6 (rs:List (List Sd)):List Rat:=(rs.flatten.filter fun s=> !s.gable).map fun s=>(s.plate:Rat)
def st0 (rs:List (List Sd)):List Rat:=EE [] (E6 rs)
def base (rs:List (List Sd)):Rat:=(st0 rs).headD 0
def MM (F:List FrP):List Rat:=(prs F).flatMap fun q=>eqL (fr F q.1) (fr F q.2)
def Bi (rs:List (List Sd)):List Rat:=EE (st0 rs) ((MM (Ao rs)).filter fun z=>decide (base rs<z))
theorem H2 (rs:List (List Sd)):(st0 rs).Pairwise (· < ·):=Cy _ _ List.Pairwise.nil
theorem Lc (rs:List (List Sd)):(Bi rs).Pairwise (· < ·):=Cy _ _ (H2 rs)
theorem GX {rs:List (List Sd)} {z:Rat}:z∈st0 rs↔z∈E6 rs:=by
 unfold st0
 rw[Dn]
 simp
theorem Kg {rs:List (List Sd)} {z:Rat}:z∈Bi rs↔z∈E6 rs∨(z∈MM (Ao rs)∧base rs<z):=by
 unfold Bi
 rw[Dn,GX,List.mem_filter,decide_eq_true_eq]
theorem Kn {rs:List (List Sd)} (h:E6 rs≠[]):base rs∈E6 rs:=by
 unfold base
 cases e:st0 rs with
 |nil=>
  cases e2:E6 rs with
  |nil=>exact absurd e2 h
  |cons x l=>
   have:x∈st0 rs:=GX.2 (by rw[e2];exact List.mem_cons_self ..)
   rw[e] at this;cases this
 |cons x l=>exact GX.1 (by rw[e];exact List.mem_cons_self ..)
theorem XU {rs:List (List Sd)} {z:Rat} (h:z∈Bi rs):base rs≤z:=by
 rcases Kg.1 h with h|h
 ·have h:=GX.2 h
  have hs:=H2 rs
  unfold base
  cases e:st0 rs with
  |nil=>rw[e] at h;cases h
  |cons x l=>
   rw[e] at h hs
   show x≤z
   rcases List.mem_cons.1 h with rfl|h
   ·exact Rat.le_refl
   ·exact Rat.le_of_lt ((List.pairwise_cons.1 hs).1 z h)
 ·exact Rat.le_of_lt h.2
theorem UX {rs:List (List Sd)} (h:E6 rs≠[]): ∃l,Bi rs=base rs::l:=by
 have hb:=Kg.2 (.inl (Kn h))
 have hs:=Lc rs
 cases e:Bi rs with
 |nil=>rw[e] at hb;cases hb
 |cons x l=>
  rw[e] at hb hs
  have h1:base rs≤x:=XU (by rw[e];exact List.mem_cons_self ..)
  rcases List.mem_cons.1 hb with h2|h2
  ·exact⟨l,by rw[h2]⟩
  ·have h3:=(List.pairwise_cons.1 hs).1 _ h2
   exact absurd h3 (Rat.not_lt.2 h1)
theorem Fe {F:List FrP} {i:Nat} (h:i<F.length):fr F i∈F:=List.mem_of_getElem? (Fj h)
def Hr (F:List FrP) (z:Rat) (i k:Nat):Int:=ZY (fr F i) (fr F k) z (i:Int) (k:Int)
end
section
def upr (F:List FrP) (ax:Bool):List Nat:=(List.range F.length).filter fun i=>(fr F i).ax==ax
theorem Yd {F:List FrP} {ax:Bool} {i:Nat}:i∈upr F ax↔i<F.length∧(fr F i).ax=ax:=by
 unfold upr
 rw[List.mem_filter,List.mem_range,beq_iff_eq]
theorem Rv {p q:Rat}:Co p q<0↔p<q:=by
 unfold Co
 by_cases h:p<q
 ·rw[if_pos h];exact⟨fun _=>h,fun _=>by decide⟩
 ·rw[if_neg h]
  refine⟨fun e=> ?_,fun e=>absurd e h⟩
  split at e<;>omega
theorem X6 {F:List FrP} {z:Rat} {i k:Nat}:Hr F z i k<0↔(fr F i).at z<(fr F k).at z∨((fr F i).at z=(fr F k).at z∧((fr F i).velA z<(fr F k).velA z∨((fr F i).velA z=(fr F k).velA z∧i<k))):=by
 unfold Hr ZY
 by_cases h1:(fr F i).at z=(fr F k).at z
 ·rw[if_neg (show¬Co _ _≠0 from fun h=>h (I4.2 h1))]
  by_cases h2:(fr F i).velA z=(fr F k).velA z
  ·rw[if_neg (show¬Co _ _≠0 from fun h=>h (I4.2 h2)),h1,h2]
   constructor
   ·intro h;exact .inr ⟨rfl, .inr ⟨rfl,by omega⟩⟩
   ·rintro(h|⟨_,h|⟨_,h⟩⟩)
    ·exact absurd h Rat.lt_irrefl
    ·exact absurd h Rat.lt_irrefl
    ·omega
  ·rw[if_pos (show Co _ _≠0 from fun h=>h2 (I4.1 h)),Rv,h1]
   constructor
   ·intro h;exact .inr ⟨rfl, .inl h⟩
   ·rintro(h|⟨_,h|⟨h,_⟩⟩)
    ·exact absurd h Rat.lt_irrefl
    ·exact h
    ·exact absurd h h2
 ·rw[if_pos (show Co _ _≠0 from fun h=>h1 (I4.1 h)),Rv]
  constructor
  ·intro h;exact .inl h
  ·rintro(h|⟨h,_⟩)
   ·exact h
   ·exact absurd h h1
end
section
open Go Go.RowKit Go.Am
set_option maxRecDepth 10000
-- BOXES 1
-- CODE2
def Vg (F:List FrP) (i:Nat):List (Nat×Nat):=(List.range i).flatMap (FV F)
def PX (F:List FrP) (i k:Nat):List (Nat×Nat):=((List.range k).drop (i+1)).flatMap (Fh F i)
def RI (F:List FrP) (i:Nat):Nat:=(Vg F i).length
def Hm (F:List FrP) (i k:Nat):Nat:=(Vg F i++PX F i k).length
theorem Pa {n i:Nat} (h:i<n):List.range n=List.range i++i::(List.range n).drop (i+1):=by
 conv=>lhs;rw[←List.take_append_drop i (List.range n),List.drop_eq_getElem_cons (by rw[List.length_range];exact h),List.take_range,Nat.min_eq_left (Nat.le_of_lt h),List.getElem_range]
theorem SZ {n i k:Nat} (h:i+1≤k) (hk:k<n):(List.range n).drop (i+1)=(List.range k).drop (i+1)++k::(List.range n).drop (k+1):=by
 conv=>lhs;rw[Pa hk,List.drop_append_of_le_length (by rw[List.length_range];exact h)]
theorem Yp {F:List FrP} {i:Nat} (h:i<F.length):prs F=Vg F i++(FV F i++((List.range F.length).drop (i+1)).flatMap (FV F)):=by
 unfold prs Vg
 conv=>lhs;rw[Pa h,List.flatMap_append,List.flatMap_cons]
theorem VH {F:List FrP} {i k:Nat} (h:i+1≤k) (hk:k<F.length):FV F i=PX F i k++(Fh F i k++((List.range F.length).drop (k+1)).flatMap (Fh F i)):=by
 unfold FV PX
 conv=>lhs;rw[SZ h hk,List.flatMap_append,List.flatMap_cons]
theorem Va (F:List FrP) (i:Nat):Hm F i (i+1)=RI F i:=by
 unfold Hm RI PX
 rw[List.drop_of_length_le (by rw[List.length_range];exact Nat.le_refl _),List.flatMap_nil,List.append_nil]
theorem Xj (F:List FrP) (i:Nat):Hm F i F.length=RI F (i+1):=by
 unfold Hm RI Vg PX
 rw[List.range_succ,List.flatMap_append,List.flatMap_cons,List.flatMap_nil,List.append_nil];rfl
theorem OJ {F:List FrP} {i k:Nat} (h:i+1≤k):PX F i (k+1)=PX F i k++Fh F i k:=by
 unfold PX
 rw[List.range_succ,List.drop_append_of_le_length (by rw[List.length_range];exact h),List.flatMap_append,List.flatMap_cons,List.flatMap_nil,List.append_nil]
theorem XR {F:List FrP} {i k:Nat} (h:i+1≤k) (hax:(fr F i).ax≠(fr F k).ax):Hm F i (k+1)=Hm F i k:=by
 unfold Hm
 rw[OJ h,Fh,if_neg hax,List.append_nil]
theorem Ws {F:List FrP} {i k:Nat} (h:i+1≤k) (hk:k<F.length) (hax:(fr F i).ax=(fr F k).ax):Hm F i (k+1)=Hm F i k+1∧(prs F).getD (Hm F i k) (0,0)=(i,k)∧Hm F i k<(prs F).length:=by
 have e:prs F=(Vg F i++PX F i k)++((i,k)::(((List.range F.length).drop (k+1)).flatMap (Fh F i)++((List.range F.length).drop (i+1)).flatMap (FV F))):=by
  rw[Yp (show i<F.length by omega),VH h hk,Fh,if_pos hax]
  simp only[List.append_assoc,List.cons_append,List.nil_append]
 refine⟨?_, ?_, ?_⟩
 ·unfold Hm
  rw[OJ h,Fh,if_pos hax, ←List.append_assoc,List.length_append];rfl
 ·unfold Hm
  rw[e,List.getD_eq_getElem?_getD,List.getElem?_append_right (Nat.le_refl _),Nat.sub_self];rfl
 ·unfold Hm
  rw[e];simp only[List.length_append,List.length_cons];omega
abbrev Y7 (F:List FrP) (k:Nat):List Value:=[.int .i64 (((prs F).getD k (0,0)).1:Nat), .int .i64 (((prs F).getD k (0,0)).2:Nat)]
structure aB (b1 gF cF:Nat) (F:List FrP) (W:World):Prop where
 hdr:An W b1 0 [.slice (some ⟨gF,0,none⟩) F.length cF]
 row: ∀m,m<F.length→An W gF (0+m*5) (frV (fr F m)).cells.toList
abbrev frZ:Value:= .agg #[.bool false, .int .i64 0, .int .i64 0,str [],str []]
abbrev Tu (b:Nat) (f:FrP):List (Nat×Obj):=[(b, .cells (frV f).cells 48 (0,0))]
theorem Nv (F:List FrP) (b1 gF cF:Nat) (hn:F.length<1099511627776):YP Tryz.prog 116 [Ap b1] (prs F).length (Y7 F) (fun _=>aB b1 gF cF F):=by
 refine⟨fun y J Jx hN hB hA hU hY W hJ=> ?_⟩
 have hdr: ∀k L W,J k L W→J k L { W with drawn:=W.drawn+1 }:=fun k L W h=>hB k L W _ h ⟨rfl,rfl,rfl,Nat.le_refl _,fun _ _=>rfl⟩
 refine E4 (args:=[.func (.yield y) #[] #[],Ap b1]) (J0:=J 0 []) (Jm:=fun W=> ∃L,J (prs F).length L W) Tryz.func116 I I I hJ ?_
 refine zA (zB (wL 0 I I (fun W hp=>(hN _ _ W hp).1.hdr) I (wP I (wP I (Aa (zE (zH ?_)))))))
 refine Eu (X:=Nat×List (Nat×Obj)) (fun s=>[(0, .func (.yield y) #[] #[]),(1,Ap b1),(6, .slice (some ⟨gF,0,none⟩) F.length cF),(7, .int .i64 (F.length:Nat)),(8, .int .i64 (s.1:Nat))]) (fun s W=>J (RI F s.1) s.2 W)
  (fun s=>s.1≤F.length) (fun s=>F.length-s.1) (0,[]) (Nat.zero_le _) ⟨rfl,rfl,rfl,rfl,rfl,trivial⟩ (fun W hp=>hp) ?_
 rintro⟨i,L⟩ hi
 have hi:i≤F.length:=hi
 refine zA (zB (wP I ?_))
 by_cases hlt:i<F.length
 rotate_left
 ·refine wU 9 false I (dF (by omega)) (Aa (zE (zA (zS I (zJ (zK (zK (zL ?_))))))))
  exact GY I fun W hp=>⟨L,by
   have e:i=F.length:=by omega
   have hp:J (RI F i) L W:=hp
   rw[e] at hp
   exact hp⟩
 refine wU 9 true I (dT (by omega)) (Aa (zE (zA (zR I (zI (zE (zA (zH (zA (zB (wP I ?_)))))))))))
 refine wJ ?_
 refine wL 0 I I (fun W hp=>(hN _ _ W hp).1.row i hlt) I ?_
 refine UT (fun b W=>J (RI F i) [(b, .cells frZ.cells 48 (0,0))] W) I I I (Tryz.hZ.get I) (fun W W' b hp hb hl ho=>hA _ _ W W' b _ hp hb hl ho) fun b=> ?_
 refine wP I ?_
 refine U6 (cs:=[.bool false, .int .i64 0, .int .i64 0,str [],str []]) (ty:=48) (fun W=>J (RI F i) (Tu b (fr F i)) W) tH I I I I I I (fun W hp=>(hN _ _ W hp).2 (b,_) (List.mem_cons_self ..)) I I I (fun W W' hp hu=>hU _ _ _ _ W W' hp hu) ?_
 refine Aa (zE (zA (zB (wP I (wP I (wV 14 ((i+1:Nat):Int) I (At (by omega)) (wP I (Aa (zE (zH ?_))))))))))
 refine Eu (X:=Nat) (fun k=>[(0, .func (.yield y) #[] #[]),(1,Ap b1),(6, .slice (some ⟨gF,0,none⟩) F.length cF),(7, .int .i64 (F.length:Nat)),(8, .int .i64 (i:Nat)),(3, .int .i64 (i:Nat)),(4,Ap b),(5, .int .i64 (k:Nat))]) (fun k W=>J (Hm F i k) (Tu b (fr F i)) W)
  (fun k=>i+1≤k∧k≤F.length) (fun k=>F.length-k) (i+1) ⟨Nat.le_refl _,hlt⟩ ⟨rfl,rfl,rfl,rfl,rfl,rfl,rfl,rfl,trivial⟩ (fun W hp=>by rw[Va];exact hp) ?_
 rintro k ⟨hk1,hk2⟩
 refine zA (zA (zB (wP I (wL 0 I I (fun W hp=>(hN _ _ W hp).1.hdr) I (wP I (wP I ?_))))))
 by_cases hkl:k<F.length
 rotate_left
 ·refine wU 18 false I (dF (by omega)) (Aa (zE (zS I (zJ (zK (zK (zL (zN (zE (zB (wP I (wV 36 ((i+1:Nat):Int) I (At (by omega)) (wP I ?_)))))))))))))
  refine Aa ?_
  exact Cu (i+1,Tu b (fr F i)) hlt (by show F.length-(i+1)<F.length-i;omega) ⟨I,I,I,I,I,O⟩ (fun W hp=>by
   have e:k=F.length:=by omega
   have hp:J (Hm F i k) (Tu b (fr F i)) W:=hp
   rw[e,Xj] at hp
   exact hp)
 refine wU 18 true I (dT (by omega)) (Aa (zE (zR I (zI (zE (zA (zH (zA ?_))))))))
 refine Gc 12 (hdr _ _) Tryz.mixed (by kernel_rfl) I ?_
 refine qP I (qL 0 I I (fun W hp=>show An W b 0 (frV (fr F i)).cells.toList from An.of_block ((hN _ _ W hp).2 (b,_) (List.mem_cons_self ..))) I (qL 0 I I (fun W hp=>(hN _ _ W hp).1.hdr) I (qP I ?_)))
 refine qJ ?_
 refine qP I (qL 0 I I (fun W hp=>(hN _ _ W hp).1.row k hkl) I ?_)
 refine MA Tryz.underlying4 I I I I I I ?_
 by_cases hax:(fr F i).ax=(fr F k).ax
 ·obtain⟨e1,e2,e3⟩:=Ws hk1 hkl hax
  have hYk: ∀W,J (Hm F i k) (Tu b (fr F i)) W→YieldAt (Fw none) 0 Tryz.prog y [.int .i64 (i:Nat), .int .i64 (k:Nat)].toArray W fun e W'=>(e= .returned (.bool true)∧J (Hm F i k+1) (Tu b (fr F i)) W')∨(e= .returned (.bool false)∧Jx W'):=fun W h=>by
   have:=hY _ _ W e3 h
   rwa [Y7,e2] at this
  refine qU 28 true I (by rw[hax];exact beq_self_eq_true _) (qP I (qP I (qP I (qP I (A4 ?_)))))
  refine DC (A1:=fun W=>J (Hm F i k+1) (Tu b (fr F i)) W) (A2:=Jx) I I I I I I hYk ?_ ?_
  rotate_left
  ·exact wP I (wP I (Aa (zE (zR I (zO (zQ (zP (zP (zQ (zQ (zP (zP (zQ (Ce I (fun W h=>h)))))))))))))))
  exact wP I (wP I (Aa (zE (zS I (zI (zN (zE (zB (wP I (wP I (wV 20 ((k+1:Nat):Int) I (At (by omega)) (wP I (Aa (Cu (k+1) ⟨by omega,hkl⟩ (by show F.length-(k+1)<F.length-k;omega) ⟨I,I,I,I,I,I,I,I,O⟩ (fun W hp=>by rw[e1];exact hp)))))))))))))))
 ·refine qU 28 false I (beq_eq_false_iff_ne.2 hax) ?_
  have e1:=XR hk1 hax
  refine qP I ?_
  iterate 3 refine BA I I ?_
  refine A4 ?_
  iterate 2 refine Ae I I ?_
  exact wP I (Aa (zE (zS I (zI (zN (zE (zB (wP I (wP I (wV 20 ((k+1:Nat):Int) I (At (by omega)) (wP I (Aa (Cu (k+1) ⟨by omega,hkl⟩ (by show F.length-(k+1)<F.length-k;omega) ⟨I,I,I,I,I,I,I,I,O⟩ (fun W hp=>by rw[e1];exact hp))))))))))))))
theorem Lk (W:World) (v:Value):Ad Tryz.prog 57 #[v] W (fun b:Nat=> .func (.func 116) #[] #[Ap b]) (fun _=>True) (fun b=>[⟨b,63,v.cells.toList,true,none⟩]):=by
 refine Ab (args:=[v]) Tryz.func57 I I I ?_
 refine zA (zB ?_)
 (refine A3 rfl rfl rfl rfl ?_;intro)
 refine wP I (Aa ?_)
 rename_i b
 exact zE (zA (zB (wP I (wP I (Aa (zE (zO (A9 tH I (.tmp I) b I O fun W1 hp=>Av.of_hp hp))))))))
end
section
open Go Go.RowKit Go.Am Go.Lib
set_option maxRecDepth 10000
-- BOXES 4
structure aJ (b1 b2:Nat) (f g:FrP) (W:World):Prop where
 f:An W b1 0 (frV f).cells.toList
 g:An W b2 0 (frV g).cells.toList
 v:BP W
 t:AJ W
structure Wo (f g:FrP):Prop where
 d1:f.vel≠0→Sz2 (CA f g) f.vel
 a1:f.vel≠0→Sz2 f.st (CA f g/f.vel)
 d2:g.vel≠0→Sz2 (CA f g) g.vel
 a2:g.vel≠0→Sz2 g.st (CA f g/g.vel)
 m1:Sz2 f.vel f.st
 m2:Sz2 g.vel g.st
 s:Sz2 (f.vel*f.st) (g.vel*g.st)
 a:Sz2 (CA f g) (f.vel*f.st-g.vel*g.st)
 w:Sz2 f.vel g.vel
 d:f.vel≠g.vel→Sz2 (CA f g+(f.vel*f.st-g.vel*g.st)) (f.vel-g.vel)
def mi3 (f:FrP):Nat:=if f.vel=0 then 2 else 3
def mi4 (f g:FrP):Nat:=if g.vel=0 then mi3 f else mi3 f+1
theorem ZO (f g:FrP):(AW f g).getD 0 0=f.st∧(AW f g).getD 1 0=g.st∧1<(AW f g).length:=by
 unfold AW
 by_cases h1:f.vel=0<;>by_cases h2:g.vel=0<;>by_cases h3:f.vel=g.vel<;>simp only[h1,h2,h3,if_true,if_false]<;>(try split)<;>simp
theorem ZM {f g:FrP} (h:f.vel≠0):(AW f g).getD 2 0=f.st+CA f g/f.vel∧2<(AW f g).length:=by
 unfold AW
 by_cases h2:g.vel=0<;>by_cases h3:f.vel=g.vel<;>simp only[h,h2,h3,if_true,if_false]<;>(try split)<;>simp_all
theorem aD {f g:FrP} (h:g.vel≠0):(AW f g).getD (mi3 f) 0=g.st-CA f g/g.vel∧mi3 f<(AW f g).length∧mi4 f g=mi3 f+1:=by
 unfold AW mi4 mi3
 by_cases h2:f.vel=0<;>by_cases h3:f.vel=g.vel<;>simp only[h,h2,h3,if_true,if_false]<;>(try split)<;>simp_all
theorem aF {f g:FrP} (h:f.vel≠g.vel):(AW f g).getD (mi4 f g) 0=(CA f g+(f.vel*f.st-g.vel*g.st))/(f.vel-g.vel)∧mi4 f g<(AW f g).length∧(AW f g).length=mi4 f g+1:=by
 unfold AW mi4 mi3
 by_cases h2:f.vel=0<;>by_cases h3:g.vel=0<;>simp only[h,h2,h3,if_true,if_false]<;>(try split)<;>simp_all
theorem aE {f g:FrP} (h:f.vel=g.vel):(AW f g).length=mi4 f g:=by
 unfold AW mi4 mi3
 by_cases h2:f.vel=0<;>by_cases h3:g.vel=0<;>simp_all
abbrev Sx (l:List Rat) (k:Nat):List Value:=[str (Ac (l.getD k 0))]
theorem U4 (f g:FrP) (hf:f.OK) (hg:g.OK) (hz:Wo f g) (b1 b2:Nat):
  Wf Tryz.prog 154 [Ap b1,Ap b2] (AW f g).length (Sx (AW f g)) (fun _=>aJ b1 b2 f g):=by
 refine⟨fun y J Jx hN hB hY W hJ=> ?_⟩
 have hG: ∀k,YQ (J k):=fun k W W' h hb=>hB k W W' h hb
 have hdr: ∀k W,J k W→J k { W with drawn:=W.drawn+1 }:=fun k W h=>hB k W _ h ⟨rfl,rfl,rfl,Nat.le_refl _,fun _ _=>rfl⟩
 obtain⟨e0,e1,l1⟩:=ZO f g
 have hY0: ∀W,J 0 W→YieldAt (Fw none) 0 Tryz.prog y [str (Ac f.st)].toArray W fun e W'=>(e= .returned (.bool true)∧J 1 W')∨(e= .returned (.bool false)∧Jx W'):=fun W h=>by
  have:=hY 0 W (by omega) h
  rwa [Sx,e0] at this
 have hY1: ∀W,J 1 W→YieldAt (Fw none) 0 Tryz.prog y [str (Ac g.st)].toArray W fun e W'=>(e= .returned (.bool true)∧J 2 W')∨(e= .returned (.bool false)∧Jx W'):=fun W h=>by
  have:=hY 1 W (by omega) h
  rwa [Sx,e1] at this
 refine E4 (args:=[.func (.yield y) #[] #[],Ap b1,Ap b2]) (J0:=J 0) Tryz.func154 I I I hJ ?_
 refine zA (zA (zB (wP I (wP I (wL 4 I I (fun W hp=>(hN 0 W hp).f) I ?_)))))
 refine DC (A1:=J 1) (A2:=Jx) I I I I I I hY0 ?_ ?_
 rotate_left
 ·refine wP I (wP I ?_)
  iterate 5 refine Ae I I ?_
  exact wP I (zC (zE (zR I (zO (zP (Ce I (fun W h=>h)))))))
 refine wP I (wP I (wP I (wP I (wL 4 I I (fun W hp=>(hN 1 W hp).g) I ?_))))
 refine DC (A1:=J 2) (A2:=Jx) I I I I I I hY1 ?_ ?_
 rotate_left
 ·exact wP I (wP I (zC (zE (zR I (zO (zP (Ce I (fun W h=>h))))))))
 refine wP I (wP I (Aa (zE (zS I (zI (zE (zA ?_)))))))
 refine Gc 6 (hdr 2) Tryz.mixed (by kernel_rfl) I ?_
 refine qL 0 I I (fun W hp=>(hN 2 W hp).f) I ?_
 refine Cl (hG 2) I I I I I I (by kernel_rfl) (fun W hp=>Cq f hf W (hN 2 W hp).v (hN 2 W hp).t) ?_
 refine qL 0 I I (fun W hp=>(hN 2 W hp).g) I ?_
 refine Cl (hG 2) I I I I I I (by kernel_rfl) (fun W hp=>Cq g hg W (hN 2 W hp).v (hN 2 W hp).t) ?_
 refine qP I (qP I (A4 (Aa (zE (zA ?_)))))
 refine Gc 8 (hdr 2) Tryz.mixed (by kernel_rfl) I ?_
 refine qP I (qL 1 I I (fun W hp=>(hN 2 W hp).g) I ?_)
 refine Cl (hG 2) I I I I I I (by kernel_rfl) (fun W hp=>El g.pos hg.pos64 W (hN 2 W hp).t) ?_
 refine qP I (qL 1 I I (fun W hp=>(hN 2 W hp).f) I ?_)
 refine Cl (hG 2) I I I I I I (by kernel_rfl) (fun W hp=>El f.pos hf.pos64 W (hN 2 W hp).t) ?_
 refine Cl (hG 2) I I I I I I (by kernel_rfl) (fun W hp=>FO (g.pos:Rat) (f.pos:Rat) (sz2 hg.posz hf.posz (by decide)) W (hN 2 W hp).v (hN 2 W hp).t) ?_
 refine qP I (A4 (Aa (zE (zA (zA ?_)))))
 -- the first one's velocity
 refine T5 (X:=Bool) (fun s=>[(0, .func (.yield y) #[] #[]),(1,Ap b1),(2,Ap b2),(4,str (Ac f.vel)),(5,str (Ac g.vel)),(6,str (Ac (CA f g))),(42, .bool s)]) (fun s=>match s with|true=>Jx|false=>J (mi3 f)) (fun _=>True) ?_ ?_
 ·skip
  refine Gc 10 (hdr 2) Tryz.mixed (by kernel_rfl) I ?_
  refine qP I (qP I ?_)
  by_cases h:f.vel=0
  ·refine qU 31 false I (by show(!_)=false;rw[AH,EY,dT h];rfl) (qP I ?_)
   iterate 7 refine BA I I ?_
   refine zD ?_
   iterate 2 refine Ae I I ?_
   exact wP I (zC (I7 false O ⟨I,I,I,I,I,I,I,O⟩ (fun W hp=>by show J (mi3 f) W;rw[mi3,if_pos h];exact hp)))
  ·refine qU 31 true I (by show(!_)=true;rw[AH,EY,dF h];rfl) ?_
   obtain⟨e2,l2⟩:=ZM (g:=g) h
   have hY2: ∀W,J 2 W→YieldAt (Fw none) 0 Tryz.prog y [str (Ac (f.st+CA f g/f.vel))].toArray W fun e W'=>(e= .returned (.bool true)∧J 3 W')∨(e= .returned (.bool false)∧Jx W'):=fun W h=>by
    have:=hY 2 W (by omega) h
    rwa [Sx,e2] at this
   refine qP I (qP I (qP I (qL 4 I I (fun W hp=>(hN 2 W hp).f) I (qP I (qP I ?_)))))
   refine Cl (hG 2) I I I I I I (by kernel_rfl) (fun W hp=>Jk (CA f g) f.vel (hz.d1 h) (by rwa [ne_eq,Rat.num_eq_zero]) W (hN 2 W hp).v (hN 2 W hp).t) ?_
   refine Cl (hG 2) I I I I I I (by kernel_rfl) (fun W hp=>Jb f.st (CA f g/f.vel) (hz.a1 h) W (hN 2 W hp).v (hN 2 W hp).t) ?_
   refine A4 ?_
   refine DC (A1:=J 3) (A2:=Jx) I I I I I I hY2 ?_ ?_
   ·exact wP I (wP I (zC (I7 false O ⟨I,I,I,I,I,I,I,O⟩ (fun W hp=>by show J (mi3 f) W;rw[mi3,if_neg h];exact hp))))
   ·exact wP I (wP I (zC (I7 true O ⟨I,I,I,I,I,I,I,O⟩ (fun W hp=>hp))))
 rintro(_|_) _
 rotate_left
 ·exact zR I (zO (zP (Ce I (fun W h=>h))))
 -- the second one's
 refine zS I (zI (zE (zA (zA ?_))))
 refine T5 (X:=Bool) (fun s=>[(0, .func (.yield y) #[] #[]),(1,Ap b1),(2,Ap b2),(4,str (Ac f.vel)),(5,str (Ac g.vel)),(6,str (Ac (CA f g))),(55, .bool s)]) (fun s=>match s with|true=>Jx|false=>J (mi4 f g)) (fun _=>True) ?_ ?_
 ·skip
  refine Gc 10 (hdr (mi3 f)) Tryz.mixed (by kernel_rfl) I ?_
  refine qP I (qP I ?_)
  by_cases h:g.vel=0
  ·refine qU 44 false I (by show(!_)=false;rw[AH,EY,dT h];rfl) (qP I ?_)
   iterate 7 refine BA I I ?_
   refine zD ?_
   iterate 2 refine Ae I I ?_
   exact wP I (zC (I7 false O ⟨I,I,I,I,I,I,I,O⟩ (fun W hp=>by show J (mi4 f g) W;rw[mi4,if_pos h];exact hp)))
  ·refine qU 44 true I (by show(!_)=true;rw[AH,EY,dF h];rfl) ?_
   obtain⟨e3,l3,l3'⟩:=aD (f:=f) h
   have hY3: ∀W,J (mi3 f) W→YieldAt (Fw none) 0 Tryz.prog y [str (Ac (g.st-CA f g/g.vel))].toArray W fun e W'=>(e= .returned (.bool true)∧J (mi3 f+1) W')∨(e= .returned (.bool false)∧Jx W'):=fun W h=>by
    have:=hY (mi3 f) W l3 h
    rwa [Sx,e3] at this
   refine qP I (qP I (qP I (qL 4 I I (fun W hp=>(hN _ W hp).g) I (qP I (qP I ?_)))))
   refine Cl (hG _) I I I I I I (by kernel_rfl) (fun W hp=>Jk (CA f g) g.vel (hz.d2 h) (by rwa [ne_eq,Rat.num_eq_zero]) W (hN _ W hp).v (hN _ W hp).t) ?_
   refine Cl (hG _) I I I I I I (by kernel_rfl) (fun W hp=>FO g.st (CA f g/g.vel) (hz.a2 h) W (hN _ W hp).v (hN _ W hp).t) ?_
   refine A4 ?_
   refine DC (A1:=J (mi3 f+1)) (A2:=Jx) I I I I I I hY3 ?_ ?_
   ·exact wP I (wP I (zC (I7 false O ⟨I,I,I,I,I,I,I,O⟩ (fun W hp=>by show J (mi4 f g) W;rw[l3'];exact hp))))
   ·exact wP I (wP I (zC (I7 true O ⟨I,I,I,I,I,I,I,O⟩ (fun W hp=>hp))))
 rintro(_|_) _
 rotate_left
 ·exact zR I (zO (zP (Ce I (fun W h=>h))))
 -- where both move
 refine zS I (zI (zE (zA (zB (wP I (wP I (wP I ?_)))))))
 by_cases h:f.vel=g.vel
 ·exact wU 58 false I (by show(!_)=false;rw[AH,dT (by rw[h])];rfl) (zC (zE (zS I (zI (GY I fun W hp=>by rw[aE h];exact hp)))))
 ·refine wU 58 true I (by show(!_)=true;rw[AH,dF fun e=>h (BV.1 e)];rfl) ?_
  obtain⟨e4,l4,l5⟩:=aF h
  have hY4: ∀W,J (mi4 f g) W→YieldAt (Fw none) 0 Tryz.prog y [str (Ac ((CA f g+(f.vel*f.st-g.vel*g.st))/(f.vel-g.vel)))].toArray W fun e W'=>(e= .returned (.bool true)∧J (mi4 f g+1) W')∨(e= .returned (.bool false)∧Jx W'):=fun W h=>by
   have:=hY (mi4 f g) W l4 h
   rwa [Sx,e4] at this
  refine zC (zE (zR I ?_))
  refine Gc 16 (hdr (mi4 f g)) Tryz.mixed (by kernel_rfl) I ?_
  refine qP I (qP I (qP I (qP I (qL 4 I I (fun W hp=>(hN _ W hp).f) I ?_))))
  refine Cl (hG _) I I I I I I (by kernel_rfl) (fun W hp=>Hv f.vel f.st hz.m1 W (hN _ W hp).v (hN _ W hp).t) ?_
  refine qP I (qP I (qL 4 I I (fun W hp=>(hN _ W hp).g) I ?_))
  refine Cl (hG _) I I I I I I (by kernel_rfl) (fun W hp=>Hv g.vel g.st hz.m2 W (hN _ W hp).v (hN _ W hp).t) ?_
  refine Cl (hG _) I I I I I I (by kernel_rfl) (fun W hp=>FO (f.vel*f.st) (g.vel*g.st) hz.s W (hN _ W hp).v (hN _ W hp).t) ?_
  refine Cl (hG _) I I I I I I (by kernel_rfl) (fun W hp=>Jb (CA f g) (f.vel*f.st-g.vel*g.st) hz.a W (hN _ W hp).v (hN _ W hp).t) ?_
  refine qP I (qP I ?_)
  refine Cl (hG _) I I I I I I (by kernel_rfl) (fun W hp=>FO f.vel g.vel hz.w W (hN _ W hp).v (hN _ W hp).t) ?_
  refine Cl (hG _) I I I I I I (by kernel_rfl) (fun W hp=>Jk (CA f g+(f.vel*f.st-g.vel*g.st)) (f.vel-g.vel) (hz.d h) (by rw[ne_eq,Rat.num_eq_zero];grind) W (hN _ W hp).v (hN _ W hp).t) ?_
  refine A4 ?_
  refine DC (A1:=J (mi4 f g+1)) (A2:=Jx) I I I I I I hY4 ?_ ?_
  ·exact zC (GY I fun W hp=>by rw[l5];exact hp)
  ·exact zC (NT I (fun W h=>h))
end
section
theorem ML {x:Rat}: ∀(s:List Rat) (j:Nat),j≤s.length→(∀y∈s.take j, ¬x<y)→(∀y∈s.drop j,x<y)→HB x s=s.take j++x::s.drop j
 |[],j,hj,_,_=>by
  obtain rfl:j=0:=by simpa using hj
  rfl
 |y::l,0,_,_,h2=>by
  unfold HB
  rw[if_pos (h2 y (List.mem_cons_self ..))];rfl
 |y::l,j+1,hj,h1,h2=>by
  unfold HB
  rw[if_neg (h1 y (by simp)),ML l j (by simpa using hj) (fun z hz=>h1 z (by simp[hz])) (fun z hz=>h2 z (by simpa using hz))]
  rfl
theorem Kt (l:List Rat):(BC l).length=l.length:=by
 have: ∀(l s:List Rat),(l.foldl (fun s x=>HB x s) s).length=l.length+s.length:=by
  intro l
  induction l with
  |nil=>exact fun s=>by simp
  |cons x l ih=>exact fun s=>by rw[List.foldl_cons,ih,Sa,List.length_cons];omega
 rw[BC,this];simp
theorem Tx (l:List Rat) {i:Nat} (hi:i<l.length):BC (l.take (i+1))=HB l[i] (BC (l.take i)):=by
 rw[BC,List.take_add_one,List.getElem?_eq_getElem hi,List.foldl_append];rfl
theorem V7 {x:Rat} {s:List Rat} {j:Nat} (hs:s.Pairwise (· ≤ ·)) (hj:j≤s.length) (h2: ∀y∈s.drop j,x<y) (h1: ∀(h:0<j), ¬x<s[j-1]):HB x s=s.take j++x::s.drop j:=by
 refine ML s j hj (fun y hy=> ?_) h2
 obtain⟨k,hk,rfl⟩:=List.getElem_of_mem hy
 have hk':k<j:=by simp at hk;omega
 rw[List.getElem_take]
 have h3:=h1 (by omega)
 refine Rat.not_lt.2 (Rat.le_trans ?_ (Rat.not_lt.1 h3))
 by_cases e:k=j-1
 ·subst e;exact Rat.le_refl
 ·exact List.pairwise_iff_getElem.1 hs k (j-1) (by omega) (by omega) (by omega)
theorem KH:Ba []=[]:=by rw[Ba]
theorem KE (x:Rat):Ba [x]=[x]:=by rw[Ba]
theorem F9 (x y:Rat) (l:List Rat):Ba (x::y::l)=if y=x then Ba (x::l) else x::Ba (y::l):=by rw[Ba]
theorem KM (x y:Rat):Ba [x,y]=if y=x then Ba [x] else Ba [x]++[y]:=by
 rw[F9]
 by_cases h:y=x
 ·rw[if_pos h,if_pos h]
 ·rw[if_neg h,if_neg h,KE,KE];rfl
theorem Jr (l:List Rat) (x y:Rat):Ba (l++[x,y])=if y=x then Ba (l++[x]) else Ba (l++[x])++[y]:=by
 match l with
 |[]=>exact KM x y
 |[a]=>
  show Ba (a::x::[y])=if y=x then Ba (a::x::[]) else Ba (a::x::[])++[y]
  rw[F9 a x [y],F9 a x []]
  by_cases h2:x=a
  ·rw[if_pos h2,if_pos h2]
   subst h2
   exact KM x y
  ·rw[if_neg h2,if_neg h2,KM x y]
   by_cases h:y=x
   ·rw[if_pos h,if_pos h]
   ·rw[if_neg h,if_neg h];rfl
 |a::b::l=>
  show Ba (a::b::(l++[x,y]))=if y=x then Ba (a::b::(l++[x])) else Ba (a::b::(l++[x]))++[y]
  rw[F9 a b (l++[x,y]),F9 a b (l++[x])]
  by_cases h2:b=a
  ·rw[if_pos h2,if_pos h2]
   exact Jr (a::l) x y
  ·rw[if_neg h2,if_neg h2]
   have:=Jr (b::l) x y
   rw[List.cons_append,List.cons_append] at this
   rw[this]
   by_cases h:y=x
   ·rw[if_pos h,if_pos h]
   ·rw[if_neg h,if_neg h];rfl
termination_by l.length
theorem OO (l:List Rat): ∀(m:Nat),m≤l.length→Lib.compactUpTo (l.map Ac).toArray m=(Ba (l.take m)).map Ac
 |0,_=>by simp[Lib.compactUpTo,Ba]
 |m+1,hm=>by
  have hb: ∀i (hi:i<l.length),(l.map Ac).toArray[i]! =Ac l[i]:=fun i hi=>by simp[hi]
  rw[Lib.compactUpTo_succ,OO l m (by omega),hb m (by omega)]
  have e1:l.take (m+1)=l.take m++[l[m]]:=by rw[List.take_add_one,List.getElem?_eq_getElem hm];rfl
  cases m with
  |zero=>
   rw[e1]
   have:Lib.keeps (l.map Ac).toArray 0=true:=Lib.keeps_lt_one _ 0 (by omega)
   rw[if_pos this,List.take_zero,List.nil_append,KH,KE]
   rfl
  |succ k=>
   have e2:l.take (k+1)=l.take k++[l[k]]:=by rw[List.take_add_one,List.getElem?_eq_getElem (by omega)];rfl
   rw[e1,e2,List.append_assoc]
   show _=(Ba (l.take k++[l[k],l[k+1]])).map Ac
   rw[Jr]
   have h1:Lib.keeps (l.map Ac).toArray (k+1)=decide (¬l[k+1]=l[k]):=by
    unfold Lib.keeps
    rw[decide_eq_decide,Nat.add_sub_cancel,hb (k+1) hm,hb k (by omega)]
    constructor
    ·rintro(h|h)
     ·omega
     ·exact fun e=>h (by rw[e])
    ·exact fun h=> .inr fun e=>h (BV.1 e)
   rw[h1]
   by_cases h:l[k+1]=l[k]
   ·rw[if_pos h,if_neg (by simp[h]),List.append_nil]
   ·rw[if_neg h,if_pos (by simp[h]),List.map_append];rfl
theorem Pw (l:List Rat):Lib.compact (l.map Ac)=(Ba l).map Ac:=by
 have:=OO l l.length (Nat.le_refl _)
 rw[List.take_length] at this
 rw[←this]
 unfold Lib.compact
 simp
end
end Go.Proofs.YtmblgcglonikiaaGreatDoor
namespace Go.Proofs
open Go.Shelf
def Tryz.lays125_ren:Go.Shelf.Ren:=⟨fun|125=>124|128=>193|129=>194|n=>n,fun|3=>3|4=>4|5=>5|9=>9|46=>136|51=>192|53=>194|n=>n,fun n=>n⟩
theorem Tryz.lays125:Go.Proofs.Lays.n125 Tryz.prog Tryz.lays125_ren:= {
 mixed:=by kernel_rfl
 f125:=Tryz.func124.trans (congrArg some (by kernel_rfl))
 f128:=Tryz.func193.trans (congrArg some (by kernel_rfl))
 f129:=Tryz.func194.trans (congrArg some (by kernel_rfl))
 t3:=Tryz.underlying3
 a3:=Tryz.isAgg3
 z3:=Tryz.sizeOf3
 v3:=Tryz.zeroValue3
 t4:=Tryz.underlying4
 a4:=Tryz.isAgg4
 z4:=Tryz.sizeOf4
 v4:=Tryz.zeroValue4
 t5:=Tryz.underlying5
 a5:=Tryz.isAgg5
 z5:=Tryz.sizeOf5
 v5:=Tryz.zeroValue5
 t9:=Tryz.underlying9
 a9:=Tryz.isAgg9
 z9:=Tryz.sizeOf9
 v9:=Tryz.zeroValue9
 t46:=Tryz.underlying136
 a46:=Tryz.isAgg136
 z46:=Tryz.sizeOf136
 v46:=Tryz.zeroValue136
 t51:=Tryz.underlying192
 a51:=Tryz.isAgg192
 z51:=Tryz.sizeOf192
 v51:=Tryz.zeroValue192
 t53:=Tryz.underlying194
 a53:=Tryz.isAgg194
 z53:=Tryz.sizeOf194
 v53:=Tryz.zeroValue194 }
def Tryz.laysN44_ren:Go.Shelf.Ren:=⟨fun|44=>97|n=>n,fun|0=>0|3=>3|4=>4|25=>31|26=>25|n=>n,fun n=>n⟩
theorem Tryz.laysN44:Go.Proofs.SlLaysN.n44 Tryz.prog Tryz.laysN44_ren:= {
 mixed:=by kernel_rfl
 f44:=⟨Tryz.f97.name,by kernel_rfl,Tryz.func97.trans (congrArg some (by kernel_rfl))⟩
 t0:=Tryz.underlying0
 a0:=Tryz.isAgg0
 z0:=Tryz.sizeOf0
 v0:=Tryz.zeroValue0
 t3:=Tryz.underlying3
 a3:=Tryz.isAgg3
 z3:=Tryz.sizeOf3
 v3:=Tryz.zeroValue3
 t4:=Tryz.underlying4
 a4:=Tryz.isAgg4
 z4:=Tryz.sizeOf4
 v4:=Tryz.zeroValue4
 t25:=Tryz.underlying31
 a25:=Tryz.isAgg31
 z25:=Tryz.sizeOf31
 v25:=Tryz.zeroValue31
 t26:=Tryz.underlying25
 a26:=Tryz.isAgg25
 z26:=Tryz.sizeOf25
 v26:=Tryz.zeroValue25
 i26:=by kernel_rfl }
end Go.Proofs
namespace Go.Proofs.YtmblgcglonikiaaGreatDoor
section
open Go Go.RowKit Go.Am Go.Lib
set_option maxRecDepth 10000
-- BOXES 3
abbrev nS (l:List Rat):List Value:=l.map fun q=>str (Ac q)
def QC (cf:Nat):Prop:=Bc Tryz.prog cf=true∧ ∀(p q:Rat) (W:World),Sz2 p q→BP W→AJ W→Ad Tryz.prog cf #[str (Ac p),str (Ac q)] W (fun _:Unit=> .int .i64 (Co p q)) (fun _=>True) (fun _=>[])
structure Ib (W W':World) (g:Nat):Prop where
 os:W'.os=W.os
 tape:W'.tape=W.tape
 output:W'.output=W.output
 size:W.heap.size≤W'.heap.size
 at_: ∀x,x≠g→x<W.heap.size→W'.heap[x]? =W.heap[x]?
theorem Hw {W W':World} {g:Nat} {B:Bx} {o:Obj} (hg:W.heap[g]? =some o) (hB: ∃o',(g,o')∈B.blk) (hp:Hp (AX W) [AS (Ay W g),B] W'):Ib W W' g:=by
 have c0: ∀p∈Ay W g,W'.heap[p.1]? =some p.2:=fun p hq=>(hp.own.cell 0 _ rfl p hq).1
 have old: ∀x,x≠g→x<W.heap.size→W'.heap[x]? =W.heap[x]? :=fun x hx hlt=>by
  have h1:W.heap[x]? =some W.heap[x]:=Array.getElem?_eq_getElem hlt
  rw[h1]
  exact c0 (x,W.heap[x]) (CP.2 ⟨hx,h1⟩)
 refine⟨hp.below.os,hp.below.tape,hp.below.output, ?_,old⟩
 have hlt:=(Array.getElem?_eq_some_iff.1 hg).1
 by_cases e:W.heap.size-1=g
 ·obtain⟨o',ho⟩:=hB
  have:=(Array.getElem?_eq_some_iff.1 (hp.own.cell 1 B rfl _ ho).1).1
  have h2:g<W'.heap.size:=this
  omega
 ·have h1:=old (W.heap.size-1) e (by omega)
  rw[Array.getElem?_eq_getElem (show W.heap.size-1<W.heap.size by omega)] at h1
  have:=(Array.getElem?_eq_some_iff.1 h1).1
  omega
theorem Ib.trans {W W1 W2:World} {g:Nat} (h:Ib W W1 g) (h':Ib W1 W2 g):Ib W W2 g:=
 ⟨h'.os.trans h.os,h'.tape.trans h.tape,h'.output.trans h.output,Nat.le_trans h.size h'.size,fun x hx hlt=>(h'.at_ x hx (Nat.lt_of_lt_of_le hlt h.size)).trans (h.at_ x hx hlt)⟩
theorem Ib.below {W0 W W':World} {g:Nat} (hk:Ib W W' g) (hb:Below W0.heap.size W0 W) (hg:W0.heap.size≤g):Below W0.heap.size W0 W':=
 ⟨hk.os.trans hb.os,hk.tape.trans hb.tape,hk.output.trans hb.output,Nat.le_trans hb.size hk.size,fun i hi=>(hk.at_ i (by omega) (Nat.lt_of_lt_of_le hi hb.size)).trans (hb.block i hi)⟩
theorem CO {W0 W:World} {bxs:List Bx} (hp:Hp W0 bxs W) (k:Nat) {g:Nat} {e:TypeId} {xs A B C:List Value} {off:Nat} (hk:nth bxs k=some ⟨g,e,xs,true,none⟩) (hxs:xs=A++(B++C)) (hoff:off=A.length):An W g off B:=by
 have h:=An.of_bx hp k hk rfl
 refine⟨h.lt,fun m u hu=> ?_⟩
 have:=h.get (A.length+m) u (by
  show xs[A.length+m]? =some u
  rw[hxs,List.getElem?_append_right (by omega),Nat.add_sub_cancel_left,List.getElem?_append_left (List.getElem?_eq_some_iff.1 hu).1]
  exact hu)
 rw[Nat.zero_add, ←hoff] at this
 exact this
theorem OE {r:Option Nat} {n:Nat} {P:Program} {W0:World} {N:Nat} {D:List Deferred} {c:Code} {Q:Exit→Act→World→Prop} {env:Env} {bxs bxs':List Bx} (e:bxs=bxs') (h:WC r n P N D c Q env (Hp W0 bxs')):WC r n P N D c Q env (Hp W0 bxs):=e▸h
abbrev EA (g:Nat) (l:List Rat) (junk:List Value):Bx:=⟨g,25,nS l++junk,true,none⟩
theorem SR (l:List Rat):BC (l.take 1)++l.drop 1=l:=by
 cases l with
 |nil=>rfl
 |cons x l=>rfl
theorem Sv (cf:Nat) (hcf:QC cf) (W:World) (g cap:Nat) (l:List Rat) (junk:List Value) (hn:l.length<4611686018427387904) (hg:W.heap[g]? =some (.cells (nS l++junk).toArray 25 (0,0)))
  (hf: ∀W',Ib W W' g→BP W'∧AJ W') (hz: ∀p∈l, ∀q∈l,Sz2 p q):
  Calls Tryz.prog 226 #[.slice (some ⟨g,0,none⟩) l.length cap, .int .i64 0, .int .i64 (l.length:Nat), .func (.func cf) #[] #[]] W fun e W'=> ∃x:Unit,e= .returned ((fun _=> .tuple #[]) x)∧True∧IJ W W' g ((fun _=>g) x) ((fun _=> .cells (nS (BC l)++junk).toArray 25 (0,0)) x):=by
 have key:Calls Tryz.prog 226 [.slice (some ⟨g,0,none⟩) l.length cap, .int .i64 0, .int .i64 (l.length:Nat), .func (.func cf) #[] #[]].toArray W fun e W'=> ∃x:Unit,e= .returned ((fun _=> .tuple #[]) x)∧(fun _=>True) x∧Below (AX W).heap.size (AX W) W'∧Av (AX W) W' ((fun _=>[AS (Ay W g),EA g (BC l) junk]) x):=by
  refine BQ (X:=Unit) (val:=fun _=> .tuple #[]) (Φ:=fun _=>True) (nb:=fun _=>[AS (Ay W g),EA g (BC l) junk]) (Hp.enterT (B:=EA g l junk) I hg) Tryz.func226 I I I ?_
  refine zA (zB (wP I (wP I (wP I (Aa (zE (zH ?_)))))))
  refine Ar (X:=Nat) (fun i=>[(0, .slice (some ⟨g,0,none⟩) l.length cap),(1, .int .i64 0),(2, .int .i64 (l.length:Nat)),(3, .func (.func cf) #[] #[]),(8, .int .i64 (i:Nat))]) (fun i=>[AS (Ay W g),EA g (BC (l.take i)++l.drop i) junk])
   (fun i=>1≤i∧(i≤l.length∨i=1)) (fun i=>l.length+1-i) 1 ⟨Nat.le_refl _, .inr rfl⟩ ⟨rfl,rfl,rfl,rfl,rfl,trivial⟩ [] (by rw[SR];rfl) ?_
  rintro i ⟨hi1,hi2⟩
  refine zA (zA (zB (wP I (wP I (wP I ?_)))))
  by_cases hlt:i<l.length
  rotate_left
  ·refine wU 14 false I (dF (by omega)) (Aa (zE (zS I (zJ (zK (zK (zL ?_)))))))
   have e:BC (l.take i)++l.drop i=BC l:=by rw[List.take_of_length_le (by omega),List.drop_of_length_le (by omega),List.append_nil]
   refine Gh (X:=Unit) (val:=fun _=> .tuple #[]) (Φ:=fun _=>True) (nb:=fun _=>[AS (Ay W g),EA g (BC l) junk]) (fn:=Tryz.f226) tH I () I O fun W1 hp=> ?_
   rw[e] at hp
   exact(hp.pick (l:=[AS (Ay W g),EA g (BC l) junk]) [0,1] (by decide) I).own
  refine wU 14 true I (dT (by omega)) (Aa (zE (zR I (zI (zE (zA (zH (zA (zB (wP I (wP I (Aa (zE ?_)))))))))))))
  refine zH ?_
  obtain⟨s,hs⟩: ∃s,s=BC (l.take i):=⟨_,rfl⟩
  obtain⟨x,hx⟩: ∃x,x=l[i]:=⟨_,rfl⟩
  obtain⟨rr,hr⟩: ∃rr,rr=l.drop (i+1):=⟨_,rfl⟩
  have hsl:s.length=i:=by rw[hs,Kt,List.length_take];omega
  have hsort:s.Pairwise (· ≤ ·):=hs▸J1 _
  have hdrop:l.drop i=x::rr:=by rw[hx,hr];exact List.drop_eq_getElem_cons hlt
  have hrl:rr.length=l.length-(i+1):=by rw[hr,List.length_drop]
  have hxl:x∈l:=hx▸List.getElem_mem hlt
  have hsm: ∀y∈s,y∈l:=fun y hy=>by rw[hs] at hy;exact List.mem_of_mem_take (O0.1 hy)
  have hnext: ∀j,j≤s.length→(∀y∈s.drop j,x<y)→(∀(h:0<j), ¬x<s[j-1]!)→s.take j++x::s.drop j++rr=BC (l.take (i+1))++l.drop (i+1):=fun j h1 h2 h3=>by
   rw[Tx l hlt, ←hs, ←hx, ←hr,V7 hsort h1 h2 fun h=>by have:=h3 h;rwa [getElem!_pos s (j-1) (by omega)] at this]
  refine Ar (X:=Nat) (fun j=>[(0, .slice (some ⟨g,0,none⟩) l.length cap),(1, .int .i64 0),(2, .int .i64 (l.length:Nat)),(3, .func (.func cf) #[] #[]),(8, .int .i64 (i:Nat)),(9, .int .i64 (j:Nat))]) (fun j=>[AS (Ay W g),EA g (s.take j++x::s.drop j++rr) junk])
   (fun j=>j≤s.length∧ ∀y∈s.drop j,x<y) (fun j=>j) i ⟨by omega,by rw[←hsl,List.drop_length];exact fun y hy=>absurd hy List.not_mem_nil⟩ ⟨rfl,rfl,rfl,rfl,rfl,rfl,trivial⟩ [] (by rw[←hs,hdrop, ←hsl,List.take_length,List.drop_length,List.append_assoc];rfl) ?_
  rintro j ⟨hj,hgt⟩
  have hj:j≤s.length:=hj
  have hgt: ∀y∈s.drop j,x<y:=hgt
  refine zA (zA (zU (qP I (qP I (qP I ?_)))))
  cases j with
  |zero=>
   refine GT 20 (.bool false) I I ?_
   refine qP I ?_
   iterate 12 refine BA I I ?_
   refine qP I (A4 (Aa (zE (zS I (zJ (zK (zK (zL (zN (zE (zB (wP I (wP I ?_)))))))))))))
   refine wV 16 ((i+1:Nat):Int) I (At (by omega)) (wP I (Aa ?_))
   refine Al (i+1) ⟨by show 1≤i+1;omega, .inl hlt⟩ (by show l.length+1-(i+1)<l.length+1-i;omega) ⟨I,I,I,I,I,O⟩ [] ?_
   rw[hnext 0 hj hgt fun h=>absurd h (by decide)];rfl
  |succ m=>
   have hm:m<s.length:=hj
   obtain⟨y,hy⟩: ∃y,y=s[m]:=⟨_,rfl⟩
   have hyl:y∈l:=hsm y (hy▸List.getElem_mem hm)
   have e1:s.take (m+1)=s.take m++[y]:=by rw[List.take_add_one,List.getElem?_eq_getElem hm,hy];rfl
   have e2:s.drop m=y::s.drop (m+1):=by rw[hy];exact List.drop_eq_getElem_cons hm
   have e3:s[m+1-1]! =y:=by rw[Nat.add_sub_cancel,getElem!_pos s m hm,hy]
   have hA:(nS (s.take m)).length=m:=by rw[List.length_map,List.length_take];omega
   obtain⟨C,hC⟩: ∃C,C=nS (s.drop (m+1)++rr)++junk:=⟨_,rfl⟩
   have row1:nS (s.take (m+1)++x::s.drop (m+1)++rr)++junk=nS (s.take m)++([str (Ac y),str (Ac x)]++C):=by rw[e1,hC];simp[nS]
   have row2:nS (s.take m++x::s.drop m++rr)++junk=nS (s.take m)++([str (Ac x),str (Ac y)]++C):=by rw[e2,hC];simp[nS]
   refine qU 20 true I (dT (by omega)) (qP I (qP I (qP I (qP I ?_))))
   refine qJ ?_
   refine qL 0 I I (fun W1 hp=>show An W1 g (0+(m+1)*1) [str (Ac x)] from CO hp 1 (A:=nS (s.take m)++[str (Ac y)]) (C:=C) I (by rw[row1];simp) (by rw[List.length_append,hA];simp)) I (qP I (qP I (qP I (qV 29 (m:Nat) I (show w64 (((m+1:Nat):Int)-1)=_ by rw[Ai (by omega) (by omega)];omega) ?_))))
   refine qJ ?_
   refine qL 0 I I (fun W1 hp=>show An W1 g (0+m*1) [str (Ac y)] from CO hp 1 (A:=nS (s.take m)) (C:=[str (Ac x)]++C) I (by rw[row1];simp) (by rw[hA];simp)) I ?_
   refine Ie (capt:=[]) I I I I I I hcf.1 (fun W1 hp=>(by
    obtain⟨hv,ht⟩:=hf W1 (Hw hg ⟨_,List.mem_cons_self ..⟩ hp)
    exact hcf.2 x y W1 (hz x hxl y hyl) hv ht)) ?_
   refine qP I (qU 33 (decide (x<y)) I (DA x y) (qP I (A4 (Aa (zE ?_)))))
   refine Af I (fun h=> ?_) (fun h=> ?_)
   rotate_left
   ·have hc: ¬x<y:=of_decide_eq_false h
    refine zJ (zK (zK (zL (zN (zE (zB (wP I (wP I (wV 16 ((i+1:Nat):Int) I (At (by omega)) (wP I (Aa ?_)))))))))))
    refine Al (i+1) ⟨by show 1≤i+1;omega, .inl hlt⟩ (by show l.length+1-(i+1)<l.length+1-i;omega) ⟨I,I,I,I,I,O⟩ [] ?_
    rw[hnext (m+1) hj hgt fun _=>by rw[e3];exact hc];rfl
   have hc:x<y:=of_decide_eq_true h
   clear h
   refine OE (bxs':=[AS (Ay W g),⟨g,25,nS (s.take m)++([str (Ac y),str (Ac x)]++C),true,none⟩]) (by rw[←row1]) ?_
   refine zI (zE (Au (BJ ?_)))
   repeat refine Au ?_
   refine By (X:=Unit) [true,true,false,false,false,true,true,true,true,true,true,true,true,true,true,false,false,false] (fun _=>[(0, .slice (some ⟨g,0,none⟩) l.length cap),(1, .int .i64 0),(2, .int .i64 (l.length:Nat)),(3, .func (.func cf) #[] #[]),(8, .int .i64 (i:Nat)),(9, .int .i64 ((m+1:Nat):Int))]) (fun _=>[AS (Ay W g),⟨g,25,nS (s.take m)++([str (Ac x),str (Ac y)]++C),true,none⟩])
    6 [AS (Ay W g),⟨g,25,nS (s.take m)++([str (Ac y),str (Ac x)]++C),true,none⟩] Tryz.mixed (by kernel_rfl) ?_ ?_
   ·refine qP I (qP I (qP I (qP I (qP I (qV 44 (m:Nat) I (show w64 (((m+1:Nat):Int)-1)=_ by rw[Ai (by omega) (by omega)];omega) ?_)))))
    refine qJ ?_
    refine qL 0 I I (fun W1 hp=>show An W1 g (0+m*1) [str (Ac y)] from CO hp 1 (A:=nS (s.take m)) (C:=[str (Ac x)]++C) I (by simp) (by rw[hA];simp)) I (qP I (qP I ?_))
    refine qJ ?_
    refine qL 0 I I (fun W1 hp=>show An W1 g (0+(m+1)*1) [str (Ac x)] from CO hp 1 (A:=nS (s.take m)++[str (Ac y)]) (C:=C) I (by simp) (by rw[List.length_append,hA];simp)) I ?_
    refine qJ ?_
    refine CH ?_
    have h1:Bu (nS (s.take m)++([str (Ac y),str (Ac x)]++C)) (0+(m+1)*1) (str (Ac y)).cells.toList=nS (s.take m)++([str (Ac y),str (Ac y)]++C):=by
     rw[show 0+(m+1)*1=(nS (s.take m)).length+1 by rw[hA];omega,Dt];rfl
    have h2:Bu (nS (s.take m)++([str (Ac y),str (Ac y)]++C)) (0+m*1) (str (Ac x)).cells.toList=nS (s.take m)++([str (Ac x),str (Ac y)]++C):=by
     rw[show 0+m*1=(nS (s.take m)).length+0 by rw[hA];omega,Dt];rfl
    refine wX ?_
    refine RS.cons ?_ (RS.cons ?_ (RS.cons ?_ (RS.nil)))
    ·refine wP I (Aa (Ag (wX ?_)))
     refine RS.cons ?_ (RS.cons ?_ (RS.nil))
     ·refine wP I (Aa (Ag (wX ?_)))
      refine RS.cons ?_ (RS.cons ?_ (RS.nil))
      ·refine wP I (Aa (Ag (wX (wZ ?_))))
       refine Aw 1 _ tH I I I I I I I I I I (by show 0+(m+1)*1+1≤(nS (s.take m)++([str (Ac y),str (Ac x)]++C)).length;rw[List.length_append,hA];simp<;>omega) h1 ?_
       refine Aa (Ag (wY (wZ ?_)))
       refine wV 41 (m:Nat) I (show w64 (((m+1:Nat):Int)-1)=_ by rw[Ai (by omega) (by omega)];omega) ?_;(first|refine wJ ?_|refine qJ ?_)
       refine Aa (Ag (wY (wZ ?_)))
       refine Aw 1 _ tH I I I I I I I I I I (by show 0+m*1+1≤(nS (s.take m)++([str (Ac y),str (Ac y)]++C)).length;rw[List.length_append,hA];simp<;>omega) h2 ?_
       refine Aa (Ag ?_)
       refine AD I (by kernel_rfl) ?_
       exact A6 () ⟨I,I,I,I,I,I,O⟩ [0,1] (by decide) I
      ·refine Aw 1 _ tH I I I I I I I I I I (by show 0+(m+1)*1+1≤(nS (s.take m)++([str (Ac y),str (Ac x)]++C)).length;rw[List.length_append,hA];simp<;>omega) h1 ?_
       refine Aa (Ag (wY (wZ (wP I (Aa (Ag (wY (wZ ?_))))))))
       refine wV 41 (m:Nat) I (show w64 (((m+1:Nat):Int)-1)=_ by rw[Ai (by omega) (by omega)];omega) ?_;(first|refine wJ ?_|refine qJ ?_)
       refine Aa (Ag (wY (wZ ?_)))
       refine Aw 1 _ tH I I I I I I I I I I (by show 0+m*1+1≤(nS (s.take m)++([str (Ac y),str (Ac y)]++C)).length;rw[List.length_append,hA];simp<;>omega) h2 ?_
       refine Aa (Ag ?_)
       refine AD I (by kernel_rfl) ?_
       exact A6 () ⟨I,I,I,I,I,I,O⟩ [0,1] (by decide) I
     ·refine Aw 1 _ tH I I I I I I I I I I (by show 0+(m+1)*1+1≤(nS (s.take m)++([str (Ac y),str (Ac x)]++C)).length;rw[List.length_append,hA];simp<;>omega) h1 ?_
      refine Aa (Ag (wY (wZ (wP I (Aa (Ag (wY (wZ (wP I (Aa (Ag (wY (wZ ?_)))))))))))))
      refine wV 41 (m:Nat) I (show w64 (((m+1:Nat):Int)-1)=_ by rw[Ai (by omega) (by omega)];omega) ?_;(first|refine wJ ?_|refine qJ ?_)
      refine Aa (Ag (wY (wZ ?_)))
      refine Aw 1 _ tH I I I I I I I I I I (by show 0+m*1+1≤(nS (s.take m)++([str (Ac y),str (Ac y)]++C)).length;rw[List.length_append,hA];simp<;>omega) h2 ?_
      refine Aa (Ag ?_)
      refine AD I (by kernel_rfl) ?_
      exact A6 () ⟨I,I,I,I,I,I,O⟩ [0,1] (by decide) I
    ·refine wP I (Aa (Ag (wX ?_)))
     refine RS.cons ?_ (RS.cons ?_ (RS.cons ?_ (RS.nil)))
     ·refine wP I (Aa (Ag (wX ?_)))
      refine RS.cons ?_ (RS.cons ?_ (RS.nil))
      ·refine wP I (Aa (Ag (wX (wZ ?_))))
       refine Aw 1 _ tH I I I I I I I I I I (by show 0+(m+1)*1+1≤(nS (s.take m)++([str (Ac y),str (Ac x)]++C)).length;rw[List.length_append,hA];simp<;>omega) h1 ?_
       refine Aa (Ag (wY (wZ ?_)))
       refine wV 41 (m:Nat) I (show w64 (((m+1:Nat):Int)-1)=_ by rw[Ai (by omega) (by omega)];omega) ?_;(first|refine wJ ?_|refine qJ ?_)
       refine Aa (Ag (wY (wZ ?_)))
       refine Aw 1 _ tH I I I I I I I I I I (by show 0+m*1+1≤(nS (s.take m)++([str (Ac y),str (Ac y)]++C)).length;rw[List.length_append,hA];simp<;>omega) h2 ?_
       refine Aa (Ag ?_)
       refine AD I (by kernel_rfl) ?_
       exact A6 () ⟨I,I,I,I,I,I,O⟩ [0,1] (by decide) I
      ·refine Aw 1 _ tH I I I I I I I I I I (by show 0+(m+1)*1+1≤(nS (s.take m)++([str (Ac y),str (Ac x)]++C)).length;rw[List.length_append,hA];simp<;>omega) h1 ?_
       refine Aa (Ag (wY (wZ (wP I (Aa (Ag (wY (wZ ?_))))))))
       refine wV 41 (m:Nat) I (show w64 (((m+1:Nat):Int)-1)=_ by rw[Ai (by omega) (by omega)];omega) ?_;(first|refine wJ ?_|refine qJ ?_)
       refine Aa (Ag (wY (wZ ?_)))
       refine Aw 1 _ tH I I I I I I I I I I (by show 0+m*1+1≤(nS (s.take m)++([str (Ac y),str (Ac y)]++C)).length;rw[List.length_append,hA];simp<;>omega) h2 ?_
       refine Aa (Ag ?_)
       refine AD I (by kernel_rfl) ?_
       exact A6 () ⟨I,I,I,I,I,I,O⟩ [0,1] (by decide) I
     ·refine wP I (Aa (Ag (wX ?_)))
      refine RS.cons ?_ (RS.cons ?_ (RS.nil))
      ·refine wP I (Aa (Ag (wX (wZ ?_))))
       refine Aw 1 _ tH I I I I I I I I I I (by show 0+(m+1)*1+1≤(nS (s.take m)++([str (Ac y),str (Ac x)]++C)).length;rw[List.length_append,hA];simp<;>omega) h1 ?_
       refine Aa (Ag (wY (wZ ?_)))
       refine wV 41 (m:Nat) I (show w64 (((m+1:Nat):Int)-1)=_ by rw[Ai (by omega) (by omega)];omega) ?_;(first|refine wJ ?_|refine qJ ?_)
       refine Aa (Ag (wY (wZ ?_)))
       refine Aw 1 _ tH I I I I I I I I I I (by show 0+m*1+1≤(nS (s.take m)++([str (Ac y),str (Ac y)]++C)).length;rw[List.length_append,hA];simp<;>omega) h2 ?_
       refine Aa (Ag ?_)
       refine AD I (by kernel_rfl) ?_
       exact A6 () ⟨I,I,I,I,I,I,O⟩ [0,1] (by decide) I
      ·refine Aw 1 _ tH I I I I I I I I I I (by show 0+(m+1)*1+1≤(nS (s.take m)++([str (Ac y),str (Ac x)]++C)).length;rw[List.length_append,hA];simp<;>omega) h1 ?_
       refine Aa (Ag (wY (wZ (wP I (Aa (Ag (wY (wZ ?_))))))))
       refine wV 41 (m:Nat) I (show w64 (((m+1:Nat):Int)-1)=_ by rw[Ai (by omega) (by omega)];omega) ?_;(first|refine wJ ?_|refine qJ ?_)
       refine Aa (Ag (wY (wZ ?_)))
       refine Aw 1 _ tH I I I I I I I I I I (by show 0+m*1+1≤(nS (s.take m)++([str (Ac y),str (Ac y)]++C)).length;rw[List.length_append,hA];simp<;>omega) h2 ?_
       refine Aa (Ag ?_)
       refine AD I (by kernel_rfl) ?_
       exact A6 () ⟨I,I,I,I,I,I,O⟩ [0,1] (by decide) I
     ·refine Aw 1 _ tH I I I I I I I I I I (by show 0+(m+1)*1+1≤(nS (s.take m)++([str (Ac y),str (Ac x)]++C)).length;rw[List.length_append,hA];simp<;>omega) h1 ?_
      refine Aa (Ag (wY ?_))
      refine RS.cons ?_ (RS.cons ?_ (RS.nil))
      ·refine wP I (Aa (Ag (wY (wZ (wP I (Aa (Ag (wY (wZ ?_)))))))))
       refine wV 41 (m:Nat) I (show w64 (((m+1:Nat):Int)-1)=_ by rw[Ai (by omega) (by omega)];omega) ?_;(first|refine wJ ?_|refine qJ ?_)
       refine Aa (Ag (wY (wZ ?_)))
       refine Aw 1 _ tH I I I I I I I I I I (by show 0+m*1+1≤(nS (s.take m)++([str (Ac y),str (Ac y)]++C)).length;rw[List.length_append,hA];simp<;>omega) h2 ?_
       refine Aa (Ag ?_)
       refine AD I (by kernel_rfl) ?_
       exact A6 () ⟨I,I,I,I,I,I,O⟩ [0,1] (by decide) I
      ·refine wP I (Aa (Ag (wY (wZ (wP I (Aa (Ag (wY (wZ ?_)))))))))
       refine wV 41 (m:Nat) I (show w64 (((m+1:Nat):Int)-1)=_ by rw[Ai (by omega) (by omega)];omega) ?_;(first|refine wJ ?_|refine qJ ?_)
       refine Aa (Ag (wY (wZ ?_)))
       refine Aw 1 _ tH I I I I I I I I I I (by show 0+m*1+1≤(nS (s.take m)++([str (Ac y),str (Ac y)]++C)).length;rw[List.length_append,hA];simp<;>omega) h2 ?_
       refine Aa (Ag ?_)
       refine AD I (by kernel_rfl) ?_
       exact A6 () ⟨I,I,I,I,I,I,O⟩ [0,1] (by decide) I
    ·refine Aw 1 _ tH I I I I I I I I I I (by show 0+(m+1)*1+1≤(nS (s.take m)++([str (Ac y),str (Ac x)]++C)).length;rw[List.length_append,hA];simp<;>omega) h1 ?_
     refine Aa (Ag (wY ?_))
     refine RS.cons ?_ (RS.cons ?_ (RS.nil))
     ·refine wP I (Aa (Ag (wY (wZ (wP I (Aa (Ag (wY (wZ (wP I (Aa (Ag (wY ?_)))))))))))))
      refine wZ ?_
      refine wV 41 (m:Nat) I (show w64 (((m+1:Nat):Int)-1)=_ by rw[Ai (by omega) (by omega)];omega) ?_;(first|refine wJ ?_|refine qJ ?_)
      refine Aa (Ag (wY (wZ ?_)))
      refine Aw 1 _ tH I I I I I I I I I I (by show 0+m*1+1≤(nS (s.take m)++([str (Ac y),str (Ac y)]++C)).length;rw[List.length_append,hA];simp<;>omega) h2 ?_
      refine Aa (Ag ?_)
      refine AD I (by kernel_rfl) ?_
      exact A6 () ⟨I,I,I,I,I,I,O⟩ [0,1] (by decide) I
     ·refine wP I (Aa (Ag (wY ?_)))
      refine RS.cons ?_ (RS.cons ?_ (RS.nil))
      ·refine wP I (Aa (Ag (wY (wZ (wP I (Aa (Ag (wY (wZ ?_)))))))))
       refine wV 41 (m:Nat) I (show w64 (((m+1:Nat):Int)-1)=_ by rw[Ai (by omega) (by omega)];omega) ?_;(first|refine wJ ?_|refine qJ ?_)
       refine Aa (Ag (wY (wZ ?_)))
       refine Aw 1 _ tH I I I I I I I I I I (by show 0+m*1+1≤(nS (s.take m)++([str (Ac y),str (Ac y)]++C)).length;rw[List.length_append,hA];simp<;>omega) h2 ?_
       refine Aa (Ag ?_)
       refine AD I (by kernel_rfl) ?_
       exact A6 () ⟨I,I,I,I,I,I,O⟩ [0,1] (by decide) I
      ·refine wP I (Aa (Ag (wY (wZ (wP I (Aa (Ag (wY (wZ ?_)))))))))
       refine wV 41 (m:Nat) I (show w64 (((m+1:Nat):Int)-1)=_ by rw[Ai (by omega) (by omega)];omega) ?_;(first|refine wJ ?_|refine qJ ?_)
       refine Aa (Ag (wY (wZ ?_)))
       refine Aw 1 _ tH I I I I I I I I I I (by show 0+m*1+1≤(nS (s.take m)++([str (Ac y),str (Ac y)]++C)).length;rw[List.length_append,hA];simp<;>omega) h2 ?_
       refine Aa (Ag ?_)
       refine AD I (by kernel_rfl) ?_
       exact A6 () ⟨I,I,I,I,I,I,O⟩ [0,1] (by decide) I
   intro _
   refine zN (zE (zB (wP I (wP I (wV 36 (m:Nat) I (show w64 (((m+1:Nat):Int)-1)=_ by rw[Ai (by omega) (by omega)];omega) (wP I (Aa ?_)))))))
   refine Al m ⟨by show m≤s.length;omega,fun z hz=> ?_⟩ (by show m<m+1;omega) ⟨I,I,I,I,I,I,O⟩ [] (by rw[←row2];rfl)
   rw[e2] at hz
   rcases List.mem_cons.1 hz with rfl|hz
   ·exact hc
   ·exact hgt z hz
 refine key.mono ?_
 rintro e W' ⟨x,he,_,hb,hn'⟩
 exact⟨x,he,O,EP hg I hb hn'⟩
theorem Td (cf:Nat) (hcf:QC cf) (W:World) (g cap:Nat) (l:List Rat) (junk:List Value) (z:Int) (hn:l.length≤12) (hg:W.heap[g]? =some (.cells (nS l++junk).toArray 25 (0,0)))
  (hf: ∀W',Ib W W' g→BP W'∧AJ W') (hz: ∀p∈l, ∀q∈l,Sz2 p q):
  Calls Tryz.prog 155 #[.slice (some ⟨g,0,none⟩) l.length cap, .int .i64 0, .int .i64 (l.length:Nat), .int .i64 z, .func (.func cf) #[] #[]] W fun e W'=> ∃x:Unit,e= .returned ((fun _=> .tuple #[]) x)∧True∧IJ W W' g ((fun _=>g) x) ((fun _=> .cells (nS (BC l)++junk).toArray 25 (0,0)) x):=by
 have key:Calls Tryz.prog 155 [.slice (some ⟨g,0,none⟩) l.length cap, .int .i64 0, .int .i64 (l.length:Nat), .int .i64 z, .func (.func cf) #[] #[]].toArray W fun e W'=> ∃x:Unit,e= .returned ((fun _=> .tuple #[]) x)∧(fun _=>True) x∧Below (AX W).heap.size (AX W) W'∧Av (AX W) W' ((fun _=>[AS (Ay W g),EA g (BC l) junk]) x):=by
  refine BQ (X:=Unit) (val:=fun _=> .tuple #[]) (Φ:=fun _=>True) (nb:=fun _=>[AS (Ay W g),EA g (BC l) junk]) (Hp.enterT (B:=EA g l junk) I hg) Tryz.func155 I I I ?_
  refine zA (zB (wP I (Aa (zE (zA (zB (wP I (Aa (zE (zH ?_))))))))))
  refine Ar (X:=Unit) (fun _=>[(0, .slice (some ⟨g,0,none⟩) l.length cap),(1, .int .i64 0),(2, .int .i64 (l.length:Nat)),(3, .int .i64 z),(4, .func (.func cf) #[] #[])]) (fun _=>[AS (Ay W g),EA g l junk]) (fun _=>True) (fun _=>0) () O ⟨I,I,I,I,I,O⟩ [] I ?_
  intro _ _
  refine zH (zA (zB (wP I (wP I (wP I (wV 23 (l.length:Nat) I (show w64 ((l.length:Nat)-0)=_ by rw[Ai (by omega) (by omega)];omega) (wP I (Aa (zE (zA (zA (zB (wP I (wP I ?_))))))))))))))
  refine wU 25 true I (dT (by omega)) (Aa (zE (zR I (zA (zB (wP I (wP I (wP I (wP I ?_)))))))))
  refine CQ (X:=Unit) (val:=fun _=> .tuple #[]) (Φ:=fun _=>True) (capt:=[]) 1 (B:=EA g l junk) (L1:=[]) (L2:=[]) (b:=g) (ob:= .cells (nS l++junk).toArray 25 (0,0)) (fun _=>EA g (BC l) junk) (g':=fun _=>g) (o':=fun _=> .cells (nS (BC l)++junk).toArray 25 (0,0))
   rfl rfl rfl rfl rfl rfl (by kernel_rfl) rfl rfl (fun _ _=>rfl) (fun W1 hp=>Sv cf hcf W1 g cap l junk (by omega) (hp.own.cell 1 _ rfl (g, .cells (nS l++junk).toArray 25 (0,0)) (List.mem_cons_self ..)).1 (fun W2 hk=>hf W2 ((Hw hg ⟨_,List.mem_cons_self ..⟩ hp).trans hk)) hz) (fun _ _=> ?_)
  refine Aa (zE (zO (zP (zQ (zP (zQ ?_))))))
  refine LA (X:=Unit) (val:=fun _=> .tuple #[]) (Φ:=fun _=>True) (nb:=fun _=>[AS (Ay W g),EA g (BC l) junk]) (fn:=Tryz.f155) tH I () I O fun W1 hp=> ?_
  exact(hp.pick (l:=[AS (Ay W g),EA g (BC l) junk]) [0,1] (by decide) I).own
 refine key.mono ?_
 rintro e W' ⟨x,he,_,hb,hn'⟩
 exact⟨x,he,O,EP hg I hb hn'⟩
theorem Tg (cf:Nat) (W:World) (p:Option Addr) (cap:Nat):Ad Tryz.prog 226 #[.slice p 0 cap, .int .i64 0, .int .i64 ((0:Nat):Int), .func (.func cf) #[] #[]] W (fun _:Unit=> .tuple #[]) (fun _=>True) (fun _=>[]):=by
 refine Ab (args:=[.slice p 0 cap, .int .i64 0, .int .i64 ((0:Nat):Int), .func (.func cf) #[] #[]]) Tryz.func226 I I I ?_
 refine zA (zB (wP I (wP I (wP I (Aa (zE (zH ?_)))))))
 refine Ar (X:=Unit) (fun _=>[(0, .slice p 0 cap),(1, .int .i64 0),(2, .int .i64 ((0:Nat):Int)),(3, .func (.func cf) #[] #[]),(8, .int .i64 1)]) (fun _=>[]) (fun _=>True) (fun _=>0) () O ⟨I,I,I,I,I,O⟩ [] I ?_
 intro _ _
 refine zA (zA (zB (wP I (wP I (wP I ?_)))))
 refine Ak 14 (.bool false) I I ?_
 exact Aa (zE (zS I (zJ (zK (zK (zL (Gh (X:=Unit) (val:=fun _=> .tuple #[]) (Φ:=fun _=>True) (nb:=fun _=>[]) (fn:=Tryz.f226) tH I () I O fun W _=>Av.nil _ _)))))))
theorem SF (cf:Nat) (W:World) (p:Option Addr) (cap:Nat) (z:Int):Ad Tryz.prog 155 #[.slice p 0 cap, .int .i64 0, .int .i64 ((0:Nat):Int), .int .i64 z, .func (.func cf) #[] #[]] W (fun _:Unit=> .tuple #[]) (fun _=>True) (fun _=>[]):=by
 refine Ab (args:=[.slice p 0 cap, .int .i64 0, .int .i64 ((0:Nat):Int), .int .i64 z, .func (.func cf) #[] #[]]) Tryz.func155 I I I ?_
 refine zA (zB (wP I (Aa (zE (zA (zB (wP I (Aa (zE (zH ?_))))))))))
 refine Ar (X:=Unit) (fun _=>[(0, .slice p 0 cap),(1, .int .i64 0),(2, .int .i64 ((0:Nat):Int)),(3, .int .i64 z),(4, .func (.func cf) #[] #[])]) (fun _=>[]) (fun _=>True) (fun _=>0) () O ⟨I,I,I,I,I,O⟩ [] I ?_
 intro _ _
 refine zH (zA (zB (wP I (wP I (wP I ?_)))))
 refine Ak 23 (.int .i64 ((0:Nat):Int)) I I ?_
 refine wP I (Aa (zE (zA (zA (zB (wP I (wP I ?_)))))))
 refine Ak 25 (.bool true) I I ?_
 refine Aa (zE (zR I (zA (zB (wP I (wP I (wP I (wP I ?_))))))))
 refine AT (capt:=[]) I I I I I I (by kernel_rfl) (fun W _=>Tg cf W p cap) ?_
 exact Aa (zE (zO (zP (zQ (zP (zQ (LA (X:=Unit) (val:=fun _=> .tuple #[]) (Φ:=fun _=>True) (nb:=fun _=>[]) (fn:=Tryz.f155) tH I () I O fun W _=>Av.nil _ _)))))))
theorem Fo (x:Nat) (h:x≤18446744073709551615) (W:World):Ad Tryz.prog 124 #[.int .u64 (x:Nat)] W (fun _:Unit=> .int .i64 (Lib.bitLen x)) (fun _=>True) (fun _=>[]):=by
 refine Ad.of1 ((Go.Proofs.Any.bits_Len (P:=Tryz.prog) (ρ:=Tryz.lays125_ren) Tryz.lays125 (x:Int) W (by omega) (by omega)).mono ?_)
 rintro e w' ⟨rfl,rfl⟩
 exact⟨I,Below.refl _ _⟩
theorem Ul {n:Nat} (h:n≤12):IntKind.u64.wrap (n:Nat)=(n:Int):=by
 simp only[IntKind.wrap,IntKind.signed,IntKind.bits]
 simp
 omega
theorem PE (cf:Nat) (hcf:QC cf) (W:World) (g cap:Nat) (l:List Rat) (junk:List Value) (hn:l.length≤12) (hg:W.heap[g]? =some (.cells (nS l++junk).toArray 25 (0,0)))
  (hf: ∀W',Ib W W' g→BP W'∧AJ W') (hz: ∀p∈l, ∀q∈l,Sz2 p q):
  Calls Tryz.prog 96 #[.slice (some ⟨g,0,none⟩) l.length cap, .func (.func cf) #[] #[]] W fun e W'=> ∃x:Unit,e= .returned ((fun _=> .tuple #[]) x)∧True∧IJ W W' g ((fun _=>g) x) ((fun _=> .cells (nS (BC l)++junk).toArray 25 (0,0)) x):=by
 have key:Calls Tryz.prog 96 [.slice (some ⟨g,0,none⟩) l.length cap, .func (.func cf) #[] #[]].toArray W fun e W'=> ∃x:Unit,e= .returned ((fun _=> .tuple #[]) x)∧(fun _=>True) x∧Below (AX W).heap.size (AX W) W'∧Av (AX W) W' ((fun _=>[AS (Ay W g),EA g (BC l) junk]) x):=by
  refine BQ (X:=Unit) (val:=fun _=> .tuple #[]) (Φ:=fun _=>True) (nb:=fun _=>[AS (Ay W g),EA g (BC l) junk]) (Hp.enterT (B:=EA g l junk) I hg) Tryz.func96 I I I ?_
  refine zA (zB (wP I (wP I (wP I (Aa (zE (zB (wP I (wP I (wP I ?_))))))))))
  refine F5 (k:= .u64) (kt:= .i64) (by kernel_rfl) (by kernel_rfl) I I I I ?_
  refine Ak 10 (.int .u64 (l.length:Nat)) I (congrArg (Value.int .u64) (Ul hn)) ?_
  refine AT (capt:=[]) I I I I I I (by kernel_rfl) (fun W _=>Fo l.length (by omega) W) ?_
  refine wP I ?_
  refine CQ (X:=Unit) (val:=fun _=> .tuple #[]) (Φ:=fun _=>True) (capt:=[]) 1 (B:=EA g l junk) (L1:=[]) (L2:=[]) (b:=g) (ob:= .cells (nS l++junk).toArray 25 (0,0)) (fun _=>EA g (BC l) junk) (g':=fun _=>g) (o':=fun _=> .cells (nS (BC l)++junk).toArray 25 (0,0))
   rfl rfl rfl rfl rfl rfl (by kernel_rfl) rfl rfl (fun _ _=>rfl) (fun W1 hp=>Td cf hcf W1 g cap l junk _ hn (hp.own.cell 1 _ rfl (g, .cells (nS l++junk).toArray 25 (0,0)) (List.mem_cons_self ..)).1 (fun W2 hk=>hf W2 ((Hw hg ⟨_,List.mem_cons_self ..⟩ hp).trans hk)) hz) (fun _ _=> ?_)
  refine Aa ?_
  refine Gh (X:=Unit) (val:=fun _=> .tuple #[]) (Φ:=fun _=>True) (nb:=fun _=>[AS (Ay W g),EA g (BC l) junk]) (fn:=Tryz.f96) tH I () I O fun W1 hp=> ?_
  exact(hp.pick (l:=[AS (Ay W g),EA g (BC l) junk]) [0,1] (by decide) I).own
 refine key.mono ?_
 rintro e W' ⟨x,he,_,hb,hn'⟩
 exact⟨x,he,O,EP hg I hb hn'⟩
-- BOXES 3
abbrev cs (l:List (List UInt8)):List Value:=l.map Go.Proofs.encStr
theorem S3 {l:List (List UInt8)} {j:Nat} (h:j<l.length) (junk:List Value):(cs l++junk)[j]? =some (Go.Proofs.encStr l.toArray[j]!):=by
 rw[List.getElem?_append_left (by simpa using h),List.getElem?_map,List.getElem?_eq_getElem h,getElem!_pos l.toArray j (by simpa using h)];simp
theorem VI {W:World} {g:Nat} {zs:List (List UInt8)} {junk:List Value} {ty:TypeId} (h:W.heap[g]? =some (.cells (cs zs++junk).toArray ty (0,0))):Sort.Holds Go.Proofs.encStr W g 0 zs.toArray:=fun j hj=>by
 have hj':j<zs.length:=by simpa using hj
 have h1:=S3 hj' junk
 constructor
 ·simp only[World.cell?,h,Nat.zero_add]
  rw[List.getElem?_toArray];exact h1
 ·simp[World.frozen?,h]
theorem RU {zs zs':List (List UInt8)} (hl:zs'.length=zs.length) (junk:List Value):Sort.putCells Go.Proofs.encStr 0 zs'.toArray (cs zs++junk).toArray=(cs zs'++junk).toArray:=by
 apply Array.ext_getElem?
 intro k
 simp only[Sort.putCells,Array.getElem?_mapIdx,List.getElem?_toArray,List.size_toArray,Nat.zero_add,Nat.sub_zero,Nat.zero_le,true_and]
 by_cases hk:k<zs.length
 ·rw[S3 hk,S3 (show k<zs'.length by omega),Option.map_some,if_pos (by omega)]
 ·rw[List.getElem?_append_right (by simp;omega),List.getElem?_append_right (by simp;omega)]
  simp only[List.length_map,hl]
  cases junk[k-zs.length]? with
  |none=>rfl
  |some y=>rw[Option.map_some,if_neg (by omega)]
theorem Sf {W:World} {g:Nat} {zs zs':List (List UInt8)} {junk:List Value} {ty:TypeId} (h:W.heap[g]? =some (.cells (cs zs++junk).toArray ty (0,0))) (hl:zs'.length=zs.length) (n:Nat):
  IJ W (Sort.putRow Go.Proofs.encStr (Sort.ahead W n) g 0 zs'.toArray) g g (.cells (cs zs'++junk).toArray ty (0,0)):=by
 have hlt:g<W.heap.size:=(Array.getElem?_eq_some_iff.1 h).1
 have hs: ∀x,x<W.heap.size→(Sort.putRow Go.Proofs.encStr (Sort.ahead W n) g 0 zs'.toArray).heap[x]? =(W.heap.modify g (Sort.onCells (Sort.putCells Go.Proofs.encStr 0 zs'.toArray)))[x]? :=fun x hx=>rfl
 refine⟨I,I,I, ?_, ?_, .inl I,fun x hx hlt'=> ?_⟩
 ·show W.heap.size≤(W.heap.modify g _).size
  simp
 ·rw[hs g hlt,Array.getElem?_modify,if_pos rfl,h,Option.map_some]
  show some (Obj.cells (Sort.putCells _ _ _ _) _ _)=_
  rw[RU hl]
 ·rw[hs x hlt',Array.getElem?_modify,if_neg (fun e=>hx e.symm)]
theorem K4 (l:List Rat):(Ba l).length≤l.length:=by
 fun_induction Ba l with
 |case1=>exact Nat.le_refl _
 |case2 x=>exact Nat.le_refl _
 |case3 x l ih=>simp only[List.length_cons] at ih⊢;omega
 |case4 x y l h ih=>simp only[List.length_cons] at ih⊢;omega
theorem YT (l:List Rat):cs (l.map Ac)=nS l:=by simp[nS,cs]
abbrev Mc (l:List Rat) (junk:List Value):List Value:=cs (List.replicate (l.length-(Ba l).length) [])++junk
theorem RV {W:World} {g cap:Nat} {l:List Rat} {junk:List Value} {ty:TypeId} (h:W.heap[g]? =some (.cells (nS l++junk).toArray ty (0,0))) (hn:l.length≤9223372036854775807) (hcap:l.length≤cap):
  Calls Tryz.prog 97 #[.slice (some ⟨g,0,none⟩) l.length cap] W fun e W'=> ∃x:Unit,e= .returned ((fun _=> .slice (some ⟨g,0,none⟩) (Ba l).length cap) x)∧True∧
   IJ W W' g ((fun _=>g) x) ((fun _=> .cells (nS (Ba l)++Mc l junk).toArray ty (0,0)) x):=by
 have hl:=K4 l
 rw[←YT] at h
 have h1:=Go.Proofs.AnyG.slices_Compact_string (P:=Tryz.prog) (ρ:=Tryz.laysN44_ren) Tryz.laysN44 g 0 cap (l.map Ac) W (VI h) (by rw[List.length_map];exact hn) (by rw[List.length_map];exact hcap)
 rw[Pw,List.length_map,List.length_map] at h1
 refine h1.mono ?_
 rintro e W' ⟨rfl,n,rfl⟩
 refine⟨(),I,O, ?_⟩
 have h2:=Sf (zs':=(Ba l).map Ac++List.replicate (l.length-(Ba l).length) []) h (by rw[List.length_append,List.length_replicate,List.length_map,List.length_map];omega) n
 have e:cs ((Ba l).map Ac++List.replicate (l.length-(Ba l).length) [])++junk=nS (Ba l)++Mc l junk:=by
  rw[←YT, ←List.append_assoc];congr 1;exact List.map_append
 rw[e] at h2
 exact h2
theorem Rq (cf:Nat) (W:World) (p:Option Addr) (cap:Nat):Ad Tryz.prog 96 #[.slice p 0 cap, .func (.func cf) #[] #[]] W (fun _:Unit=> .tuple #[]) (fun _=>True) (fun _=>[]):=by
 refine Ab (args:=[.slice p 0 cap, .func (.func cf) #[] #[]]) Tryz.func96 I I I ?_
 refine zA (zB (wP I (wP I (wP I (Aa (zE (zB (wP I (wP I (wP I ?_))))))))))
 refine F5 (k:= .u64) (kt:= .i64) (by kernel_rfl) (by kernel_rfl) I I I I ?_
 refine Ak 10 (.int .u64 ((0:Nat):Int)) I I ?_
 refine AT (capt:=[]) I I I I I I (by kernel_rfl) (fun W _=>Fo 0 (by omega) W) ?_
 refine wP I ?_
 refine AT (capt:=[]) I I I I I I (by kernel_rfl) (fun W _=>SF cf W p cap _) ?_
 exact Aa (Gh (X:=Unit) (val:=fun _=> .tuple #[]) (Φ:=fun _=>True) (nb:=fun _=>[]) (fn:=Tryz.f96) tH I () I O fun W _=>Av.nil _ _)
theorem Q3 (W:World) (p:Option Addr) (cap:Nat):Ad Tryz.prog 97 #[.slice p 0 cap] W (fun _:Unit=> .slice p 0 cap) (fun _=>True) (fun _=>[]):=by
 refine Ab (args:=[.slice p 0 cap]) Tryz.func97 I I I ?_
 refine zA (zB (wP I (Aa (zE (zA (zA (zB (wP I (wP I (wP I (Aa (zE (zR I ?_)))))))))))))
 exact zA (zB (wP I (wP I (Aa (zE (zO (zP (wR1 I I I))))))))
theorem J9 {α:Type} {l:List α} {k:Nat} {x:α} (h:l[k]? =some x):l.set k x=l:=by
 obtain⟨h1,rfl⟩:=List.getElem?_eq_some_iff.1 h
 exact List.set_getElem_self h1
section
variable {r:Option Nat} {n:Nat} {W0:World} {N:Nat} {D:List Deferred} {ops:List Oper} {Q:Exit→Act→World→Prop} {o:Oper} {rest:List Oper} {env:Env} {bxs:List Bx}
theorem Xk (k:Nat) (cf:Nat) (hcf:QC cf) (hv0:BP W0) (ht0:AJ W0) {c:Call} {f:Operand} {d:Nat} {V:Vec} {l:List Rat} {len:Nat}
  (hg:A7 ops N env o=some true) (hd:o.dst=some d) (ho:o.op= .call c) (hc:c.callee= .value f) (hf:evO N env f=some (.func (.func 96) #[] #[])) (ha:Cj (evO N env) c.args.toList=some [V.val len, .func (.func cf) #[] #[]])
  (hk:nth bxs k=some (V.bx 25 (nS l))) (hlen:len=l.length) (hV:V.OK 1 len (nS l)) (hn:l.length≤12) (hz: ∀p∈l, ∀q∈l,Sz2 p q)
  (h:WL r n Tryz.prog N D ops Q rest ((d, .tuple #[])::env) (Hp W0 (bxs.set k (V.bx 25 (nS (BC l)))))):WL r n Tryz.prog N D ops Q (o::rest) env (Hp W0 bxs):=by
 subst hlen
 obtain⟨p,cap,junk⟩:=V
 cases p with
 |none=>
  have hz0:=hV.nil rfl
  have e:bxs.set k ((⟨none,cap,junk⟩:Vec).bx 25 (nS (BC l)))=bxs:=by
   have h1:bxs[k]? =some ((⟨none,cap,junk⟩:Vec).bx 25 (nS l)):=by rw[←AV];exact hk
   exact J9 h1
  rw[e] at h
  refine AT (capt:=[]) hg hd ho hc hf ha (by kernel_rfl) (fun W _=> ?_) h
  exact Rq cf W none 0
 |some g=>
  have hk':bxs[k]? =some (EA g l junk):=by rw[←AV];exact hk
  refine CQ (X:=Unit) (val:=fun _=> .tuple #[]) (Φ:=fun _=>True) (capt:=[]) k (B:=EA g l junk) (L1:=[]) (L2:=[]) (b:=g) (ob:= .cells (nS l++junk).toArray 25 (0,0)) (fun _=>EA g (BC l) junk) (g':=fun _=>g) (o':=fun _=> .cells (nS (BC l)++junk).toArray 25 (0,0))
   hg hd ho hc hf ha (by kernel_rfl) hk rfl (fun _ _=>rfl) (fun W hp=> ?_) (fun _ _=>h)
  have hcell:=hp.own.cell k _ hk' (g, .cells (nS l++junk).toArray 25 (0,0)) (List.mem_cons_self ..)
  exact PE cf hcf W g cap l junk hn hcell.1 (fun W' hK=>⟨hv0.below (hK.below hp.below hcell.2),ht0.below (hK.below hp.below hcell.2)⟩) hz
theorem V8 (k:Nat) {c:Call} {f:Operand} {d:Nat} {V:Vec} {l:List Rat} {len:Nat}
  (hg:A7 ops N env o=some true) (hd:o.dst=some d) (ho:o.op= .call c) (hc:c.callee= .value f) (hf:evO N env f=some (.func (.func 97) #[] #[])) (ha:Cj (evO N env) c.args.toList=some [V.val len])
  (hk:nth bxs k=some (V.bx 25 (nS l))) (hlen:len=l.length) (hV:V.OK 1 len (nS l)) (hn:l.length≤9223372036854775807)
  (h: ∀V':Vec,V'.OK 1 (Ba l).length (nS (Ba l))→WL r n Tryz.prog N D ops Q rest ((d,V'.val (Ba l).length)::env) (Hp W0 (bxs.set k (V'.bx 25 (nS (Ba l)))))):WL r n Tryz.prog N D ops Q (o::rest) env (Hp W0 bxs):=by
 subst hlen
 have hl:=K4 l
 obtain⟨p,cap,junk⟩:=V
 cases p with
 |none=>
  have hz0:=hV.nil rfl
  have hl0:l=[]:=List.length_eq_zero_iff.1 hz0
  subst hl0
  have h:=h ⟨none,cap,junk⟩ ⟨by rw[KH];rfl,fun _=>by rw[KH];rfl,fun h=>absurd rfl h⟩
  have e:bxs.set k ((⟨none,cap,junk⟩:Vec).bx 25 (nS (Ba [])))=bxs:=by
   have h1:bxs[k]? =some ((⟨none,cap,junk⟩:Vec).bx 25 (nS [])):=by rw[←AV];exact hk
   exact J9 h1
  rw[e] at h
  refine AT (capt:=[]) hg hd ho hc hf ha (by kernel_rfl) (fun W _=> ?_) h
  exact Q3 W none 0
 |some g=>
  obtain⟨c1,c2,c3⟩:=hV.cap (by simp)
  have c1:l.length≤cap:=c1
  have c2:cap≤maxLen:=c2
  have hk':bxs[k]? =some (EA g l junk):=by rw[←AV];exact hk
  have h:=h ⟨some g,cap,Mc l junk⟩ ⟨by simp[nS],fun h=>by simp at h,fun _=>⟨by show(Ba l).length≤cap;omega,c2,by
   show(nS (Ba l)).length+(Mc l junk).length=cap*1
   simp only[nS,Mc,cs,List.length_append,List.length_map,List.length_replicate] at c3⊢
   have c3:l.length+junk.length=cap*1:=c3
   omega⟩⟩
  refine CQ (X:=Unit) (val:=fun _=> .slice (some ⟨g,0,none⟩) (Ba l).length cap) (Φ:=fun _=>True) (capt:=[]) k (B:=EA g l junk) (L1:=[]) (L2:=[]) (b:=g) (ob:= .cells (nS l++junk).toArray 25 (0,0)) (fun _=>⟨g,25,nS (Ba l)++Mc l junk,true,none⟩) (g':=fun _=>g) (o':=fun _=> .cells (nS (Ba l)++Mc l junk).toArray 25 (0,0))
   hg hd ho hc hf ha (by kernel_rfl) hk rfl (fun _ _=>rfl) (fun W hp=> ?_) (fun _ _=>h)
  exact RV (hp.own.cell k _ hk' (g, .cells (nS l++junk).toArray 25 (0,0)) (List.mem_cons_self ..)).1 hn c1
end
-- BOXES 6
theorem Zy:QC 76:=⟨by kernel_rfl,fun p q W h hv ht=>CD p q h W hv ht⟩
def fl (f g:FrP) (k:Nat):List Rat:=((AW f g).take k).filter (Da f g)
theorem SO (f g:FrP) (k:Nat):(fl f g k).length≤5:=by
 have h1:=List.length_filter_le (Da f g) ((AW f g).take k)
 have h2:=U3 f g
 rw[List.length_take] at h1
 unfold fl;omega
theorem Yl (f g:FrP) {k:Nat} (hk:k<(AW f g).length):fl f g (k+1)=if Da f g ((AW f g).getD k 0)=true then fl f g k++[(AW f g).getD k 0] else fl f g k:=by
 have e:(AW f g).getD k 0=(AW f g)[k]:=by rw[List.getD_eq_getElem?_getD,List.getElem?_eq_getElem hk];rfl
 rw[e,fl,List.take_add_one,List.getElem?_eq_getElem hk,List.filter_append]
 show _++List.filter _ [_]=_
 rw[List.filter_cons,List.filter_nil]
 split
 ·rfl
 ·rw[List.append_nil];rfl
theorem Wk {f g:FrP} {k:Nat} {t:Rat} (h:t∈fl f g k):t∈AW f g:=List.mem_of_mem_take (List.mem_filter.1 h).1
theorem PG (f g:FrP) (hf:f.OK) (hg:g.OK) (hax:f.ax=g.ax) (hz:Wo f g) (hs: ∀p∈AW f g, ∀q∈AW f g,Sz2 p q)
  (a b k:Nat) (ha:szQ f.sp a) (hb:szQ f.st b) (ha':szQ g.sp a) (hb':szQ g.st b) (hk: ∀t∈AW f g,szQ t k) (hk1:a+b+k+9≤300) (hk2:k+36+1≤300) (W:World) (hv:BP W) (ht:AJ W):
  Ad Tryz.prog 43 #[frV f,frV g] W (fun V:Vec=> .tuple #[V.val (eqL f g).length, .int .i64 0]) (fun V=>V.OK 1 (eqL f g).length (nS (eqL f g))) (fun V=>[V.bx 25 (nS (eqL f g))]):=by
 refine Ab (args:=[frV f,frV g]) Tryz.func43 I I I ?_
 refine zA (zB ?_)
 (refine A3 rfl rfl rfl rfl ?_;intro)
 (refine A3 rfl rfl rfl rfl ?_;intro)
 refine wP I (wP I (Aa ?_))
 rename_i b2 b3
 refine zE (zA (zA (zB (wB 0 I I I (wC I I (fun W hp=>GQ f hf W (hv.hp hp) (ht.hp hp)) (wP I (wP I (wB 1 I I I (wC I I (fun W hp=>GQ g hg W (hv.hp hp) (ht.hp hp)) (wP I (wP I (Aa (zE ?_)))))))))))))
 refine zS I (zI (zE (zA (zA (zB (wP I (wB 0 I I I (wP I (wB 1 I I I ?_)))))))))
 refine CX Tryz.underlying4 I I I I I I ?_
 refine wU 24 false I (by rw[hax];simp) (Aa (zE (zS I (zI (zE (zA (zB ?_)))))))
 (refine Ah Tryz.hZ rfl rfl rfl rfl ?_;intro)
 refine Aa ?_
 rename_i b6
 refine zE (zA (zA (zB (wB 0 I I I (wB 1 I I I ?_)))))
 refine wD (X:=Nat×Nat) I I (fun W _=>Nt f g W) ?_
 rintro⟨c1,c2⟩ _
 refine E9 ?_
 refine Aa (zE (zH ?_))
 refine OL (X:=Nat×Vec) (fun x=>[frB b2 f,frB b3 g,⟨b6,31,[x.2.val (fl f g x.1).length],true,none⟩,frB c1 f,frB c2 g,x.2.bx 25 (nS (fl f g x.1))])
  (fun j x=>x.1=j∧x.2.OK 1 (fl f g x.1).length (nS (fl f g x.1))) (fun _ _=>False) (0,Vec.empty) rfl (by kernel_rfl) (U4 f g hf hg hz c1 c2) (fun _=>rfl)
  ⟨rfl,Vec.OK.empty 1⟩ [] rfl (fun k x W _ hp=>⟨An.of_bx hp 3 rfl rfl,An.of_bx hp 4 rfl rfl,hv.hp hp,ht.hp hp⟩) ?_ ?_ (fun _ _ _ _ _ h=>h.elim)
 ·rintro j' ⟨j,V⟩ d L rec hj ⟨e1,hV⟩ hrec
  obtain rfl:j=j':=e1
  have hV:V.OK 1 (fl f g j).length (nS (fl f g j)):=hV
  have hn:=SO f g (j+1)
  have hfl:=Yl f g hj
  have htm:(AW f g).getD j 0∈AW f g:=by rw[List.getD_eq_getElem?_getD,List.getElem?_eq_getElem hj];exact List.getElem_mem hj
  obtain⟨t,hte⟩: ∃t,t=(AW f g).getD j 0:=⟨_,rfl⟩
  have henc:Sx (AW f g) j=[str (Ac t)]:=by rw[hte]
  rw[←hte] at hfl htm
  rw[henc]
  have zt:=hk t htm
  refine zB (wP I (Aa ?_))
  refine CC 7 hrec I ?_
  refine BJ (zA (zB (wB 0 I I I (wP I (wC I I (fun W hp=>Ge f hf t k zt hk2 W (hv.hp hp) (ht.hp hp)) ?_)))))
  iterate 5 refine wP I ?_
  refine Aa (zE (zA (zB (wB 1 I I I (wP I (wC I I (fun W hp=>Ge g hg t k zt hk2 W (hv.hp hp) (ht.hp hp)) ?_))))))
  iterate 5 refine wP I ?_
  refine Aa (A0 (Au ?_))
  refine A8 (X:=Unit) (fun _=>[(2,Ap b2),(3,Ap b3),(6,Ap b6),(7,str (Ac t)),(57, .bool (Da f g t))]) (fun _=>[frB b2 f,frB b3 g,⟨b6,31,[V.val (fl f g j).length],true,none⟩,frB c1 f,frB c2 g,V.bx 25 (nS (fl f g j)),BR d,Bp L rec .busy none]) (fun _=>True) ?_ ?_
  ·refine zU (qB 0 I I I (qP I (qC I I (fun W hp=>E3 f hf t a b k ha hb zt hk1 W (hv.hp hp) (ht.hp hp)) (qB 1 I I I (qP I (qC I I (fun W hp=>E3 g hg t a b k ha' hb' zt hk1 W (hv.hp hp) (ht.hp hp)) (qP I ?_)))))))
   by_cases h1:f.at t=g.at t
   ·refine qU 47 true I ((AH _ _).trans (dT (BV.2 h1))) (qP I (qP I (qP I (qP I ?_))))
    by_cases h2:f.velB t=g.velB t
    ·refine qU 51 false I (by show(!_)=false;rw[AH,dT (BV.2 h2)];rfl) (qP I (qP I (qP I (qP I ?_))))
     by_cases h3:f.velA t=g.velA t
     ·have e:Da f g t=false:=by simp[Da,h2,h3]
      exact qU 55 false I (by show(!_)=false;rw[AH,dT (BV.2 h3)];rfl) (qP I (qP I (A4 (Aa (Aj () O ⟨I,I,I,I,by rw[e];rfl,O⟩ [] I)))))
     ·have e:Da f g t=true:=by simp[Da,h1,h3]
      exact qU 55 true I (by show(!_)=true;rw[AH,dF fun e=>h3 (BV.1 e)];rfl) (qP I (qP I (A4 (Aa (Aj () O ⟨I,I,I,I,by rw[e];rfl,O⟩ [] I)))))
    ·have e:Da f g t=true:=by simp[Da,h1,h2]
     refine qU 51 true I (by show(!_)=true;rw[AH,dF fun e=>h2 (BV.1 e)];rfl) (qP I ?_)
     iterate 3 refine BA I I ?_
     exact qP I (qP I (A4 (Aa (Aj () O ⟨I,I,I,I,by rw[e];rfl,O⟩ [] I))))
   ·have e:Da f g t=false:=by simp[Da,h1]
    refine qU 47 false I ((AH _ _).trans (dF fun e=>h1 (BV.1 e))) (qP I ?_)
    iterate 8 refine BA I I ?_
    exact qP I (A4 (Aa (Aj () O ⟨I,I,I,I,by rw[e];rfl,O⟩ [] I)))
  ·intro _ _
   refine Af I (fun hc=> ?_) (fun hc=> ?_)
   ·have hc:Da f g t=true:=hc
    rw[if_pos hc] at hfl
    refine zB (wB 2 I I I (wP I ?_))
    (refine As Tryz.hZ tH rfl rfl rfl rfl rfl rfl rfl rfl rfl rfl rfl ?_;intro)
    refine AB (V:=V) (len:=(fl f g j).length) (xs:=nS (fl f g j)) 5 8 Tryz.vec31 (fl f g (j+1)).length (nS (fl f g (j+1))) I I I I I I I I I I I hV I I (by rw[hfl];simp) (by rw[hfl];simp[nS];rfl) (by simp only[maxLen];omega) (by omega) I ?_
    intro gV cV jV hV1
    exact wS 2 I I I (Aa (zN (B6 7 (j+1,⟨some gV,cV,jV⟩) hrec I ⟨I,hV1⟩ [_] I)))
   ·have hc:Da f g t=false:=hc
    rw[if_neg (by rw[hc];decide)] at hfl
    exact zI (zN (B6 7 (j+1,V) hrec I ⟨I,by show V.OK 1 (fl f g (j+1)).length (nS (fl f g (j+1)));rw[hfl];exact hV⟩ [] (by show _=[frB b2 f,frB b3 g,(⟨b6,31,[V.val (fl f g (j+1)).length],true,none⟩:Bx),frB c1 f,frB c2 g,V.bx 25 (nS (fl f g (j+1))),BR d,Bp L rec .ready none]++[];rw[hfl];rfl)))
 ·rintro⟨j,V⟩ d L rec ⟨e1,hV⟩
  obtain rfl:j=(AW f g).length:=e1
  have hV:V.OK 1 (fl f g (AW f g).length).length (nS (fl f g (AW f g).length)):=hV
  have hn:=SO f g (AW f g).length
  have hsl:=Kt (fl f g (AW f g).length)
  have heq:eqL f g=Ba (BC (fl f g (AW f g).length)):=by rw[eqL,fl,List.take_length]
  refine zN (zE (zA (zB (wB 2 I I I ?_))))
  refine Xk 5 76 Zy hv ht (V:=V) (l:=fl f g (AW f g).length) (len:=(fl f g (AW f g).length).length) I I I I I I I I hV (by omega) (fun p hp q hq=>hs p (Wk hp) q (Wk hq)) ?_
  refine Aa (zE (zA (zB (wB 2 I I I ?_))))
  refine V8 5 (V:=V) (l:=BC (fl f g (AW f g).length)) (len:=(fl f g (AW f g).length).length) I I I I I I I hsl.symm ⟨by rw[←hsl];simp[nS],hV.nil,fun h=>by
   have h2:=hV.cap h
   refine⟨h2.1,h2.2.1, ?_⟩
   have h3:=h2.2.2
   rw[List.length_map] at h3⊢
   rw[hsl]
   exact h3⟩ (by omega) ?_
  intro V2 hV2
  rw[←heq] at hV2⊢
  refine wP I (wP I (Aa (zE (zO ?_))))
  refine D2 6 I ?_
  exact AK tH I (.tmp I) (.tmp I) V2 I hV2 fun W hp=>Av.of_hp1 hp 5 I
-- BOXES 3
-- CODE2
theorem Do (p q:Rat) (h:Sz2 p q) (W:World) (hv:BP W) (ht:AJ W):
  Ad Tryz.prog 62 #[str (Ac p),str (Ac q)] W (fun _:Unit=> .int .i64 (Co p q)) (fun _=>True) (fun _=>[]):=by
 refine Ab (args:=[str (Ac p),str (Ac q)]) Tryz.func62 I I I ?_
 refine zA (zB (wP I (Aa (zE (zA (zB (wP I (wP I (wC I I (fun W hp=>(HP p q h W (hv.hp hp) (ht.hp hp)).cast (by rw[Sy])) ?_)))))))))
 iterate 5 refine wP I ?_
 exact Aa (zE (zA (zB (wP I (wP I (Aa (zE (zO (wR1 I I I)))))))))
theorem La (z:List UInt8) (b:Nat) (s:Sd) (W:World) (hrow:An W b 0 s.cells):
  Ad Tryz.prog 101 #[str z,Ap b] W (fun _:Unit=> .bool (!s.gable)) (fun _=>True) (fun _=>[]):=by
 refine Ab (args:=[str z,Ap b]) Tryz.func101 I I I ?_
 exact zA (zB (wP I (Aa (zE (zA (zB (wP I (wL 4 I I (fun W1 hp=>hrow.hp hp) I (wP I (wP I (Aa (zE (zO (wR1 I I I))))))))))))))
theorem R4 (z y:Rat) (hz:Sz2 z y) (b:Nat) (W:World) (hv:BP W) (ht:AJ W) (hrow:An W b 0 [str (Ac y)]):
  Ad Tryz.prog 102 #[str (Ac z),Ap b] W (fun _:Unit=> .bool (decide (y<z))) (fun _=>True) (fun _=>[]):=by
 refine Ab (args:=[str (Ac z),Ap b]) Tryz.func102 I I I ?_
 refine zA (zB (wP I (Aa (zE (zA (zB (wP I (wL 0 I I (fun W1 hp=>hrow.hp hp) I (wC I I (fun W1 hp=>Do z y hz W1 (hv.hp hp) (ht.hp hp)) (wP I (wU 7 (decide (y<z)) I (Fb z y) (wP I (Aa ?_)))))))))))))
 exact zE (zO (wR1 I I I))
section
variable {r:Option Nat} {n:Nat} {P:Program} {N:Nat} {D:List Deferred} {ops:List Oper} {Q:Exit→Act→World→Prop} {o:Oper} {rest:List Oper} {env:Env} {A:World→Prop}
theorem Y6 {ρ:Operand→Value} {t u:TypeId} {x y:Operand} {k yk:IntKind} {a b:Int} (ho:o.op= .binOp .shr t x y u) (hx:ρ x= .int k a) (hy:ρ y= .int yk b) (hb:0≤b) (W:World):(execOp ρ o).run P W= .ok (.value (.int k (a/2^min b.toNat k.bits))) W:=by
 simp[execOp,ho,hx,hy,eqGuard,binOp,shift_shr_any _ _ _ _ hb]
theorem Zv {d:Nat} {t u:TypeId} {x y:Operand} {k yk:IntKind} {a b:Int} (hg:A7 ops N env o=some true) (hd:o.dst=some d) (ho:o.op= .binOp .shr t x y u)
  (hx:evO N env x=some (.int k a)) (hy:evO N env y=some (.int yk b)) (hb:0≤b)
  (h:WL r n P N D ops Q rest ((d, .int k (a/2^min b.toNat k.bits))::env) A):WL r n P N D ops Q (o::rest) env A:=
 Dm hg hd (fun c e=>by rw[ho] at e;cases e) (fun _ W hρ _=>Y6 ho (hρ _ _ hx) (hρ _ _ hy) hb W) h
end
def Sc (W:World) (p:Option Addr) (l:List Rat):Prop:=l=[]∨ ∃g off,p=some ⟨g,off,none⟩∧ ∀i (hi:i<l.length),An W g (off+i*1) [str (Ac l[i])]
theorem Sc.at_ {W:World} {p:Option Addr} {l:List Rat} (h:Sc W p l) {i:Nat} (hi:i<l.length): ∃g off,p=some ⟨g,off,none⟩∧ ∀i (hi:i<l.length),An W g (off+i*1) [str (Ac l[i])]:=by
 rcases h with rfl|h
 ·exact absurd hi (Nat.not_lt_zero _)
 ·exact h
theorem aH {n:Nat} (h:n<9223372036854775808):IntKind.u64.wrap (n:Nat)=(n:Int):=by
 simp only[IntKind.wrap,IntKind.signed,IntKind.bits]
 simp
 omega
theorem Z2 {n:Nat}:((n:Nat):Int)/2^min (1:Int).toNat IntKind.u64.bits=((n/2:Nat):Int):=by
 show((n:Nat):Int)/2^1=_
 omega
theorem Wb (p q:Rat):(Co p q==0)=decide (p=q):=by
 unfold Co
 by_cases h:p<q
 ·rw[if_pos h]
  have: ¬p=q:=fun e=>by rw[e] at h;exact Rat.lt_irrefl h
  rw[dF this];rfl
 ·rw[if_neg h]
  by_cases e:p=q
  ·rw[if_pos e,dT e];rfl
  ·rw[if_neg e,dF e];rfl
theorem IK (p:Option Addr) (cap:Nat) (l:List Rat) (a:Rat) (W:World) (hn:l.length<4611686018427387904) (hR:Sc W p l) (hs:l.Pairwise (· < ·)) (hz: ∀x∈l,Sz2 x a) (hv:BP W) (ht:AJ W):
  Ad Tryz.prog 156 #[.slice p l.length cap,str (Ac a), .func (.func 62) #[] #[]] W (fun _:Unit=> .tuple #[.int .i64 (below a l:Nat), .bool (decide (l[below a l]? =some a))]) (fun _=>True) (fun _=>[]):=by
 have hB:=JZ a l
 have hlt:=Q2 (a:=a) hs
 refine Ab (args:=[.slice p l.length cap,str (Ac a), .func (.func 62) #[] #[]]) Tryz.func156 I I I ?_
 refine zA (zB (wP I (wP I (Aa (zE (zA (zB (wP I (wP I (wP I (Aa (zE (zA ?_)))))))))))))
 refine zB (wP I (wP I (wP I (Aa (zE (zA (zH ?_)))))))
 refine Ar (X:=Nat×Nat) (fun s=>[(0, .slice p l.length cap),(1,str (Ac a)),(2, .func (.func 62) #[] #[]),(8, .int .i64 (l.length:Nat)),(9, .int .i64 (s.1:Nat)),(10, .int .i64 (s.2:Nat))]) (fun _=>[])
  (fun s=>s.1≤below a l∧below a l≤s.2∧s.2≤l.length) (fun s=>s.2-s.1) (0,l.length) ⟨Nat.zero_le _,hB,Nat.le_refl _⟩ ⟨rfl,rfl,rfl,rfl,rfl,rfl,trivial⟩ [] rfl ?_
 rintro⟨i,j⟩ ⟨h1,h2,h3⟩
 have h1:i≤below a l:=h1
 have h2:below a l≤j:=h2
 have h3:j≤l.length:=h3
 refine zA (zA (zB (wP I (wP I (wP I ?_)))))
 by_cases hij:i<j
 ·refine wU 17 true I (dT (by omega)) (Aa (zE (zR I (zI (zE (zH (zA (zB ?_))))))))
  obtain⟨h,hh⟩: ∃h,h=(i+j)/2:=⟨_,rfl⟩
  have hhl:h<l.length:=by omega
  obtain⟨g,off,hpe,hrow⟩:=hR.at_ hhl
  have hrow:=hrow h hhl
  obtain⟨x,hx⟩: ∃x,x=l[h]:=⟨_,rfl⟩
  have hlx:=hlt h hhl
  rw[←hx] at hrow hlx
  subst hpe
  refine wP I (wP I (wP I (wV 20 ((i+j:Nat):Int) I (show w64 ((i:Nat)+(j:Nat))=_ by rw[Ai (by omega) (by omega)];omega) ?_)))
  refine F5 (k:= .u64) (kt:= .i64) (by kernel_rfl) (by kernel_rfl) I I I I ?_
  refine Ak 21 (.int .u64 ((i+j:Nat):Int)) I (congrArg (Value.int .u64) (aH (by omega))) ?_
  refine Zv I I I I I (by decide) ?_
  refine Ak 22 (.int .u64 (h:Nat)) I (congrArg (Value.int .u64) (Z2.trans (by rw[hh]))) ?_
  refine F5 (k:= .i64) (kt:= .u64) (by kernel_rfl) (by kernel_rfl) I I I I ?_
  refine wV 23 (h:Nat) I (BF (by omega)) (wP I (Aa (zE (zA (zB (wP I (wP I (wP I ?_))))))))
  refine wJ ?_
  refine wL 0 I I (fun W1 hp=>hrow.hp hp) I (wP I ?_)
  refine AT (capt:=[]) I I I I I I (by kernel_rfl) (fun W1 hp=>Do x a (hz x (hx▸List.getElem_mem hhl)) W1 (hv.hp hp) (ht.hp hp)) ?_
  refine wP I (wU 31 (decide (x<a)) I (DA x a) (Aa (zE ?_)))
  refine Af I (fun hc=> ?_) (fun hc=> ?_)
  ·have hc:x<a:=of_decide_eq_true hc
   have hhB:=hlx.1 hc
   exact zB (wP I (wP I (wV 33 ((h+1:Nat):Int) I (At (by omega)) (wP I (Aa (zN (Al (h+1,j) ⟨hhB,h2,h3⟩ (by show j-(h+1)<j-i;omega) ⟨I,I,I,I,I,I,O⟩ [] I)))))))
  ·have hc: ¬x<a:=of_decide_eq_false hc
   have hhB:below a l≤h:=Nat.le_of_not_lt fun e=>hc (hlx.2 e)
   exact zB (wP I (wP I (Aa (zN (Al (i,h) ⟨h1,hhB,by show h≤l.length;omega⟩ (by show h-i<j-i;omega) ⟨I,I,I,I,I,I,O⟩ [] I)))))
 have ei:i=below a l:=by omega
 subst ei
 refine wU 17 false I (dF (by omega)) (Aa (zE (zS I (zJ (zK (zK (zL (zE (zA (zB ?_))))))))))
 by_cases hbl:below a l<l.length
 ·obtain⟨g,off,hpe,hrow⟩:=hR.at_ hbl
  have hrow:=hrow (below a l) hbl
  obtain⟨x,hx⟩: ∃x,x=l[below a l]:=⟨_,rfl⟩
  rw[←hx] at hrow
  subst hpe
  refine wP I (wP I (wP I (wP I (wU 38 true I (dT (by omega)) (wP I (wP I (wP I (wP I ?_))))))))
  refine wJ ?_
  refine wL 0 I I (fun W1 hp=>hrow.hp hp) I (wP I ?_)
  refine AT (capt:=[]) I I I I I I (by kernel_rfl) (fun W1 hp=>Do x a (hz x (hx▸List.getElem_mem hbl)) W1 (hv.hp hp) (ht.hp hp)) ?_
  refine wP I ?_
  refine wU 47 (decide (l[below a l]? =some a)) I ((Wb _ _).trans (decide_eq_decide.2 (by rw[List.getElem?_eq_getElem hbl,Option.some.injEq,hx]))) ?_
  exact wP I (wP I (wP I (Aa (zE (zO (wR2 I I I))))))
 ·have e:l[below a l]? =none:=List.getElem?_eq_none (by omega)
  refine wP I (wP I (wP I (wP I (wU 38 false I (dF (by omega)) (wP I ?_)))))
  iterate 8 refine Ae I I ?_
  exact wP I (wP I (wP I (Aa (zE (zO (wR2 I I (by rw[e];rfl)))))))
end
section
open Go Go.RowKit Go.Am
set_option maxRecDepth 10000
-- BOXES 2
-- CODE2
theorem Xg {W0 W:World} {bxs:List Bx} (hp:Hp W0 bxs W) (k:Nat) {l:List (Nat×Obj)} (hk:nth bxs k=some (AS l)) {g:Nat} {c:List Value} {ty:TypeId} (hm:(g,Obj.cells c.toArray ty (0,0))∈l):An W g 0 c:=by
 rw[AV] at hk
 exact An.of_block (hp.own.cell k _ hk _ hm).1
abbrev E8 (l:List Rat) (i:Nat) (a:Rat):List Rat:=l.take i++a::l.drop i
theorem C8 (l:List Rat):(nS l).length=l.length:=List.length_map _
theorem D6 (a b:List Rat):nS (a++b)=nS a++nS b:=List.map_append
theorem RX {l:List Rat} {i:Nat} (hi:i≤l.length) (a:Rat):(E8 l i a).length=l.length+1:=by simp only[E8,List.length_append,List.length_take,List.length_cons,List.length_drop];omega
theorem TV {l:List Rat} {junk:List Value} (i:Nat) (j:Nat) {u:Value} (h:(nS (l.take i))[j]? =some u):(nS l++junk)[j]? =some u:=by
 have e:nS l=nS (l.take i)++nS (l.drop i):=by rw[←D6,List.take_append_drop]
 have hj:=(List.getElem?_eq_some_iff.1 h).1
 rw[e,List.append_assoc,List.getElem?_append_left hj];exact h
theorem J4 {l:List Rat} {junk:List Value} (i:Nat) (hi:i≤l.length) (j:Nat) {u:Value} (h:(nS (l.drop i))[j]? =some u):(nS l++junk)[i*1+j]? =some u:=by
 have e:nS l=nS (l.take i)++nS (l.drop i):=by rw[←D6,List.take_append_drop]
 have hj:=(List.getElem?_eq_some_iff.1 h).1
 have hl:(nS (l.take i)).length=i:=by rw[C8,List.length_take,Nat.min_eq_left hi]
 rw[e,List.append_assoc,List.getElem?_append_right (by omega),hl,Nat.mul_one,Nat.add_sub_cancel_left,List.getElem?_append_left hj];exact h
theorem GD: ∀l:List Rat,Dl (nS l)=true
 |[]=>rfl
 |_::l=>GD l
theorem Iu {l:List Rat} {i:Nat} (hi:i<l.length):nS l=nS (l.take i)++([str (Ac l[i])]++nS (l.drop (i+1))):=by
 conv=>lhs;rw[←List.take_append_drop i l,List.drop_eq_getElem_cons hi,D6]
 rfl
theorem Ob {W:World} {gs g off n m c1 c2:Nat} {cs xs:List Value} (h1:W.heap[gs]? =some (.cells cs.toArray 25 (0,0))) (h2:W.heap[g]? =some (.cells xs.toArray 25 (0,0))) (hx:0<xs.length) (hne:gs≠g):
  (callFunc 234 #[.slice (some ⟨gs,0,none⟩) n c1, .slice (some ⟨g,off,none⟩) m c2]).run Tryz.prog W= .ok (.value (.bool false)) W:=by
 rw[run_callFunc_extern Tryz.func234 (by kernel_rfl) (by kernel_rfl) (by kernel_rfl) (e:=Extern.SlicesOverlaps.overlaps #[31,31] #[4]) (by kernel_rfl),
  Lib.run_overlaps_apart W 31 4 25 (by kernel_rfl) 1 (fun W=>by kernel_rfl) ⟨gs,0,none⟩ ⟨g,off,none⟩ n c1 m c2 hne 25 25 cs.length xs.length (by simp[World.shape?,h1]) (by simp[World.shape?,h2]) (by omega) (by simp[World.frozen?,h1]) (by simp[World.frozen?,h1])]
 rfl
abbrev zNs:List Value:=[str []]
theorem Oi (W:World) (g cap gs cs i:Nat) (junk:List Value) (l:List Rat) (a:Rat) (hi:i≤l.length) (hn:l.length<1099511627776) (hV:(⟨some g,cap,junk⟩:Vec).OK 1 l.length (nS l)) (hg:W.heap[g]? =some (.cells (nS l++junk).toArray 25 (0,0)))
  (hs:W.heap[gs]? =some (.cells [str (Ac a)].toArray 25 (0,0))) (hne:gs≠g):
  Calls Tryz.prog 157 #[.slice (some ⟨g,0,none⟩) l.length cap, .int .i64 (i:Nat), .slice (some ⟨gs,0,none⟩) 1 cs] W fun e W'=> ∃x:Nat×Nat×List Value,e= .returned ((fun x:Nat×Nat×List Value=> .slice (some ⟨x.1,0,none⟩) (l.length+1) x.2.1) x)∧
   (fun x:Nat×Nat×List Value=>(⟨some x.1,x.2.1,x.2.2⟩:Vec).OK 1 (l.length+1) (nS (E8 l i a))) x∧IJ W W' g ((fun x:Nat×Nat×List Value=>x.1) x) ((fun x:Nat×Nat×List Value=> .cells (nS (E8 l i a)++x.2.2).toArray 25 (0,0)) x):=by
 obtain⟨hc1,hc2,hc3⟩:l.length≤cap∧cap≤maxLen∧(nS l).length+junk.length=cap*1:=hV.cap (by simp)
 rw[C8,Nat.mul_one] at hc3
 have hll:=RX hi a
 have key:Calls Tryz.prog 157 [.slice (some ⟨g,0,none⟩) l.length cap, .int .i64 (i:Nat), .slice (some ⟨gs,0,none⟩) 1 cs].toArray W fun e W'=> ∃x,e= .returned ((fun x:Nat×Nat×List Value=> .slice (some ⟨x.1,0,none⟩) (l.length+1) x.2.1) x)∧
   (fun x:Nat×Nat×List Value=>(⟨some x.1,x.2.1,x.2.2⟩:Vec).OK 1 (l.length+1) (nS (E8 l i a))) x∧Below (AX W).heap.size (AX W) W'∧Av (AX W) W' ((fun x:Nat×Nat×List Value=>[AS (Ay W g),⟨x.1,25,nS (E8 l i a)++x.2.2,true,none⟩]) x):=by
  refine BQ (X:=Nat×Nat×List Value) (val:=fun x=> .slice (some ⟨x.1,0,none⟩) (l.length+1) x.2.1) (Φ:=fun x=>(⟨some x.1,x.2.1,x.2.2⟩:Vec).OK 1 (l.length+1) (nS (E8 l i a))) (nb:=fun x=>[AS (Ay W g),⟨x.1,25,nS (E8 l i a)++x.2.2,true,none⟩]) (Hp.enterT (B:=⟨g,25,nS l++junk,true,none⟩) I hg) Tryz.func157 I I I ?_
  have hrs: ∀ {W1:World} {bx:List Bx},Hp (AX W) bx W1→nth bx 0=some (AS (Ay W g))→An W1 gs 0 [str (Ac a)]:=fun hp h0=>Xg hp 0 h0 (CP.2 ⟨hne,hs⟩)
  have hn1:IntKind.i64.wrap (((l.length:Nat):Int)+((1:Nat):Int))=((l.length+1:Nat):Int):=(AE (by omega) (by omega)).trans (by omega)
  refine zA (zB (wP I (Aa (zE (zA (zB (wP I (wP I ?_))))))))
  refine Bw i tH I I I I I I I I hi hc1 ?_
  refine Aa (zE (zA (zB (wP I (wP I (wP I (Aa (zE (zA (zA (zB (wP I (wP I ?_)))))))))))))
  refine Aa (zE (zS I (zI (zE (zA (zB (wP I (wP I (wP I (Aa (zE (zA (zA ?_)))))))))))))
  refine zB (wP I (wP I (wP I (Aa (zE ?_)))))
  by_cases hil:i=l.length
  ·refine AP 22 (.bool true) I (congrArg Value.bool (beq_iff_eq.2 (show((i:Nat):Int)=((l.length:Nat):Int) by omega))) ?_
   refine zR I (zA (zB ?_))
   have e:E8 l i a=l++[a]:=by rw[E8,List.take_of_length_le (by omega),List.drop_of_length_le (by omega)]
   refine wP I (wP I ?_)
   refine CW (V:=⟨some g,cap,junk⟩) (news:=[str (Ac a)]) (xs:=nS l) 1 Tryz.vec31 rfl rfl rfl rfl rfl rfl rfl rfl rfl hV rfl (fun W1 hp j u hu=>by rw[Addr.add_none];exact(hrs hp rfl).get j u hu) (fun u hu=>by obtain rfl:=List.mem_singleton.1 hu;rfl) (by simp only[maxLen];omega) (by omega) ?_
   intro V' hV' hp'
   obtain⟨p,cp,jk⟩:=V'
   cases p with
   |none=>exact absurd (hp' rfl) (by decide)
   |some g'=>
    refine wP I (Aa (zE (zO (zP ?_))))
    refine A9 tH I (.tmp I) (g',cp,jk) I (by rw[e,D6];exact hV') fun W1 hp=> ?_
    have hp:Hp (AX W) [AS (Ay W g),⟨g',25,(nS l++[str (Ac a)])++jk,true,none⟩] W1:=hp.pick [0,1] (by decide) rfl
    show Av (AX W) W1 [AS (Ay W g),⟨g',25,nS (E8 l i a)++jk,true,none⟩]
    rw[e,D6]
    exact hp.own
  have hi:i<l.length:=by omega
  refine AP 22 (.bool false) I (congrArg Value.bool (beq_eq_false_iff_ne.2 (show((i:Nat):Int)≠((l.length:Nat):Int) by omega))) ?_
  refine zS I (zI (zE (zA (zA (zB ?_)))))
  iterate 6 refine wP I ?_
  refine Aa (zE ?_)
  refine AP 31 (.bool (decide (cap<l.length+1))) I (congrArg Value.bool ((congrArg (fun z=>decide (z>(cap:Int))) hn1).trans (decide_eq_decide.2 (by omega)))) ?_
  refine Af I (fun h=> ?_) (fun h=> ?_)
  ·have h:cap<l.length+1:=by simpa using h
   refine zA (zB (wP I (wP I ?_)))
   refine CN i tH I I I I I I I I (by omega) ?_
   iterate 5 refine wP I ?_
   refine wV 39 ((l.length+1-i:Nat):Int) I ((congrArg (fun z=>IntKind.i64.wrap (z-(i:Int))) hn1).trans ((AE (by omega) (by omega)).trans (by omega))) ?_
   refine Oj Tryz.vec31 (ku:= .i64) (by kernel_rfl) (a:=⟨g,0,none⟩) (cs:=nS (l.take i)) (l.length+1-i) I I I I I I I I I (by omega) (by omega) (by simp only[maxLen];omega) (by omega) (by rw[C8,List.length_take,Nat.min_eq_left (by omega),Nat.mul_one]) ?_ ?_
   ·intro W1 hp j u hu
    have:=(An.of_bx hp 1 rfl rfl).get j u (TV i _ hu)
    rw[Addr.add_none];exact this
   intro b cp hb1 hb2
   refine Ak 40 (.slice (some ⟨b,0,none⟩) (l.length+1) cp) I (congrArg (fun m=>Value.slice (some ⟨b,0,none⟩) m cp) (by omega)) ?_
   refine wP I (Aa (zE (zA (zB (wP I (wP I ?_))))))
   refine Bw i tH I I I I I I I I (by omega) (by omega) ?_
   refine Ak 43 (.slice (some ⟨b,i*1,none⟩) (l.length+1-i) (cp-i)) I (congrArg (fun o=>Value.slice (some ⟨b,o,none⟩) (l.length+1-i) (cp-i)) ((if_neg (by omega)).trans (Nat.zero_add _))) ?_
   refine wP I ?_
   have tl:(nS (l.take i)).length=i:=by rw[C8,List.length_take,Nat.min_eq_left (by omega)]
   have dl:(nS (l.drop i)).length=l.length-i:=by rw[C8,List.length_drop]
   have q1:Bu (nS (l.take i)++(Bz zNs (l.length+1-i)++Bz zNs (cp-(i+(l.length+1-i))))) (i*1) [str (Ac a)]=nS (l.take i)++([str (Ac a)]++(Bz zNs (l.length-i)++Bz zNs (cp-(l.length+1)))):=by
    rw[show l.length+1-i=(l.length-i)+1 by omega,show i*1=(nS (l.take i)).length by omega]
    show Bu (nS (l.take i)++((zNs++Bz zNs (l.length-i))++_)) _ _=_
    rw[List.append_assoc,Hn _ zNs _ [str (Ac a)] rfl,show i+(l.length-i+1)=l.length+1 by omega]
   have q2:Bu (nS (l.take i)++([str (Ac a)]++(Bz zNs (l.length-i)++Bz zNs (cp-(l.length+1))))) ((i+1)*1) (nS (l.drop i))=nS (E8 l i a)++Bz zNs (cp-(l.length+1)):=by
    have e1:(i+1)*1=(nS (l.take i)++[str (Ac a)]).length:=by rw[List.length_append,tl];show _=i+1;omega
    rw[←List.append_assoc (nS (l.take i)),e1,Hn _ _ _ _ (by rw[Cw,dl];exact Nat.mul_one _),D6]
    show _=(_++([str (Ac a)]++nS (l.drop i)))++_
    simp only[List.append_assoc]
   refine Iy 2 (ys:=nS (l.take i)++([str (Ac a)]++(Bz zNs (l.length-i)++Bz zNs (cp-(l.length+1))))) Tryz.vec31 (m:=1) (cs:=[str (Ac a)]) I I I I I I I I I I (Nat.min_eq_left (by omega)) I ?_ I ?_ q1 ?_
   ·intro W1 hp j u hu
    rw[Addr.add_none];exact(hrs hp rfl).get j u hu
   ·show i*1+1≤(nS (l.take i)++(Bz zNs (l.length+1-i)++Bz zNs (cp-(i+(l.length+1-i))))).length
    rw[List.length_append,List.length_append,Cw,Cw,tl]
    show i*1+1≤i+((l.length+1-i)*1+_)
    omega
   have fit:(i+1)*1+(nS (l.drop i)).length≤(nS (l.take i)++([str (Ac a)]++(Bz zNs (l.length-i)++Bz zNs (cp-(l.length+1))))).length:=by
    rw[List.length_append,List.length_append,List.length_append,Cw,dl,tl]
    show(i+1)*1+(l.length-i)≤i+(1+((l.length-i)*1+_))
    omega
   refine zC (zE ?_)
   repeat refine Au ?_
   refine By (X:=Unit) [true,true,true,true,false,true,true,false,false] (fun _=>[(9, .slice (some ⟨b,0,none⟩) (l.length+1) cp)]) (fun _=>[AS (Ay W g),⟨b,25,nS (E8 l i a)++Bz zNs (cp-(l.length+1)),true,none⟩])
    3 [AS (Ay W g),⟨g,25,nS l++junk,true,none⟩,⟨b,25,nS (l.take i)++([str (Ac a)]++(Bz zNs (l.length-i)++Bz zNs (cp-(l.length+1)))),true,none⟩] Tryz.mixed (by kernel_rfl) ?_ ?_
   ·refine qP I ?_
    iterate 5 refine qP I ?_
    refine CH (wX ?_)
    refine RS.cons ?_ (RS.cons ?_ (RS.nil))
    ·refine Bw (i+1) tH I I I I I I I ((AE (by omega) (by omega)).trans (by omega)) (by omega) (by omega) ?_;refine Ak 50 (.slice (some ⟨b,(i+1)*1,none⟩) (l.length+1-(i+1)) (cp-(i+1))) I (congrArg (fun o=>Value.slice (some ⟨b,o,none⟩) (l.length+1-(i+1)) (cp-(i+1))) ((if_neg (by omega)).trans (Nat.zero_add _))) ?_
     refine Aa (Ag (wX (wZ ?_)))
     refine Bw i tH I I I I I I I I (by omega) hc1 ?_;refine Ak 53 (.slice (some ⟨g,i*1,none⟩) (l.length-i) (cap-i)) I (congrArg (fun o=>Value.slice (some ⟨g,o,none⟩) (l.length-i) (cap-i)) ((if_neg (by omega)).trans (Nat.zero_add _))) ?_
     refine Aa (Ag (wX (wZ ?_)))
     refine Iy 2 (ys:=nS (E8 l i a)++Bz zNs (cp-(l.length+1))) Tryz.vec31 (m:=l.length-i) (cs:=nS (l.drop i)) I I I I I I I I I I (by rw[show l.length+1-(i+1)=l.length-i by omega];exact Nat.min_self _) (by rw[dl,Nat.mul_one]) (fun W1 hp j u hu=>by rw[Addr.add_none];have:=(An.of_bx hp 1 I I).get _ u (J4 i (by omega) j hu);rw[Nat.zero_add] at this;exact this) (GD _) fit q2 ?_
     refine Aa (Ag ?_)
     refine AD I (by kernel_rfl) ?_
     exact A6 () ⟨I,O⟩ [0,2] (by decide) I
    ·refine Bw i tH I I I I I I I I (by omega) hc1 ?_;refine Ak 53 (.slice (some ⟨g,i*1,none⟩) (l.length-i) (cap-i)) I (congrArg (fun o=>Value.slice (some ⟨g,o,none⟩) (l.length-i) (cap-i)) ((if_neg (by omega)).trans (Nat.zero_add _))) ?_
     refine Aa (Ag (wX (wZ ?_)))
     refine Bw (i+1) tH I I I I I I I ((AE (by omega) (by omega)).trans (by omega)) (by omega) (by omega) ?_;refine Ak 50 (.slice (some ⟨b,(i+1)*1,none⟩) (l.length+1-(i+1)) (cp-(i+1))) I (congrArg (fun o=>Value.slice (some ⟨b,o,none⟩) (l.length+1-(i+1)) (cp-(i+1))) ((if_neg (by omega)).trans (Nat.zero_add _))) ?_
     refine Aa (Ag (wX (wZ ?_)))
     refine Iy 2 (ys:=nS (E8 l i a)++Bz zNs (cp-(l.length+1))) Tryz.vec31 (m:=l.length-i) (cs:=nS (l.drop i)) I I I I I I I I I I (by rw[show l.length+1-(i+1)=l.length-i by omega];exact Nat.min_self _) (by rw[dl,Nat.mul_one]) (fun W1 hp j u hu=>by rw[Addr.add_none];have:=(An.of_bx hp 1 I I).get _ u (J4 i (by omega) j hu);rw[Nat.zero_add] at this;exact this) (GD _) fit q2 ?_
     refine Aa (Ag ?_)
     refine AD I (by kernel_rfl) ?_
     exact A6 () ⟨I,O⟩ [0,2] (by decide) I
   intro _
   refine zE (zA (zB (wP I (wP I (Aa (zE (zO (zP ?_))))))))
   refine A9 tH rfl (.tmp rfl) (b,cp,Bz zNs (cp-(l.length+1))) rfl ⟨by rw[C8,hll,Nat.mul_one],(fun h=>by cases h),fun _=>⟨by show l.length+1≤cp;omega,hb2, ?_⟩⟩ fun W1 hp=>(hp.pick (l:=[AS (Ay W g),⟨b,25,nS (E8 l i a)++Bz zNs (cp-(l.length+1)),true,none⟩]) [0,1] (by decide) rfl).own
   rw[C8,hll,Cw]
   show(l.length+1)+(cp-(l.length+1))*1=cp*1
   omega
  have h:l.length+1≤cap:=by simp at h;omega
  have hjl:junk.length=cap-l.length:=by omega
  have tl:(nS (l.take i)).length=i:=by rw[C8,List.length_take,Nat.min_eq_left (by omega)]
  have dl:(nS (l.drop i)).length=l.length-i:=by rw[C8,List.length_drop]
  refine zI (zE (zA (zB (wP I (wP I (wP I (wP I ?_)))))))
  refine CN (l.length+1) tH I I I I I I I hn1 h ?_
  refine wP I (Aa (zE (zA (zA (zB ?_)))))
  iterate 5 refine wP I ?_
  have hi1:IntKind.i64.wrap (((i:Nat):Int)+((1:Nat):Int))=((i+1:Nat):Int):=(AE (by omega) (by omega)).trans (by omega)
  refine Bw (i+1) tH I I I I I I I hi1 (by omega) h ?_
  refine Za (g:=234) (capt:=[]) (v:= .bool false) I I I I I I (fun W1 hp=>Ob (hp.own.cell 0 (AS (Ay W g)) I (gs, .cells [str (Ac a)].toArray 25 (0,0)) (CP.2 ⟨hne,hs⟩)).1 (hp.at_ 1 _ I I).1 (by rw[List.length_append,C8];omega) hne) ?_
  refine wP I (Aa (zE (zR I ?_)))
  have q3:Bu (nS l++junk) ((i+1)*1) (nS (l.drop i))=nS (l.take i)++([str (Ac l[i])]++(nS (l.drop i)++junk.drop 1)):=by
   have e1:(i+1)*1=(nS (l.take i)++[str (Ac l[i])]).length:=by rw[List.length_append,tl];show _=i+1;omega
   have e2:nS l++junk=(nS (l.take i)++[str (Ac l[i])])++((nS (l.drop (i+1))++junk.take 1)++junk.drop 1):=by
    rw[Iu hi]
    simp only[List.append_assoc,List.take_append_drop]
   rw[e1,e2,Hn _ _ _ _ (by rw[List.length_append,List.length_take,C8,dl,List.length_drop];omega),List.append_assoc]
  have q4:Bu (nS (l.take i)++([str (Ac l[i])]++(nS (l.drop i)++junk.drop 1))) (i*1) [str (Ac a)]=nS (E8 l i a)++junk.drop 1:=by
   rw[show i*1=(nS (l.take i)).length by omega,Hn _ [str (Ac l[i])] _ [str (Ac a)] rfl,D6]
   show _=(_++([str (Ac a)]++nS (l.drop i)))++_
   simp only[List.append_assoc]
  have fit:(i+1)*1+(nS (l.drop i)).length≤(nS l++junk).length:=by
   rw[dl,List.length_append,C8,hjl]
   omega
  have fit2:i*1+[str (Ac a)].length≤(nS (l.take i)++([str (Ac l[i])]++(nS (l.drop i)++junk.drop 1))).length:=by
   rw[List.length_append,List.length_append,tl]
   show i*1+1≤i+(1+_)
   omega
  repeat refine Au ?_
  refine By (X:=Unit) [true,true,true,true,false,true,true,false,false] (fun _=>[(0, .slice (some ⟨g,0,none⟩) (l.length+1) cap),(1, .int .i64 (i:Nat)),(2, .slice (some ⟨gs,0,none⟩) 1 cs)]) (fun _=>[AS (Ay W g),⟨g,25,nS (l.take i)++([str (Ac l[i])]++(nS (l.drop i)++junk.drop 1)),true,none⟩])
   3 [AS (Ay W g),⟨g,25,nS l++junk,true,none⟩] Tryz.mixed (by kernel_rfl) ?_ ?_
  ·refine qP I ?_
   iterate 5 refine qP I ?_
   refine CH (wX ?_)
   refine RS.cons ?_ (RS.cons ?_ (RS.nil))
   ·refine Bw (i+1) tH I I I I I I I hi1 (by omega) h ?_;refine Ak 73 (.slice (some ⟨g,(i+1)*1,none⟩) (l.length+1-(i+1)) (cap-(i+1))) I (congrArg (fun o=>Value.slice (some ⟨g,o,none⟩) (l.length+1-(i+1)) (cap-(i+1))) ((if_neg (by omega)).trans (Nat.zero_add _))) ?_
    refine Aa (Ag (wX (wZ ?_)))
    refine Bw i tH I I I I I I I I (by omega) h ?_;refine Ak 76 (.slice (some ⟨g,i*1,none⟩) (l.length+1-i) (cap-i)) I (congrArg (fun o=>Value.slice (some ⟨g,o,none⟩) (l.length+1-i) (cap-i)) ((if_neg (by omega)).trans (Nat.zero_add _))) ?_
    refine Aa (Ag (wX (wZ ?_)))
    refine Iy 1 (ys:=nS (l.take i)++([str (Ac l[i])]++(nS (l.drop i)++junk.drop 1))) Tryz.vec31 (m:=l.length-i) (cs:=nS (l.drop i)) I I I I I I I I I I (by rw[show l.length+1-(i+1)=l.length-i by omega];exact Nat.min_eq_right (by omega)) (by rw[dl,Nat.mul_one]) (fun W1 hp j u hu=>by rw[Addr.add_none];have:=(An.of_bx hp 1 I I).get _ u (J4 i (by omega) j hu);rw[Nat.zero_add] at this;exact this) (GD _) fit q3 ?_
    refine Aa (Ag ?_)
    refine AD I (by kernel_rfl) ?_
    exact A6 () ⟨I,I,I,O⟩ [0,1] (by decide) I
   ·refine Bw i tH I I I I I I I I (by omega) h ?_;refine Ak 76 (.slice (some ⟨g,i*1,none⟩) (l.length+1-i) (cap-i)) I (congrArg (fun o=>Value.slice (some ⟨g,o,none⟩) (l.length+1-i) (cap-i)) ((if_neg (by omega)).trans (Nat.zero_add _))) ?_
    refine Aa (Ag (wX (wZ ?_)))
    refine Bw (i+1) tH I I I I I I I hi1 (by omega) h ?_;refine Ak 73 (.slice (some ⟨g,(i+1)*1,none⟩) (l.length+1-(i+1)) (cap-(i+1))) I (congrArg (fun o=>Value.slice (some ⟨g,o,none⟩) (l.length+1-(i+1)) (cap-(i+1))) ((if_neg (by omega)).trans (Nat.zero_add _))) ?_
    refine Aa (Ag (wX (wZ ?_)))
    refine Iy 1 (ys:=nS (l.take i)++([str (Ac l[i])]++(nS (l.drop i)++junk.drop 1))) Tryz.vec31 (m:=l.length-i) (cs:=nS (l.drop i)) I I I I I I I I I I (by rw[show l.length+1-(i+1)=l.length-i by omega];exact Nat.min_eq_right (by omega)) (by rw[dl,Nat.mul_one]) (fun W1 hp j u hu=>by rw[Addr.add_none];have:=(An.of_bx hp 1 I I).get _ u (J4 i (by omega) j hu);rw[Nat.zero_add] at this;exact this) (GD _) fit q3 ?_
    refine Aa (Ag ?_)
    refine AD I (by kernel_rfl) ?_
    exact A6 () ⟨I,I,I,O⟩ [0,1] (by decide) I
  intro _
  refine zE (zA (zB (wP I (wP I ?_))))
  refine Bw i tH I I I I I I I I (by omega) h ?_
  refine Ak 80 (.slice (some ⟨g,i*1,none⟩) (l.length+1-i) (cap-i)) I (congrArg (fun o=>Value.slice (some ⟨g,o,none⟩) (l.length+1-i) (cap-i)) ((if_neg (by omega)).trans (Nat.zero_add _))) ?_
  refine wP I ?_
  refine Iy 1 (ys:=nS (E8 l i a)++junk.drop 1) Tryz.vec31 (m:=1) (cs:=[str (Ac a)]) I I I I I I I I I I (Nat.min_eq_left (by omega)) I (fun W1 hp j u hu=>by rw[Addr.add_none];exact(hrs hp I).get j u hu) I (fit2) q4 ?_
  refine zC (zE (zA (zB (wP I (wP I (Aa (zE (zO (zP ?_)))))))))
  refine A9 tH rfl (.tmp rfl) (g,cap,junk.drop 1) rfl ⟨by rw[C8,hll,Nat.mul_one],(fun h=>by cases h),fun _=>⟨h,hc2, ?_⟩⟩ fun W1 hp=>(hp.pick (l:=[AS (Ay W g),⟨g,25,nS (E8 l i a)++junk.drop 1,true,none⟩]) [0,1] (by decide) rfl).own
  rw[C8,hll,List.length_drop]
  show(l.length+1)+(junk.length-1)=cap*1
  omega
 refine key.mono ?_
 rintro e W' ⟨x,he,hx,hb,hn'⟩
 exact⟨x,he,hx,EP hg I hb hn'⟩
theorem Oc (W:World) (gs cs:Nat) (a:Rat) (hs:An W gs 0 [str (Ac a)]):
  Ad Tryz.prog 157 #[.slice none 0 0, .int .i64 0, .slice (some ⟨gs,0,none⟩) 1 cs] W (fun V:Vec=>V.val 1) (fun V=>V.OK 1 1 (nS [a])∧V.p≠none) (fun V=>[V.bx 25 (nS [a])]):=by
 refine Ab (args:=[.slice none 0 0, .int .i64 0, .slice (some ⟨gs,0,none⟩) 1 cs]) Tryz.func157 I I I ?_
 refine zA (zB (wP I (Aa (zE (zA (zB (wP I ?_)))))))
 refine E9 ?_
 refine wP I ?_
 refine QL tH I I I I I I I ?_
 refine Aa (zE (zA (zB (wP I (wP I (wP I (Aa (zE (zA (zA (zB (wP I (wP I ?_)))))))))))))
 refine Aa (zE (zS I (zI (zE (zA (zB (wP I (wP I (wP I (Aa (zE (zA (zA ?_)))))))))))))
 refine zB (wP I (wP I (wP I (Aa (zE (zR I (zA (zB (wP I (wP I ?_))))))))))
 refine CW (V:=Vec.empty) (news:=[str (Ac a)]) (xs:=[]) 0 Tryz.vec31 rfl rfl rfl rfl rfl rfl rfl rfl rfl (Vec.OK.empty 1) rfl (fun W1 hp j u hu=>by rw[Addr.add_none];exact(hs.hp hp).get j u hu) (fun u hu=>by obtain rfl:=List.mem_singleton.1 hu;rfl) (by simp only[maxLen];omega) (by omega) ?_
 intro V' hV' hp'
 exact wP I (Aa (zE (zO (zP (A9 tH I (.tmp I) V' I ⟨hV',fun e=>absurd (hp' e) (by decide)⟩ fun W1 hp=>Av.of_hp (hp.pick (l:=[V'.bx 25 (nS [a])]) [0] (by decide) I))))))
end
end Go.Proofs.YtmblgcglonikiaaGreatDoor
