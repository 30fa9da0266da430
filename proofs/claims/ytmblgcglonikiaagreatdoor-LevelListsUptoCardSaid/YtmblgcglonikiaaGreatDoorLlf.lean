/-
  Lemmas that the theorem levelLists_upto_card needs (part 6 of 8).
-/
import Derived.Test.YtmblgcglonikiaaGreatDoorLle
import Derived.Shelf.SlSortCmp.Insertion
import Derived.Lib.SlicesCompact
import Derived.Shelf.Lays
import Derived.Shelf.SlLaysN
import Derived.Shelf.Small.Bits
import Derived.Shelf.SlicesG.CompactS
import Derived.Laws.Shifts
import Derived.Lib.Overlaps
set_option maxHeartbeats 64000000
namespace Go.Proofs.YtmblgcglonikiaaGreatDoor
section
open Go Go.RowKit Go.Am
set_option maxRecDepth 10000
-- BOXES 2
def J4 (rs:List (List Sd)) (r i s k:Nat):Bool:=
 !((r==s)&&(decide (k≤i)||(k==i+1)||((i==0)&&(k+1==(rg rs r).length))))&&E4 (sd (rg rs r) i) (sd (rg rs r) (nxt (rg rs r).length i)) (sd (rg rs s) k) (sd (rg rs s) (nxt (rg rs s).length k))
theorem Md {rs:List (List Sd)} {r i s k:Nat} (hr:r<rs.length) (hi:i<(rg rs r).length) (hs:s<rs.length) (hk:k<(rg rs s).length) (h:J4 rs r i s k=true):crs rs=true:=by
 unfold J4 at h
 obtain⟨h1,h2⟩:=Bool.and_eq_true_iff.1 h
 cases hc:crs rs with
 |true=>rfl
 |false=>
  have:=(Qi rs).1 hc r i s k hr hi hs hk (fun hn=>by
   obtain⟨rfl,hn⟩:=hn
   rw[He hi,He hk] at hn
   have:((r==r)&&(decide (k≤i)||(k==i+1)||((i==0)&&(k+1==(rg rs r).length))))=true:=by
    simp only[beq_self_eq_true,Bool.true_and,Bool.or_eq_true,Bool.and_eq_true,decide_eq_true_eq,beq_iff_eq]
    revert hn
    split<;>split<;>intro hn<;>omega
   rw[this] at h1;cases h1)
  rw[show E4 (bsd rs (r,i)) (esd rs (r,i)) (bsd rs (s,k)) (esd rs (s,k))=true from h2] at this
  cases this
theorem Vh {rs:List (List Sd)} (h: ∀r i s k,r<rs.length→i<(rg rs r).length→s<rs.length→k<(rg rs s).length→r≤s→J4 rs r i s k=false):crs rs=false:=by
 have one: ∀r i s k,r<rs.length→i<(rg rs r).length→s<rs.length→k<(rg rs s).length→(r<s∨(r=s∧i<k))→ ¬near rs r i s k→E4 (bsd rs (r,i)) (esd rs (r,i)) (bsd rs (s,k)) (esd rs (s,k))=false:=fun r i s k hr hi hs hk ho hn=>by
  have hb:=h r i s k hr hi hs hk (by omega)
  unfold J4 at hb
  have:((r==s)&&(decide (k≤i)||(k==i+1)||((i==0)&&(k+1==(rg rs r).length))))=false:=by
   by_cases e:r=s
   ·subst e
    have hik:i<k:=by omega
    rw[beq_self_eq_true,Bool.true_and,Bool.eq_false_iff]
    intro h2
    refine hn ⟨I, ?_⟩
    rw[He hi,He hk]
    simp only[Bool.or_eq_true,Bool.and_eq_true,decide_eq_true_eq,beq_iff_eq] at h2
    split<;>split<;>omega
   ·rw[beq_eq_false_iff_ne.2 e];rfl
  rw[this,Bool.not_false,Bool.true_and] at hb
  exact hb
 refine(Qi rs).2 fun r i s k hr hi hs hk hn=> ?_
 by_cases ho:r<s∨(r=s∧i<k)
 ·exact one r i s k hr hi hs hk ho hn
 ·rw[KY]
  have hne: ¬(r=s∧i=k):=fun⟨e1,e2⟩=>hn ⟨e1, .inl e2⟩
  refine one s k r i hs hk hr hi (by omega) fun hn2=>hn ?_
  obtain⟨rfl,hn2⟩:=hn2
  exact⟨I,by omega⟩
theorem Mv (W:World) (p:Option Addr) (cap:Nat) (rs:List (List Sd)) (hn:rs.length<4611686018427387904) (hl: ∀l∈rs,l.length<4611686018427387904) (hR:BB W p rs):
  Ad Tryz.prog 105 #[slv p rs.length cap] W (fun _:Unit=> .bool (crs rs)) (fun _=>True) (fun _=>[]):=by
 refine Ab (args:=[slv p rs.length cap]) Tryz.func105 I I I ?_
 refine zA (zB (wP I (Aa (zE (zA (zA (zB (wP I (Aa (zE (zH ?_)))))))))))
 refine At (X:=Nat) (fun r=>[(0,slv p rs.length cap),(3, .int .i64 (r:Nat))]) (fun _=>[])
  (fun r=>r≤rs.length∧ ∀r' i s k,r'<r→r'<rs.length→i<(rg rs r').length→s<rs.length→k<(rg rs s).length→r'≤s→J4 rs r' i s k=false) (fun r=>rs.length-r) 0 ⟨Nat.zero_le _,fun r' i s k h=>absurd h (Nat.not_lt_zero _)⟩ ⟨rfl,rfl,trivial⟩ [] rfl ?_
 rintro r ⟨hr,P1⟩
 refine zA (zA (zB (wP I (wP I (wP I (wP I (Aa (zE ?_))))))))
 refine Af I (fun h=> ?_) (fun h=> ?_)
 rotate_left
 ·have e:r=rs.length:=by simp at h;omega
  subst e
  refine zJ (zK (zK (zL (zE (zA (zB (wP I (Aa (zE (zO ?_))))))))))
  have hc:crs rs=false:=Vh fun r' i s k h1 h2 h3 h4 h5=>P1 r' i s k h1 h1 h2 h3 h4 h5
  exact wR1 I I (by rw[hc])
 have hr:r<rs.length:=by simp at h;omega
 clear h
 obtain⟨b,off,rfl,hrow⟩:=hR.row hr
 obtain⟨q,cap2,hq1,hq2⟩:=hrow r hr
 have hlr:=hl _ (List.mem_of_getElem? (Bc hr))
 refine zI (zE (zA (zH (zA (zB (wP I (Aa (zE (zH ?_)))))))))
 refine At (X:=Nat) (fun i=>[(0,slv (some ⟨b,off,none⟩) rs.length cap),(3, .int .i64 (r:Nat)),(4, .int .i64 (i:Nat))]) (fun _=>[])
  (fun i=>i≤(rg rs r).length∧ ∀i' s k,i'<i→i'<(rg rs r).length→s<rs.length→k<(rg rs s).length→r≤s→J4 rs r i' s k=false) (fun i=>(rg rs r).length-i) 0 ⟨Nat.zero_le _,fun i' s k h=>absurd h (Nat.not_lt_zero _)⟩ ⟨rfl,rfl,rfl,trivial⟩ [] rfl ?_
 rintro i ⟨hi,P2⟩
 refine zA (zA (zB (wP I (wP I (wP I ?_)))))
 refine wJ ?_
 refine wL 0 I I (fun W hp=>hq1.hp hp) I (wP I (wP I (Aa (zE ?_))))
 refine Af I (fun h=> ?_) (fun h=> ?_)
 rotate_left
 ·have e:i=(rg rs r).length:=by simp at h;omega
  subst e
  refine zJ (zK (zK (zL (zN (zE (zB (wP I (wP I (wP I (Aa ?_))))))))))
  refine Aj (r+1) ⟨hr,fun r' i' s k h0 h1 h2 h3 h4 h5=> ?_⟩ (by omega) ⟨I,congrArg (fun z=>some (Value.int .i64 z)) (AG (x:=(r:Int)+1) (by omega) (by omega)),O⟩ [] I
  by_cases e:r'=r
  ·subst e;exact P2 i' s k h2 h2 h3 h4 h5
  ·exact P1 r' i' s k (by omega) h1 h2 h3 h4 h5
 have hi:i<(rg rs r).length:=by simp at h;omega
 clear h
 refine zI (zE (zA (zH (zA (zB (wP I (wP I (Aa (zE (zH ?_))))))))))
 refine At (X:=Nat) (fun s=>[(0,slv (some ⟨b,off,none⟩) rs.length cap),(3, .int .i64 (r:Nat)),(4, .int .i64 (i:Nat)),(5, .int .i64 (s:Nat))]) (fun _=>[])
  (fun s=>s≤rs.length∧r≤s∧ ∀s' k,s'<s→s'<rs.length→k<(rg rs s').length→r≤s'→J4 rs r i s' k=false) (fun s=>rs.length-s) r ⟨by omega,Nat.le_refl _,fun s' k h0 _ _ h5=>absurd h0 (by omega)⟩ ⟨rfl,rfl,rfl,rfl,trivial⟩ [] rfl ?_
 rintro s ⟨hs,hrs,P3⟩
 refine zA (zA (zB (wP I (wP I (wP I (wP I (Aa (zE ?_))))))))
 refine Af I (fun h=> ?_) (fun h=> ?_)
 rotate_left
 ·have e:s=rs.length:=by simp at h;omega
  subst e
  refine zJ (zK (zK (zL (zN (zE (zB (wP I (wP I (wP I (Aa ?_))))))))))
  refine Aj (i+1) ⟨hi,fun i' s k h0 h2 h3 h4 h5=> ?_⟩ (by omega) ⟨I,I,congrArg (fun z=>some (Value.int .i64 z)) (AG (x:=(i:Int)+1) (by omega) (by omega)),O⟩ [] I
  by_cases e:i'=i
  ·subst e;exact P3 s k h3 h3 h4 h5
  ·exact P2 i' s k (by omega) h2 h3 h4 h5
 have hs:s<rs.length:=by simp at h;omega
 clear h
 obtain⟨q',cap3,hq3,hq4⟩:=hrow s hs
 have hls:=hl _ (List.mem_of_getElem? (Bc hs))
 refine zI (zE (zA (zH (zA (zB (wP I (Aa (zE (zH ?_)))))))))
 refine At (X:=Nat) (fun k=>[(0,slv (some ⟨b,off,none⟩) rs.length cap),(3, .int .i64 (r:Nat)),(4, .int .i64 (i:Nat)),(5, .int .i64 (s:Nat)),(6, .int .i64 (k:Nat))]) (fun _=>[])
  (fun k=>k≤(rg rs s).length∧ ∀k',k'<k→J4 rs r i s k'=false) (fun k=>(rg rs s).length-k) 0 ⟨Nat.zero_le _,fun k' h=>absurd h (Nat.not_lt_zero _)⟩ ⟨rfl,rfl,rfl,rfl,rfl,trivial⟩ [] rfl ?_
 rintro k ⟨hk,P4⟩
 refine zA (zA (zB (wP I (wP I (wP I ?_)))))
 refine wJ ?_
 refine wL 0 I I (fun W hp=>hq3.hp hp) I (wP I (wP I (Aa (zE ?_))))
 refine Af I (fun h=> ?_) (fun h=> ?_)
 rotate_left
 ·have e:k=(rg rs s).length:=by simp at h;omega
  subst e
  refine zJ (zK (zK (zL (zN (zE (zB (wP I (wP I (wP I (Aa ?_))))))))))
  refine Aj (s+1) ⟨hs,by omega,fun s' k h0 h3 h4 h5=> ?_⟩ (by omega) ⟨I,I,I,congrArg (fun z=>some (Value.int .i64 z)) (AG (x:=(s:Int)+1) (by omega) (by omega)),O⟩ [] I
  by_cases e:s'=s
  ·subst e;exact P4 k h4
  ·exact P3 s' k (by omega) h3 h4 h5
 have hk:k<(rg rs s).length:=by simp at h;omega
 clear h
 have fin:J4 rs r i s k=false→ ∀k',k'<k+1→J4 rs r i s k'=false:=fun h k' hk'=>by
  by_cases e:k'=k
  ·subst e;exact h
  ·exact P4 k' (by omega)
 have e1: ∀z:Int,z=(k:Int)+1→w64 z=((k+1:Nat):Int):=fun z h=>by rw[h,Ai (by omega) (by omega)];omega
 -- the side is left out
 have skip:((r==s)&&(decide (k≤i)||(k==i+1)||((i==0)&&(k+1==(rg rs r).length))))=true→J4 rs r i s k=false:=fun h=>by unfold J4;rw[h];rfl
 have test:((r==s)&&(decide (k≤i)||(k==i+1)||((i==0)&&(k+1==(rg rs r).length))))=false→J4 rs r i s k=E4 (sd (rg rs r) i) (sd (rg rs r) (nxt (rg rs r).length i)) (sd (rg rs s) k) (sd (rg rs s) (nxt (rg rs s).length k)):=fun h=>by unfold J4;rw[h];rfl
 obtain⟨C1,c1⟩: ∃b,((r:Int)==(s:Int))=b:=⟨_,rfl⟩
 obtain⟨C2,c2⟩: ∃b,decide ((k:Int)≤(i:Int))=b:=⟨_,rfl⟩
 obtain⟨C3,c3⟩: ∃b,((k:Int)==w64 ((i:Int)+1))=b:=⟨_,rfl⟩
 obtain⟨C4,c4⟩: ∃b,((i:Int)==0)=b:=⟨_,rfl⟩
 obtain⟨C5,c5⟩: ∃b,((k:Int)==w64 (((rg rs r).length:Nat)-1))=b:=⟨_,rfl⟩
 have hC:((r==s)&&(decide (k≤i)||(k==i+1)||((i==0)&&(k+1==(rg rs r).length))))=(C1&&(C2||C3||(C4&&C5))):=by
  rw[Ai (by omega) (by omega)] at c3 c5
  rw[←c1, ←c2, ←c3, ←c4, ←c5,C7]
  have a2:decide (k≤i)=decide ((k:Int)≤(i:Int)):=by by_cases h:k≤i;rw[dT h,dT (by omega)];rw[dF h,dF (by omega)]
  have a3:(k==i+1)=((k:Int)==(i:Int)+1):=by rw[Bool.eq_iff_iff,beq_iff_eq,beq_iff_eq];omega
  have a4:(i==0)=((i:Int)==0):=by rw[Bool.eq_iff_iff,beq_iff_eq,beq_iff_eq];omega
  have a5:(k+1==(rg rs r).length)=((k:Int)==((rg rs r).length:Nat)-1):=by rw[Bool.eq_iff_iff,beq_iff_eq,beq_iff_eq];omega
  rw[a2,a3,a4,a5]
 refine zI (zE (zA (zH (zA (zB (wP I (wP I ?_)))))))
 refine wJ ?_
 refine wL 0 I I (fun W hp=>hq1.hp hp) I (wP I (wP I (Aa (zE (zA (zA (zB (wP I (wP I (wP I (wP I ?_)))))))))))
 refine AH 47 I (fun h47=> ?_) (fun h47=> ?_)
 ·refine wP I (wP I (wP I (wP I ?_)))
  refine AH 51 I (fun h51=> ?_) (fun h51=> ?_)
  ·refine Ae I I ?_
   iterate 3 refine Ae I I ?_
   refine wP I (wP I ?_)
   iterate 8 refine Ae I I ?_
   refine wP I (wP I (Aa ?_))
   have e:(C1&&(C2||C3||(C4&&C5)))=true:=by first|(rw[show C1=true from c1.symm.trans h47,show C2=true from c2.symm.trans h51];rfl)|(rw[show C1=true from c1.symm.trans h47,show C3=true from c3.symm.trans h57];cases C2<;>rfl)
   exact zE (zR I (zJ (zK (zL (zE (zB (wP I (wP I (wP I (Aa (Aj (k+1) ⟨hk,fin (skip (hC.trans e))⟩ (by omega) ⟨I,I,I,I,congrArg (fun z=>some (Value.int .i64 z)) (AG (x:=(k:Int)+1) (by omega) (by omega)),O⟩ [] I)))))))))))
  ·refine wP I ?_
   iterate 5 refine wP I ?_
   refine AH 57 I (fun h57=> ?_) (fun h57=> ?_)
   ·refine Ae I I ?_
    iterate 7 refine Ae I I ?_
    refine wP I (wP I (Aa ?_))
    have e:(C1&&(C2||C3||(C4&&C5)))=true:=by first|(rw[show C1=true from c1.symm.trans h47,show C2=true from c2.symm.trans h51];rfl)|(rw[show C1=true from c1.symm.trans h47,show C3=true from c3.symm.trans h57];cases C2<;>rfl)
    exact zE (zR I (zJ (zK (zL (zE (zB (wP I (wP I (wP I (Aa (Aj (k+1) ⟨hk,fin (skip (hC.trans e))⟩ (by omega) ⟨I,I,I,I,congrArg (fun z=>some (Value.int .i64 z)) (AG (x:=(k:Int)+1) (by omega) (by omega)),O⟩ [] I)))))))))))
   ·refine wP I (wP I (wP I ?_))
    refine AH 60 I (fun h60=> ?_) (fun h60=> ?_)
    ·refine wP I ?_
     iterate 6 refine wP I ?_
     refine Aa (zE ?_)
     refine Af I (fun hx=> ?_) (fun hx=> ?_)
     ·have e:(C1&&(C2||C3||(C4&&C5)))=true:=by first|(rw[show C1=true from c1.symm.trans h47,show C3=true from c3.symm.trans h57];cases C2<;>rfl)|(rw[show C1=true from c1.symm.trans h47,show C4=true from c4.symm.trans h60,show C5=true from c5.symm.trans hx];cases C2<;>cases C3<;>rfl)|(rw[show C1=true from c1.symm.trans h47,show C3=true from c3.symm.trans hx];cases C2<;>rfl)
      exact zJ (zK (zL (zE (zB (wP I (wP I (wP I (Aa (Aj (k+1) ⟨hk,fin (skip (hC.trans e))⟩ (by omega) ⟨I,I,I,I,congrArg (fun z=>some (Value.int .i64 z)) (AG (x:=(k:Int)+1) (by omega) (by omega)),O⟩ [] I)))))))))
     ·have e:(C1&&(C2||C3||(C4&&C5)))=false:=by first|(rw[show C2=false from c2.symm.trans h51,show C3=false from c3.symm.trans h57,show C5=false from c5.symm.trans hx,Bool.and_false];cases C1<;>rfl)
      refine zI (zE (zA (zU (qP I (qP I ?_)))))
      refine qJ ?_
      refine qL 0 I I (fun W hp=>hq1.hp hp) I (qP I (qP I (qP I ?_)))
      refine qJ ?_
      refine qL 0 I I (fun W hp=>hq3.hp hp) I (qP I (qC I I (fun W hp=>Iv W q q' cap2 cap3 (rg rs r) (rg rs s) i k hlr hls (hq2.hp hp) (hq4.hp hp) hi hk) (A4 (Aa (zE ?_)))))
      refine Af I (fun h=> ?_) (fun h=> ?_)
      ·refine zA (zB (wP I (Aa (zE (zO (zQ (zP (zP (zQ (zQ (zP (zP (zQ (zQ ?_))))))))))))))
       refine zP (zP (zQ (zQ (zP (zP (zQ (zP ?_)))))))
       have hc:crs rs=true:=Md hr hi hs hk ((test (hC.trans e)).trans h)
       exact wR1 I I (by rw[hc])
      ·exact zI (zN (zE (zB (wP I (wP I (wP I (Aa (Aj (k+1) ⟨hk,fin ((test (hC.trans e)).trans h)⟩ (by omega) ⟨I,I,I,I,congrArg (fun z=>some (Value.int .i64 z)) (AG (x:=(k:Int)+1) (by omega) (by omega)),O⟩ [] I))))))))
    ·refine Ae I I ?_
     iterate 3 refine Ae I I ?_
     refine wP I (wP I (wP I (Aa ?_)))
     have e:(C1&&(C2||C3||(C4&&C5)))=false:=by first|(rw[show C1=false from c1.symm.trans h47];rfl)|(rw[show C2=false from c2.symm.trans h51,show C3=false from c3.symm.trans h57,show C4=false from c4.symm.trans h60,Bool.false_and];cases C1<;>rfl)
     refine zE (zS I (zI (zE (zA (zU (qP I (qP I ?_)))))))
     refine qJ ?_
     refine qL 0 I I (fun W hp=>hq1.hp hp) I (qP I (qP I (qP I ?_)))
     refine qJ ?_
     refine qL 0 I I (fun W hp=>hq3.hp hp) I (qP I (qC I I (fun W hp=>Iv W q q' cap2 cap3 (rg rs r) (rg rs s) i k hlr hls (hq2.hp hp) (hq4.hp hp) hi hk) (A4 (Aa (zE ?_)))))
     refine Af I (fun h=> ?_) (fun h=> ?_)
     ·refine zA (zB (wP I (Aa (zE (zO (zQ (zP (zP (zQ (zQ (zP (zP (zQ (zQ ?_))))))))))))))
      refine zP (zP (zQ (zQ (zP (zP (zQ (zP ?_)))))))
      have hc:crs rs=true:=Md hr hi hs hk ((test (hC.trans e)).trans h)
      exact wR1 I I (by rw[hc])
     ·exact zI (zN (zE (zB (wP I (wP I (wP I (Aa (Aj (k+1) ⟨hk,fin ((test (hC.trans e)).trans h)⟩ (by omega) ⟨I,I,I,I,congrArg (fun z=>some (Value.int .i64 z)) (AG (x:=(k:Int)+1) (by omega) (by omega)),O⟩ [] I))))))))
 ·refine Ae I I ?_
  iterate 18 refine Ae I I ?_
  refine wP I (Aa ?_)
  have e:(C1&&(C2||C3||(C4&&C5)))=false:=by first|(rw[show C1=false from c1.symm.trans h47];rfl)|(rw[show C2=false from c2.symm.trans h51,show C3=false from c3.symm.trans h57,show C4=false from c4.symm.trans h60,Bool.false_and];cases C1<;>rfl)
  refine zE (zS I (zI (zE (zA (zU (qP I (qP I ?_)))))))
  refine qJ ?_
  refine qL 0 I I (fun W hp=>hq1.hp hp) I (qP I (qP I (qP I ?_)))
  refine qJ ?_
  refine qL 0 I I (fun W hp=>hq3.hp hp) I (qP I (qC I I (fun W hp=>Iv W q q' cap2 cap3 (rg rs r) (rg rs s) i k hlr hls (hq2.hp hp) (hq4.hp hp) hi hk) (A4 (Aa (zE ?_)))))
  refine Af I (fun h=> ?_) (fun h=> ?_)
  ·refine zA (zB (wP I (Aa (zE (zO (zQ (zP (zP (zQ (zQ (zP (zP (zQ (zQ ?_))))))))))))))
   refine zP (zP (zQ (zQ (zP (zP (zQ (zP ?_)))))))
   have hc:crs rs=true:=Md hr hi hs hk ((test (hC.trans e)).trans h)
   exact wR1 I I (by rw[hc])
  ·exact zI (zN (zE (zB (wP I (wP I (wP I (Aa (Aj (k+1) ⟨hk,fin ((test (hC.trans e)).trans h)⟩ (by omega) ⟨I,I,I,I,congrArg (fun z=>some (Value.int .i64 z)) (AG (x:=(k:Int)+1) (by omega) (by omega)),O⟩ [] I))))))))
-- BOXES 2
def NQ (rs:List (List Sd)) (r s:Nat):Bool:=(s==r)||(G5 (rg rs s) (sd (rg rs r) 0).x (sd (rg rs r) 0).y (rg rs s).length==(s==0))
def SL (rs:List (List Sd)) (r:Nat):Bool:=(r==0)||(!decide (twR (rg rs r) (rg rs r).length≥0)&&(List.range rs.length).all (NQ rs r))
def HI (rs:List (List Sd)):Bool:= !decide (twR (rg rs 0) (rg rs 0).length≤0)&&(List.range rs.length).all (SL rs)
theorem Oi (W:World) (p:Option Addr) (cap:Nat) (rs:List (List Sd)) (hn:rs.length<4611686018427387904) (hl: ∀l∈rs,l.length<4611686018427387904) (hne: ∀l∈rs,l≠[]) (h0:0<rs.length) (hR:BB W p rs):
  Ad Tryz.prog 106 #[slv p rs.length cap] W (fun _:Unit=> .bool (HI rs)) (fun _=>True) (fun _=>[]):=by
 obtain⟨b,off,rfl,hrow⟩:=hR.row h0
 obtain⟨q0,cap0,hq1,hq2⟩:=hrow 0 h0
 refine Ab (args:=[slv (some ⟨b,off,none⟩) rs.length cap]) Tryz.func106 I I I ?_
 refine zA (zB (wP I (Aa (zE (zA (zA (zB (wP I ?_))))))))
 refine wJ ?_
 refine wL 0 I I (fun W hp=>hq1.hp hp) I (wC I I (fun W hp=>L5 W q0 cap0 (rg rs 0) (hl _ (List.mem_of_getElem? (Bc h0))) (hq2.hp hp)) (wP I (Aa (zE ?_))))
 refine Af I (fun h=> ?_) (fun h=> ?_)
 ·refine zA (zB (wP I (Aa (zE (zO (zP ?_))))))
  have hf:HI rs=false:=by unfold HI;rw[show decide (twR (rg rs 0) (rg rs 0).length≤0)=true from h];rfl
  exact wR1 I I (by rw[hf])
 have hA:decide (twR (rg rs 0) (rg rs 0).length≤0)=false:=h
 clear h
 refine zI (zE (zA (zA (zB (wP I (Aa (zE (zH ?_))))))))
 refine At (X:=Nat) (fun r=>[(0,slv (some ⟨b,off,none⟩) rs.length cap),(3, .int .i64 (r:Nat))]) (fun _=>[]) (fun r=>1≤r∧r≤rs.length∧ ∀j,j<r→SL rs j=true) (fun r=>rs.length-r) 1
  ⟨Nat.le_refl _,h0,fun j hj=>by rw[show j=0 by omega];rfl⟩ ⟨rfl,rfl,trivial⟩ [] rfl ?_
 rintro r ⟨hr1,hr,hok⟩
 refine zA (zA (zB (wP I (wP I (wP I (wP I (Aa (zE ?_))))))))
 refine Af I (fun h=> ?_) (fun h=> ?_)
 rotate_left
 ·have e:r=rs.length:=by simp at h;omega
  subst e
  refine zJ (zK (zK (zL (zE (zA (zB (wP I (Aa (zE (zO ?_))))))))))
  have ht:HI rs=true:=by unfold HI;rw[hA,List.all_eq_true.2 fun j hj=>hok j (List.mem_range.1 hj)];rfl
  exact wR1 I I (by rw[ht])
 have hr:r<rs.length:=by simp at h;omega
 clear h
 obtain⟨q,cap2,hq3,hq4⟩:=hrow r hr
 have hlr:=hl _ (List.mem_of_getElem? (Bc hr))
 have hner:0<(rg rs r).length:=List.length_pos_iff.2 (hne _ (List.mem_of_getElem? (Bc hr)))
 have hr0:(r==0)=false:=beq_eq_false_iff_ne.2 (by omega)
 refine zI (zE (zA (zH (zA (zA (zB (wP I (wP I ?_))))))))
 refine wJ ?_
 refine wL 0 I I (fun W hp=>hq3.hp hp) I (wC I I (fun W hp=>L5 W q cap2 (rg rs r) hlr (hq4.hp hp)) (wP I (Aa (zE ?_))))
 refine Af I (fun h=> ?_) (fun h=> ?_)
 ·refine zA (zB (wP I (Aa (zE (zO (zP (zQ (zP (zP (zQ (zP ?_)))))))))))
  have hf:HI rs=false:=by unfold HI;rw[BO hr (by unfold SL;rw[hr0,show decide (twR (rg rs r) (rg rs r).length≥0)=true from h];rfl),Bool.and_false]
  exact wR1 I I (by rw[hf])
 have hB:decide (twR (rg rs r) (rg rs r).length≥0)=false:=h
 clear h
 refine zI (zE (zA (zB (wP I (Aa (zE (zH ?_)))))))
 refine At (X:=Nat) (fun s=>[(0,slv (some ⟨b,off,none⟩) rs.length cap),(3, .int .i64 (r:Nat)),(4, .int .i64 (s:Nat))]) (fun _=>[]) (fun s=>s≤rs.length∧ ∀j,j<s→NQ rs r j=true) (fun s=>rs.length-s) 0
  ⟨Nat.zero_le _,fun j hj=>absurd hj (Nat.not_lt_zero _)⟩ ⟨rfl,rfl,rfl,trivial⟩ [] rfl ?_
 rintro s ⟨hs,hoks⟩
 refine zA (zA (zB (wP I (wP I (wP I (wP I (Aa (zE ?_))))))))
 refine Af I (fun h=> ?_) (fun h=> ?_)
 rotate_left
 ·have e:s=rs.length:=by simp at h;omega
  subst e
  refine zJ (zK (zK (zL (zN (zE (zB (wP I (wP I (wP I (Aa ?_))))))))))
  refine Aj (r+1) ⟨by omega,hr,fun j hj=> ?_⟩ (by omega) ⟨I,congrArg (fun z=>some (Value.int .i64 z)) (AG (x:=(r:Int)+1) (by omega) (by omega)),O⟩ [] I
  by_cases e:j=r
  ·subst e
   unfold SL
   rw[hB,List.all_eq_true.2 fun m hm=>hoks m (List.mem_range.1 hm),hr0];rfl
  ·exact hok j (by omega)
 have hs:s<rs.length:=by simp at h;omega
 clear h
 obtain⟨q',cap3,hq5,hq6⟩:=hrow s hs
 have hls:=hl _ (List.mem_of_getElem? (Bc hs))
 have next:NQ rs r s=true→ ∀j,j<s+1→NQ rs r j=true:=fun h j hj=>by
  by_cases e:j=s
  ·subst e;exact h
  ·exact hoks j (by omega)
 obtain⟨b3,off3,rfl,hrow3⟩:=hq4.row hner
 refine zI (zE (zA (zH (zA (zU (qP I (qP I (qP I (qP I ?_)))))))))
 refine H3 31 I (fun h31=> ?_) (fun h31=> ?_)
 ·refine qP I (qP I ?_)
  refine qJ ?_
  refine qL 0 I I (fun W hp=>hq5.hp hp) I (qP I (qP I ?_))
  refine qJ ?_
  refine qL 0 I I (fun W hp=>hq3.hp hp) I ?_
  refine qJ ?_
  refine qP I (qL 0 I I (fun W hp=>(hrow3 0 hner).hp hp) I (qP I (qP I ?_)))
  refine qJ ?_
  refine qL 0 I I (fun W hp=>hq3.hp hp) I ?_
  refine qJ ?_
  refine qP I (qL 1 I I (fun W hp=>(hrow3 0 hner).hp hp) I (qC I I (fun W hp=>NW W q' cap3 (rg rs s) _ _ hls (hq6.hp hp)) (qP I (qP I ?_))))
  refine KI Tryz.underlying4 I I I I I I ?_
  refine qP I (A4 (Aa ?_))
  have e:(s==r)=false:=by have h':((s:Int) !=(r:Int))=true:=h31;rw[bne_iff_ne] at h';rw[beq_eq_false_iff_ne];omega
  refine zE ?_
  refine Af I (fun h=> ?_) (fun h=> ?_)
  ·refine zA (zB (wP I (Aa (zE (zO (zQ (zP (zP (zQ (zQ (zP (zP (zQ ?_)))))))))))))
   refine zP ?_
   have h':(G5 (rg rs s) (sd (rg rs r) 0).x (sd (rg rs r) 0).y (rg rs s).length==(s==0))=false:=by
    rw[←C7 s 0]
    have h2:(!(G5 (rg rs s) (sd (rg rs r) 0).x (sd (rg rs r) 0).y (rg rs s).length==((s:Int)==0)))=true:=h
    simpa using h2
   have hf:HI rs=false:=by unfold HI;rw[BO hr (by unfold SL;rw[hr0,BO hs (by unfold NQ;rw[e,h'];rfl),Bool.and_false];rfl),Bool.and_false]
   exact wR1 I I (by rw[hf])
  ·have h':(G5 (rg rs s) (sd (rg rs r) 0).x (sd (rg rs r) 0).y (rg rs s).length==(s==0))=true:=by
    rw[←C7 s 0]
    have h2:(!(G5 (rg rs s) (sd (rg rs r) 0).x (sd (rg rs r) 0).y (rg rs s).length==((s:Int)==0)))=false:=h
    simpa using h2
   exact zI (zN (zE (zB (wP I (wP I (wP I (Aa (Aj (s+1) ⟨hs,next (by unfold NQ;rw[h',Bool.or_true])⟩ (by omega) ⟨I,I,congrArg (fun z=>some (Value.int .i64 z)) (AG (x:=(s:Int)+1) (by omega) (by omega)),O⟩ [] I))))))))
 ·refine B7 I I ?_
  iterate 21 refine B7 I I ?_
  refine qP I (A4 (Aa ?_))
  have e:(s==r)=true:=by have h':((s:Int) !=(r:Int))=false:=h31;rw[bne_eq_false_iff_eq] at h';rw[beq_iff_eq];omega
  exact zE (zS I (zI (zN (zE (zB (wP I (wP I (wP I (Aa (Aj (s+1) ⟨hs,next (by unfold NQ;rw[e];rfl)⟩ (by omega) ⟨I,I,congrArg (fun z=>some (Value.int .i64 z)) (AG (x:=(s:Int)+1) (by omega) (by omega)),O⟩ [] I))))))))))
def Ie (l:List Sd) (k:Nat):Bool:= !(decide (KS l k<0)&&((sd l (prv l.length k)).gable||(sd l k).gable||((sd l (prv l.length k)).plate !=(sd l k).plate)))
def K4 (rs:List (List Sd)):Bool:=rs.all (fun l=>(List.range l.length).all (Ie l))&&AZ rs rs.length
theorem Pp (W:World) (p:Option Addr) (cap:Nat) (rs:List (List Sd)) (hn:rs.length<4611686018427387904) (hl: ∀l∈rs,l.length<4611686018427387904) (hR:BB W p rs):
  Ad Tryz.prog 107 #[slv p rs.length cap] W (fun _:Unit=> .bool (K4 rs)) (fun _=>True) (fun _=>[]):=by
 refine Ab (args:=[slv p rs.length cap]) Tryz.func107 I I I ?_
 refine zA (zB (wP I (Aa (zE (zA (zB (wP I (Aa (zE (zA (zA (zB (wP I ?_)))))))))))))
 refine Aa (zE (zH ?_))
 refine At (X:=Nat) (fun r=>[(0,slv p rs.length cap),(3, .bool (AZ rs r)),(4, .int .i64 (r:Nat))]) (fun _=>[]) (fun r=>r≤rs.length∧ ∀j,j<r→(List.range (rg rs j).length).all (Ie (rg rs j))=true) (fun r=>rs.length-r) 0
  ⟨Nat.zero_le _,fun j hj=>absurd hj (Nat.not_lt_zero _)⟩ ⟨rfl,rfl,rfl,trivial⟩ [] rfl ?_
 rintro r ⟨hr,hok⟩
 refine zA (zA (zB (wP I (wP I (wP I (wP I (Aa (zE ?_))))))))
 refine Af I (fun h=> ?_) (fun h=> ?_)
 rotate_left
 ·have e:r=rs.length:=by simp at h;omega
  subst e
  refine zJ (zK (zK (zL (zE (zA (zB (wP I (wP I (Aa (zE (zO ?_)))))))))))
  have ht:K4 rs=AZ rs rs.length:=by
   unfold K4
   rw[List.all_eq_true.2 fun l hl=> ?_,Bool.true_and]
   obtain⟨j,hj,e⟩:=List.getElem_of_mem hl
   have:=hok j hj
   rw[show rg rs j=l by simp[rg,hj,e]] at this
   exact this
  exact wR1 I I (by rw[ht])
 have hr:r<rs.length:=by simp at h;omega
 clear h
 obtain⟨b,off,rfl,hrow⟩:=hR.row hr
 obtain⟨q,cap2,hq1,hq2⟩:=hrow r hr
 have hlr:=hl _ (List.mem_of_getElem? (Bc hr))
 refine zI (zE (zA (zH (zA (zB (wP I (wP I ?_)))))))
 refine wJ ?_
 refine wL 0 I I (fun W hp=>hq1.hp hp) I (wP I (Aa (zE (zA (zB (wP I (Aa (zE (zH ?_)))))))))
 refine At (X:=Nat) (fun i=>[(0,slv (some ⟨b,off,none⟩) rs.length cap),(3, .bool (Bp (rg rs r) (AZ rs r) i)),(4, .int .i64 (r:Nat)),(5,slv q (rg rs r).length cap2),(6, .int .i64 (i:Nat))]) (fun _=>[]) (fun i=>i≤(rg rs r).length∧ ∀j,j<i→Ie (rg rs r) j=true) (fun i=>(rg rs r).length-i) 0
  ⟨Nat.zero_le _,fun j hj=>absurd hj (Nat.not_lt_zero _)⟩ ⟨rfl,rfl,rfl,rfl,rfl,trivial⟩ [] rfl ?_
 rintro i ⟨hi,hoki⟩
 refine zA (zA (zB (wP I (wP I (wP I (wP I (Aa (zE ?_))))))))
 refine Af I (fun h=> ?_) (fun h=> ?_)
 rotate_left
 ·have e:i=(rg rs r).length:=by simp at h;omega
  subst e
  refine zJ (zK (zK (zL (zN (zE (zB (wP I (wP I (wP I (Aa ?_))))))))))
  refine Aj (r+1) ⟨hr,fun j hj=> ?_⟩ (by omega) ⟨I,I,congrArg (fun z=>some (Value.int .i64 z)) (AG (x:=(r:Int)+1) (by omega) (by omega)),O⟩ [] I
  by_cases e:j=r
  ·subst e;exact List.all_eq_true.2 fun m hm=>hoki m (List.mem_range.1 hm)
  ·exact hok j (by omega)
 have hi:i<(rg rs r).length:=by simp at h;omega
 clear h
 have hi2:=Gw hi
 obtain⟨b3,off3,rfl,hrow3⟩:=hq2.row hi
 have bad:Ie (rg rs r) i=false→K4 rs=false:=fun h=>by
  unfold K4
  have:rs.all (fun l=>(List.range l.length).all (Ie l))=false:=Bool.eq_false_iff.2 fun e=>by
   have:=List.all_eq_true.1 e _ (List.mem_of_getElem? (Bc hr))
   rw[BO hi h] at this;cases this
  rw[this];rfl
 have good:Ie (rg rs r) i=true→ ∀j,j<i+1→Ie (rg rs r) j=true:=fun h j hj=>by
  by_cases e:j=i
  ·subst e;exact h
  ·exact hoki j (by omega)
 refine zI (zE (Av (BL ?_)))
 repeat refine Av ?_
 refine Mo (X:=Nat×Nat) (fun y=>[(0,slv (some ⟨b,off,none⟩) rs.length cap),(3, .bool (Bp (rg rs r) (AZ rs r) i)),(4, .int .i64 (r:Nat)),(5,slv (some ⟨b3,off3,none⟩) (rg rs r).length cap2),(6, .int .i64 (i:Nat)),(7, .pointer (some ⟨y.1,0,none⟩)),(8, .pointer (some ⟨y.2,0,none⟩))])
  (fun y=>[⟨y.1,80,(sd (rg rs r) (prv (rg rs r).length i)).cells,true,none⟩,⟨y.2,80,(sd (rg rs r) i).cells,true,none⟩]) 4 Tryz.mixed (by kernel_rfl) ?_ ?_
 ·refine qP I ?_
  iterate 5 refine qP I ?_
  refine qV 30 ((i+(rg rs r).length-1:Nat):Int) I (show w64 (w64 ((i:Nat)+((rg rs r).length:Nat))-1)=((i+(rg rs r).length-1:Nat):Int) by rw[Ai (x:=(i:Nat)+((rg rs r).length:Nat)) (by omega) (by omega),Ai (by omega) (by omega)];omega) (qP I (qP I ?_))
  refine EC I I I I I (by omega) ?_
  refine qV 33 (prv (rg rs r).length i:Nat) I (show Int.tmod ((i+(rg rs r).length-1:Nat):Int) ((rg rs r).length:Nat)=(prv (rg rs r).length i:Nat) from(Int.ofNat_tmod _ _).symm) ?_
  refine qJ ?_
  refine qL 0 I I (fun W hp=>(hrow3 _ hi2).hp hp) I (qP I (qP I ?_))
  refine qJ ?_
  refine qL 0 I I (fun W hp=>(hrow3 i hi).hp hp) I (CK (wX ?_))
  refine RS.cons ?_ (RS.cons ?_ (RS.nil))
  ·refine Ah Tryz.hZ rfl rfl rfl rfl ?_;intro b7
   refine Aa (Ag (wX (wZ ?_)))
   refine Ah Tryz.hZ rfl rfl rfl rfl ?_;intro b8
   refine Aa (Ag (wX (wZ (wS 0 I I I (Aa (Ag (wX (wZ (wS 1 I I I (Aa (Ag ?_)))))))))))
   (first|refine Be rfl (by((repeat (first|refine Bf.same ?_|refine Bf.off rfl ?_));exact trivial)) ?_|refine AF rfl (by kernel_rfl) ?_);(first|exact A6 (b7,b8) ⟨rfl,rfl,rfl,rfl,rfl,rfl,rfl,trivial⟩ [0,1] (by decide) rfl|exact A6 (b7,b8) ⟨rfl,rfl,rfl,rfl,rfl,rfl,rfl,trivial⟩ [1,0] (by decide) rfl)
  ·refine Ah Tryz.hZ rfl rfl rfl rfl ?_;intro b8
   refine Aa (Ag (wX (wZ ?_)))
   refine Ah Tryz.hZ rfl rfl rfl rfl ?_;intro b7
   refine Aa (Ag (wX (wZ (wS 1 I I I (Aa (Ag (wX (wZ (wS 0 I I I (Aa (Ag ?_)))))))))))
   (first|refine Be rfl (by((repeat (first|refine Bf.same ?_|refine Bf.off rfl ?_));exact trivial)) ?_|refine AF rfl (by kernel_rfl) ?_);(first|exact A6 (b7,b8) ⟨rfl,rfl,rfl,rfl,rfl,rfl,rfl,trivial⟩ [0,1] (by decide) rfl|exact A6 (b7,b8) ⟨rfl,rfl,rfl,rfl,rfl,rfl,rfl,trivial⟩ [1,0] (by decide) rfl)
 rintro⟨b7,b8⟩
 obtain⟨C1,c1⟩: ∃b,decide (KS (rg rs r) i<0)=b:=⟨_,rfl⟩
 obtain⟨C4,c4⟩: ∃b,((sd (rg rs r) (prv (rg rs r).length i)).plate !=(sd (rg rs r) i).plate)=b:=⟨_,rfl⟩
 have hC:Ie (rg rs r) i= !(C1&&((sd (rg rs r) (prv (rg rs r).length i)).gable||(sd (rg rs r) i).gable||C4)):=by unfold Ie;rw[c1,c4]
 refine zE (zA (zA (zB (wP I (wP I (wC I I (fun W hp=>M8 W _ cap2 (rg rs r) i hlr (hq2.hp hp) hi) (wP I (wP I ?_))))))))
 refine AH 44 I (fun h44=> ?_) (fun h44=> ?_)
 ·refine wP I (wB 0 I I I (wP I ?_))
  refine AH 47 I (fun h47=> ?_) (fun h47=> ?_)
  ·refine Ae I I ?_
   refine Ae I I ?_
   refine wP I (wP I ?_)
   iterate 5 refine Ae I I ?_
   refine wP I (wP I (Aa ?_))
   have e:Ie (rg rs r) i=false:=by
    rw[hC,show C1=true from c1.symm.trans h44]
    first
    |(rw[show(sd (rg rs r) (prv (rg rs r).length i)).gable=true from h47];rfl)
    |(rw[show(sd (rg rs r) i).gable=true from h51];cases(sd (rg rs r) (prv (rg rs r).length i)).gable<;>rfl)
   refine zE (zR I (zA (zB (wP I (Aa (zE (zO (zP (zQ (zP (zP (zQ (zQ ?_)))))))))))))
   exact zP (zP (zQ (zP (wR1 I I (by rw[bad e])))))
  ·refine wP I (wB 1 I I I (wP I (wP I ?_)))
   refine AH 51 I (fun h51=> ?_) (fun h51=> ?_)
   ·refine Ae I I ?_
    iterate 4 refine Ae I I ?_
    refine wP I (wP I (Aa ?_))
    have e:Ie (rg rs r) i=false:=by
     rw[hC,show C1=true from c1.symm.trans h44]
     first
     |(rw[show(sd (rg rs r) (prv (rg rs r).length i)).gable=true from h47];rfl)
     |(rw[show(sd (rg rs r) i).gable=true from h51];cases(sd (rg rs r) (prv (rg rs r).length i)).gable<;>rfl)
    refine zE (zR I (zA (zB (wP I (Aa (zE (zO (zP (zQ (zP (zP (zQ (zQ ?_)))))))))))))
    exact zP (zP (zQ (zP (wR1 I I (by rw[bad e])))))
   ·refine wP I (wB 0 I I I (wP I (wB 1 I I I (wP I (wP I (wP I (Aa (zE ?_))))))))
    refine Af I (fun hx=> ?_) (fun hx=> ?_)
    ·have e:Ie (rg rs r) i=false:=by
      rw[hC,show C1=true from c1.symm.trans h44,show C4=true from c4.symm.trans hx]
      cases(sd (rg rs r) (prv (rg rs r).length i)).gable<;>cases(sd (rg rs r) i).gable<;>rfl
     refine zA (zB (wP I (Aa (zE (zO (zP (zQ (zP (zP (zQ (zQ (zP (zP ?_)))))))))))))
     exact zQ (zP (wR1 I I (by rw[bad e])))
    ·have e:Ie (rg rs r) i=true:=by
      rw[hC,show(sd (rg rs r) (prv (rg rs r).length i)).gable=false from h47]
      rw[show(sd (rg rs r) i).gable=false from h51,show C4=false from c4.symm.trans hx]
      cases C1<;>rfl
     refine zI (zE (zB (wP I (wP I ?_))))
     refine AH 60 I (fun h60=> ?_) (fun h60=> ?_)
     ·refine Ae I I ?_
      iterate 2 refine Ae I I ?_
      exact wP I (wP I (Aa (zN (zE (zB (wP I (wP I (wP I (Aa (Aj (i+1) ⟨hi,good e⟩ (by omega) ⟨I,congrArg (fun z=>some (Value.bool z)) (show _=(Bp (rg rs r) (AZ rs r) i|| !(sd (rg rs r) i).gable) by first|(rw[show Bp (rg rs r) (AZ rs r) i=true from h60];rfl)|(rw[show Bp (rg rs r) (AZ rs r) i=false from h60];rfl)),I,I,congrArg (fun z=>some (Value.int .i64 z)) (AG (x:=(i:Int)+1) (by omega) (by omega)),O⟩ [_,_] I))))))))))
     ·exact wP I (wB 1 I I I (wP I (wP I (wP I (Aa (zN (zE (zB (wP I (wP I (wP I (Aa (Aj (i+1) ⟨hi,good e⟩ (by omega) ⟨I,congrArg (fun z=>some (Value.bool z)) (show _=(Bp (rg rs r) (AZ rs r) i|| !(sd (rg rs r) i).gable) by first|(rw[show Bp (rg rs r) (AZ rs r) i=true from h60];rfl)|(rw[show Bp (rg rs r) (AZ rs r) i=false from h60];rfl)),I,I,congrArg (fun z=>some (Value.int .i64 z)) (AG (x:=(i:Int)+1) (by omega) (by omega)),O⟩ [_,_] I)))))))))))))
 ·refine Ae I I ?_
  iterate 12 refine Ae I I ?_
  refine wP I (Aa ?_)
  have e:Ie (rg rs r) i=true:=by rw[hC,show C1=false from c1.symm.trans h44];rfl
  refine zE (zS I (zI (zE (zB (wP I (wP I ?_))))))
  refine AH 60 I (fun h60=> ?_) (fun h60=> ?_)
  ·refine Ae I I ?_
   iterate 2 refine Ae I I ?_
   exact wP I (wP I (Aa (zN (zE (zB (wP I (wP I (wP I (Aa (Aj (i+1) ⟨hi,good e⟩ (by omega) ⟨I,congrArg (fun z=>some (Value.bool z)) (show _=(Bp (rg rs r) (AZ rs r) i|| !(sd (rg rs r) i).gable) by first|(rw[show Bp (rg rs r) (AZ rs r) i=true from h60];rfl)|(rw[show Bp (rg rs r) (AZ rs r) i=false from h60];rfl)),I,I,congrArg (fun z=>some (Value.int .i64 z)) (AG (x:=(i:Int)+1) (by omega) (by omega)),O⟩ [_,_] I))))))))))
  ·exact wP I (wB 1 I I I (wP I (wP I (wP I (Aa (zN (zE (zB (wP I (wP I (wP I (Aa (Aj (i+1) ⟨hi,good e⟩ (by omega) ⟨I,congrArg (fun z=>some (Value.bool z)) (show _=(Bp (rg rs r) (AZ rs r) i|| !(sd (rg rs r) i).gable) by first|(rw[show Bp (rg rs r) (AZ rs r) i=true from h60];rfl)|(rw[show Bp (rg rs r) (AZ rs r) i=false from h60];rfl)),I,I,congrArg (fun z=>some (Value.int .i64 z)) (AG (x:=(i:Int)+1) (by omega) (by omega)),O⟩ [_,_] I)))))))))))))
-- BOXES 1
def ME (rs:List (List Sd)):Int:=
 if rs.any (fun l=>l.length==0)=true then 5
 else if tot rs=0 then 5
 else if tot rs>24 then 4
 else if rs.flatten.any (fun s=> !rgd s)=true then 2
 else if rs.any (fun l=> !Ja l)=true then 14
 else if crs rs=true then 15
 else if (!HI rs|| !K4 rs)=true then 14
 else 0
theorem PJ (W:World) (p:Option Addr) (cap:Nat) (rs:List (List Sd)) (hn:rs.length<4611686018427387904) (hT:tot rs<1099511627776) (hR:BB W p rs):
  Ad Tryz.prog 49 #[AD p rs.length cap] W (fun _:Unit=> .int .i64 (ME rs)) (fun _=>True) (fun _=>[]):=by
 have hl: ∀l∈rs,l.length<4611686018427387904:=fun l h=>by have:=Hq h;omega
 refine Ab (args:=[AD p rs.length cap]) Tryz.func49 I I I ?_
 refine zA (zB ?_)
 (refine Ax rfl rfl rfl rfl ?_;intro)
 refine wP I (Aa ?_)
 rename_i b1
 refine zE (zA (zA (zB (wP I (wB 0 I I I (wP I (wP I (Aa (zE ?_)))))))))
 refine Af I (fun h=> ?_) (fun h=> ?_)
 ·refine zA (zB (wP I (Aa (zE (zO (zP ?_))))))
  have h0:rs=[]:=by have h':(((rs.length:Nat):Int)==0)=true:=h;rw[beq_iff_eq] at h';exact List.length_eq_zero_iff.1 (by omega)
  exact wR1 rfl rfl (by subst h0;rfl)
 have hpos:0<rs.length:=by have h':(((rs.length:Nat):Int)==0)=false:=h;rw[beq_eq_false_iff_ne] at h';omega
 clear h
 obtain⟨b,off,rfl,hrow⟩:=hR.row hpos
 refine zI (zE (zA (zB (wP I (Aa (zE (zA (zA (zB (wP I (Aa (zE (zH ?_)))))))))))))
 refine At (X:=Nat) (fun k=>[(1, .pointer (some ⟨b1,0,none⟩)),(3, .int .i64 (tot (rs.take k):Nat)),(4, .int .i64 (k:Nat))]) (fun _=>[⟨b1,24,[slv (some ⟨b,off,none⟩) rs.length cap],true,none⟩])
  (fun k=>k≤rs.length∧ ∀j,j<k→(rg rs j).length≠0) (fun k=>rs.length-k) 0 ⟨Nat.zero_le _,fun j hj=>absurd hj (Nat.not_lt_zero _)⟩ ⟨rfl,rfl,rfl,trivial⟩ [] rfl ?_
 rintro k ⟨hk,hok⟩
 refine zA (zA (zB (wP I (wP I (wB 0 I I I (wP I (wP I (Aa (zE ?_)))))))))
 refine Af I (fun h=> ?_) (fun h=> ?_)
 ·have hk:k<rs.length:=by simp at h;omega
  clear h
  obtain⟨q,cap2,hq1,hq2⟩:=hrow k hk
  refine zI (zE (zA (zH (zA (zA (zB (wP I (wB 0 I I I (wP I ?_)))))))))
  refine wJ ?_
  refine wL 0 I I (fun W hp=>hq1.hp hp) I (wP I (wP I (Aa (zE ?_))))
  refine Af I (fun h=> ?_) (fun h=> ?_)
  ·refine zA (zB (wP I (Aa (zE (zO (zP (zQ (zP (zP (zQ (zP ?_)))))))))))
   have he:rs.any (fun l=>l.length==0)=true:=List.any_eq_true.2 ⟨_,List.mem_of_getElem? (Bc hk),by have h':((((rg rs k).length:Nat):Int)==0)=true:=h;rw[beq_iff_eq] at h'⊢;omega⟩
   exact wR1 I I (by unfold ME;rw[if_pos he])
  have hz:(rg rs k).length≠0:=by
   have h':((((rg rs k).length:Nat):Int)==0)=false:=h
   rw[beq_eq_false_iff_ne] at h';omega
  clear h
  refine zI (zE (zB (wP I (wP I (wB 0 I I I (wP I ?_))))))
  refine wJ ?_
  refine wL 0 I I (fun W hp=>hq1.hp hp) I (wP I (wP I (wP I (Aa ?_))))
  have hs:w64 ((tot (rs.take k):Nat)+((rg rs k).length:Nat))=(tot (rs.take (k+1)):Nat):=by
   have h1:=Bi hk
   have h2:=Ch rs (k+1)
   rw[Ai (by omega) (by omega)];omega
  refine zN (zE (zB ?_))
  refine Al 3 _ I (congrArg (Value.int .i64) hs) ?_
  refine wP I (wP I (wP I (Aa ?_)))
  refine Aj (k+1) ⟨hk,fun j hj=> ?_⟩ (by omega) ⟨I,I,congrArg (fun z=>some (Value.int .i64 z)) (AG (x:=(k:Int)+1) (by omega) (by omega)),O⟩ [] I
  by_cases e:j=k
  ·subst e;exact hz
  ·exact hok j (by omega)
 have e:k=rs.length:=by simp at h;omega
 subst e
 clear h
 rw[List.take_length]
 have hne: ∀l∈rs,l≠[]:=fun l hl e=>by
  obtain⟨i,hi,e2⟩:=List.getElem_of_mem hl
  have:=hok i hi
  rw[show rg rs i=rs[i] by simp[rg,hi],e2,e] at this
  exact this I
 have he:rs.any (fun l=>l.length==0)=false:=Bool.eq_false_iff.2 fun h2=>by
  obtain⟨l,h3,h4⟩:=List.any_eq_true.1 h2
  rw[beq_iff_eq] at h4
  exact hne l h3 (List.length_eq_zero_iff.1 h4)
 have hN: ¬(rs.any (fun l=>l.length==0)=true):=by rw[he];decide
 have h0: ¬tot rs=0:=by
  have h1:=Hq (List.mem_of_getElem? (Bc hpos))
  have h2:=hok 0 hpos
  omega
 refine zJ (zK (zK (zL (zE (zA (zA (zB (wP I (wP I (Aa (zE ?_)))))))))))
 refine Af I (fun h=> ?_) (fun h=> ?_)
 ·refine zA (zB (wP I (Aa (zE (zO (zP ?_))))))
  have h1:tot rs>24:=by have h':decide (((tot rs:Nat):Int)>24)=true:=h;rw[decide_eq_true_iff] at h';omega
  exact wR1 I I (by unfold ME;rw[if_neg hN,if_neg h0,if_pos h1])
 have h1: ¬tot rs>24:=by have h':decide (((tot rs:Nat):Int)>24)=false:=h;rw[decide_eq_false_iff_not] at h';omega
 clear h
 refine zI (zE (zA (zA (zB (wP I (Aa (zE (zH ?_))))))))
 refine At (X:=Nat) (fun k=>[(1, .pointer (some ⟨b1,0,none⟩)),(5, .int .i64 (k:Nat))]) (fun _=>[⟨b1,24,[slv (some ⟨b,off,none⟩) rs.length cap],true,none⟩])
  (fun k=>k≤rs.length∧ ∀j,j<k→ ∀s∈rg rs j,rgd s=true) (fun k=>rs.length-k) 0 ⟨Nat.zero_le _,fun j hj=>absurd hj (Nat.not_lt_zero _)⟩ ⟨rfl,rfl,trivial⟩ [] rfl ?_
 rintro k ⟨hk,hok2⟩
 refine zA (zA (zB (wP I (wP I (wB 0 I I I (wP I (wP I (Aa (zE ?_)))))))))
 refine Af I (fun h=> ?_) (fun h=> ?_)
 ·have hk:k<rs.length:=by simp at h;omega
  clear h
  obtain⟨q,cap2,hq1,hq2⟩:=hrow k hk
  have hlk:=hl _ (List.mem_of_getElem? (Bc hk))
  refine zI (zE (zA (zH (zA (zB (wP I (Aa (zE (zH ?_)))))))))
  refine At (X:=Nat) (fun i=>[(1, .pointer (some ⟨b1,0,none⟩)),(5, .int .i64 (k:Nat)),(6, .int .i64 (i:Nat))]) (fun _=>[⟨b1,24,[slv (some ⟨b,off,none⟩) rs.length cap],true,none⟩])
   (fun i=>i≤(rg rs k).length∧ ∀j,j<i→rgd (sd (rg rs k) j)=true) (fun i=>(rg rs k).length-i) 0 ⟨Nat.zero_le _,fun j hj=>absurd hj (Nat.not_lt_zero _)⟩ ⟨rfl,rfl,rfl,trivial⟩ [] rfl ?_
  rintro i ⟨hi,hoki⟩
  refine zA (zA (zB (wP I (wP I (wB 0 I I I (wP I ?_))))))
  refine wJ ?_
  refine wL 0 I I (fun W hp=>hq1.hp hp) I (wP I (wP I (Aa (zE ?_))))
  refine Af I (fun h=> ?_) (fun h=> ?_)
  ·have hi:i<(rg rs k).length:=by simp at h;omega
   clear h
   obtain⟨b4,off4,rfl,hrow4⟩:=hq2.row hi
   refine zI (zE (zA (zH (zA (zB (wP I (wB 0 I I I (wP I ?_))))))))
   refine wJ ?_
   refine wL 0 I I (fun W hp=>hq1.hp hp) I (wP I ?_)
   refine wJ ?_
   refine wL 0 I I (fun W hp=>(hrow4 i hi).hp hp) I (wC I I (fun W _=>NL (sd (rg rs k) i) W) (wP I (Aa (zE ?_))))
   refine Af I (fun h=> ?_) (fun h=> ?_)
   ·refine zA (zB (wP I (Aa (zE (zO (zQ (zP (zP (zQ (zQ (zP (zP (zQ ?_)))))))))))))
    refine zP ?_
    have h2:rs.flatten.any (fun s=> !rgd s)=true:=List.any_eq_true.2 ⟨sd (rg rs k) i,List.mem_flatten.2 ⟨rg rs k,List.mem_of_getElem? (Bc hk),List.mem_of_getElem? (DT hi)⟩,h⟩
    exact wR1 I I (by unfold ME;rw[if_neg hN,if_neg h0,if_neg h1,if_pos h2])
   ·have hg:rgd (sd (rg rs k) i)=true:=by have h':(!rgd (sd (rg rs k) i))=false:=h;simpa using h'
    refine zI (zN (zE (zB (wP I (wP I (wP I (Aa ?_)))))))
    refine Aj (i+1) ⟨hi,fun j hj=> ?_⟩ (by omega) ⟨I,I,congrArg (fun z=>some (Value.int .i64 z)) (AG (x:=(i:Int)+1) (by omega) (by omega)),O⟩ [] I
    by_cases e:j=i
    ·subst e;exact hg
    ·exact hoki j (by omega)
  ·have e:i=(rg rs k).length:=by simp at h;omega
   subst e
   refine zJ (zK (zK (zL (zN (zE (zB (wP I (wP I (wP I (Aa ?_))))))))))
   refine Aj (k+1) ⟨hk,fun j hj s hs=> ?_⟩ (by omega) ⟨I,congrArg (fun z=>some (Value.int .i64 z)) (AG (x:=(k:Int)+1) (by omega) (by omega)),O⟩ [] I
   by_cases e:j=k
   ·subst e
    obtain⟨m,hm,e⟩:=List.getElem_of_mem hs
    have:=hoki m hm
    rw[show sd (rg rs j) m=s by simp[sd,hm,e]] at this
    exact this
   ·exact hok2 j (by omega) s hs
 have e:k=rs.length:=by simp at h;omega
 subst e
 clear h
 have hrg: ∀l∈rs, ∀s∈l,rgd s=true:=fun l hl s hs=>by
  obtain⟨i,hi,e2⟩:=List.getElem_of_mem hl
  have:=hok2 i hi
  rw[show rg rs i=l by simp[rg,hi,e2]] at this
  exact this s hs
 have h2: ¬(rs.flatten.any (fun s=> !rgd s)=true):=fun h=>by
  obtain⟨s,hs,h⟩:=List.any_eq_true.1 h
  obtain⟨l,hl,hs⟩:=List.mem_flatten.1 hs
  rw[hrg l hl s hs] at h;cases h
 refine zJ (zK (zK (zL (zE (zA (zA (zB (wP I (Aa (zE (zH ?_)))))))))))
 refine At (X:=Nat) (fun k=>[(1, .pointer (some ⟨b1,0,none⟩)),(7, .int .i64 (k:Nat))]) (fun _=>[⟨b1,24,[slv (some ⟨b,off,none⟩) rs.length cap],true,none⟩])
  (fun k=>k≤rs.length∧ ∀j,j<k→Ja (rg rs j)=true) (fun k=>rs.length-k) 0 ⟨Nat.zero_le _,fun j hj=>absurd hj (Nat.not_lt_zero _)⟩ ⟨rfl,rfl,trivial⟩ [] rfl ?_
 rintro k ⟨hk,hok3⟩
 refine zA (zA (zB (wP I (wP I (wB 0 I I I (wP I (wP I (Aa (zE ?_)))))))))
 refine Af I (fun h=> ?_) (fun h=> ?_)
 ·have hk:k<rs.length:=by simp at h;omega
  clear h
  obtain⟨q,cap2,hq1,hq2⟩:=hrow k hk
  have hlk:=hl _ (List.mem_of_getElem? (Bc hk))
  refine zI (zE (zA (zH (zA (zB (wP I (wB 0 I I I (wP I ?_))))))))
  refine wJ ?_
  refine wL 0 I I (fun W hp=>hq1.hp hp) I (wC I I (fun W hp=>NP W q cap2 (rg rs k) hlk (hq2.hp hp)) (wP I (Aa (zE ?_))))
  refine Af I (fun h=> ?_) (fun h=> ?_)
  ·refine zA (zB (wP I (Aa (zE (zO (zQ (zP (zP (zQ (zP ?_))))))))))
   have h3:rs.any (fun l=> !Ja l)=true:=List.any_eq_true.2 ⟨_,List.mem_of_getElem? (Bc hk),h⟩
   exact wR1 I I (by unfold ME;rw[if_neg hN,if_neg h0,if_neg h1,if_neg h2,if_pos h3])
  ·have hg:Ja (rg rs k)=true:=by have h':(!Ja (rg rs k))=false:=h;simpa using h'
   refine zI (zN (zE (zB (wP I (wP I (wP I (Aa ?_)))))))
   refine Aj (k+1) ⟨hk,fun j hj=> ?_⟩ (by omega) ⟨I,congrArg (fun z=>some (Value.int .i64 z)) (AG (x:=(k:Int)+1) (by omega) (by omega)),O⟩ [] I
   by_cases e:j=k
   ·subst e;exact hg
   ·exact hok3 j (by omega)
 have e:k=rs.length:=by simp at h;omega
 subst e
 clear h
 have h3: ¬(rs.any (fun l=> !Ja l)=true):=fun h=>by
  obtain⟨l,hl,h⟩:=List.any_eq_true.1 h
  obtain⟨i,hi,e2⟩:=List.getElem_of_mem hl
  have:=hok3 i hi
  rw[show rg rs i=l by simp[rg,hi,e2]] at this
  rw[this] at h;cases h
 refine zJ (zK (zK (zL (zE (zA (zA (zB (wP I (wB 0 I I I (wC I I (fun W hp=>Mv W _ cap rs hn hl (hR.below (Nat.le_refl _) hp.below)) (Aa (zE ?_))))))))))))
 refine Af I (fun h=> ?_) (fun h=> ?_)
 ·exact zA (zB (wP I (Aa (zE (zO (zP (wR1 I I (by unfold ME;rw[if_neg hN,if_neg h0,if_neg h1,if_neg h2,if_neg h3,if_pos h]))))))))
 have h4: ¬(crs rs=true):=by rw[h];decide
 clear h
 refine zI (zE (zA (zA (zB (wP I (wB 0 I I I (wC I I (fun W hp=>Oi W _ cap rs hn hl hne hpos (hR.below (Nat.le_refl _) hp.below)) (wP I (wP I ?_)))))))))
 refine AH 84 I (fun h84=> ?_) (fun h84=> ?_)
 ·refine Ae I I ?_
  iterate 3 refine Ae I I ?_
  refine wP I (Aa ?_)
  have h5:(!HI rs|| !K4 rs)=true:=by rw[show(!HI rs)=true from h84];rfl
  exact zE (zR I (zA (zB (wP I (Aa (zE (zO (zP (wR1 I I (by unfold ME;rw[if_neg hN,if_neg h0,if_neg h1,if_neg h2,if_neg h3,if_neg h4,if_pos h5]))))))))))
 ·refine wP I (wB 0 I I I (wC I I (fun W hp=>Pp W _ cap rs hn hl (hR.below (Nat.le_refl _) hp.below)) (wP I (wP I (Aa ?_)))))
  have h':(!HI rs)=false:=h84
  refine zE ?_
  refine Af I (fun h=> ?_) (fun h=> ?_)
  ·refine zA (zB (wP I (Aa (zE (zO (zP ?_))))))
   have h5:(!HI rs|| !K4 rs)=true:=by rw[h',show(!K4 rs)=true from h];rfl
   exact wR1 I I (by unfold ME;rw[if_neg hN,if_neg h0,if_neg h1,if_neg h2,if_neg h3,if_neg h4,if_pos h5])
  ·refine zI (zE (zA (zB (wP I (Aa (zE (zO ?_)))))))
   have h5: ¬((!HI rs|| !K4 rs)=true):=by rw[h',show(!K4 rs)=false from h];decide
   exact wR1 I I (by unfold ME;rw[if_neg hN,if_neg h0,if_neg h1,if_neg h2,if_neg h3,if_neg h4,if_neg h5])
end
section
open Go Go.RowKit Go.Am
theorem F2 (a:Int):(sgI a= -1∧a<0)∨(sgI a=0∧a=0)∨(sgI a=1∧a>0):=by
 unfold sgI
 rcases Int.lt_trichotomy a 0 with h|h|h
 ·rw[if_pos h];exact .inl ⟨rfl,h⟩
 ·rw[if_neg (by omega),if_neg (by omega)];exact .inr (.inl ⟨rfl,h⟩)
 ·rw[if_neg (by omega),if_pos h];exact .inr (.inr ⟨rfl,h⟩)
theorem Sw {l:List Sd} (hr: ∀s∈l,inR s) {i:Nat} (hi:i<l.length):Mw l i=sgI ((sd l (nxt l.length i)).x-(sd l i).x)∧MD l i=sgI ((sd l (nxt l.length i)).y-(sd l i).y):=by
 obtain⟨s1,s2,s3,s4⟩:=Da hr hi
 obtain⟨n1,n2,n3,n4⟩:=Da hr (DS hi)
 unfold Mw MD
 rw[d64 ⟨n1,n2⟩ ⟨s1,s2⟩,d64 ⟨n3,n4⟩ ⟨s3,s4⟩]
 exact⟨I,I⟩
theorem M3 {l:List Sd} (hr: ∀s∈l,inR s) {i:Nat} (hi:i<l.length):axR l i=true↔ ¬(((sd l (nxt l.length i)).x-(sd l i).x=0)↔((sd l (nxt l.length i)).y-(sd l i).y=0)):=by
 obtain⟨e1,e2⟩:=Sw hr hi
 unfold axR
 rw[e1,e2]
 generalize (sd l (nxt l.length i)).x-(sd l i).x=a
 generalize (sd l (nxt l.length i)).y-(sd l i).y=b
 rcases F2 a with⟨ea,ha⟩|⟨ea,ha⟩|⟨ea,ha⟩<;>rcases F2 b with⟨eb,hb⟩|⟨eb,hb⟩|⟨eb,hb⟩<;>rw[ea,eb]
 ·rw[show(w64 (w64 (-1* -1)+w64 (-1* -1))==1)=false by decide];constructor<;>intro h;cases h;omega
 ·rw[show(w64 (w64 (-1* -1)+w64 (0*0))==1)=true by decide];constructor<;>intro h;omega;rfl
 ·rw[show(w64 (w64 (-1* -1)+w64 (1*1))==1)=false by decide];constructor<;>intro h;cases h;omega
 ·rw[show(w64 (w64 (0*0)+w64 (-1* -1))==1)=true by decide];constructor<;>intro h;omega;rfl
 ·rw[show(w64 (w64 (0*0)+w64 (0*0))==1)=false by decide];constructor<;>intro h;cases h;omega
 ·rw[show(w64 (w64 (0*0)+w64 (1*1))==1)=true by decide];constructor<;>intro h;omega;rfl
 ·rw[show(w64 (w64 (1*1)+w64 (-1* -1))==1)=false by decide];constructor<;>intro h;cases h;omega
 ·rw[show(w64 (w64 (1*1)+w64 (0*0))==1)=true by decide];constructor<;>intro h;omega;rfl
 ·rw[show(w64 (w64 (1*1)+w64 (1*1))==1)=false by decide];constructor<;>intro h;cases h;omega
theorem K9 {l:List Sd} (hr: ∀s∈l,inR s) {i:Nat} (hi:i<l.length) (h1:axR l i=true) (h2:axR l (prv l.length i)=true):
  (KS l i≠0↔ ¬(((sd l i).x-(sd l (prv l.length i)).x=0)↔((sd l (nxt l.length i)).x-(sd l i).x=0)))∧(KS l i≠0→(KS l i<0↔HY (sd l (prv l.length i)) (sd l i) (sd l (nxt l.length i))=false)):=by
 have a1:=(M3 hr hi).1 h1
 have a2:=(M3 hr (Gw hi)).1 h2
 obtain⟨e1,e2⟩:=Sw hr hi
 obtain⟨e3,e4⟩:=Sw hr (Gw hi)
 rw[Yw hi] at a2 e3 e4
 have i1:=Da hr hi
 have i2:=Da hr (DS hi)
 have i3:=Da hr (Gw hi)
 rw[X1 i3 i1 i2,decide_eq_false_iff_not]
 unfold KS
 rw[e1,e2,e3,e4]
 generalize (sd l (nxt l.length i)).x-(sd l i).x=c at*
 generalize (sd l (nxt l.length i)).y-(sd l i).y=d at*
 generalize (sd l i).x-(sd l (prv l.length i)).x=a at*
 generalize (sd l i).y-(sd l (prv l.length i)).y=b at*
 have pp: ∀x y:Int,x>0→y>0→x*y>0:=fun x y h h'=>Int.mul_pos h h'
 have pn: ∀x y:Int,x>0→y<0→x*y<0:=fun x y h h'=>Int.mul_neg_of_pos_of_neg h h'
 have np: ∀x y:Int,x<0→y>0→x*y<0:=fun x y h h'=>Int.mul_neg_of_neg_of_pos h h'
 have nn: ∀x y:Int,x<0→y<0→x*y>0:=fun x y h h'=>Int.mul_pos_of_neg_of_neg h h'
 by_cases ha:a=0
 ·subst ha
  have hb:b≠0:=by omega
  rw[show sgI 0=0 from rfl,Int.zero_mul,Int.zero_mul]
  by_cases hd:d=0
  ·subst hd
   have hc:c≠0:=by omega
   rcases F2 b with⟨eb,hb'⟩|⟨eb,hb'⟩|⟨eb,hb'⟩<;>rcases F2 c with⟨ec,hc'⟩|⟨ec,hc'⟩|⟨ec,hc'⟩<;>first|omega|skip
   ·rw[eb,ec,show w64 (w64 0-w64 (-1* -1))= -1 by decide];have:=nn b c hb' hc';omega
   ·rw[eb,ec,show w64 (w64 0-w64 (-1*1))=1 by decide];have:=np b c hb' hc';omega
   ·rw[eb,ec,show w64 (w64 0-w64 (1* -1))=1 by decide];have:=pn b c hb' hc';omega
   ·rw[eb,ec,show w64 (w64 0-w64 (1*1))= -1 by decide];have:=pp b c hb' hc';omega
  ·have hc:c=0:=by omega
   subst hc
   rw[show sgI 0=0 from rfl,Int.mul_zero,show w64 (w64 0-w64 0)=0 by decide]
   omega
 ·have hb:b=0:=by omega
  subst hb
  rw[show sgI 0=0 from rfl,Int.zero_mul,Int.zero_mul]
  by_cases hc:c=0
  ·subst hc
   have hd:d≠0:=by omega
   rcases F2 a with⟨eb,hb'⟩|⟨eb,hb'⟩|⟨eb,hb'⟩<;>rcases F2 d with⟨ec,hc'⟩|⟨ec,hc'⟩|⟨ec,hc'⟩<;>first|omega|skip
   ·rw[eb,ec,show w64 (w64 (-1* -1)-w64 0)=1 by decide];have:=nn a d hb' hc';omega
   ·rw[eb,ec,show w64 (w64 (-1*1)-w64 0)= -1 by decide];have:=np a d hb' hc';omega
   ·rw[eb,ec,show w64 (w64 (1* -1)-w64 0)= -1 by decide];have:=pn a d hb' hc';omega
   ·rw[eb,ec,show w64 (w64 (1*1)-w64 0)=1 by decide];have:=pp a d hb' hc';omega
  ·have hd:d=0:=by omega
   subst hd
   rw[show sgI 0=0 from rfl,Int.mul_zero,show w64 (w64 0-w64 0)=0 by decide]
   omega
theorem WH {l:List Sd} (hr: ∀s∈l,inR s):Ja l=shp l:=by
 rw[Bool.eq_iff_iff]
 constructor
 ·intro h
  unfold Ja at h
  obtain⟨h1,h2⟩:=Bool.and_eq_true_iff.1 h
  have ok: ∀i,i<l.length→axR l i=true∧KS l i≠0:=fun i hi=>by
   have:=List.all_eq_true.1 h1 i (List.mem_range.2 hi)
   unfold okR at this
   obtain⟨a,b⟩:=Bool.and_eq_true_iff.1 this
   exact⟨a,by simpa using b⟩
  exact Zz hr (of_decide_eq_true h2) fun i hi=>⟨(M3 hr hi).1 (ok i hi).1,(K9 hr hi (ok i hi).1 (ok _ (Gw hi)).1).1.1 (ok i hi).2⟩
 ·intro h
  have ax: ∀i,i<l.length→axR l i=true:=fun i hi=>(M3 hr hi).2 (Ff hr h hi).1
  unfold Ja
  rw[dT (TP h),Bool.and_true]
  refine List.all_eq_true.2 fun i hi=> ?_
  have hi:=List.mem_range.1 hi
  have:=(K9 hr hi (ax i hi) (ax _ (Gw hi))).1.2 (Ff hr h hi).2
  unfold okR
  rw[ax i hi,beq_eq_false_iff_ne.2 this];rfl
theorem Xt {l:List Sd} (hr: ∀s∈l,inR s) (h:shp l=true) {i:Nat} (hi:i<l.length):KS l i≠0∧(KS l i<0↔HY (sd l (prv l.length i)) (sd l i) (sd l (nxt l.length i))=false):=by
 have ax: ∀i,i<l.length→axR l i=true:=fun i hi=>(M3 hr hi).2 (Ff hr h hi).1
 have t:=K9 hr hi (ax i hi) (ax _ (Gw hi))
 have hne:=t.1.2 (Ff hr h hi).2
 exact⟨hne,t.2 hne⟩
theorem YX {l:List Sd} (hr: ∀s∈l,inR s) (h:shp l=true) {i:Nat} (hi:i<l.length):Ie l i=CW l i:=by
 have t:=(Xt hr h hi).2
 unfold Ie CW MY
 cases hl:HY (sd l (prv l.length i)) (sd l i) (sd l (nxt l.length i)) with
 |true=>rw[dF (fun e=>by rw[t.1 e] at hl;cases hl)];rfl
 |false=>
  rw[dT (t.2 hl),Bool.true_and,Bool.false_or]
  have e: ∀a b:Int,(!(false||false||(a !=b)))=(!false&& !false&&(b==a)):=fun a b=>by
   by_cases h:a=b
   ·subst h;simp
   ·rw[bne_iff_ne.2 h,beq_eq_false_iff_ne.2 (fun x=>h x.symm)];rfl
  cases(sd l i).gable<;>cases(sd l (prv l.length i)).gable<;>first|rfl|exact e _ _
theorem Z8 {rs:List (List Sd)} (hin:Va rs) (hs: ∀l∈rs,shp l=true):K4 rs=jnd rs:=by
 unfold K4 jnd
 congr 1
 rw[Bool.eq_iff_iff,List.all_eq_true,List.all_eq_true]
 have e: ∀l∈rs,((List.range l.length).all (Ie l))=GE l:=fun l hl=>OG fun i hi=>YX (hin l hl) (hs l hl) hi
 constructor<;>intro h l hl
 ·rw[←e l hl];exact h l hl
 ·rw[e l hl];exact h l hl
theorem YS {l:List Sd} (h: ∀s∈l,inR s): ∀k,k≤l.length→k≤1000000→twR l k=AK (EO l) k∧ -(k*4294967296:Int)≤twR l k∧twR l k≤k*4294967296
 |0,_,_=>⟨rfl,by simp[twR],by simp[twR]⟩
 |k+1,hk,hm=>by
  obtain⟨h1,h2,h3⟩:=YS h k (by omega) (by omega)
  have hs:=Da h (show k<l.length by omega)
  have hn:=Da h (DS (show k<l.length by omega))
  obtain⟨a1,a2⟩:=I4 hs.1 hs.2.1 hn.2.2.1 hn.2.2.2
  obtain⟨b1,b2⟩:=I4 hs.2.2.1 hs.2.2.2 hn.1 hn.2.1
  have e:twR l (k+1)=twR l k+EO l k:=by
   show w64 (w64 (twR l k+w64 ((sd l k).x*(sd l (nxt l.length k)).y))-w64 ((sd l (nxt l.length k)).x*(sd l k).y))=_
   unfold EO
   rw[Int.mul_comm (sd l (nxt l.length k)).x,Ai (x:=(sd l k).x*_) (by omega) (by omega),Ai (x:=(sd l k).y*_) (by omega) (by omega),Ai (x:=twR l k+_) (by omega) (by omega)]
   rw[Ai (by omega) (by omega)];omega
  have ec:EO l k=(sd l k).x*(sd l (nxt l.length k)).y-(sd l k).y*(sd l (nxt l.length k)).x:=rfl
  refine⟨by rw[e,h1];rfl, ?_, ?_⟩<;>rw[e,ec]<;>push_cast<;>omega
theorem VZ {l:List Sd} (h: ∀s∈l,inR s) (px py:Int): ∀k,k≤l.length→G5 l px py k=Eg l px py k
 |0,_=>rfl
 |k+1,hk=>by
  have hs:=Da h (show k<l.length by omega)
  have hn:=Da h (DS (show k<l.length by omega))
  have e:Lz (sd l k) (sd l (nxt l.length k)) px py=IL (sd l k) (sd l (nxt l.length k)) px py:=by
   unfold Lz IL
   rw[d64 ⟨hn.1,hn.2.1⟩ ⟨hs.1,hs.2.1⟩]
   generalize sd l k=t
   generalize sd l (nxt l.length k)=u
   by_cases hx:t.x=u.x
   ·rw[beq_iff_eq.2 hx,beq_iff_eq.2 (show u.x-t.x=0 by omega),hx]
    rw[Bool.true_and,Bool.and_assoc]
    congr 1
    unfold loy hiy
    by_cases h1:t.y>py<;>by_cases h2:u.y>py
    ·rw[dT h1,dT h2,dF (by split<;>omega)];rfl
    ·rw[dT h1,dF h2,dT (by split<;>omega),dT (by split<;>omega)];rfl
    ·rw[dF h1,dT h2,dT (by split<;>omega),dT (by split<;>omega)];rfl
    ·rw[dF h1,dF h2,dF (p:=py<_) (by split<;>omega),Bool.and_false];rfl
   ·rw[beq_eq_false_iff_ne.2 hx,beq_eq_false_iff_ne.2 (show u.x-t.x≠0 by omega)];rfl
  show(if Lz (sd l k) (sd l (nxt l.length k)) px py=true then !G5 l px py k else G5 l px py k)=(if IL (sd l k) (sd l (nxt l.length k)) px py=true then !Eg l px py k else Eg l px py k)
  rw[e,VZ h px py k (by omega)]
theorem Zf {rs:List (List Sd)} (hin:Va rs) (hs: ∀l∈rs,shp l=true) (hc:crs rs=false) (hT:tot rs≤24) (hpos:0<rs.length):HI rs=plc rs:=by
 have ar: ∀r,r<rs.length→twR (rg rs r) (rg rs r).length=CN (rg rs r) (rg rs r).length∧CN (rg rs r) (rg rs r).length≠0:=fun r hr=>by
  have hm:rg rs r∈rs:=List.mem_of_getElem? (Bc hr)
  have hlen:=Hq hm
  rw[(YS (hin _ hm) _ (Nat.le_refl _) (by omega)).1,(OL (hin _ hm) _ (Nat.le_refl _) (by omega)).1]
  exact⟨I,Y0 hin hs hc hr⟩
 have pk: ∀r s,r<rs.length→s<rs.length→r≠0→NQ rs r s=FT rs r s:=fun r s hr hs' h0=>by
  unfold NQ FT
  rw[VZ (hin _ (List.mem_of_getElem? (Bc hs'))) _ _ _ (Nat.le_refl _),beq_eq_false_iff_ne.2 h0,Bool.or_false]
 have all: ∀r,r<rs.length→r≠0→((List.range rs.length).all (NQ rs r))=((List.range rs.length).all (FT rs r)):=fun r hr h0=>OG fun s hs'=>pk r s hr hs' h0
 rw[Bool.eq_iff_iff]
 constructor
 ·intro h
  unfold HI at h
  obtain⟨h1,h2⟩:=Bool.and_eq_true_iff.1 h
  refine List.all_eq_true.2 fun r hr=> ?_
  have hr:=List.mem_range.1 hr
  have hr2:=List.all_eq_true.1 h2 r (List.mem_range.2 hr)
  obtain⟨a1,a2⟩:=ar r hr
  unfold Dz
  by_cases e:r=0
  ·subst e
   rw[a1] at h1
   have h1: ¬CN (rg rs 0) (rg rs 0).length≤0:=by simpa using h1
   rw[dT (by omega)]
   exact Bool.and_eq_true_iff.2 ⟨I,List.all_eq_true.2 fun k _=>by unfold FT;simp⟩
  ·unfold SL at hr2
   rw[beq_eq_false_iff_ne.2 e,Bool.false_or,a1] at hr2
   obtain⟨b1,b2⟩:=Bool.and_eq_true_iff.1 hr2
   have b1: ¬CN (rg rs r) (rg rs r).length≥0:=by simpa using b1
   rw[dF (by omega),beq_eq_false_iff_ne.2 e, ←all r hr e,b2];rfl
 ·intro h
  have pr: ∀r,r<rs.length→Dz rs r=true:=fun r hr=>List.all_eq_true.1 h r (List.mem_range.2 hr)
  unfold HI
  have h0:=pr 0 hpos
  unfold Dz at h0
  obtain⟨c1,_⟩:=Bool.and_eq_true_iff.1 h0
  obtain⟨a1,a2⟩:=ar 0 hpos
  have c2:CN (rg rs 0) (rg rs 0).length>0:=by simpa using c1
  rw[a1,dF (by omega),Bool.not_false,Bool.true_and]
  refine List.all_eq_true.2 fun r hr=> ?_
  have hr:=List.mem_range.1 hr
  unfold SL
  by_cases e:r=0
  ·subst e;rfl
  ·have h1:=pr r hr
   unfold Dz at h1
   obtain⟨d1,d2⟩:=Bool.and_eq_true_iff.1 h1
   obtain⟨a1,a2⟩:=ar r hr
   rw[beq_eq_false_iff_ne.2 e,beq_iff_eq,decide_eq_false_iff_not] at d1
   rw[a1,dF (by omega),all r hr e,d2]
   simp
theorem XI (rs:List (List Sd)):ME rs=chk rs:=by
 unfold ME chk
 by_cases hN:rs.any (fun l=>l.length==0)=true
 ·rw[if_pos hN,if_pos hN]
 rw[if_neg hN,if_neg hN]
 by_cases h0:tot rs=0
 ·rw[if_pos h0,if_pos h0]
 rw[if_neg h0,if_neg h0]
 by_cases h1:tot rs>24
 ·rw[if_pos h1,if_pos h1]
 rw[if_neg h1,if_neg h1]
 by_cases h2:rs.flatten.any (fun s=> !rgd s)=true
 ·rw[if_pos h2,if_pos h2]
 rw[if_neg h2,if_neg h2]
 have hg: ∀l∈rs, ∀s∈l,rgd s=true:=Yv (by simpa using h2)
 have hin:Va rs:=fun l hl s hs=>Uc (hg l hl s hs)
 have e3:rs.any (fun l=> !Ja l)=rs.any (fun l=> !shp l):=by
  rw[Bool.eq_iff_iff,List.any_eq_true,List.any_eq_true]
  constructor<;>rintro⟨l,hl,h⟩
  ·exact⟨l,hl,by rw[←WH (hin l hl)];exact h⟩
  ·exact⟨l,hl,by rw[WH (hin l hl)];exact h⟩
 rw[e3]
 by_cases h3:rs.any (fun l=> !shp l)=true
 ·rw[if_pos h3,if_pos h3]
 rw[if_neg h3,if_neg h3]
 have hs: ∀l∈rs,shp l=true:=fun l hl=>by
  cases h:shp l with
  |true=>rfl
  |false=>exact absurd (List.any_eq_true.2 ⟨l,hl,by rw[h];rfl⟩) h3
 by_cases h4:crs rs=true
 ·rw[if_pos h4,if_pos h4]
 rw[if_neg h4,if_neg h4]
 have hpos:0<rs.length:=by
  cases rs with
  |nil=>exact absurd rfl h0
  |cons x rs=>simp
 rw[Zf hin hs (by simpa using h4) (by omega) hpos,Z8 hin hs]
end
section
open Go Go.RowKit Go.Am
set_option maxRecDepth 10000
-- BOXES 1
theorem CR (W:World) (p:Option Addr) (cap:Nat) (rs:List (List Sd)) (hn:rs.length<4611686018427387904) (hT:tot rs<1099511627776) (hR:BB W p rs):
  Ad Tryz.prog 49 #[AD p rs.length cap] W (fun _:Unit=> .int .i64 (chk rs)) (fun _=>True) (fun _=>[]):=
 (PJ W p cap rs hn hT hR).cast (by rw[XI])
theorem O3 (W:World) (p:Option Addr) (cap:Nat) (rs:List (List Sd)) (hn:rs.length<4611686018427387904) (hR:BB W p rs) (hc:chk rs=0):
  Ad Tryz.prog 54 #[AD p rs.length cap] W (fun V:Vec=> .tuple #[V.val rs.flatten.length, .int .i64 0]) (fun V=>V.OK 7 rs.flatten.length (cellsOf rs.flatten)) (fun V=>[V.bx 80 (cellsOf rs.flatten)]):=by
 obtain⟨hne,hT,_⟩:=CP hc
 refine Ab (args:=[AD p rs.length cap]) Tryz.func54 I I I ?_
 refine zA (zB ?_)
 (refine Ax rfl rfl rfl rfl ?_;intro)
 refine wP I (wP I (Aa ?_))
 rename_i b1
 refine zE (zA (zA (zB (wB 0 I I I (wC I I (fun W hp=>(CR W p cap rs hn (by omega) (hR.hp hp)).cast (by rw[hc])) (wP I (Aa (zE (zS I (zI (zE (zA (zB ?_)))))))))))))
 refine wP I (Aa (zE (zA (zA (zB (wP I (Aa (zE (zH ?_)))))))))
 refine Dl ?_
 refine At (X:=Nat×Vec) (fun x=>[(1, .pointer (some ⟨b1,0,none⟩)),(4,x.2.val (tot (rs.take x.1))),(5, .int .i64 (x.1:Nat))]) (fun x=>[⟨b1,24,[slv p rs.length cap],true,none⟩,x.2.bx 80 (cellsOf (rs.take x.1).flatten)])
  (fun x=>x.1≤rs.length∧x.2.OK 7 (tot (rs.take x.1)) (cellsOf (rs.take x.1).flatten)) (fun x=>rs.length-x.1) (0,Vec.empty) ⟨Nat.zero_le _,Vec.OK.empty 7⟩ ⟨rfl,rfl,rfl,trivial⟩ [] rfl ?_
 rintro⟨k,V⟩ ⟨hk,hV⟩
 refine zA (zA (zB (wP I (wP I (wB 0 I I I (wP I (wP I (Aa (zE ?_)))))))))
 refine Af I (fun h=> ?_) (fun h=> ?_)
 ·have hk:k<rs.length:=by simp at h;omega
  clear h
  obtain⟨b,off,rfl,hrow⟩:=hR.row hk
  obtain⟨q,cap2,hq1,hq2⟩:=hrow k hk
  refine zI (zE (zA (zH (zB (wP I (wP I (wB 0 I I I (wP I ?_))))))))
  refine wJ ?_
  refine wL 0 I I (fun W hp=>hq1.hp hp) I ?_
  obtain⟨b2,off2,rfl,hRk⟩: ∃b off,q=some ⟨b,off,none⟩∧FQ W b off (rg rs k):=by
   rcases hq2 with h|h
   ·exact absurd h (hne _ (List.mem_of_getElem? (Bc hk)))
   ·exact h
  have h1:=Bi hk
  have h2:=Ch rs (k+1)
  refine Eh (len:=tot (rs.take k)) 1 Tryz.vec76 I I I I I I I I I hV (Ew (rg rs k)) (fun W hp j u hj=> ?_) (L3 _) (by simp only[maxLen];omega) (by omega) ?_
  ·have hR':BY W (some ⟨b2,off2,none⟩) (rg rs k):=BY.hp (.inr ⟨b2,off2,rfl,hRk⟩) hp
   rcases hR' with h|⟨b3,off3,e,hR'⟩
   ·exact absurd h (hne _ (List.mem_of_getElem? (Bc hk)))
   ·cases e
    rw[Addr.add_none]
    exact hR'.cells j u hj
  intro V' hV' _
  have e3:cellsOf (rs.take k).flatten++cellsOf (rg rs k)=cellsOf (rs.take (k+1)).flatten:=by rw[KW hk,Im]
  rw[e3, ←h1] at hV'
  rw[e3, ←h1]
  exact wP I (Aa (zN (zE (zB (wP I (wP I (wP I (Aa (Aj (k+1,V') ⟨hk,hV'⟩ (by show rs.length-(k+1)<rs.length-k;omega) ⟨I,I,congrArg (fun z=>some (Value.int .i64 z)) (AG (x:=(k:Int)+1) (by omega) (by omega)),O⟩ [] I)))))))))
 ·have e:k=rs.length:=by simp at h;omega
  subst e
  rw[List.take_length] at hV
  rw[List.take_length]
  exact zJ (zK (zK (zL (zE (zA (zB (wP I (wP I (wP I (Aa (zE (zO (AJ tH I (.tmp I) (.tmp I) V (by rw[FB]) (by rw[FB];exact hV) fun W hp=>Au.of_hp1 hp 1 I)))))))))))))
end
section
open Go Go.RowKit Go.Am Go.Lib
set_option maxRecDepth 10000
-- BOXES 4
-- CODE2
theorem E9 (p q:Rat) (h:Sz2 p q) (W:World) (ht:AM W):Ad Tryz.prog 55 #[str (Ac p),str (Ac q)] W (fun _:Unit=> .int .i64 (CY p q)) (fun _=>True) (fun _=>[]):=by
 refine Ab (args:=[str (Ac p),str (Ac q)]) Tryz.func55 I I I ?_
 refine zA (zB (wP I (Aa (zE (zA (zB (wP I (wP I (wC I I (fun W1 hp=>NC p q h W1 (ht.hp hp)) ?_)))))))))
 iterate 5 refine wP I ?_
 exact Aa (zE (zA (zB (wP I (wP I (Aa (zE (zO (wR1 I I I)))))))))
theorem IS (z:Int) (hl:(itoa z).length≤1000):AQ Tryz.prog 114 [str (itoa z)] (.int .i64 ((decDigits z.natAbs).length:Nat)):=by
 intro W
 obtain⟨c,hc,hc45⟩:=El z
 have hl0:0<(itoa z).length:=(List.getElem?_eq_some_iff.1 hc).1
 refine Ab Tryz.func114 I I I ?_
 refine zA (zB (wP I (Aa (zE (zA (zA (zB (wP I ?_))))))))
 refine AT 0 tH I I I I I I I I hc ?_
 refine wP I (wU 5 (decide (z<0)) I ((DX c 45).trans hc45) (Aa (zE ?_)))
 refine Af I (fun hn=> ?_) (fun hn=> ?_)
 ·have hn:z<0:=of_decide_eq_true hn
  have e:(itoa z).length=1+(decDigits z.natAbs).length:=by rw[BK,G4,if_pos hn,List.length_append];rfl
  refine zA (zB (wP I (wP I ?_)))
  refine Al 7 (.int .i64 ((itoa z).length:Nat)) I (congrArg (fun n:Nat=>Value.int .i64 (n:Int)) (A0 _)) ?_
  exact wP I (wV 8 ((decDigits z.natAbs).length:Nat) I ((Ai (by omega) (by omega)).trans (by omega)) (wP I (Aa (zE (zO (zP (wR1 I I I)))))))
 ·have hn: ¬z<0:=of_decide_eq_false hn
  have e:itoa z=decDigits z.natAbs:=by rw[BK,G4,if_neg hn];rfl
  refine zI (zE (zA (zB (wP I (wP I ?_)))))
  refine Al 10 (.int .i64 ((decDigits z.natAbs).length:Nat)) I (congrArg (fun n:Nat=>Value.int .i64 (n:Int)) ((A0 _).trans (by rw[e]))) ?_
  exact wP I (Aa (zE (zO (wR1 I I I))))
def SP (a:List UInt8):Bool:=match frm a with
 |none=>false
 |some (z,d)=>decide (20<(decDigits z.natAbs).length)||decide (20<(decDigits d).length)
theorem Mi (q:Rat):SP (Ac q)=(decide (20<(decDigits q.num.natAbs).length)||decide (20<(decDigits q.den).length)):=by
 unfold SP Ac
 rw[EW q.num q.den_pos]
theorem Up {q:Rat}:SP (Ac q)=false↔szQ q 20:=by
 rw[Mi,Bool.or_eq_false_iff,decide_eq_false_iff_not,decide_eq_false_iff_not]
 constructor
 ·rintro⟨h1,h2⟩
  exact⟨Nat.lt_of_lt_of_le (E3 _) (Nat.pow_le_pow_right (by decide) (by omega)),Nat.lt_of_lt_of_le (E3 _) (Nat.pow_le_pow_right (by decide) (by omega))⟩
 ·rintro⟨h1,h2⟩
  have l1:=CQ 20 _ (by decide) h1
  have l2:=CQ 20 _ (by decide) h2
  exact⟨by omega,by omega⟩
def KZ (a:List UInt8):Int:=if (rdR a).2≠0 then(rdR a).2 else if SP a=true then 4 else 0
theorem UM {a:List UInt8} (h:KZ a=0): ∃q,szQ q 20∧a=Ac q:=by
 unfold KZ at h
 by_cases h1:(rdR a).2=0
 ·obtain⟨q,_,rfl⟩:=LW h1
  rw[if_neg (fun h=>h h1)] at h
  cases h2:SP (Ac q) with
  |true=>rw[h2,if_pos rfl] at h;exact absurd h (by decide)
  |false=>exact⟨q,Up.1 h2,rfl⟩
 ·rw[if_pos h1] at h;exact absurd h h1
theorem Q1 {q:Rat} (h:szQ q 20):KZ (Ac q)=0:=by
 unfold KZ
 rw[KA (h.ok (by decide)),if_neg (fun h=>h rfl),Up.2 h,if_neg (by decide)]
theorem Fq (W:World) (p:Option Addr) (cap:Nat) (rs:List (List Sd)) (hn:rs.length<4611686018427387904) (hT:tot rs<1099511627776) (hR:BB W p rs) (a:List UInt8) (hl:a.length≤4000000000) (ht:AM W):
  Ad Tryz.prog 53 #[AD p rs.length cap,str a] W (fun _:Unit=> .int .i64 (if chk rs≠0 then 1 else KZ a)) (fun _=>True) (fun _=>[]):=by
 refine Ab (args:=[AD p rs.length cap,str a]) Tryz.func53 I I I ?_
 refine zA (zB ?_)
 (refine Ax rfl rfl rfl rfl ?_;intro)
 refine wP I (Aa ?_)
 rename_i b2
 refine zE (zA (zA (zB (wB 0 I I I (wC I I (fun W1 hp=>CR W1 p cap rs hn hT (hR.hp hp)) (wP I ?_))))))
 by_cases hc:chk rs=0
 rotate_left
 ·exact wU 11 true I (bne_iff_ne.2 hc) (Aa (zE (zR I (zA (zB (wP I (Aa (zE (zO (zP (wR1 I I (by rw[if_pos hc]))))))))))))
 rw[if_neg (fun h=>h hc)]
 refine wU 11 false I (bne_eq_false_iff_eq.2 hc) (Aa (zE (zS I (zI (zE (zA (zA (zB (wP I (wC I I (fun W1 hp=>H0 a (by omega) W1 (ht.hp hp)) (wP I (Aa (zE ?_)))))))))))))
 refine zA (zB (wP I (wP I ?_)))
 by_cases he:(rdR a).2=0
 rotate_left
 ·exact wU 15 true I (bne_iff_ne.2 he) (Aa (zE (zR I (zA (zB (wP I (wP I (Aa (zE (zO (zP (wR1 I I (by unfold KZ;rw[if_pos he])))))))))))))
 obtain⟨q,hk,rfl⟩:=LW he
 have hE:KZ (Ac q)=if SP (Ac q)=true then 4 else 0:=by unfold KZ;rw[if_neg (fun h=>h he)]
 rw[hE,Mi]
 have hi:(itoa q.num).length≤1000:=by
  have:=hk.1.dd
  rw[BK,List.length_append]
  have:=I7 q.num
  omega
 have hj:(itoa ((q.den:Nat):Int)).length≤1000:=by
  have:=hk.2.dd
  rw[BK,List.length_append]
  have:=I7 ((q.den:Nat):Int)
  omega
 refine wU 15 false I (bne_eq_false_iff_eq.2 he) (Aa (zE (zS I (zI (zE (zA (zB (wP I (wC I I (fun W1 hp=>(Kf hk W1 (ht.hp hp)).cast (v':= .tuple #[str (itoa q.num),str (itoa ((q.den:Nat):Int)), .int .i64 0]) (by rw[EJ])) ?_)))))))))
 iterate 7 refine wP I ?_
 refine Aa (zE (zA (zA (zB (wP I (wC I I (fun W1 _=>IS q.num hi W1) (wP I ?_)))))))
 by_cases h1:20<(decDigits q.num.natAbs).length
 ·refine wU 25 true I (dT (by omega)) (wP I ?_)
  iterate 3 refine Ae I I ?_
  exact wP I (Aa (zE (zR I (zA (zB (wP I (Aa (zE (zO (zP (wR1 I I (by rw[dT h1];rfl))))))))))))
 refine wU 25 false I (dF (by omega)) (wP I (wP I (wC I I (fun W1 _=>(IS ((q.den:Nat):Int) hj W1).cast (v':= .int .i64 ((decDigits q.den).length:Nat)) (by rw[Int.natAbs_natCast])) (wP I ?_))))
 rw[dF h1,Bool.false_or]
 by_cases h2:20<(decDigits q.den).length
 ·exact wU 29 true I (dT (by omega)) (wP I (Aa (zE (zR I (zA (zB (wP I (Aa (zE (zO (zP (wR1 I I (by rw[dT h2];rfl)))))))))))))
 exact wU 29 false I (dF (by omega)) (wP I (Aa (zE (zS I (zI (zE (zA (zB (wP I (Aa (zE (zO (wR1 I I (by rw[dF h2];rfl))))))))))))))
-- BOXES 5
-- CODE2
section
variable {r:Option Nat} {n:Nat} {P:Program} {N:Nat} {D:List Deferred} {ops:List Oper} {Q:Exit→Act→World→Prop} {o:Oper} {rest:List Oper} {env:Env} {A:World→Prop}
theorem NN {ρ:Operand→Value} {t e:TypeId} {m c:Nat} {x y:Operand} {k:IntKind} {b off:Nat} {z:Int} (ht:P.underlying t=some (.array m e)) (hs: ∀W,(Go.sizeOf e).run P W= .ok c W) (ho:o.op= .indexAddr t x y)
  (hx:ρ x= .pointer (some ⟨b,off,none⟩)) (hy:ρ y= .int k z) (h0:0≤z∧z<m) (W:World):(execOp ρ o).run P W= .ok (.value (.pointer (some ⟨b,off+z.toNat*c,none⟩))) W:=by
 simp[execOp,ho,hx,hy,Instr.indexAt,Instr.sureAddr,asIntOf,run_underlying ht,hs,h0.1,h0.2,Addr.add_none]
theorem Pu {d:Nat} {t e:TypeId} {m c:Nat} {x y:Operand} {k:IntKind} {b off:Nat} {z:Int} (ht:P.underlying t=some (.array m e)) (hs: ∀W,(Go.sizeOf e).run P W= .ok c W) (hg:A7 ops N env o=some true) (hd:o.dst=some d) (ho:o.op= .indexAddr t x y)
  (hx:evO N env x=some (.pointer (some ⟨b,off,none⟩))) (hy:evO N env y=some (.int k z)) (h0:0≤z∧z<m)
  (h:WL r n P N D ops Q rest ((d, .pointer (some ⟨b,off+z.toNat*c,none⟩))::env) A):WL r n P N D ops Q (o::rest) env A:=
 Do hg hd (fun c e=>by rw[ho] at e;cases e) (fun _ W hρ _=>NN ht hs ho (hρ _ _ hx) (hρ _ _ hy) h0 W) h
end
def hdg (s t:Sd):Nat:=if s.x<t.x then 0 else if s.y<t.y then 1 else if t.x<s.x then 2 else 3
theorem YV (s t:Sd):hdg s t<4:=by
 unfold hdg
 split
 ·decide
 ·split
  ·decide
  ·split<;>decide
theorem Oc (s t:Sd) (W:World):Ad Tryz.prog 153 #[s.val,t.val] W (fun _:Unit=> .int .i64 (hdg s t:Nat)) (fun _=>True) (fun _=>[]):=by
 refine Ab (args:=[s.val,t.val]) Tryz.func153 I I I ?_
 refine zA (zB ?_)
 (refine Ax rfl rfl rfl rfl ?_;intro)
 (refine Ax rfl rfl rfl rfl ?_;intro)
 refine wP I (Aa (zE (zA (zH (zA (zB (wP I (wB 1 I I I (wP I (wB 0 I I I (wP I (wP I (Aa ?_)))))))))))))
 refine zE ?_
 refine Af I (fun h=> ?_) (fun h=> ?_)
 ·have c:s.x<t.x:=by have h:=of_decide_eq_true h;omega
  clear h
  have e:hdg s t=0:=by unfold hdg;rw[if_pos c]
  exact zA (zB (wP I (Aa (zE (zO (zQ (zP (wR1 I I (by rw[e];rfl)))))))))
 have c1: ¬s.x<t.x:=by have h:=of_decide_eq_false h;omega
 clear h
 refine zA (zB (wP I (wB 1 I I I (wP I (wB 0 I I I (wP I (wP I (Aa (zE ?_)))))))))
 refine Af I (fun h=> ?_) (fun h=> ?_)
 ·have c:s.y<t.y:=by have h:=of_decide_eq_true h;omega
  clear h
  have e:hdg s t=1:=by unfold hdg;rw[if_neg c1,if_pos c]
  exact zA (zB (wP I (Aa (zE (zO (zQ (zP (wR1 I I (by rw[e];rfl)))))))))
 have c2: ¬s.y<t.y:=by have h:=of_decide_eq_false h;omega
 clear h
 refine zA (zB (wP I (wB 1 I I I (wP I (wB 0 I I I (wP I (wP I (Aa (zE ?_)))))))))
 refine Af I (fun h=> ?_) (fun h=> ?_)
 ·have c:t.x<s.x:=by have h:=of_decide_eq_true h;omega
  clear h
  have e:hdg s t=2:=by unfold hdg;rw[if_neg c1,if_neg c2,if_pos c]
  exact zA (zB (wP I (Aa (zE (zO (zQ (zP (wR1 I I (by rw[e];rfl)))))))))
 have c3: ¬t.x<s.x:=by have h:=of_decide_eq_false h;omega
 clear h
 have e:hdg s t=3:=by unfold hdg;rw[if_neg c1,if_neg c2,if_neg c3]
 exact zI (zN (zE (zA (zB (wP I (Aa (zE (zO (wR1 I I (by rw[e];rfl))))))))))
def OC (k:Nat):Bool:=k==1||k==3
def MF (k:Nat):Int:=if k=0∨k=3 then 1 else -1
abbrev Z0:List Value:=[.bool false, .int .i64 1, .bool true, .int .i64 (-1), .bool false, .int .i64 (-1), .bool true, .int .i64 1]
def KD (W:World):Prop:=An W 0 0 Z0
theorem KD.hp {W0 W:World} {bxs:List Bx} (h:KD W0) (hp:Hp W0 bxs W):KD W:=An.hp h hp
theorem KD.at_ {W:World} (h:KD W) {k:Nat} (hk:k<4):An W 0 (0+k*2) [.bool (OC k), .int .i64 (MF k)]:=by
 refine⟨h.lt,fun m u hu=> ?_⟩
 have hm:m=0∨m=1:=by
  have:=(List.getElem?_eq_some_iff.1 hu).1
  have:m<2:=this
  omega
 have hk:k=0∨k=1∨k=2∨k=3:=by omega
 have hg:=h.get (k*2+m) u (by
  rcases hk with rfl|rfl|rfl|rfl<;>rcases hm with rfl|rfl<;>exact hu)
 rw[Nat.zero_add] at hg
 rw[Nat.zero_add]
 exact hg
def frO (s t:Sd):FrP:=⟨OC (hdg s t),if OC (hdg s t) then s.x else s.y,MF (hdg s t),if s.gable then 0 else nrm s.run s.rise,(s.plate:Rat)⟩
theorem E6 {s:Sd} (h:rgd s=true):(0≤s.x∧s.x≤65536)∧(0≤s.y∧s.y≤65536)∧(0≤s.plate∧s.plate≤65536)∧(s.gable=false→(1≤s.rise∧s.rise≤48)∧(1≤s.run∧s.run≤48)):=by
 unfold rgd btw at h
 simp only[Bool.and_eq_true,decide_eq_true_eq] at h
 obtain⟨h1,⟨⟨h2,h3⟩,h4⟩,h5⟩:=h
 refine⟨h2,h3,h4,fun e=> ?_⟩
 rw[e] at h1
 simpa using h1
theorem Vn (s t:Sd) (h:rgd s=true) (W:World) (hd:KD W) (ht:AM W):Ad Tryz.prog 93 #[s.val,t.val] W (fun _:Unit=>frV (frO s t)) (fun _=>True) (fun _=>[]):=by
 obtain⟨hx,hy,hp,hr⟩:=E6 h
 obtain⟨k,hk⟩: ∃k,k=hdg s t:=⟨_,rfl⟩
 have hk4:k<4:=hk▸YV s t
 obtain⟨ax,hax⟩: ∃ax,ax=OC k:=⟨_,rfl⟩
 obtain⟨dd,hdd⟩: ∃dd,dd=MF k:=⟨_,rfl⟩
 have hrow: ∀ {W1:World} {bxs:List Bx},Hp W bxs W1→An W1 0 (0+((k:Nat):Int).toNat*2) [.bool ax, .int .i64 dd]:=fun hp1=>by
  rw[Int.toNat_natCast,hax,hdd]
  exact(hd.hp hp1).at_ hk4
 have hf:frO s t=⟨ax,if ax then s.x else s.y,dd,if s.gable then 0 else nrm s.run s.rise,(s.plate:Rat)⟩:=by unfold frO;rw[←hk, ←hax, ←hdd]
 obtain⟨ps,hps⟩: ∃ps,ps=(if ax then s.x else s.y):=⟨_,rfl⟩
 obtain⟨sp,hsp⟩: ∃sp:Rat,sp=(if s.gable then 0 else nrm s.run s.rise):=⟨_,rfl⟩
 rw[←hps, ←hsp] at hf
 rw[hf]
 refine Ab (args:=[s.val,t.val]) Tryz.func93 I I I ?_
 refine zA (zB ?_)
 (refine Ax rfl rfl rfl rfl ?_;intro)
 (refine Ax rfl rfl rfl rfl ?_;intro)
 (refine Ah Tryz.hZ rfl rfl rfl rfl ?_;intro)
 refine Aa ?_
 rename_i b2 b3 b4
 refine zE (zA (zB (wB 0 I I I (wB 1 I I I (wC I I (fun W _=>(Oc s t W).cast (by rw[←hk])) ?_)))))
 refine Pu (c:=2) Tryz.underlying150 Tryz.sizeOf149 I I I I I ⟨by omega,by omega⟩ ?_
 refine wL 0 I I (fun W1 hp=>hrow hp) I ?_
 (refine Ah Tryz.hZ rfl rfl rfl rfl ?_;intro)
 refine wS 3 I I I (Aa ?_)
 rename_i b5
 refine zE (zA (zB (wP I (wB 3 I I I (wP I (wB 0 I I I (wP I (wB 3 I I I ?_))))))))
 refine A5 Tryz.hZ tH I I I I I I I I ?_
 (refine Ah Tryz.hZ rfl rfl rfl rfl ?_;intro)
 refine wS 4 I I I (Aa ?_)
 rename_i b6
 refine zE (zA (zA (zB (wP I (wB 3 I I I (Aa (A3 ?_)))))))
 try refine Av ?_
 refine A8 (X:=Unit) (fun _=>[(2,Ap b2),(4,Ap b4),(5,Ap b5),(6,Ap b6)]) (fun _=>[⟨b2,80,s.cells,true,none⟩,⟨b4,48,[.bool false, .int .i64 0, .int .i64 0,str [],str []],true,none⟩,⟨b6,48,[.bool ax, .int .i64 ps, .int .i64 dd,str (Ac 0),str []],true,none⟩]) (fun _=>True) ?_ ?_
 ·refine Af I (fun h1=> ?_) (fun h1=> ?_)
  ·have e1:ax=true:=h1
   exact zB (wP I (wB 0 I I I (wP I (wS 4 I I I (Aa (I3 () O ⟨I,I,I,I,O⟩ [0,2,4] (by decide) (by rw[hps,if_pos e1,EB];rfl)))))))
  ·have e1:ax=false:=h1
   exact zI (I3 () O ⟨I,I,I,I,O⟩ [0,2,4] (by decide) (by rw[hps,if_neg (by rw[e1];decide),EB];rfl))
 intro _ _
 refine zA (zA (zB (wP I (wB 0 I I I (wP I (Aa (A3 ?_)))))))
 try refine Av ?_
 refine A8 (X:=Unit) (fun _=>[(2,Ap b2),(4,Ap b4),(6,Ap b6)]) (fun _=>[⟨b2,80,s.cells,true,none⟩,⟨b4,48,[.bool false, .int .i64 0, .int .i64 0,str [],str []],true,none⟩,⟨b6,48,[.bool ax, .int .i64 ps, .int .i64 dd,str (Ac sp),str []],true,none⟩]) (fun _=>True) ?_ ?_
 ·refine Af I (fun h1=> ?_) (fun h1=> ?_)
  ·have e1:s.gable=false:=by simpa using h1
   obtain⟨r1,r2⟩:=hr e1
   exact zB (wP I (wB 0 I I I (wP I (wB 0 I I I (wC I I (fun W1 hp=>(K8 s.run s.rise (by omega) (by omega) W1 (ht.hp hp)).cast (by rw[ofR,if_neg (by omega)])) (wP I (wP I (wP I (wP I (wS 2 I I I (Aa (I3 () O ⟨I,I,I,O⟩ [0,1,2] (by decide) (by rw[hsp,if_neg (by rw[e1];decide)];rfl)))))))))))))
  ·have e1:s.gable=true:=by simpa using h1
   exact zI (I3 () O ⟨I,I,I,O⟩ [0,1,2] (by decide) (by rw[hsp,if_pos e1];rfl))
 intro _ _
 refine zA (zB (wP I (wB 0 I I I (wC I I (fun W1 hp=>(K8 s.plate 1 (by omega) (by decide) W1 (ht.hp hp)).cast (by rw[TF])) (wP I (wP I (wP I (wP I (wS 2 I I I (Aa (zE (zA (zB ?_)))))))))))))
 exact wB 2 I I I (wS 1 I I I (Aa (zE (zO (A9 tH I (.cell 1 I I I I I) () I O fun W _=>Au.nil _ _)))))
-- BOXES 4
-- CODE2
def QU (l:List Sd) (i:Nat):FrP:=frO (sd l i) (sd l (nxt l.length i))
def Dx (l:List Sd) (i:Nat):List FrP:=(List.range i).map (QU l)
def Bb (rs:List (List Sd)):Nat→List FrP
 |0=>[]
 |k+1=>Bb rs k++Dx (rg rs k) (rg rs k).length
def Ao (rs:List (List Sd)):List FrP:=Bb rs rs.length
def frC (l:List FrP):List Value:=l.flatMap fun f=>(frV f).cells.toList
theorem Ps (a b:List FrP):frC (a++b)=frC a++frC b:=List.flatMap_append
theorem X7 (l:List FrP):(frC l).length=l.length*5:=by
 induction l with
 |nil=>rfl
 |cons f l ih=>show((frV f).cells.toList++frC l).length=_;rw[List.length_append,ih,List.length_cons];show 5+_=_;omega
theorem Mj (l:List Sd) (i:Nat):(Dx l i).length=i:=by unfold Dx;rw[List.length_map,List.length_range]
theorem OQ (l:List Sd) (i:Nat):Dx l (i+1)=Dx l i++[QU l i]:=by unfold Dx;rw[List.range_succ,List.map_append];rfl
theorem HL {rs:List (List Sd)}: ∀k,k≤rs.length→(Bb rs k).length=tot (rs.take k)
 |0,_=>rfl
 |k+1,h=>by
  show(Bb rs k++Dx _ _).length=_
  rw[List.length_append,HL k (by omega),Mj,Bi h]
theorem Ct (rs:List (List Sd)):(Ao rs).length=tot rs:=by
 unfold Ao
 rw[HL _ (Nat.le_refl _),List.take_length]
theorem TD {rs:List (List Sd)} {r i:Nat} (hi:i<(rg rs r).length): ∀k,r<k→k≤rs.length→(Bb rs k)[tot (rs.take r)+i]? =some (QU (rg rs r) i)
 |0,h,_=>absurd h (Nat.not_lt_zero _)
 |k+1,h,hk=>by
  have hl:=HL (rs:=rs) k (by omega)
  show(Bb rs k++Dx _ _)[_]? =_
  by_cases e:r=k
  ·subst e
   rw[List.getElem?_append_right (by omega),hl,Nat.add_sub_cancel_left]
   unfold Dx
   rw[List.getElem?_map,List.getElem?_range hi];rfl
  ·have ih:=TD hi k (by omega) (by omega)
   rw[List.getElem?_append_left (List.getElem?_eq_some_iff.1 ih).1]
   exact ih
theorem TL {rs:List (List Sd)} {r i:Nat} (hr:r<rs.length) (hi:i<(rg rs r).length):(Ao rs)[tot (rs.take r)+i]? =some (QU (rg rs r) i):=TD hi rs.length hr (Nat.le_refl _)
theorem IZ (W:World) (p:Option Addr) (cap:Nat) (rs:List (List Sd)) (hn:rs.length<4611686018427387904) (hR:BB W p rs) (hc:chk rs=0) (hd:KD W) (ht:AM W):
  Ad Tryz.prog 41 #[AD p rs.length cap] W (fun V:Vec=> .tuple #[V.val (Ao rs).length, .int .i64 0]) (fun V=>V.OK 5 (Ao rs).length (frC (Ao rs))) (fun V=>[V.bx 48 (frC (Ao rs))]):=by
 obtain⟨hne,hT,_⟩:=CP hc
 obtain⟨hrg,_⟩:=Cr hc
 refine Ab (args:=[AD p rs.length cap]) Tryz.func41 I I I ?_
 refine zA (zB ?_)
 (refine Ax rfl rfl rfl rfl ?_;intro)
 refine wP I (wP I (Aa ?_))
 rename_i b1
 refine zE (zA (zA (zB (wB 0 I I I (wC I I (fun W1 hp=>(Fe W1 p cap rs hn (by omega) (hR.hp hp)).cast (by rw[hc])) (wP I (Aa (zE (zS I (zI (zE (zA (zB ?_)))))))))))))
 refine wP I (Aa (zE (zA (zA (zB (wP I (wB 0 I I I (wP I (wP I (Aa (zE (zH ?_))))))))))))
 refine Dl ?_
 refine At (X:=Nat×Vec) (fun s=>[(1,Ap b1),(4,s.2.val (Bb rs s.1).length),(13,slv p rs.length cap),(14, .int .i64 (rs.length:Nat)),(15, .int .i64 (s.1:Nat))]) (fun s=>[⟨b1,24,[slv p rs.length cap],true,none⟩,s.2.bx 48 (frC (Bb rs s.1))])
  (fun s=>s.1≤rs.length∧s.2.OK 5 (Bb rs s.1).length (frC (Bb rs s.1))) (fun s=>rs.length-s.1) (0,Vec.empty) ⟨Nat.zero_le _,Vec.OK.empty 5⟩ ⟨rfl,rfl,rfl,rfl,rfl,trivial⟩ [] rfl ?_
 rintro⟨k,V⟩ ⟨hk,hV⟩
 have hk:k≤rs.length:=hk
 have hV:V.OK 5 (Bb rs k).length (frC (Bb rs k)):=hV
 have hl:=HL k hk
 refine zA (zB (wP I ?_))
 by_cases hlt:k<rs.length
 ·refine wU 16 true I (dT (by omega)) (Aa (zE (zA (zR I (zI (zE (zA (zH (zA (zB ?_))))))))))
  obtain⟨l,hle⟩: ∃l,l=rg rs k:=⟨_,rfl⟩
  have hs:=Bi hlt
  have hs1:=Ch rs (k+1)
  obtain⟨gR,oR,hpe,hrows⟩:=hR.row hlt
  obtain⟨q,c,hrow,hring⟩:=hrows k hlt
  rw[←hle] at hrow hring hs
  have hrl: ∀s∈l,rgd s=true:=fun s hs=>hrg l (by rw[hle];exact List.mem_of_getElem? (Bc hlt)) s hs
  have hln:l.length≤24:=by omega
  subst hpe
  refine wJ ?_
  refine wL 0 I I (fun W1 hp=>hrow.hp hp) I (wP I (Aa (zE (zA (zB (wP I (wP I (wP I (Aa (zE (zH ?_)))))))))))
  refine At (X:=Nat×Vec) (fun s=>[(1,Ap b1),(4,s.2.val ((Bb rs k).length+s.1)),(13,slv (some ⟨gR,oR,none⟩) rs.length cap),(14, .int .i64 (rs.length:Nat)),(15, .int .i64 (k:Nat)),(6,slv q l.length c),(19,slv q l.length c),(20, .int .i64 (l.length:Nat)),(21, .int .i64 (s.1:Nat))]) (fun s=>[⟨b1,24,[slv (some ⟨gR,oR,none⟩) rs.length cap],true,none⟩,s.2.bx 48 (frC (Bb rs k++Dx l s.1))])
   (fun s=>s.1≤l.length∧s.2.OK 5 ((Bb rs k).length+s.1) (frC (Bb rs k++Dx l s.1))) (fun s=>l.length-s.1) (0,V) ⟨Nat.zero_le _,by show V.OK 5 _ (frC (Bb rs k++[]));rw[List.append_nil];exact hV⟩ ⟨rfl,rfl,rfl,rfl,rfl,rfl,rfl,rfl,rfl,trivial⟩ [] (by show _=[_,V.bx 48 (frC (Bb rs k++[]))]++[];rw[List.append_nil,List.append_nil]) ?_
  rintro⟨i,U⟩ ⟨hi,hU⟩
  have hi:i≤l.length:=hi
  have hU:U.OK 5 ((Bb rs k).length+i) (frC (Bb rs k++Dx l i)):=hU
  refine zA (zB (wP I ?_))
  by_cases hil:i<l.length
  ·refine wU 22 true I (dT (by omega)) (Aa (zE (zA (zR I (zI (zE (zA (zH (zA (zB ?_))))))))))
   obtain⟨gS,oS,hqe,hsd⟩:=hring.row hil
   have hs0:=hsd i hil
   have hs1:=hsd (nxt l.length i) (DS hil)
   have hnl:=DS hil
   have hsuc:=OQ l i
   subst hqe
   refine wP I ?_
   refine wJ ?_
   refine wL 0 I I (fun W1 hp=>hs0.hp hp) I ?_
   (refine Ah Tryz.hZ rfl rfl rfl rfl ?_;intro)
   refine wP I (wS 2 I I I (Aa ?_))
   rename_i b8
   refine zE ?_
   refine Bz (X:= { V':Vec//V'.OK 5 ((Bb rs k).length+(i+1)) (frC (Bb rs k++Dx l (i+1))) }) [true,true,true,true,true,true,true,true,true,true,true,false,false,false] (fun V'=>[(1,Ap b1),(4,V'.1.val ((Bb rs k).length+(i+1))),(13,slv (some ⟨gR,oR,none⟩) rs.length cap),(14, .int .i64 (rs.length:Nat)),(15, .int .i64 (k:Nat)),(6,slv (some ⟨gS,oS,none⟩) l.length c),(19,slv (some ⟨gS,oS,none⟩) l.length c),(20, .int .i64 (l.length:Nat)),(21, .int .i64 (i:Nat))])
    (fun V'=>[⟨b1,24,[slv (some ⟨gR,oR,none⟩) rs.length cap],true,none⟩,V'.1.bx 48 (frC (Bb rs k++Dx l (i+1)))])
    3 [⟨b1,24,[slv (some ⟨gR,oR,none⟩) rs.length cap],true,none⟩,U.bx 48 (frC (Bb rs k++Dx l i)),⟨b8,80,(sd l i).cells,true,none⟩] Tryz.mixed (by kernel_rfl) ?_ ?_
   ·refine qP I (qB 2 I I I (qP I (qP I (qP I (qV 30 ((i+1:Nat):Int) I (Ar (by omega)) (qP I (qP I ?_)))))))
    refine EC I I I I I (by omega) ?_
    refine qV 33 (nxt l.length i:Nat) I (by rw[Int.tmod_eq_emod_of_nonneg (by omega)];exact(Int.natCast_emod _ _).symm) ?_
    refine qJ ?_
    refine qL 0 I I (fun W1 hp=>hs1.hp hp) I (qC I I (fun W1 hp=>Vn (sd l i) (sd l (nxt l.length i)) (hrl _ (List.mem_of_getElem? (DT hil))) W1 (hd.hp hp) (ht.hp hp)) (CK (wX (wZ ?_))))
    refine As Tryz.hZ tH I I I I I I I I I I I fun bN=> ?_
    refine Aa (Ag (wX (wZ ?_)))
    refine AA (V:=U) (len:=(Bb rs k).length+i) (xs:=frC (Bb rs k++Dx l i)) 1 3 Tryz.vec63 ((Bb rs k).length+(i+1)) (frC (Bb rs k++Dx l (i+1))) rfl rfl rfl rfl rfl rfl rfl rfl rfl rfl rfl hU rfl rfl rfl (by rw[hsuc, ←List.append_assoc,Ps (Bb rs k++Dx l i)];rfl) (by simp only[maxLen];omega) (by omega) rfl ?_;intro gV cV jV hV1
    refine Aa (Ag (wY (wZ (wP I (Aa (Ag ?_))))))
    refine AF I (by kernel_rfl) ?_
    exact A6 ⟨⟨some gV,cV,jV⟩,hV1⟩ ⟨I,I,I,I,I,I,I,I,I,O⟩ [0,1] (by decide) I
   intro V'
   exact zN (zE (zB (wP I (wV 39 ((i+1:Nat):Int) I (Ar (by omega)) (wP I (Aa (Aj (i+1,V'.1) ⟨hil,V'.2⟩ (by show l.length-(i+1)<l.length-i;omega) ⟨I,I,I,I,I,I,I,I,I,O⟩ [] I)))))))
  have e:i=l.length:=by omega
  subst e
  refine wU 22 false I (dF (by omega)) (Aa (zE (zA (zS I (zJ (zK (zK (zL (zN (zE (zB ?_)))))))))))
  have hall:Bb rs (k+1)=Bb rs k++Dx l l.length:=by rw[hle];rfl
  have hall2:(Bb rs (k+1)).length=(Bb rs k).length+l.length:=by rw[hall,List.length_append,Mj]
  exact wP I (wV 40 ((k+1:Nat):Int) I (Ar (by omega)) (wP I (Aa (Aj (k+1,U) ⟨hlt,by show U.OK 5 (Bb rs (k+1)).length (frC (Bb rs (k+1)));rw[hall2,hall];exact hU⟩ (by show rs.length-(k+1)<rs.length-k;omega) ⟨I,by show some (U.val _)=some (U.val (Bb rs (k+1)).length);rw[hall2],I,I,I,O⟩ [] (by show _=[_,U.bx 48 (frC (Bb rs (k+1)))]++[];rw[hall];rfl)))))
 have e:k=rs.length:=by omega
 subst e
 refine wU 16 false I (dF (by omega)) (Aa (zE (zA (zS I (zJ (zK (zK (zL (zE (zA (zB (wP I (wP I (wP I ?_))))))))))))))
 exact Aa (zE (zO (AJ tH I (.tmp I) (.tmp I) V I hV fun W1 hp=>Au.of_hp (hp.pick (l:=[V.bx 48 (frC (Bb rs rs.length))]) [1] (by decide) I))))
-- BOXES 2
theorem Xu (a b:List UInt8):((⟨a.toArray⟩:ByteArray).toList==(⟨b.toArray⟩:ByteArray).toList)=decide (a=b):=AE a b
theorem Ha (W:World) (p q:Option Addr) (cap cap2:Nat) (xs ys:List (List UInt8)) (hA:O2 W p xs) (hB:O2 W q ys) (hn:xs.length<4611686018427387904) (hm:ys.length<4611686018427387904):
  Ad Tryz.prog 13 #[slv p xs.length cap,slv q ys.length cap2] W (fun _:Unit=> .bool (decide (xs=ys))) (fun _=>True) (fun _=>[]):=by
 refine Ab (args:=[slv p xs.length cap,slv q ys.length cap2]) Tryz.func13 I I I ?_
 refine zA (zB (wP I (Aa (zE (zA (zA (zB ?_)))))))
 iterate 5 refine wP I ?_
 by_cases hl:xs.length=ys.length
 ·refine wU 10 false I (by rw[hl];simp) (Aa (zE (zS I (zI (zE (zA (zA (zB (wP I (wP I (wP I (Aa (A3 ?_)))))))))))))
  refine A8 (X:=Unit) (fun _=>[(4, .bool false)]) (fun _=>[]) (fun _=>xs=ys) ?_ ?_
  ·refine BL ?_
   refine At (X:=Nat) (fun i=>[(0,slv p xs.length cap),(1,slv q ys.length cap2),(4, .bool false),(12, .int .i64 (xs.length:Nat)),(13, .int .i64 (i:Nat))]) (fun _=>[]) (fun i=>i≤xs.length∧xs.take i=ys.take i) (fun i=>xs.length-i) 0 ⟨Nat.zero_le _,I⟩ ⟨I,I,I,I,I,O⟩ [] I ?_
   rintro i ⟨hi,he⟩
   refine zA (zB (wP I ?_))
   by_cases hlt:i<xs.length
   ·refine wU 14 true I (dT (by omega)) (Aa (zE (zA (zR I (zI (zE (zA (zH (zA (zB ?_))))))))))
    obtain⟨pb,po,rfl,hr1⟩:=hA.row hlt
    obtain⟨qb,qo,rfl,hr2⟩:=hB.row (show i<ys.length by omega)
    refine wP I (wP I (Aa (zE (zA (zU (qP I (qP I ?_)))))))
    refine qJ ?_
    refine qL 0 I I (fun W hp=>(hr1 i hlt).hp hp) I (qP I (qP I ?_))
    refine qJ ?_
    refine qL 0 I I (fun W hp=>(hr2 i (by omega)).hp hp) I (qP I ?_)
    by_cases hx:xs[i]=ys[i]
    ·exact qU 24 false I (by show(!_)=false;rw[Xu,dT hx];rfl) (A4 (Aa (zE (zS I (zI (zN (zE (zB (wP I (wV 25 ((i+1:Nat):Int) I (Ar (by omega)) (wP I (Aa (Aj (i+1) ⟨hlt,by rw[List.take_add_one,List.take_add_one,he,List.getElem?_eq_getElem hlt,List.getElem?_eq_getElem (by omega),hx]⟩ (by show xs.length-(i+1)<xs.length-i;omega) ⟨I,I,I,I,I,O⟩ [] I)))))))))))))
    ·refine qU 24 true I (by show(!_)=true;rw[Xu,dF hx];rfl) (A4 (Aa (zE (zR I (zA (zB (wP I (Aa (zE (zO (zQ (zP (zP ?_)))))))))))))
     exact zQ (zP (wR1 rfl rfl (by rw[dF fun e=>hx (by subst e;rfl)])))
   ·exact wU 14 false I (dF (by omega)) (Aa (zE (zA (zS I (zJ (zK (zK (zL (Ak () (by rw[List.take_of_length_le (by omega),List.take_of_length_le (by omega)] at he;exact he) ⟨I,O⟩ [] I)))))))))
  ·intro _ he
   have he:xs=ys:=he
   exact zA (zB (wP I (Aa (zE (zO (wR1 I I (by rw[dT he])))))))
 ·exact wU 10 true I (by rw[bne_iff_ne];omega) (Aa (zE (zR I (zA (zB (wP I (Aa (zE (zO (zP (wR1 I I (by rw[dF fun e=>hl (by rw[e])]))))))))))))
-- BOXES 4
abbrev frB (b:Nat) (f:FrP):Bx:=⟨b,48,(frV f).cells.toList,true,none⟩
theorem MQ (f g:FrP) (W:World):Ad Tryz.prog 94 #[frV f,frV g] W (fun x:Nat×Nat=> .func (.func 154) #[] #[Ap x.1,Ap x.2]) (fun _=>True) (fun x=>[frB x.1 f,frB x.2 g]):=by
 refine Ab (args:=[frV f,frV g]) Tryz.func94 I I I ?_
 refine zA (zB ?_)
 (refine Ax rfl rfl rfl rfl ?_;intro)
 (refine Ax rfl rfl rfl rfl ?_;intro)
 refine wP I (Aa ?_)
 rename_i b2 b3
 exact zE (zA (zB (wP I (wP I (Aa (zE (zO (A9 tH I (.tmp I) (b2,b3) I O fun W hp=>Au.of_hp hp))))))))
def CE (f g:FrP):Rat:=(g.pos:Rat)-(f.pos:Rat)
def AX (f g:FrP):List Rat:=
 [f.st,g.st]++(if f.vel=0 then[] else[f.st+CE f g/f.vel])++(if g.vel=0 then[] else[g.st-CE f g/g.vel])++
 (if f.vel=g.vel then[] else[(CE f g+(f.vel*f.st-g.vel*g.st))/(f.vel-g.vel)])
theorem US (f g:FrP):(AX f g).length≤5:=by
 unfold AX
 by_cases h1:f.vel=0<;>by_cases h2:g.vel=0<;>by_cases h3:f.vel=g.vel<;>simp only[h1,h2,h3,if_true,if_false]<;>(try split)<;>simp
end
section
theorem FrP.at_le {f:FrP} {t:Rat} (h:t≤f.st):f.at t=(f.pos:Rat):=by rw[FrP.at,if_pos h]
theorem FrP.at_ge {f:FrP} {t:Rat} (h:f.st≤t):f.at t=(f.pos:Rat)+f.vel*(t-f.st):=by
 by_cases e:t≤f.st
 ·have e2:t=f.st:=Rat.le_antisymm e h
  rw[FrP.at,if_pos e,e2];grind
 ·rw[FrP.at,if_neg e]
end
section
def HG (x:Rat):List Rat→List Rat
 |[]=>[x]
 |y::l=>if x<y then x::y::l else y::HG x l
def B9 (l:List Rat):List Rat:=l.foldl (fun s x=>HG x s) []
theorem QH (x:Rat): ∀l,(HG x l).length=l.length+1
 |[]=>rfl
 |y::l=>by
  unfold HG
  split
  ·rfl
  ·simp[QH x l]
theorem Mn {x z:Rat}: ∀ {l},z∈HG x l↔z=x∨z∈l
 |[]=>by simp[HG]
 |y::l=>by
  unfold HG
  split
  ·simp
  ·rw[List.mem_cons,Mn,List.mem_cons]
   constructor
   ·rintro(h|h|h)
    ·exact .inr (.inl h)
    ·exact .inl h
    ·exact .inr (.inr h)
   ·rintro(h|h|h)
    ·exact .inr (.inl h)
    ·exact .inl h
    ·exact .inr (.inr h)
theorem Ly {x:Rat}: ∀ {l},l.Pairwise (· ≤ ·)→(HG x l).Pairwise (· ≤ ·)
 |[],_=>by simp[HG]
 |y::l,h=>by
  have h2:=List.pairwise_cons.1 h
  unfold HG
  split
  ·rename_i hxy
   refine List.pairwise_cons.2 ⟨fun z hz=> ?_,h⟩
   rcases List.mem_cons.1 hz with rfl|hz
   ·exact Rat.le_of_lt hxy
   ·exact Rat.le_trans (Rat.le_of_lt hxy) (h2.1 z hz)
  ·rename_i hxy
   refine List.pairwise_cons.2 ⟨fun z hz=> ?_,Ly h2.2⟩
   rcases Mn.1 hz with rfl|hz
   ·exact Rat.not_lt.1 hxy
   ·exact h2.1 z hz
theorem Kc (l:List Rat):(B9 l).Pairwise (· ≤ ·):=by
 have: ∀(l s:List Rat),s.Pairwise (· ≤ ·)→(l.foldl (fun s x=>HG x s) s).Pairwise (· ≤ ·):=by
  intro l
  induction l with
  |nil=>exact fun s h=>h
  |cons x l ih=>exact fun s h=>ih _ (Ly h)
 exact this l [] List.Pairwise.nil
theorem O5 {z:Rat} {l:List Rat}:z∈B9 l↔z∈l:=by
 have: ∀(l s:List Rat),z∈l.foldl (fun s x=>HG x s) s↔z∈l∨z∈s:=by
  intro l
  induction l with
  |nil=>exact fun s=>by simp
  |cons x l ih=>
   intro s
   rw[List.foldl_cons,ih,Mn,List.mem_cons]
   constructor
   ·rintro(h|h|h)
    ·exact .inl (.inr h)
    ·exact .inl (.inl h)
    ·exact .inr h
   ·rintro((h|h)|h)
    ·exact .inr (.inl h)
    ·exact .inl h
    ·exact .inr (.inr h)
 rw[B9,this];simp
end
section
def Ba:List Rat→List Rat
 |[]=>[]
 |[x]=>[x]
 |x::y::l=>if y=x then Ba (x::l) else x::Ba (y::l)
termination_by l=>l.length
theorem O0 {z:Rat} (l:List Rat):z∈Ba l↔z∈l:=by
 fun_induction Ba l with
 |case1=>exact Iff.rfl
 |case2 x=>exact Iff.rfl
 |case3 x l ih=>rw[ih];simp
 |case4 x y l h ih=>rw[List.mem_cons,ih,List.mem_cons (b:=x)]
theorem Pi (l:List Rat) (h:l.Pairwise (· ≤ ·)):(Ba l).Pairwise (· < ·):=by
 fun_induction Ba l with
 |case1=>exact List.Pairwise.nil
 |case2 x=>simp
 |case3 x l ih=>
  exact ih (List.pairwise_cons.1 h).2
 |case4 x y l hne ih=>
  have h2:=List.pairwise_cons.1 h
  have h3:=List.pairwise_cons.1 h2.2
  refine List.pairwise_cons.2 ⟨fun z hz=> ?_,ih h2.2⟩
  have hxy:x<y:=Rat.lt_of_le_of_ne (h2.1 y (List.mem_cons_self ..)) fun e=>hne e.symm
  rcases List.mem_cons.1 ((O0 _).1 hz) with rfl|hz
  ·exact hxy
  ·exact Rat.not_le.1 fun e=>Rat.not_le.2 hxy (Rat.le_trans (h3.1 z hz) e)
theorem F3: ∀ {l m:List Rat},l.Pairwise (· < ·)→m.Pairwise (· < ·)→(∀z,z∈l↔z∈m)→l=m
 |[],[],_,_,_=>rfl
 |[],y::m,_,_,h=>absurd ((h y).2 (List.mem_cons_self ..)) List.not_mem_nil
 |x::l,[],_,_,h=>absurd ((h x).1 (List.mem_cons_self ..)) List.not_mem_nil
 |x::l,y::m,h1,h2,h=>by
  have a1:=List.pairwise_cons.1 h1
  have a2:=List.pairwise_cons.1 h2
  have hxy:x=y:=by
   rcases List.mem_cons.1 ((h x).1 (List.mem_cons_self ..)) with e|e
   ·exact e
   ·rcases List.mem_cons.1 ((h y).2 (List.mem_cons_self ..)) with e2|e2
    ·exact e2.symm
    ·exact absurd (Rat.le_of_lt (a1.1 y e2)) (Rat.not_le.2 (a2.1 x e))
  subst hxy
  rw[F3 a1.2 a2.2 fun z=> ?_]
  constructor
  ·intro hz
   rcases List.mem_cons.1 ((h z).1 (List.mem_cons_of_mem _ hz)) with e|e
   ·subst e;exact absurd (a1.1 z hz) Rat.lt_irrefl
   ·exact e
  ·intro hz
   rcases List.mem_cons.1 ((h z).2 (List.mem_cons_of_mem _ hz)) with e|e
   ·subst e;exact absurd (a2.1 z hz) Rat.lt_irrefl
   ·exact e
end
section
def Dd (f g:FrP) (t:Rat):Bool:=decide (f.at t=g.at t)&&(decide (f.velB t≠g.velB t)||decide (f.velA t≠g.velA t))
def eqL (f g:FrP):List Rat:=Ba (B9 ((AX f g).filter (Dd f g)))
theorem QW {f g:FrP} {t:Rat}:Dd f g t=true↔f.at t=g.at t∧(f.velB t≠g.velB t∨f.velA t≠g.velA t):=by
 simp[Dd]
theorem LK {f g:FrP} {t:Rat}:t∈eqL f g↔t∈AX f g∧Dd f g t=true:=by
 rw[eqL,O0,O5,List.mem_filter]
theorem St (f g:FrP):(eqL f g).Pairwise (· < ·):=Pi _ (Kc _)
theorem OF {f g:FrP} {t:Rat}:t∈AX f g↔t=f.st∨t=g.st∨(f.vel≠0∧t=f.st+CE f g/f.vel)∨(g.vel≠0∧t=g.st-CE f g/g.vel)∨
  (f.vel≠g.vel∧t=(CE f g+(f.vel*f.st-g.vel*g.st))/(f.vel-g.vel)):=by
 unfold AX
 by_cases h1:f.vel=0<;>by_cases h2:g.vel=0<;>by_cases h3:f.vel=g.vel<;>simp only[h1,h2,h3,if_true,if_false,List.mem_append,List.mem_cons,List.not_mem_nil,or_false,false_or,ne_eq,not_true,not_false_eq_true,true_and,false_and,or_assoc]<;>(try split)<;>simp_all
end
section
open Go Go.RowKit Go.Am Go.Lib
set_option maxRecDepth 10000
theorem Zj {z d:Int} (hz:0≤z) (hd:0<d):0≤(nrm z d).num:=by
 obtain⟨e,rfl⟩: ∃e:Nat,d=((e+1:Nat):Int):=⟨(d-1).toNat,by omega⟩
 unfold nrm
 rw[if_neg (by omega),mkRat,dif_neg (by omega),Rat.normalize_eq]
 exact Int.ediv_nonneg hz (by omega)
theorem Zo {s t:Sd} (h:rgd s=true):(frO s t).OK:=by
 obtain⟨hx,hy,hp,hr⟩:=E6 h
 refine⟨?_, ?_, ?_, ?_, ?_, ?_⟩
 ·show 0≤(if _ then s.x else s.y);split<;>omega
 ·show(if _ then s.x else s.y)≤65536;split<;>omega
 ·show MF _=1∨MF _= -1
  unfold MF;split
  ·exact .inl I
  ·exact .inr I
 ·show szQ (if s.gable then(0:Rat) else nrm s.run s.rise) 36
  cases hg:s.gable with
  |true=>rw[if_pos rfl];exact⟨by decide,by decide⟩
  |false=>
   obtain⟨h1,h2⟩:=hr hg
   rw[if_neg (by decide)]
   exact szQ.mono (k:=2) (IA _ (by omega) (by show _<100;omega) (by show _<100;omega)) (by decide)
 ·exact szQ.mono (k:=5) (EK (by show _<100000;omega) (by decide)) (by decide)
 ·show 0≤(if s.gable then(0:Rat) else nrm s.run s.rise).num
  cases hg:s.gable with
  |true=>rw[if_pos rfl];decide
  |false=>
   obtain⟨h1,h2⟩:=hr hg
   rw[if_neg (by decide)]
   exact Zj (by omega) (by omega)
end
section
theorem Wo {f g:FrP} {t:Rat} (h:Dd f g t=true):(f.vel≠0∧t=f.st+CE f g/f.vel∧f.st≤t∧t≤g.st)∨(g.vel≠0∧t=g.st-CE f g/g.vel∧g.st≤t∧t≤f.st)∨
  (f.vel≠g.vel∧t=(CE f g+(f.vel*f.st-g.vel*g.st))/(f.vel-g.vel)):=by
 rw[QW] at h
 obtain⟨he,h⟩:=h
 have key: ∀(c1:f.st≤t∨t≤f.st) (c2:g.st≤t∨t≤g.st),True:=fun _ _=>trivial
 have both:f.st≤t→g.st≤t→f.vel≠g.vel→t=(CE f g+(f.vel*f.st-g.vel*g.st))/(f.vel-g.vel):=fun h1 h2 h3=>by
  rw[FrP.at_ge h1,FrP.at_ge h2] at he
  have:f.vel-g.vel≠0:=by grind
  unfold CE
  grind
 have fst:f.st≤t→t≤g.st→f.vel≠0→t=f.st+CE f g/f.vel:=fun h1 h2 h3=>by
  rw[FrP.at_ge h1,FrP.at_le h2] at he
  unfold CE
  grind
 have snd:t≤f.st→g.st≤t→g.vel≠0→t=g.st-CE f g/g.vel:=fun h1 h2 h3=>by
  rw[FrP.at_le h1,FrP.at_ge h2] at he
  unfold CE
  grind
 rcases h with h|h
 ·unfold FrP.velB at h
  by_cases c1:f.st<t
  ·rw[if_pos c1] at h
   by_cases c2:g.st<t
   ·rw[if_pos c2] at h
    exact .inr (.inr ⟨h,both (Rat.le_of_lt c1) (Rat.le_of_lt c2) h⟩)
   ·rw[if_neg c2] at h
    exact .inl ⟨h,fst (Rat.le_of_lt c1) (Rat.not_lt.1 c2) h,Rat.le_of_lt c1,Rat.not_lt.1 c2⟩
  ·rw[if_neg c1] at h
   by_cases c2:g.st<t
   ·rw[if_pos c2] at h
    exact .inr (.inl ⟨fun e=>h e.symm,snd (Rat.not_lt.1 c1) (Rat.le_of_lt c2) (fun e=>h e.symm),Rat.le_of_lt c2,Rat.not_lt.1 c1⟩)
   ·rw[if_neg c2] at h
    exact absurd I h
 ·unfold FrP.velA at h
  by_cases c1:t<f.st
  ·rw[if_pos c1] at h
   by_cases c2:t<g.st
   ·rw[if_pos c2] at h
    exact absurd I h
   ·rw[if_neg c2] at h
    exact .inr (.inl ⟨fun e=>h e.symm,snd (Rat.le_of_lt c1) (Rat.not_lt.1 c2) (fun e=>h e.symm),Rat.not_lt.1 c2,Rat.le_of_lt c1⟩)
  ·rw[if_neg c1] at h
   by_cases c2:t<g.st
   ·rw[if_pos c2] at h
    exact .inl ⟨h,fst (Rat.not_lt.1 c1) (Rat.le_of_lt c2) h,Rat.not_lt.1 c1,Rat.le_of_lt c2⟩
   ·rw[if_neg c2] at h
    exact .inr (.inr ⟨h,both (Rat.not_lt.1 c1) (Rat.not_lt.1 c2) h⟩)
theorem Vp {f g:FrP} {t:Rat} (h:Dd f g t=true):t∈eqL f g:=by
 rw[LK,OF]
 refine⟨?_,h⟩
 rcases Wo h with⟨h0,h1,_⟩|⟨h0,h1,_⟩|⟨h0,h1⟩
 ·exact .inr (.inr (.inl ⟨h0,h1⟩))
 ·exact .inr (.inr (.inr (.inl ⟨h0,h1⟩)))
 ·exact .inr (.inr (.inr (.inr ⟨h0,h1⟩)))
end
section
def CD (a:Rat):List Rat→List Rat
 |[]=>[a]
 |b::l=>if a<b then a::b::l else if a=b then b::l else b::CD a l
theorem FI {a z:Rat}: ∀ {l:List Rat},z∈CD a l↔z=a∨z∈l
 |[]=>by simp[CD]
 |b::l=>by
  unfold CD
  split
  ·simp
  ·split
   ·rename_i h
    subst h
    simp
   ·rw[List.mem_cons,FI,List.mem_cons]
    constructor
    ·rintro(h|h|h)
     ·exact .inr (.inl h)
     ·exact .inl h
     ·exact .inr (.inr h)
    ·rintro(h|h|h)
     ·exact .inr (.inl h)
     ·exact .inl h
     ·exact .inr (.inr h)
theorem Ec {a:Rat}: ∀ {l:List Rat},l.Pairwise (· < ·)→(CD a l).Pairwise (· < ·)
 |[],_=>by simp[CD]
 |b::l,h=>by
  have h2:=List.pairwise_cons.1 h
  unfold CD
  split
  ·rename_i hab
   refine List.pairwise_cons.2 ⟨fun z hz=> ?_,h⟩
   rcases List.mem_cons.1 hz with rfl|hz
   ·exact hab
   ·have:=h2.1 z hz
    exact Rat.not_le.1 fun hc=>Rat.not_lt.2 (Rat.le_trans hc (Rat.le_of_lt hab)) this
  ·split
   ·exact h
   ·rename_i h1 hne
    have hba:b<a:=Rat.lt_of_le_of_ne (Rat.not_lt.1 h1) fun e=>hne e.symm
    refine List.pairwise_cons.2 ⟨fun z hz=> ?_,Ec h2.2⟩
    rcases FI.1 hz with rfl|hz
    ·exact hba
    ·exact h2.1 z hz
def below (a:Rat) (l:List Rat):Nat:=(l.takeWhile fun z=>decide (z<a)).length
theorem Jy (a:Rat): ∀l:List Rat,below a l≤l.length
 |[]=>Nat.le_refl _
 |b::l=>by
  have ih:=Jy a l
  unfold below at ih⊢
  rw[List.takeWhile_cons]
  split
  ·simpa using ih
  ·simp
theorem MV (a b:Rat) (l:List Rat):below a (b::l)=if b<a then below a l+1 else 0:=by
 unfold below
 rw[List.takeWhile_cons]
 by_cases h:b<a
 ·rw[if_pos h,if_pos (dT h)];rfl
 ·rw[if_neg h,if_neg (by simpa using h)];rfl
theorem RD {a:Rat}: ∀ {l:List Rat} (_:l.Pairwise (· < ·)) (i:Nat) (hi:i<l.length),l[i]<a↔i<below a l
 |b::l,h,i,hi=>by
  have h2:=List.pairwise_cons.1 h
  rw[MV]
  by_cases hb:b<a
  ·rw[if_pos hb]
   cases i with
   |zero=>exact⟨fun _=>Nat.succ_pos _,fun _=>hb⟩
   |succ i=>
    have ih:=RD (a:=a) h2.2 i (by simpa using hi)
    rw[List.getElem_cons_succ,ih]
    omega
  ·rw[if_neg hb]
   refine⟨fun hc=> ?_,fun hc=>absurd hc (Nat.not_lt_zero _)⟩
   cases i with
   |zero=>exact absurd hc hb
   |succ i=>
    have h3:=h2.1 _ (List.getElem_mem (show i<l.length by simpa using hi))
    rw[List.getElem_cons_succ] at hc
    exact absurd (Rat.not_le.1 fun h4=>Rat.not_lt.2 (Rat.le_trans h4 (Rat.le_of_lt h3)) hc) hb
theorem Ph {a:Rat}: ∀ {l:List Rat},l.Pairwise (· < ·)→CD a l=if l[below a l]? =some a then l else l.take (below a l)++a::l.drop (below a l)
 |[],_=>by simp[CD,below]
 |b::l,h=>by
  have h2:=List.pairwise_cons.1 h
  have ih:=Ph (a:=a) h2.2
  unfold CD
  rw[MV]
  by_cases hb:b<a
  ·have hn: ¬a<b:=Rat.not_lt.2 (Rat.le_of_lt hb)
   have hne: ¬a=b:=fun e=>by rw[e] at hb;exact Rat.lt_irrefl hb
   rw[if_neg hn,if_neg hne,if_pos hb,List.getElem?_cons_succ,List.take_succ_cons,List.drop_succ_cons,ih]
   split
   ·rfl
   ·rfl
  ·rw[if_neg hb]
   by_cases hab:a<b
   ·have hne: ¬(b::l)[0]? =some a:=fun e=>by
     have e:b=a:=by simpa using e
     rw[e] at hab;exact Rat.lt_irrefl hab
    rw[if_pos hab,if_neg hne];rfl
   ·have e:a=b:=Rat.le_antisymm (Rat.not_lt.1 hb) (Rat.not_lt.1 hab)
    subst e
    rw[if_neg hab,if_pos rfl,if_pos (by simp)]
def EE (l xs:List Rat):List Rat:=xs.foldl (fun o z=>CD z o) l
theorem Dm {z:Rat}: ∀(xs l:List Rat),z∈EE l xs↔z∈l∨z∈xs
 |[],l=>by simp[EE]
 |x::xs,l=>by
  show z∈EE (CD x l) xs↔_
  rw[Dm xs,FI,List.mem_cons]
  constructor
  ·rintro((h|h)|h)
   ·exact .inr (.inl h)
   ·exact .inl h
   ·exact .inr (.inr h)
  ·rintro(h|h|h)
   ·exact .inl (.inr h)
   ·exact .inl (.inl h)
   ·exact .inr h
theorem Cu: ∀(xs l:List Rat),l.Pairwise (· < ·)→(EE l xs).Pairwise (· < ·)
 |[],_,h=>h
 |_::xs,_,h=>Cu xs _ (Ec h)
theorem JD (l xs ys:List Rat):EE l (xs++ys)=EE (EE l xs) ys:=List.foldl_append
theorem KL (l xs:List Rat) (y:Rat):EE l (xs++[y])=CD y (EE l xs):=JD l xs [y]
theorem Ro (a:Rat): ∀l:List Rat,(CD a l).length≤l.length+1
 |[]=>Nat.le_refl _
 |b::l=>by
  have ih:=Ro a l
  unfold CD
  split
  ·simp
  ·split
   ·simp
   ·simpa using ih
theorem EY: ∀(xs l:List Rat),(EE l xs).length≤l.length+xs.length
 |[],_=>Nat.le_refl _
 |x::xs,l=>by
  have h1:=EY xs (CD x l)
  have h2:=Ro x l
  show(EE (CD x l) xs).length≤_
  rw[List.length_cons];omega
end
section
def alw (f g:FrP):Prop:=f.pos=g.pos∧f.sp=g.sp∧(f.sp=0∨(f.st=g.st∧f.hd=g.hd))
def aQ (f g:FrP) (z:Rat) (i k:Int):Int:=if CY (f.at z) (g.at z)≠0 then CY (f.at z) (g.at z) else if CY (f.velA z) (g.velA z)≠0 then CY (f.velA z) (g.velA z) else i-k
end
section
def fr (F:List FrP) (i:Nat):FrP:=F.getD i ⟨false,0,1,0,0⟩
theorem DU {F:List FrP} {i:Nat} (h:i<F.length):F[i]? =some (fr F i):=by simp[fr,h]
def Ey (F:List FrP) (i k:Nat):List (Nat×Nat):=if (fr F i).ax=(fr F k).ax then[(i,k)] else[]
def Fi (F:List FrP) (i:Nat):List (Nat×Nat):=((List.range F.length).drop (i+1)).flatMap (Ey F i)
def prs (F:List FrP):List (Nat×Nat):=(List.range F.length).flatMap (Fi F)
theorem Et {n j k:Nat}:k∈(List.range n).drop j↔j≤k∧k<n:=by
 rw[List.mem_drop_iff_getElem]
 constructor
 ·rintro⟨i,hi,e⟩
  rw[List.getElem_range] at e
  rw[List.length_range] at hi
  omega
 ·rintro⟨h1,h2⟩
  exact⟨k-j,by rw[List.length_range];omega,by rw[List.getElem_range];omega⟩
theorem PI {F:List FrP} {q:Nat×Nat}:q∈prs F↔q.1<q.2∧q.2<F.length∧(fr F q.1).ax=(fr F q.2).ax:=by
 unfold prs Fi Ey
 rw[List.mem_flatMap]
 constructor
 ·rintro⟨i,hi,h⟩
  obtain⟨k,hk,h⟩:=List.mem_flatMap.1 h
  obtain⟨k1,k2⟩:=Et.1 hk
  split at h
  ·rename_i e
   obtain rfl:=List.mem_singleton.1 h
   exact⟨k1,k2,e⟩
  ·cases h
 ·rintro⟨h1,h2,h3⟩
  refine⟨q.1,List.mem_range.2 (by omega),List.mem_flatMap.2 ⟨q.2,Et.2 ⟨h1,h2⟩, ?_⟩⟩
  rw[if_pos h3]
  exact List.mem_singleton.2 I
def E5 (rs:List (List Sd)):List Rat:=(rs.flatten.filter fun s=> !s.gable).map fun s=>(s.plate:Rat)
def st0 (rs:List (List Sd)):List Rat:=EE [] (E5 rs)
def base (rs:List (List Sd)):Rat:=(st0 rs).headD 0
def Mg (F:List FrP):List Rat:=(prs F).flatMap fun q=>eqL (fr F q.1) (fr F q.2)
def BM (rs:List (List Sd)):List Rat:=EE (st0 rs) ((Mg (Ao rs)).filter fun z=>decide (base rs<z))
theorem Hb (rs:List (List Sd)):(st0 rs).Pairwise (· < ·):=Cu _ _ List.Pairwise.nil
theorem Ru (rs:List (List Sd)):(BM rs).Pairwise (· < ·):=Cu _ _ (Hb rs)
theorem Hz {rs:List (List Sd)} {z:Rat}:z∈st0 rs↔z∈E5 rs:=by
 unfold st0
 rw[Dm]
 simp
theorem Kn {rs:List (List Sd)} {z:Rat}:z∈BM rs↔z∈E5 rs∨(z∈Mg (Ao rs)∧base rs<z):=by
 unfold BM
 rw[Dm,Hz,List.mem_filter,decide_eq_true_eq]
theorem JT {rs:List (List Sd)} (h:E5 rs≠[]):base rs∈E5 rs:=by
 unfold base
 cases e:st0 rs with
 |nil=>
  cases e2:E5 rs with
  |nil=>exact absurd e2 h
  |cons x l=>
   have:x∈st0 rs:=Hz.2 (by rw[e2];exact List.mem_cons_self ..)
   rw[e] at this;cases this
 |cons x l=>exact Hz.1 (by rw[e];exact List.mem_cons_self ..)
theorem XS {rs:List (List Sd)} {z:Rat} (h:z∈BM rs):base rs≤z:=by
 rcases Kn.1 h with h|h
 ·have h:=Hz.2 h
  have hs:=Hb rs
  unfold base
  cases e:st0 rs with
  |nil=>rw[e] at h;cases h
  |cons x l=>
   rw[e] at h hs
   show x≤z
   rcases List.mem_cons.1 h with rfl|h
   ·exact Rat.le_refl
   ·exact Rat.le_of_lt ((List.pairwise_cons.1 hs).1 z h)
 ·exact Rat.le_of_lt h.2
theorem UL {rs:List (List Sd)} (h:E5 rs≠[]): ∃l,BM rs=base rs::l:=by
 have hb:=Kn.2 (.inl (JT h))
 have hs:=Ru rs
 cases e:BM rs with
 |nil=>rw[e] at hb;cases hb
 |cons x l=>
  rw[e] at hb hs
  have h1:base rs≤x:=XS (by rw[e];exact List.mem_cons_self ..)
  rcases List.mem_cons.1 hb with h2|h2
  ·exact⟨l,by rw[h2]⟩
  ·have h3:=(List.pairwise_cons.1 hs).1 _ h2
   exact absurd h3 (Rat.not_lt.2 h1)
theorem ED {F:List FrP} {i:Nat} (h:i<F.length):fr F i∈F:=List.mem_of_getElem? (DU h)
def Rn (F:List FrP) (z:Rat) (i k:Nat):Int:=aQ (fr F i) (fr F k) z (i:Int) (k:Int)
end
section
def upr (F:List FrP) (ax:Bool):List Nat:=(List.range F.length).filter fun i=>(fr F i).ax==ax
theorem YB {F:List FrP} {ax:Bool} {i:Nat}:i∈upr F ax↔i<F.length∧(fr F i).ax=ax:=by
 unfold upr
 rw[List.mem_filter,List.mem_range,beq_iff_eq]
end
section
open Go Go.RowKit Go.Am
set_option maxRecDepth 10000
-- BOXES 1
-- CODE2
def UG (F:List FrP) (i:Nat):List (Nat×Nat):=(List.range i).flatMap (Fi F)
def P0 (F:List FrP) (i k:Nat):List (Nat×Nat):=((List.range k).drop (i+1)).flatMap (Ey F i)
def Rx (F:List FrP) (i:Nat):Nat:=(UG F i).length
def GZ (F:List FrP) (i k:Nat):Nat:=(UG F i++P0 F i k).length
theorem OU {n i:Nat} (h:i<n):List.range n=List.range i++i::(List.range n).drop (i+1):=by
 conv=>lhs;rw[←List.take_append_drop i (List.range n),List.drop_eq_getElem_cons (by rw[List.length_range];exact h),List.take_range,Nat.min_eq_left (Nat.le_of_lt h),List.getElem_range]
theorem So {n i k:Nat} (h:i+1≤k) (hk:k<n):(List.range n).drop (i+1)=(List.range k).drop (i+1)++k::(List.range n).drop (k+1):=by
 conv=>lhs;rw[OU hk,List.drop_append_of_le_length (by rw[List.length_range];exact h)]
theorem YG {F:List FrP} {i:Nat} (h:i<F.length):prs F=UG F i++(Fi F i++((List.range F.length).drop (i+1)).flatMap (Fi F)):=by
 unfold prs UG
 conv=>lhs;rw[OU h,List.flatMap_append,List.flatMap_cons]
theorem V7 {F:List FrP} {i k:Nat} (h:i+1≤k) (hk:k<F.length):Fi F i=P0 F i k++(Ey F i k++((List.range F.length).drop (k+1)).flatMap (Ey F i)):=by
 unfold Fi P0
 conv=>lhs;rw[So h hk,List.flatMap_append,List.flatMap_cons]
theorem Vo (F:List FrP) (i:Nat):GZ F i (i+1)=Rx F i:=by
 unfold GZ Rx P0
 rw[List.drop_of_length_le (by rw[List.length_range];exact Nat.le_refl _),List.flatMap_nil,List.append_nil]
theorem VV (F:List FrP) (i:Nat):GZ F i F.length=Rx F (i+1):=by
 unfold GZ Rx UG P0
 rw[List.range_succ,List.flatMap_append,List.flatMap_cons,List.flatMap_nil,List.append_nil];rfl
theorem O6 {F:List FrP} {i k:Nat} (h:i+1≤k):P0 F i (k+1)=P0 F i k++Ey F i k:=by
 unfold P0
 rw[List.range_succ,List.drop_append_of_le_length (by rw[List.length_range];exact h),List.flatMap_append,List.flatMap_cons,List.flatMap_nil,List.append_nil]
theorem Y4 {F:List FrP} {i k:Nat} (h:i+1≤k) (hax:(fr F i).ax≠(fr F k).ax):GZ F i (k+1)=GZ F i k:=by
 unfold GZ
 rw[O6 h,Ey,if_neg hax,List.append_nil]
theorem Vv {F:List FrP} {i k:Nat} (h:i+1≤k) (hk:k<F.length) (hax:(fr F i).ax=(fr F k).ax):GZ F i (k+1)=GZ F i k+1∧(prs F).getD (GZ F i k) (0,0)=(i,k)∧GZ F i k<(prs F).length:=by
 have e:prs F=(UG F i++P0 F i k)++((i,k)::(((List.range F.length).drop (k+1)).flatMap (Ey F i)++((List.range F.length).drop (i+1)).flatMap (Fi F))):=by
  rw[YG (show i<F.length by omega),V7 h hk,Ey,if_pos hax]
  simp only[List.append_assoc,List.cons_append,List.nil_append]
 refine⟨?_, ?_, ?_⟩
 ·unfold GZ
  rw[O6 h,Ey,if_pos hax, ←List.append_assoc,List.length_append];rfl
 ·unfold GZ
  rw[e,List.getD_eq_getElem?_getD,List.getElem?_append_right (Nat.le_refl _),Nat.sub_self];rfl
 ·unfold GZ
  rw[e];simp only[List.length_append,List.length_cons];omega
abbrev XY (F:List FrP) (k:Nat):List Value:=[.int .i64 (((prs F).getD k (0,0)).1:Nat), .int .i64 (((prs F).getD k (0,0)).2:Nat)]
structure ZQ (b1 gF cF:Nat) (F:List FrP) (W:World):Prop where
 hdr:An W b1 0 [.slice (some ⟨gF,0,none⟩) F.length cF]
 row: ∀m,m<F.length→An W gF (0+m*5) (frV (fr F m)).cells.toList
abbrev frZ:Value:= .agg #[.bool false, .int .i64 0, .int .i64 0,str [],str []]
abbrev Sn (b:Nat) (f:FrP):List (Nat×Obj):=[(b, .cells (frV f).cells 48 (0,0))]
theorem N3 (F:List FrP) (b1 gF cF:Nat) (hn:F.length<1099511627776):YN Tryz.prog 116 [Ap b1] (prs F).length (XY F) (fun _=>ZQ b1 gF cF F):=by
 refine⟨fun y J Jx hN hB hA hU hY W hJ=> ?_⟩
 have hdr: ∀k L W,J k L W→J k L { W with drawn:=W.drawn+1 }:=fun k L W h=>hB k L W _ h ⟨rfl,rfl,rfl,Nat.le_refl _,fun _ _=>rfl⟩
 refine EH (args:=[.func (.yield y) #[] #[],Ap b1]) (J0:=J 0 []) (Jm:=fun W=> ∃L,J (prs F).length L W) Tryz.func116 I I I hJ ?_
 refine zA (zB (wL 0 I I (fun W hp=>(hN _ _ W hp).1.hdr) I (wP I (wP I (Aa (zE (zH ?_)))))))
 refine Eu (X:=Nat×List (Nat×Obj)) (fun s=>[(0, .func (.yield y) #[] #[]),(1,Ap b1),(6, .slice (some ⟨gF,0,none⟩) F.length cF),(7, .int .i64 (F.length:Nat)),(8, .int .i64 (s.1:Nat))]) (fun s W=>J (Rx F s.1) s.2 W)
  (fun s=>s.1≤F.length) (fun s=>F.length-s.1) (0,[]) (Nat.zero_le _) ⟨rfl,rfl,rfl,rfl,rfl,trivial⟩ (fun W hp=>hp) ?_
 rintro⟨i,L⟩ hi
 have hi:i≤F.length:=hi
 refine zA (zB (wP I ?_))
 by_cases hlt:i<F.length
 rotate_left
 ·refine wU 9 false I (dF (by omega)) (Aa (zE (zA (zS I (zJ (zK (zK (zL ?_))))))))
  exact Hx I fun W hp=>⟨L,by
   have e:i=F.length:=by omega
   have hp:J (Rx F i) L W:=hp
   rw[e] at hp
   exact hp⟩
 refine wU 9 true I (dT (by omega)) (Aa (zE (zA (zR I (zI (zE (zA (zH (zA (zB (wP I ?_)))))))))))
 refine wJ ?_
 refine wL 0 I I (fun W hp=>(hN _ _ W hp).1.row i hlt) I ?_
 refine UC (fun b W=>J (Rx F i) [(b, .cells frZ.cells 48 (0,0))] W) I I I (Tryz.hZ.get I) (fun W W' b hp hb hl ho=>hA _ _ W W' b _ hp hb hl ho) fun b=> ?_
 refine wP I ?_
 refine U9 (cs:=[.bool false, .int .i64 0, .int .i64 0,str [],str []]) (ty:=48) (fun W=>J (Rx F i) (Sn b (fr F i)) W) tH I I I I I I (fun W hp=>(hN _ _ W hp).2 (b,_) (List.mem_cons_self ..)) I I I (fun W W' hp hu=>hU _ _ _ _ W W' hp hu) ?_
 refine Aa (zE (zA (zB (wP I (wP I (wV 14 ((i+1:Nat):Int) I (Ar (by omega)) (wP I (Aa (zE (zH ?_))))))))))
 refine Eu (X:=Nat) (fun k=>[(0, .func (.yield y) #[] #[]),(1,Ap b1),(6, .slice (some ⟨gF,0,none⟩) F.length cF),(7, .int .i64 (F.length:Nat)),(8, .int .i64 (i:Nat)),(3, .int .i64 (i:Nat)),(4,Ap b),(5, .int .i64 (k:Nat))]) (fun k W=>J (GZ F i k) (Sn b (fr F i)) W)
  (fun k=>i+1≤k∧k≤F.length) (fun k=>F.length-k) (i+1) ⟨Nat.le_refl _,hlt⟩ ⟨rfl,rfl,rfl,rfl,rfl,rfl,rfl,rfl,trivial⟩ (fun W hp=>by rw[Vo];exact hp) ?_
 rintro k ⟨hk1,hk2⟩
 refine zA (zA (zB (wP I (wL 0 I I (fun W hp=>(hN _ _ W hp).1.hdr) I (wP I (wP I ?_))))))
 by_cases hkl:k<F.length
 rotate_left
 ·refine wU 18 false I (dF (by omega)) (Aa (zE (zS I (zJ (zK (zK (zL (zN (zE (zB (wP I (wV 36 ((i+1:Nat):Int) I (Ar (by omega)) (wP I ?_)))))))))))))
  refine Aa ?_
  exact CB (i+1,Sn b (fr F i)) hlt (by show F.length-(i+1)<F.length-i;omega) ⟨I,I,I,I,I,O⟩ (fun W hp=>by
   have e:k=F.length:=by omega
   have hp:J (GZ F i k) (Sn b (fr F i)) W:=hp
   rw[e,VV] at hp
   exact hp)
 refine wU 18 true I (dT (by omega)) (Aa (zE (zR I (zI (zE (zA (zH (zA ?_))))))))
 refine Gj 12 (hdr _ _) Tryz.mixed (by kernel_rfl) I ?_
 refine qP I (qL 0 I I (fun W hp=>show An W b 0 (frV (fr F i)).cells.toList from An.of_block ((hN _ _ W hp).2 (b,_) (List.mem_cons_self ..))) I (qL 0 I I (fun W hp=>(hN _ _ W hp).1.hdr) I (qP I ?_)))
 refine qJ ?_
 refine qP I (qL 0 I I (fun W hp=>(hN _ _ W hp).1.row k hkl) I ?_)
 refine KI Tryz.underlying4 I I I I I I ?_
 by_cases hax:(fr F i).ax=(fr F k).ax
 ·obtain⟨e1,e2,e3⟩:=Vv hk1 hkl hax
  have hYk: ∀W,J (GZ F i k) (Sn b (fr F i)) W→YieldAt (Fw none) 0 Tryz.prog y [.int .i64 (i:Nat), .int .i64 (k:Nat)].toArray W fun e W'=>(e= .returned (.bool true)∧J (GZ F i k+1) (Sn b (fr F i)) W')∨(e= .returned (.bool false)∧Jx W'):=fun W h=>by
   have:=hY _ _ W e3 h
   rwa [XY,e2] at this
  refine qU 28 true I (by rw[hax];exact beq_self_eq_true _) (qP I (qP I (qP I (qP I (A4 ?_)))))
  refine DE (A1:=fun W=>J (GZ F i k+1) (Sn b (fr F i)) W) (A2:=Jx) I I I I I I hYk ?_ ?_
  rotate_left
  ·exact wP I (wP I (Aa (zE (zR I (zO (zQ (zP (zP (zQ (zQ (zP (zP (zQ (Cf I (fun W h=>h)))))))))))))))
  exact wP I (wP I (Aa (zE (zS I (zI (zN (zE (zB (wP I (wP I (wV 20 ((k+1:Nat):Int) I (Ar (by omega)) (wP I (Aa (CB (k+1) ⟨by omega,hkl⟩ (by show F.length-(k+1)<F.length-k;omega) ⟨I,I,I,I,I,I,I,I,O⟩ (fun W hp=>by rw[e1];exact hp)))))))))))))))
 ·refine qU 28 false I (beq_eq_false_iff_ne.2 hax) ?_
  have e1:=Y4 hk1 hax
  refine qP I ?_
  iterate 3 refine B7 I I ?_
  refine A4 ?_
  iterate 2 refine Ae I I ?_
  exact wP I (Aa (zE (zS I (zI (zN (zE (zB (wP I (wP I (wV 20 ((k+1:Nat):Int) I (Ar (by omega)) (wP I (Aa (CB (k+1) ⟨by omega,hkl⟩ (by show F.length-(k+1)<F.length-k;omega) ⟨I,I,I,I,I,I,I,I,O⟩ (fun W hp=>by rw[e1];exact hp))))))))))))))
theorem Lh (W:World) (v:Value):Ad Tryz.prog 57 #[v] W (fun b:Nat=> .func (.func 116) #[] #[Ap b]) (fun _=>True) (fun b=>[⟨b,63,v.cells.toList,true,none⟩]):=by
 refine Ab (args:=[v]) Tryz.func57 I I I ?_
 refine zA (zB ?_)
 (refine Ax rfl rfl rfl rfl ?_;intro)
 refine wP I (Aa ?_)
 rename_i b
 exact zE (zA (zB (wP I (wP I (Aa (zE (zO (A9 tH I (.tmp I) b I O fun W1 hp=>Au.of_hp hp))))))))
end
section
open Go Go.RowKit Go.Am Go.Lib
set_option maxRecDepth 10000
-- BOXES 4
structure aA (b1 b2:Nat) (f g:FrP) (W:World):Prop where
 f:An W b1 0 (frV f).cells.toList
 g:An W b2 0 (frV g).cells.toList
 v:BP W
 t:AM W
structure V6 (f g:FrP):Prop where
 d1:f.vel≠0→Sz2 (CE f g) f.vel
 a1:f.vel≠0→Sz2 f.st (CE f g/f.vel)
 d2:g.vel≠0→Sz2 (CE f g) g.vel
 a2:g.vel≠0→Sz2 g.st (CE f g/g.vel)
 m1:Sz2 f.vel f.st
 m2:Sz2 g.vel g.st
 s:Sz2 (f.vel*f.st) (g.vel*g.st)
 a:Sz2 (CE f g) (f.vel*f.st-g.vel*g.st)
 w:Sz2 f.vel g.vel
 d:f.vel≠g.vel→Sz2 (CE f g+(f.vel*f.st-g.vel*g.st)) (f.vel-g.vel)
def mi3 (f:FrP):Nat:=if f.vel=0 then 2 else 3
def mi4 (f g:FrP):Nat:=if g.vel=0 then mi3 f else mi3 f+1
theorem ZH (f g:FrP):(AX f g).getD 0 0=f.st∧(AX f g).getD 1 0=g.st∧1<(AX f g).length:=by
 unfold AX
 by_cases h1:f.vel=0<;>by_cases h2:g.vel=0<;>by_cases h3:f.vel=g.vel<;>simp only[h1,h2,h3,if_true,if_false]<;>(try split)<;>simp
theorem aC {f g:FrP} (h:f.vel≠0):(AX f g).getD 2 0=f.st+CE f g/f.vel∧2<(AX f g).length:=by
 unfold AX
 by_cases h2:g.vel=0<;>by_cases h3:f.vel=g.vel<;>simp only[h,h2,h3,if_true,if_false]<;>(try split)<;>simp_all
theorem ZU {f g:FrP} (h:g.vel≠0):(AX f g).getD (mi3 f) 0=g.st-CE f g/g.vel∧mi3 f<(AX f g).length∧mi4 f g=mi3 f+1:=by
 unfold AX mi4 mi3
 by_cases h2:f.vel=0<;>by_cases h3:f.vel=g.vel<;>simp only[h,h2,h3,if_true,if_false]<;>(try split)<;>simp_all
theorem ZJ {f g:FrP} (h:f.vel≠g.vel):(AX f g).getD (mi4 f g) 0=(CE f g+(f.vel*f.st-g.vel*g.st))/(f.vel-g.vel)∧mi4 f g<(AX f g).length∧(AX f g).length=mi4 f g+1:=by
 unfold AX mi4 mi3
 by_cases h2:f.vel=0<;>by_cases h3:g.vel=0<;>simp only[h,h2,h3,if_true,if_false]<;>(try split)<;>simp_all
theorem aF {f g:FrP} (h:f.vel=g.vel):(AX f g).length=mi4 f g:=by
 unfold AX mi4 mi3
 by_cases h2:f.vel=0<;>by_cases h3:g.vel=0<;>simp_all
abbrev Sp (l:List Rat) (k:Nat):List Value:=[str (Ac (l.getD k 0))]
theorem Vm (f g:FrP) (hf:f.OK) (hg:g.OK) (hz:V6 f g) (b1 b2:Nat):
  Wq Tryz.prog 154 [Ap b1,Ap b2] (AX f g).length (Sp (AX f g)) (fun _=>aA b1 b2 f g):=by
 refine⟨fun y J Jx hN hB hY W hJ=> ?_⟩
 have hG: ∀k,YQ (J k):=fun k W W' h hb=>hB k W W' h hb
 have hdr: ∀k W,J k W→J k { W with drawn:=W.drawn+1 }:=fun k W h=>hB k W _ h ⟨rfl,rfl,rfl,Nat.le_refl _,fun _ _=>rfl⟩
 obtain⟨e0,e1,l1⟩:=ZH f g
 have hY0: ∀W,J 0 W→YieldAt (Fw none) 0 Tryz.prog y [str (Ac f.st)].toArray W fun e W'=>(e= .returned (.bool true)∧J 1 W')∨(e= .returned (.bool false)∧Jx W'):=fun W h=>by
  have:=hY 0 W (by omega) h
  rwa [Sp,e0] at this
 have hY1: ∀W,J 1 W→YieldAt (Fw none) 0 Tryz.prog y [str (Ac g.st)].toArray W fun e W'=>(e= .returned (.bool true)∧J 2 W')∨(e= .returned (.bool false)∧Jx W'):=fun W h=>by
  have:=hY 1 W (by omega) h
  rwa [Sp,e1] at this
 refine EH (args:=[.func (.yield y) #[] #[],Ap b1,Ap b2]) (J0:=J 0) Tryz.func154 I I I hJ ?_
 refine zA (zA (zB (wP I (wP I (wL 4 I I (fun W hp=>(hN 0 W hp).f) I ?_)))))
 refine DE (A1:=J 1) (A2:=Jx) I I I I I I hY0 ?_ ?_
 rotate_left
 ·refine wP I (wP I ?_)
  iterate 5 refine Ae I I ?_
  exact wP I (zC (zE (zR I (zO (zP (Cf I (fun W h=>h)))))))
 refine wP I (wP I (wP I (wP I (wL 4 I I (fun W hp=>(hN 1 W hp).g) I ?_))))
 refine DE (A1:=J 2) (A2:=Jx) I I I I I I hY1 ?_ ?_
 rotate_left
 ·exact wP I (wP I (zC (zE (zR I (zO (zP (Cf I (fun W h=>h))))))))
 refine wP I (wP I (Aa (zE (zS I (zI (zE (zA ?_)))))))
 refine Gj 6 (hdr 2) Tryz.mixed (by kernel_rfl) I ?_
 refine qL 0 I I (fun W hp=>(hN 2 W hp).f) I ?_
 refine Cm (hG 2) I I I I I I (by kernel_rfl) (fun W hp=>Cq f hf W (hN 2 W hp).v (hN 2 W hp).t) ?_
 refine qL 0 I I (fun W hp=>(hN 2 W hp).g) I ?_
 refine Cm (hG 2) I I I I I I (by kernel_rfl) (fun W hp=>Cq g hg W (hN 2 W hp).v (hN 2 W hp).t) ?_
 refine qP I (qP I (A4 (Aa (zE (zA ?_)))))
 refine Gj 8 (hdr 2) Tryz.mixed (by kernel_rfl) I ?_
 refine qP I (qL 1 I I (fun W hp=>(hN 2 W hp).g) I ?_)
 refine Cm (hG 2) I I I I I I (by kernel_rfl) (fun W hp=>Es g.pos hg.pos64 W (hN 2 W hp).t) ?_
 refine qP I (qL 1 I I (fun W hp=>(hN 2 W hp).f) I ?_)
 refine Cm (hG 2) I I I I I I (by kernel_rfl) (fun W hp=>Es f.pos hf.pos64 W (hN 2 W hp).t) ?_
 refine Cm (hG 2) I I I I I I (by kernel_rfl) (fun W hp=>FP (g.pos:Rat) (f.pos:Rat) (sz2 hg.posz hf.posz (by decide)) W (hN 2 W hp).v (hN 2 W hp).t) ?_
 refine qP I (A4 (Aa (zE (zA (zA ?_)))))
 -- the first one's velocity
 refine TA (X:=Bool) (fun s=>[(0, .func (.yield y) #[] #[]),(1,Ap b1),(2,Ap b2),(4,str (Ac f.vel)),(5,str (Ac g.vel)),(6,str (Ac (CE f g))),(42, .bool s)]) (fun s=>match s with|true=>Jx|false=>J (mi3 f)) (fun _=>True) ?_ ?_
 ·skip
  refine Gj 10 (hdr 2) Tryz.mixed (by kernel_rfl) I ?_
  refine qP I (qP I ?_)
  by_cases h:f.vel=0
  ·refine qU 31 false I (by show(!_)=false;rw[AE,DD,dT h];rfl) (qP I ?_)
   iterate 7 refine B7 I I ?_
   refine zD ?_
   iterate 2 refine Ae I I ?_
   exact wP I (zC (I0 false O ⟨I,I,I,I,I,I,I,O⟩ (fun W hp=>by show J (mi3 f) W;rw[mi3,if_pos h];exact hp)))
  ·refine qU 31 true I (by show(!_)=true;rw[AE,DD,dF h];rfl) ?_
   obtain⟨e2,l2⟩:=aC (g:=g) h
   have hY2: ∀W,J 2 W→YieldAt (Fw none) 0 Tryz.prog y [str (Ac (f.st+CE f g/f.vel))].toArray W fun e W'=>(e= .returned (.bool true)∧J 3 W')∨(e= .returned (.bool false)∧Jx W'):=fun W h=>by
    have:=hY 2 W (by omega) h
    rwa [Sp,e2] at this
   refine qP I (qP I (qP I (qL 4 I I (fun W hp=>(hN 2 W hp).f) I (qP I (qP I ?_)))))
   refine Cm (hG 2) I I I I I I (by kernel_rfl) (fun W hp=>Ji (CE f g) f.vel (hz.d1 h) (by rwa [ne_eq,Rat.num_eq_zero]) W (hN 2 W hp).v (hN 2 W hp).t) ?_
   refine Cm (hG 2) I I I I I I (by kernel_rfl) (fun W hp=>Jh f.st (CE f g/f.vel) (hz.a1 h) W (hN 2 W hp).v (hN 2 W hp).t) ?_
   refine A4 ?_
   refine DE (A1:=J 3) (A2:=Jx) I I I I I I hY2 ?_ ?_
   ·exact wP I (wP I (zC (I0 false O ⟨I,I,I,I,I,I,I,O⟩ (fun W hp=>by show J (mi3 f) W;rw[mi3,if_neg h];exact hp))))
   ·exact wP I (wP I (zC (I0 true O ⟨I,I,I,I,I,I,I,O⟩ (fun W hp=>hp))))
 rintro(_|_) _
 rotate_left
 ·exact zR I (zO (zP (Cf I (fun W h=>h))))
 -- the second one's
 refine zS I (zI (zE (zA (zA ?_))))
 refine TA (X:=Bool) (fun s=>[(0, .func (.yield y) #[] #[]),(1,Ap b1),(2,Ap b2),(4,str (Ac f.vel)),(5,str (Ac g.vel)),(6,str (Ac (CE f g))),(55, .bool s)]) (fun s=>match s with|true=>Jx|false=>J (mi4 f g)) (fun _=>True) ?_ ?_
 ·skip
  refine Gj 10 (hdr (mi3 f)) Tryz.mixed (by kernel_rfl) I ?_
  refine qP I (qP I ?_)
  by_cases h:g.vel=0
  ·refine qU 44 false I (by show(!_)=false;rw[AE,DD,dT h];rfl) (qP I ?_)
   iterate 7 refine B7 I I ?_
   refine zD ?_
   iterate 2 refine Ae I I ?_
   exact wP I (zC (I0 false O ⟨I,I,I,I,I,I,I,O⟩ (fun W hp=>by show J (mi4 f g) W;rw[mi4,if_pos h];exact hp)))
  ·refine qU 44 true I (by show(!_)=true;rw[AE,DD,dF h];rfl) ?_
   obtain⟨e3,l3,l3'⟩:=ZU (f:=f) h
   have hY3: ∀W,J (mi3 f) W→YieldAt (Fw none) 0 Tryz.prog y [str (Ac (g.st-CE f g/g.vel))].toArray W fun e W'=>(e= .returned (.bool true)∧J (mi3 f+1) W')∨(e= .returned (.bool false)∧Jx W'):=fun W h=>by
    have:=hY (mi3 f) W l3 h
    rwa [Sp,e3] at this
   refine qP I (qP I (qP I (qL 4 I I (fun W hp=>(hN _ W hp).g) I (qP I (qP I ?_)))))
   refine Cm (hG _) I I I I I I (by kernel_rfl) (fun W hp=>Ji (CE f g) g.vel (hz.d2 h) (by rwa [ne_eq,Rat.num_eq_zero]) W (hN _ W hp).v (hN _ W hp).t) ?_
   refine Cm (hG _) I I I I I I (by kernel_rfl) (fun W hp=>FP g.st (CE f g/g.vel) (hz.a2 h) W (hN _ W hp).v (hN _ W hp).t) ?_
   refine A4 ?_
   refine DE (A1:=J (mi3 f+1)) (A2:=Jx) I I I I I I hY3 ?_ ?_
   ·exact wP I (wP I (zC (I0 false O ⟨I,I,I,I,I,I,I,O⟩ (fun W hp=>by show J (mi4 f g) W;rw[l3'];exact hp))))
   ·exact wP I (wP I (zC (I0 true O ⟨I,I,I,I,I,I,I,O⟩ (fun W hp=>hp))))
 rintro(_|_) _
 rotate_left
 ·exact zR I (zO (zP (Cf I (fun W h=>h))))
 -- where both move
 refine zS I (zI (zE (zA (zB (wP I (wP I (wP I ?_)))))))
 by_cases h:f.vel=g.vel
 ·exact wU 58 false I (by show(!_)=false;rw[AE,dT (by rw[h])];rfl) (zC (zE (zS I (zI (Hx I fun W hp=>by rw[aF h];exact hp)))))
 ·refine wU 58 true I (by show(!_)=true;rw[AE,dF fun e=>h (BD.1 e)];rfl) ?_
  obtain⟨e4,l4,l5⟩:=ZJ h
  have hY4: ∀W,J (mi4 f g) W→YieldAt (Fw none) 0 Tryz.prog y [str (Ac ((CE f g+(f.vel*f.st-g.vel*g.st))/(f.vel-g.vel)))].toArray W fun e W'=>(e= .returned (.bool true)∧J (mi4 f g+1) W')∨(e= .returned (.bool false)∧Jx W'):=fun W h=>by
   have:=hY (mi4 f g) W l4 h
   rwa [Sp,e4] at this
  refine zC (zE (zR I ?_))
  refine Gj 16 (hdr (mi4 f g)) Tryz.mixed (by kernel_rfl) I ?_
  refine qP I (qP I (qP I (qP I (qL 4 I I (fun W hp=>(hN _ W hp).f) I ?_))))
  refine Cm (hG _) I I I I I I (by kernel_rfl) (fun W hp=>GS f.vel f.st hz.m1 W (hN _ W hp).v (hN _ W hp).t) ?_
  refine qP I (qP I (qL 4 I I (fun W hp=>(hN _ W hp).g) I ?_))
  refine Cm (hG _) I I I I I I (by kernel_rfl) (fun W hp=>GS g.vel g.st hz.m2 W (hN _ W hp).v (hN _ W hp).t) ?_
  refine Cm (hG _) I I I I I I (by kernel_rfl) (fun W hp=>FP (f.vel*f.st) (g.vel*g.st) hz.s W (hN _ W hp).v (hN _ W hp).t) ?_
  refine Cm (hG _) I I I I I I (by kernel_rfl) (fun W hp=>Jh (CE f g) (f.vel*f.st-g.vel*g.st) hz.a W (hN _ W hp).v (hN _ W hp).t) ?_
  refine qP I (qP I ?_)
  refine Cm (hG _) I I I I I I (by kernel_rfl) (fun W hp=>FP f.vel g.vel hz.w W (hN _ W hp).v (hN _ W hp).t) ?_
  refine Cm (hG _) I I I I I I (by kernel_rfl) (fun W hp=>Ji (CE f g+(f.vel*f.st-g.vel*g.st)) (f.vel-g.vel) (hz.d h) (by rw[ne_eq,Rat.num_eq_zero];grind) W (hN _ W hp).v (hN _ W hp).t) ?_
  refine A4 ?_
  refine DE (A1:=J (mi4 f g+1)) (A2:=Jx) I I I I I I hY4 ?_ ?_
  ·exact zC (Hx I fun W hp=>by rw[l5];exact hp)
  ·exact zC (Ol I (fun W h=>h))
end
section
theorem MN {x:Rat}: ∀(s:List Rat) (j:Nat),j≤s.length→(∀y∈s.take j, ¬x<y)→(∀y∈s.drop j,x<y)→HG x s=s.take j++x::s.drop j
 |[],j,hj,_,_=>by
  obtain rfl:j=0:=by simpa using hj
  rfl
 |y::l,0,_,_,h2=>by
  unfold HG
  rw[if_pos (h2 y (List.mem_cons_self ..))];rfl
 |y::l,j+1,hj,h1,h2=>by
  unfold HG
  rw[if_neg (h1 y (by simp)),MN l j (by simpa using hj) (fun z hz=>h1 z (by simp[hz])) (fun z hz=>h2 z (by simpa using hz))]
  rfl
theorem Kz (l:List Rat):(B9 l).length=l.length:=by
 have: ∀(l s:List Rat),(l.foldl (fun s x=>HG x s) s).length=l.length+s.length:=by
  intro l
  induction l with
  |nil=>exact fun s=>by simp
  |cons x l ih=>exact fun s=>by rw[List.foldl_cons,ih,QH,List.length_cons];omega
 rw[B9,this];simp
theorem SX (l:List Rat) {i:Nat} (hi:i<l.length):B9 (l.take (i+1))=HG l[i] (B9 (l.take i)):=by
 rw[B9,List.take_add_one,List.getElem?_eq_getElem hi,List.foldl_append];rfl
theorem VP {x:Rat} {s:List Rat} {j:Nat} (hs:s.Pairwise (· ≤ ·)) (hj:j≤s.length) (h2: ∀y∈s.drop j,x<y) (h1: ∀(h:0<j), ¬x<s[j-1]):HG x s=s.take j++x::s.drop j:=by
 refine MN s j hj (fun y hy=> ?_) h2
 obtain⟨k,hk,rfl⟩:=List.getElem_of_mem hy
 have hk':k<j:=by simp at hk;omega
 rw[List.getElem_take]
 have h3:=h1 (by omega)
 refine Rat.not_lt.2 (Rat.le_trans ?_ (Rat.not_lt.1 h3))
 by_cases e:k=j-1
 ·subst e;exact Rat.le_refl
 ·exact List.pairwise_iff_getElem.1 hs k (j-1) (by omega) (by omega) (by omega)
theorem KK:Ba []=[]:=by rw[Ba]
theorem KX (x:Rat):Ba [x]=[x]:=by rw[Ba]
theorem FW (x y:Rat) (l:List Rat):Ba (x::y::l)=if y=x then Ba (x::l) else x::Ba (y::l):=by rw[Ba]
theorem Kw (x y:Rat):Ba [x,y]=if y=x then Ba [x] else Ba [x]++[y]:=by
 rw[FW]
 by_cases h:y=x
 ·rw[if_pos h,if_pos h]
 ·rw[if_neg h,if_neg h,KX,KX];rfl
theorem Jg (l:List Rat) (x y:Rat):Ba (l++[x,y])=if y=x then Ba (l++[x]) else Ba (l++[x])++[y]:=by
 match l with
 |[]=>exact Kw x y
 |[a]=>
  show Ba (a::x::[y])=if y=x then Ba (a::x::[]) else Ba (a::x::[])++[y]
  rw[FW a x [y],FW a x []]
  by_cases h2:x=a
  ·rw[if_pos h2,if_pos h2]
   subst h2
   exact Kw x y
  ·rw[if_neg h2,if_neg h2,Kw x y]
   by_cases h:y=x
   ·rw[if_pos h,if_pos h]
   ·rw[if_neg h,if_neg h];rfl
 |a::b::l=>
  show Ba (a::b::(l++[x,y]))=if y=x then Ba (a::b::(l++[x])) else Ba (a::b::(l++[x]))++[y]
  rw[FW a b (l++[x,y]),FW a b (l++[x])]
  by_cases h2:b=a
  ·rw[if_pos h2,if_pos h2]
   exact Jg (a::l) x y
  ·rw[if_neg h2,if_neg h2]
   have:=Jg (b::l) x y
   rw[List.cons_append,List.cons_append] at this
   rw[this]
   by_cases h:y=x
   ·rw[if_pos h,if_pos h]
   ·rw[if_neg h,if_neg h];rfl
termination_by l.length
theorem OJ (l:List Rat): ∀(m:Nat),m≤l.length→Lib.compactUpTo (l.map Ac).toArray m=(Ba (l.take m)).map Ac
 |0,_=>by simp[Lib.compactUpTo,Ba]
 |m+1,hm=>by
  have hb: ∀i (hi:i<l.length),(l.map Ac).toArray[i]! =Ac l[i]:=fun i hi=>by simp[hi]
  rw[Lib.compactUpTo_succ,OJ l m (by omega),hb m (by omega)]
  have e1:l.take (m+1)=l.take m++[l[m]]:=by rw[List.take_add_one,List.getElem?_eq_getElem hm];rfl
  cases m with
  |zero=>
   rw[e1]
   have:Lib.keeps (l.map Ac).toArray 0=true:=Lib.keeps_lt_one _ 0 (by omega)
   rw[if_pos this,List.take_zero,List.nil_append,KK,KX]
   rfl
  |succ k=>
   have e2:l.take (k+1)=l.take k++[l[k]]:=by rw[List.take_add_one,List.getElem?_eq_getElem (by omega)];rfl
   rw[e1,e2,List.append_assoc]
   show _=(Ba (l.take k++[l[k],l[k+1]])).map Ac
   rw[Jg]
   have h1:Lib.keeps (l.map Ac).toArray (k+1)=decide (¬l[k+1]=l[k]):=by
    unfold Lib.keeps
    rw[decide_eq_decide,Nat.add_sub_cancel,hb (k+1) hm,hb k (by omega)]
    constructor
    ·rintro(h|h)
     ·omega
     ·exact fun e=>h (by rw[e])
    ·exact fun h=> .inr fun e=>h (BD.1 e)
   rw[h1]
   by_cases h:l[k+1]=l[k]
   ·rw[if_pos h,if_neg (by simp[h]),List.append_nil]
   ·rw[if_neg h,if_pos (by simp[h]),List.map_append];rfl
theorem Py (l:List Rat):Lib.compact (l.map Ac)=(Ba l).map Ac:=by
 have:=OJ l l.length (Nat.le_refl _)
 rw[List.take_length] at this
 rw[←this]
 unfold Lib.compact
 simp
end
end Go.Proofs.YtmblgcglonikiaaGreatDoor
namespace Go.Proofs
open Go.Shelf
def Tryz.lays125_ren:Go.Shelf.Ren:=⟨fun|125=>124|128=>193|129=>194|n=>n,fun|3=>3|4=>4|5=>5|9=>9|46=>136|51=>192|53=>194|n=>n,fun n=>n⟩
theorem Tryz.lays125:Go.Proofs.Lays.n125 Tryz.prog Tryz.lays125_ren:= {
 mixed:=by kernel_rfl
 f125:=Tryz.func124.trans (congrArg some (by kernel_rfl))
 f128:=Tryz.func193.trans (congrArg some (by kernel_rfl))
 f129:=Tryz.func194.trans (congrArg some (by kernel_rfl))
 t3:=Tryz.underlying3
 a3:=Tryz.isAgg3
 z3:=Tryz.sizeOf3
 v3:=Tryz.zeroValue3
 t4:=Tryz.underlying4
 a4:=Tryz.isAgg4
 z4:=Tryz.sizeOf4
 v4:=Tryz.zeroValue4
 t5:=Tryz.underlying5
 a5:=Tryz.isAgg5
 z5:=Tryz.sizeOf5
 v5:=Tryz.zeroValue5
 t9:=Tryz.underlying9
 a9:=Tryz.isAgg9
 z9:=Tryz.sizeOf9
 v9:=Tryz.zeroValue9
 t46:=Tryz.underlying136
 a46:=Tryz.isAgg136
 z46:=Tryz.sizeOf136
 v46:=Tryz.zeroValue136
 t51:=Tryz.underlying192
 a51:=Tryz.isAgg192
 z51:=Tryz.sizeOf192
 v51:=Tryz.zeroValue192
 t53:=Tryz.underlying194
 a53:=Tryz.isAgg194
 z53:=Tryz.sizeOf194
 v53:=Tryz.zeroValue194 }
def Tryz.laysN44_ren:Go.Shelf.Ren:=⟨fun|44=>97|n=>n,fun|0=>0|3=>3|4=>4|25=>31|26=>25|n=>n,fun n=>n⟩
theorem Tryz.laysN44:Go.Proofs.SlLaysN.n44 Tryz.prog Tryz.laysN44_ren:= {
 mixed:=by kernel_rfl
 f44:=⟨Tryz.f97.name,by kernel_rfl,Tryz.func97.trans (congrArg some (by kernel_rfl))⟩
 t0:=Tryz.underlying0
 a0:=Tryz.isAgg0
 z0:=Tryz.sizeOf0
 v0:=Tryz.zeroValue0
 t3:=Tryz.underlying3
 a3:=Tryz.isAgg3
 z3:=Tryz.sizeOf3
 v3:=Tryz.zeroValue3
 t4:=Tryz.underlying4
 a4:=Tryz.isAgg4
 z4:=Tryz.sizeOf4
 v4:=Tryz.zeroValue4
 t25:=Tryz.underlying31
 a25:=Tryz.isAgg31
 z25:=Tryz.sizeOf31
 v25:=Tryz.zeroValue31
 t26:=Tryz.underlying25
 a26:=Tryz.isAgg25
 z26:=Tryz.sizeOf25
 v26:=Tryz.zeroValue25
 i26:=by kernel_rfl }
end Go.Proofs
namespace Go.Proofs.YtmblgcglonikiaaGreatDoor
section
open Go Go.RowKit Go.Am Go.Lib
set_option maxRecDepth 10000
-- BOXES 3
abbrev nS (l:List Rat):List Value:=l.map fun q=>str (Ac q)
def QV (cf:Nat):Prop:=Bh Tryz.prog cf=true∧ ∀(p q:Rat) (W:World),Sz2 p q→BP W→AM W→Ad Tryz.prog cf #[str (Ac p),str (Ac q)] W (fun _:Unit=> .int .i64 (CY p q)) (fun _=>True) (fun _=>[])
structure HS (W W':World) (g:Nat):Prop where
 os:W'.os=W.os
 tape:W'.tape=W.tape
 output:W'.output=W.output
 size:W.heap.size≤W'.heap.size
 at_: ∀x,x≠g→x<W.heap.size→W'.heap[x]? =W.heap[x]?
theorem H4 {W W':World} {g:Nat} {B:Bx} {o:Obj} (hg:W.heap[g]? =some o) (hB: ∃o',(g,o')∈B.blk) (hp:Hp (AW W) [AR (Az W g),B] W'):HS W W' g:=by
 have c0: ∀p∈Az W g,W'.heap[p.1]? =some p.2:=fun p hq=>(hp.own.cell 0 _ rfl p hq).1
 have old: ∀x,x≠g→x<W.heap.size→W'.heap[x]? =W.heap[x]? :=fun x hx hlt=>by
  have h1:W.heap[x]? =some W.heap[x]:=Array.getElem?_eq_getElem hlt
  rw[h1]
  exact c0 (x,W.heap[x]) (CO.2 ⟨hx,h1⟩)
 refine⟨hp.below.os,hp.below.tape,hp.below.output, ?_,old⟩
 have hlt:=(Array.getElem?_eq_some_iff.1 hg).1
 by_cases e:W.heap.size-1=g
 ·obtain⟨o',ho⟩:=hB
  have:=(Array.getElem?_eq_some_iff.1 (hp.own.cell 1 B rfl _ ho).1).1
  have h2:g<W'.heap.size:=this
  omega
 ·have h1:=old (W.heap.size-1) e (by omega)
  rw[Array.getElem?_eq_getElem (show W.heap.size-1<W.heap.size by omega)] at h1
  have:=(Array.getElem?_eq_some_iff.1 h1).1
  omega
theorem HS.trans {W W1 W2:World} {g:Nat} (h:HS W W1 g) (h':HS W1 W2 g):HS W W2 g:=
 ⟨h'.os.trans h.os,h'.tape.trans h.tape,h'.output.trans h.output,Nat.le_trans h.size h'.size,fun x hx hlt=>(h'.at_ x hx (Nat.lt_of_lt_of_le hlt h.size)).trans (h.at_ x hx hlt)⟩
theorem HS.below {W0 W W':World} {g:Nat} (hk:HS W W' g) (hb:Below W0.heap.size W0 W) (hg:W0.heap.size≤g):Below W0.heap.size W0 W':=
 ⟨hk.os.trans hb.os,hk.tape.trans hb.tape,hk.output.trans hb.output,Nat.le_trans hb.size hk.size,fun i hi=>(hk.at_ i (by omega) (Nat.lt_of_lt_of_le hi hb.size)).trans (hb.block i hi)⟩
theorem CZ {W0 W:World} {bxs:List Bx} (hp:Hp W0 bxs W) (k:Nat) {g:Nat} {e:TypeId} {xs A B C:List Value} {off:Nat} (hk:nth bxs k=some ⟨g,e,xs,true,none⟩) (hxs:xs=A++(B++C)) (hoff:off=A.length):An W g off B:=by
 have h:=An.of_bx hp k hk rfl
 refine⟨h.lt,fun m u hu=> ?_⟩
 have:=h.get (A.length+m) u (by
  show xs[A.length+m]? =some u
  rw[hxs,List.getElem?_append_right (by omega),Nat.add_sub_cancel_left,List.getElem?_append_left (List.getElem?_eq_some_iff.1 hu).1]
  exact hu)
 rw[Nat.zero_add, ←hoff] at this
 exact this
theorem Pb {r:Option Nat} {n:Nat} {P:Program} {W0:World} {N:Nat} {D:List Deferred} {c:Code} {Q:Exit→Act→World→Prop} {env:Env} {bxs bxs':List Bx} (e:bxs=bxs') (h:WC r n P N D c Q env (Hp W0 bxs')):WC r n P N D c Q env (Hp W0 bxs):=e▸h
abbrev EG (g:Nat) (l:List Rat) (junk:List Value):Bx:=⟨g,25,nS l++junk,true,none⟩
theorem Sg (l:List Rat):B9 (l.take 1)++l.drop 1=l:=by
 cases l with
 |nil=>rfl
 |cons x l=>rfl
theorem SW (cf:Nat) (hcf:QV cf) (W:World) (g cap:Nat) (l:List Rat) (junk:List Value) (hn:l.length<4611686018427387904) (hg:W.heap[g]? =some (.cells (nS l++junk).toArray 25 (0,0)))
  (hf: ∀W',HS W W' g→BP W'∧AM W') (hz: ∀p∈l, ∀q∈l,Sz2 p q):
  Calls Tryz.prog 226 #[.slice (some ⟨g,0,none⟩) l.length cap, .int .i64 0, .int .i64 (l.length:Nat), .func (.func cf) #[] #[]] W fun e W'=> ∃x:Unit,e= .returned ((fun _=> .tuple #[]) x)∧True∧IH W W' g ((fun _=>g) x) ((fun _=> .cells (nS (B9 l)++junk).toArray 25 (0,0)) x):=by
 have key:Calls Tryz.prog 226 [.slice (some ⟨g,0,none⟩) l.length cap, .int .i64 0, .int .i64 (l.length:Nat), .func (.func cf) #[] #[]].toArray W fun e W'=> ∃x:Unit,e= .returned ((fun _=> .tuple #[]) x)∧(fun _=>True) x∧Below (AW W).heap.size (AW W) W'∧Au (AW W) W' ((fun _=>[AR (Az W g),EG g (B9 l) junk]) x):=by
  refine BU (X:=Unit) (val:=fun _=> .tuple #[]) (Φ:=fun _=>True) (nb:=fun _=>[AR (Az W g),EG g (B9 l) junk]) (Hp.enterT (B:=EG g l junk) I hg) Tryz.func226 I I I ?_
  refine zA (zB (wP I (wP I (wP I (Aa (zE (zH ?_)))))))
  refine At (X:=Nat) (fun i=>[(0, .slice (some ⟨g,0,none⟩) l.length cap),(1, .int .i64 0),(2, .int .i64 (l.length:Nat)),(3, .func (.func cf) #[] #[]),(8, .int .i64 (i:Nat))]) (fun i=>[AR (Az W g),EG g (B9 (l.take i)++l.drop i) junk])
   (fun i=>1≤i∧(i≤l.length∨i=1)) (fun i=>l.length+1-i) 1 ⟨Nat.le_refl _, .inr rfl⟩ ⟨rfl,rfl,rfl,rfl,rfl,trivial⟩ [] (by rw[Sg];rfl) ?_
  rintro i ⟨hi1,hi2⟩
  refine zA (zA (zB (wP I (wP I (wP I ?_)))))
  by_cases hlt:i<l.length
  rotate_left
  ·refine wU 14 false I (dF (by omega)) (Aa (zE (zS I (zJ (zK (zK (zL ?_)))))))
   have e:B9 (l.take i)++l.drop i=B9 l:=by rw[List.take_of_length_le (by omega),List.drop_of_length_le (by omega),List.append_nil]
   refine Gd (X:=Unit) (val:=fun _=> .tuple #[]) (Φ:=fun _=>True) (nb:=fun _=>[AR (Az W g),EG g (B9 l) junk]) (fn:=Tryz.f226) tH I () I O fun W1 hp=> ?_
   rw[e] at hp
   exact(hp.pick (l:=[AR (Az W g),EG g (B9 l) junk]) [0,1] (by decide) I).own
  refine wU 14 true I (dT (by omega)) (Aa (zE (zR I (zI (zE (zA (zH (zA (zB (wP I (wP I (Aa (zE ?_)))))))))))))
  refine zH ?_
  obtain⟨s,hs⟩: ∃s,s=B9 (l.take i):=⟨_,rfl⟩
  obtain⟨x,hx⟩: ∃x,x=l[i]:=⟨_,rfl⟩
  obtain⟨rr,hr⟩: ∃rr,rr=l.drop (i+1):=⟨_,rfl⟩
  have hsl:s.length=i:=by rw[hs,Kz,List.length_take];omega
  have hsort:s.Pairwise (· ≤ ·):=hs▸Kc _
  have hdrop:l.drop i=x::rr:=by rw[hx,hr];exact List.drop_eq_getElem_cons hlt
  have hrl:rr.length=l.length-(i+1):=by rw[hr,List.length_drop]
  have hxl:x∈l:=hx▸List.getElem_mem hlt
  have hsm: ∀y∈s,y∈l:=fun y hy=>by rw[hs] at hy;exact List.mem_of_mem_take (O5.1 hy)
  have hnext: ∀j,j≤s.length→(∀y∈s.drop j,x<y)→(∀(h:0<j), ¬x<s[j-1]!)→s.take j++x::s.drop j++rr=B9 (l.take (i+1))++l.drop (i+1):=fun j h1 h2 h3=>by
   rw[SX l hlt, ←hs, ←hx, ←hr,VP hsort h1 h2 fun h=>by have:=h3 h;rwa [getElem!_pos s (j-1) (by omega)] at this]
  refine At (X:=Nat) (fun j=>[(0, .slice (some ⟨g,0,none⟩) l.length cap),(1, .int .i64 0),(2, .int .i64 (l.length:Nat)),(3, .func (.func cf) #[] #[]),(8, .int .i64 (i:Nat)),(9, .int .i64 (j:Nat))]) (fun j=>[AR (Az W g),EG g (s.take j++x::s.drop j++rr) junk])
   (fun j=>j≤s.length∧ ∀y∈s.drop j,x<y) (fun j=>j) i ⟨by omega,by rw[←hsl,List.drop_length];exact fun y hy=>absurd hy List.not_mem_nil⟩ ⟨rfl,rfl,rfl,rfl,rfl,rfl,trivial⟩ [] (by rw[←hs,hdrop, ←hsl,List.take_length,List.drop_length,List.append_assoc];rfl) ?_
  rintro j ⟨hj,hgt⟩
  have hj:j≤s.length:=hj
  have hgt: ∀y∈s.drop j,x<y:=hgt
  refine zA (zA (zU (qP I (qP I (qP I ?_)))))
  cases j with
  |zero=>
   refine Hy 20 (.bool false) I I ?_
   refine qP I ?_
   iterate 12 refine B7 I I ?_
   refine qP I (A4 (Aa (zE (zS I (zJ (zK (zK (zL (zN (zE (zB (wP I (wP I ?_)))))))))))))
   refine wV 16 ((i+1:Nat):Int) I (Ar (by omega)) (wP I (Aa ?_))
   refine Aj (i+1) ⟨by show 1≤i+1;omega, .inl hlt⟩ (by show l.length+1-(i+1)<l.length+1-i;omega) ⟨I,I,I,I,I,O⟩ [] ?_
   rw[hnext 0 hj hgt fun h=>absurd h (by decide)];rfl
  |succ m=>
   have hm:m<s.length:=hj
   obtain⟨y,hy⟩: ∃y,y=s[m]:=⟨_,rfl⟩
   have hyl:y∈l:=hsm y (hy▸List.getElem_mem hm)
   have e1:s.take (m+1)=s.take m++[y]:=by rw[List.take_add_one,List.getElem?_eq_getElem hm,hy];rfl
   have e2:s.drop m=y::s.drop (m+1):=by rw[hy];exact List.drop_eq_getElem_cons hm
   have e3:s[m+1-1]! =y:=by rw[Nat.add_sub_cancel,getElem!_pos s m hm,hy]
   have hA:(nS (s.take m)).length=m:=by rw[List.length_map,List.length_take];omega
   obtain⟨C,hC⟩: ∃C,C=nS (s.drop (m+1)++rr)++junk:=⟨_,rfl⟩
   have row1:nS (s.take (m+1)++x::s.drop (m+1)++rr)++junk=nS (s.take m)++([str (Ac y),str (Ac x)]++C):=by rw[e1,hC];simp[nS]
   have row2:nS (s.take m++x::s.drop m++rr)++junk=nS (s.take m)++([str (Ac x),str (Ac y)]++C):=by rw[e2,hC];simp[nS]
   refine qU 20 true I (dT (by omega)) (qP I (qP I (qP I (qP I ?_))))
   refine qJ ?_
   refine qL 0 I I (fun W1 hp=>show An W1 g (0+(m+1)*1) [str (Ac x)] from CZ hp 1 (A:=nS (s.take m)++[str (Ac y)]) (C:=C) I (by rw[row1];simp) (by rw[List.length_append,hA];simp)) I (qP I (qP I (qP I (qV 29 (m:Nat) I (show w64 (((m+1:Nat):Int)-1)=_ by rw[Ai (by omega) (by omega)];omega) ?_))))
   refine qJ ?_
   refine qL 0 I I (fun W1 hp=>show An W1 g (0+m*1) [str (Ac y)] from CZ hp 1 (A:=nS (s.take m)) (C:=[str (Ac x)]++C) I (by rw[row1];simp) (by rw[hA];simp)) I ?_
   refine Iw (capt:=[]) I I I I I I hcf.1 (fun W1 hp=>(by
    obtain⟨hv,ht⟩:=hf W1 (H4 hg ⟨_,List.mem_cons_self ..⟩ hp)
    exact hcf.2 x y W1 (hz x hxl y hyl) hv ht)) ?_
   refine qP I (qU 33 (decide (x<y)) I (FL x y) (qP I (A4 (Aa (zE ?_)))))
   refine Af I (fun h=> ?_) (fun h=> ?_)
   rotate_left
   ·have hc: ¬x<y:=of_decide_eq_false h
    refine zJ (zK (zK (zL (zN (zE (zB (wP I (wP I (wV 16 ((i+1:Nat):Int) I (Ar (by omega)) (wP I (Aa ?_)))))))))))
    refine Aj (i+1) ⟨by show 1≤i+1;omega, .inl hlt⟩ (by show l.length+1-(i+1)<l.length+1-i;omega) ⟨I,I,I,I,I,O⟩ [] ?_
    rw[hnext (m+1) hj hgt fun _=>by rw[e3];exact hc];rfl
   have hc:x<y:=of_decide_eq_true h
   clear h
   refine Pb (bxs':=[AR (Az W g),⟨g,25,nS (s.take m)++([str (Ac y),str (Ac x)]++C),true,none⟩]) (by rw[←row1]) ?_
   refine zI (zE (Av (BL ?_)))
   repeat refine Av ?_
   refine Bz (X:=Unit) [true,true,false,false,false,true,true,true,true,true,true,true,true,true,true,false,false,false] (fun _=>[(0, .slice (some ⟨g,0,none⟩) l.length cap),(1, .int .i64 0),(2, .int .i64 (l.length:Nat)),(3, .func (.func cf) #[] #[]),(8, .int .i64 (i:Nat)),(9, .int .i64 ((m+1:Nat):Int))]) (fun _=>[AR (Az W g),⟨g,25,nS (s.take m)++([str (Ac x),str (Ac y)]++C),true,none⟩])
    6 [AR (Az W g),⟨g,25,nS (s.take m)++([str (Ac y),str (Ac x)]++C),true,none⟩] Tryz.mixed (by kernel_rfl) ?_ ?_
   ·refine qP I (qP I (qP I (qP I (qP I (qV 44 (m:Nat) I (show w64 (((m+1:Nat):Int)-1)=_ by rw[Ai (by omega) (by omega)];omega) ?_)))))
    refine qJ ?_
    refine qL 0 I I (fun W1 hp=>show An W1 g (0+m*1) [str (Ac y)] from CZ hp 1 (A:=nS (s.take m)) (C:=[str (Ac x)]++C) I (by simp) (by rw[hA];simp)) I (qP I (qP I ?_))
    refine qJ ?_
    refine qL 0 I I (fun W1 hp=>show An W1 g (0+(m+1)*1) [str (Ac x)] from CZ hp 1 (A:=nS (s.take m)++[str (Ac y)]) (C:=C) I (by simp) (by rw[List.length_append,hA];simp)) I ?_
    refine qJ ?_
    refine CK ?_
    have h1:Bt (nS (s.take m)++([str (Ac y),str (Ac x)]++C)) (0+(m+1)*1) (str (Ac y)).cells.toList=nS (s.take m)++([str (Ac y),str (Ac y)]++C):=by
     rw[show 0+(m+1)*1=(nS (s.take m)).length+1 by rw[hA];omega,Dw];rfl
    have h2:Bt (nS (s.take m)++([str (Ac y),str (Ac y)]++C)) (0+m*1) (str (Ac x)).cells.toList=nS (s.take m)++([str (Ac x),str (Ac y)]++C):=by
     rw[show 0+m*1=(nS (s.take m)).length+0 by rw[hA];omega,Dw];rfl
    refine wX ?_
    refine RS.cons ?_ (RS.cons ?_ (RS.cons ?_ (RS.nil)))
    ·refine wP I (Aa (Ag (wX ?_)))
     refine RS.cons ?_ (RS.cons ?_ (RS.nil))
     ·refine wP I (Aa (Ag (wX ?_)))
      refine RS.cons ?_ (RS.cons ?_ (RS.nil))
      ·refine wP I (Aa (Ag (wX (wZ ?_))))
       refine Aw 1 _ tH I I I I I I I I I I (by show 0+(m+1)*1+1≤(nS (s.take m)++([str (Ac y),str (Ac x)]++C)).length;rw[List.length_append,hA];simp<;>omega) h1 ?_
       refine Aa (Ag (wY (wZ ?_)))
       refine wV 41 (m:Nat) I (show w64 (((m+1:Nat):Int)-1)=_ by rw[Ai (by omega) (by omega)];omega) ?_;(first|refine wJ ?_|refine qJ ?_)
       refine Aa (Ag (wY (wZ ?_)))
       refine Aw 1 _ tH I I I I I I I I I I (by show 0+m*1+1≤(nS (s.take m)++([str (Ac y),str (Ac y)]++C)).length;rw[List.length_append,hA];simp<;>omega) h2 ?_
       refine Aa (Ag ?_)
       refine AF I (by kernel_rfl) ?_
       exact A6 () ⟨I,I,I,I,I,I,O⟩ [0,1] (by decide) I
      ·refine Aw 1 _ tH I I I I I I I I I I (by show 0+(m+1)*1+1≤(nS (s.take m)++([str (Ac y),str (Ac x)]++C)).length;rw[List.length_append,hA];simp<;>omega) h1 ?_
       refine Aa (Ag (wY (wZ (wP I (Aa (Ag (wY (wZ ?_))))))))
       refine wV 41 (m:Nat) I (show w64 (((m+1:Nat):Int)-1)=_ by rw[Ai (by omega) (by omega)];omega) ?_;(first|refine wJ ?_|refine qJ ?_)
       refine Aa (Ag (wY (wZ ?_)))
       refine Aw 1 _ tH I I I I I I I I I I (by show 0+m*1+1≤(nS (s.take m)++([str (Ac y),str (Ac y)]++C)).length;rw[List.length_append,hA];simp<;>omega) h2 ?_
       refine Aa (Ag ?_)
       refine AF I (by kernel_rfl) ?_
       exact A6 () ⟨I,I,I,I,I,I,O⟩ [0,1] (by decide) I
     ·refine Aw 1 _ tH I I I I I I I I I I (by show 0+(m+1)*1+1≤(nS (s.take m)++([str (Ac y),str (Ac x)]++C)).length;rw[List.length_append,hA];simp<;>omega) h1 ?_
      refine Aa (Ag (wY (wZ (wP I (Aa (Ag (wY (wZ (wP I (Aa (Ag (wY (wZ ?_)))))))))))))
      refine wV 41 (m:Nat) I (show w64 (((m+1:Nat):Int)-1)=_ by rw[Ai (by omega) (by omega)];omega) ?_;(first|refine wJ ?_|refine qJ ?_)
      refine Aa (Ag (wY (wZ ?_)))
      refine Aw 1 _ tH I I I I I I I I I I (by show 0+m*1+1≤(nS (s.take m)++([str (Ac y),str (Ac y)]++C)).length;rw[List.length_append,hA];simp<;>omega) h2 ?_
      refine Aa (Ag ?_)
      refine AF I (by kernel_rfl) ?_
      exact A6 () ⟨I,I,I,I,I,I,O⟩ [0,1] (by decide) I
    ·refine wP I (Aa (Ag (wX ?_)))
     refine RS.cons ?_ (RS.cons ?_ (RS.cons ?_ (RS.nil)))
     ·refine wP I (Aa (Ag (wX ?_)))
      refine RS.cons ?_ (RS.cons ?_ (RS.nil))
      ·refine wP I (Aa (Ag (wX (wZ ?_))))
       refine Aw 1 _ tH I I I I I I I I I I (by show 0+(m+1)*1+1≤(nS (s.take m)++([str (Ac y),str (Ac x)]++C)).length;rw[List.length_append,hA];simp<;>omega) h1 ?_
       refine Aa (Ag (wY (wZ ?_)))
       refine wV 41 (m:Nat) I (show w64 (((m+1:Nat):Int)-1)=_ by rw[Ai (by omega) (by omega)];omega) ?_;(first|refine wJ ?_|refine qJ ?_)
       refine Aa (Ag (wY (wZ ?_)))
       refine Aw 1 _ tH I I I I I I I I I I (by show 0+m*1+1≤(nS (s.take m)++([str (Ac y),str (Ac y)]++C)).length;rw[List.length_append,hA];simp<;>omega) h2 ?_
       refine Aa (Ag ?_)
       refine AF I (by kernel_rfl) ?_
       exact A6 () ⟨I,I,I,I,I,I,O⟩ [0,1] (by decide) I
      ·refine Aw 1 _ tH I I I I I I I I I I (by show 0+(m+1)*1+1≤(nS (s.take m)++([str (Ac y),str (Ac x)]++C)).length;rw[List.length_append,hA];simp<;>omega) h1 ?_
       refine Aa (Ag (wY (wZ (wP I (Aa (Ag (wY (wZ ?_))))))))
       refine wV 41 (m:Nat) I (show w64 (((m+1:Nat):Int)-1)=_ by rw[Ai (by omega) (by omega)];omega) ?_;(first|refine wJ ?_|refine qJ ?_)
       refine Aa (Ag (wY (wZ ?_)))
       refine Aw 1 _ tH I I I I I I I I I I (by show 0+m*1+1≤(nS (s.take m)++([str (Ac y),str (Ac y)]++C)).length;rw[List.length_append,hA];simp<;>omega) h2 ?_
       refine Aa (Ag ?_)
       refine AF I (by kernel_rfl) ?_
       exact A6 () ⟨I,I,I,I,I,I,O⟩ [0,1] (by decide) I
     ·refine wP I (Aa (Ag (wX ?_)))
      refine RS.cons ?_ (RS.cons ?_ (RS.nil))
      ·refine wP I (Aa (Ag (wX (wZ ?_))))
       refine Aw 1 _ tH I I I I I I I I I I (by show 0+(m+1)*1+1≤(nS (s.take m)++([str (Ac y),str (Ac x)]++C)).length;rw[List.length_append,hA];simp<;>omega) h1 ?_
       refine Aa (Ag (wY (wZ ?_)))
       refine wV 41 (m:Nat) I (show w64 (((m+1:Nat):Int)-1)=_ by rw[Ai (by omega) (by omega)];omega) ?_;(first|refine wJ ?_|refine qJ ?_)
       refine Aa (Ag (wY (wZ ?_)))
       refine Aw 1 _ tH I I I I I I I I I I (by show 0+m*1+1≤(nS (s.take m)++([str (Ac y),str (Ac y)]++C)).length;rw[List.length_append,hA];simp<;>omega) h2 ?_
       refine Aa (Ag ?_)
       refine AF I (by kernel_rfl) ?_
       exact A6 () ⟨I,I,I,I,I,I,O⟩ [0,1] (by decide) I
      ·refine Aw 1 _ tH I I I I I I I I I I (by show 0+(m+1)*1+1≤(nS (s.take m)++([str (Ac y),str (Ac x)]++C)).length;rw[List.length_append,hA];simp<;>omega) h1 ?_
       refine Aa (Ag (wY (wZ (wP I (Aa (Ag (wY (wZ ?_))))))))
       refine wV 41 (m:Nat) I (show w64 (((m+1:Nat):Int)-1)=_ by rw[Ai (by omega) (by omega)];omega) ?_;(first|refine wJ ?_|refine qJ ?_)
       refine Aa (Ag (wY (wZ ?_)))
       refine Aw 1 _ tH I I I I I I I I I I (by show 0+m*1+1≤(nS (s.take m)++([str (Ac y),str (Ac y)]++C)).length;rw[List.length_append,hA];simp<;>omega) h2 ?_
       refine Aa (Ag ?_)
       refine AF I (by kernel_rfl) ?_
       exact A6 () ⟨I,I,I,I,I,I,O⟩ [0,1] (by decide) I
     ·refine Aw 1 _ tH I I I I I I I I I I (by show 0+(m+1)*1+1≤(nS (s.take m)++([str (Ac y),str (Ac x)]++C)).length;rw[List.length_append,hA];simp<;>omega) h1 ?_
      refine Aa (Ag (wY ?_))
      refine RS.cons ?_ (RS.cons ?_ (RS.nil))
      ·refine wP I (Aa (Ag (wY (wZ (wP I (Aa (Ag (wY (wZ ?_)))))))))
       refine wV 41 (m:Nat) I (show w64 (((m+1:Nat):Int)-1)=_ by rw[Ai (by omega) (by omega)];omega) ?_;(first|refine wJ ?_|refine qJ ?_)
       refine Aa (Ag (wY (wZ ?_)))
       refine Aw 1 _ tH I I I I I I I I I I (by show 0+m*1+1≤(nS (s.take m)++([str (Ac y),str (Ac y)]++C)).length;rw[List.length_append,hA];simp<;>omega) h2 ?_
       refine Aa (Ag ?_)
       refine AF I (by kernel_rfl) ?_
       exact A6 () ⟨I,I,I,I,I,I,O⟩ [0,1] (by decide) I
      ·refine wP I (Aa (Ag (wY (wZ (wP I (Aa (Ag (wY (wZ ?_)))))))))
       refine wV 41 (m:Nat) I (show w64 (((m+1:Nat):Int)-1)=_ by rw[Ai (by omega) (by omega)];omega) ?_;(first|refine wJ ?_|refine qJ ?_)
       refine Aa (Ag (wY (wZ ?_)))
       refine Aw 1 _ tH I I I I I I I I I I (by show 0+m*1+1≤(nS (s.take m)++([str (Ac y),str (Ac y)]++C)).length;rw[List.length_append,hA];simp<;>omega) h2 ?_
       refine Aa (Ag ?_)
       refine AF I (by kernel_rfl) ?_
       exact A6 () ⟨I,I,I,I,I,I,O⟩ [0,1] (by decide) I
    ·refine Aw 1 _ tH I I I I I I I I I I (by show 0+(m+1)*1+1≤(nS (s.take m)++([str (Ac y),str (Ac x)]++C)).length;rw[List.length_append,hA];simp<;>omega) h1 ?_
     refine Aa (Ag (wY ?_))
     refine RS.cons ?_ (RS.cons ?_ (RS.nil))
     ·refine wP I (Aa (Ag (wY (wZ (wP I (Aa (Ag (wY (wZ (wP I (Aa (Ag (wY ?_)))))))))))))
      refine wZ ?_
      refine wV 41 (m:Nat) I (show w64 (((m+1:Nat):Int)-1)=_ by rw[Ai (by omega) (by omega)];omega) ?_;(first|refine wJ ?_|refine qJ ?_)
      refine Aa (Ag (wY (wZ ?_)))
      refine Aw 1 _ tH I I I I I I I I I I (by show 0+m*1+1≤(nS (s.take m)++([str (Ac y),str (Ac y)]++C)).length;rw[List.length_append,hA];simp<;>omega) h2 ?_
      refine Aa (Ag ?_)
      refine AF I (by kernel_rfl) ?_
      exact A6 () ⟨I,I,I,I,I,I,O⟩ [0,1] (by decide) I
     ·refine wP I (Aa (Ag (wY ?_)))
      refine RS.cons ?_ (RS.cons ?_ (RS.nil))
      ·refine wP I (Aa (Ag (wY (wZ (wP I (Aa (Ag (wY (wZ ?_)))))))))
       refine wV 41 (m:Nat) I (show w64 (((m+1:Nat):Int)-1)=_ by rw[Ai (by omega) (by omega)];omega) ?_;(first|refine wJ ?_|refine qJ ?_)
       refine Aa (Ag (wY (wZ ?_)))
       refine Aw 1 _ tH I I I I I I I I I I (by show 0+m*1+1≤(nS (s.take m)++([str (Ac y),str (Ac y)]++C)).length;rw[List.length_append,hA];simp<;>omega) h2 ?_
       refine Aa (Ag ?_)
       refine AF I (by kernel_rfl) ?_
       exact A6 () ⟨I,I,I,I,I,I,O⟩ [0,1] (by decide) I
      ·refine wP I (Aa (Ag (wY (wZ (wP I (Aa (Ag (wY (wZ ?_)))))))))
       refine wV 41 (m:Nat) I (show w64 (((m+1:Nat):Int)-1)=_ by rw[Ai (by omega) (by omega)];omega) ?_;(first|refine wJ ?_|refine qJ ?_)
       refine Aa (Ag (wY (wZ ?_)))
       refine Aw 1 _ tH I I I I I I I I I I (by show 0+m*1+1≤(nS (s.take m)++([str (Ac y),str (Ac y)]++C)).length;rw[List.length_append,hA];simp<;>omega) h2 ?_
       refine Aa (Ag ?_)
       refine AF I (by kernel_rfl) ?_
       exact A6 () ⟨I,I,I,I,I,I,O⟩ [0,1] (by decide) I
   intro _
   refine zN (zE (zB (wP I (wP I (wV 36 (m:Nat) I (show w64 (((m+1:Nat):Int)-1)=_ by rw[Ai (by omega) (by omega)];omega) (wP I (Aa ?_)))))))
   refine Aj m ⟨by show m≤s.length;omega,fun z hz=> ?_⟩ (by show m<m+1;omega) ⟨I,I,I,I,I,I,O⟩ [] (by rw[←row2];rfl)
   rw[e2] at hz
   rcases List.mem_cons.1 hz with rfl|hz
   ·exact hc
   ·exact hgt z hz
 refine key.mono ?_
 rintro e W' ⟨x,he,_,hb,hn'⟩
 exact⟨x,he,O,EP hg I hb hn'⟩
theorem Sk (cf:Nat) (hcf:QV cf) (W:World) (g cap:Nat) (l:List Rat) (junk:List Value) (z:Int) (hn:l.length≤12) (hg:W.heap[g]? =some (.cells (nS l++junk).toArray 25 (0,0)))
  (hf: ∀W',HS W W' g→BP W'∧AM W') (hz: ∀p∈l, ∀q∈l,Sz2 p q):
  Calls Tryz.prog 155 #[.slice (some ⟨g,0,none⟩) l.length cap, .int .i64 0, .int .i64 (l.length:Nat), .int .i64 z, .func (.func cf) #[] #[]] W fun e W'=> ∃x:Unit,e= .returned ((fun _=> .tuple #[]) x)∧True∧IH W W' g ((fun _=>g) x) ((fun _=> .cells (nS (B9 l)++junk).toArray 25 (0,0)) x):=by
 have key:Calls Tryz.prog 155 [.slice (some ⟨g,0,none⟩) l.length cap, .int .i64 0, .int .i64 (l.length:Nat), .int .i64 z, .func (.func cf) #[] #[]].toArray W fun e W'=> ∃x:Unit,e= .returned ((fun _=> .tuple #[]) x)∧(fun _=>True) x∧Below (AW W).heap.size (AW W) W'∧Au (AW W) W' ((fun _=>[AR (Az W g),EG g (B9 l) junk]) x):=by
  refine BU (X:=Unit) (val:=fun _=> .tuple #[]) (Φ:=fun _=>True) (nb:=fun _=>[AR (Az W g),EG g (B9 l) junk]) (Hp.enterT (B:=EG g l junk) I hg) Tryz.func155 I I I ?_
  refine zA (zB (wP I (Aa (zE (zA (zB (wP I (Aa (zE (zH ?_))))))))))
  refine At (X:=Unit) (fun _=>[(0, .slice (some ⟨g,0,none⟩) l.length cap),(1, .int .i64 0),(2, .int .i64 (l.length:Nat)),(3, .int .i64 z),(4, .func (.func cf) #[] #[])]) (fun _=>[AR (Az W g),EG g l junk]) (fun _=>True) (fun _=>0) () O ⟨I,I,I,I,I,O⟩ [] I ?_
  intro _ _
  refine zH (zA (zB (wP I (wP I (wP I (wV 23 (l.length:Nat) I (show w64 ((l.length:Nat)-0)=_ by rw[Ai (by omega) (by omega)];omega) (wP I (Aa (zE (zA (zA (zB (wP I (wP I ?_))))))))))))))
  refine wU 25 true I (dT (by omega)) (Aa (zE (zR I (zA (zB (wP I (wP I (wP I (wP I ?_)))))))))
  refine CU (X:=Unit) (val:=fun _=> .tuple #[]) (Φ:=fun _=>True) (capt:=[]) 1 (B:=EG g l junk) (L1:=[]) (L2:=[]) (b:=g) (ob:= .cells (nS l++junk).toArray 25 (0,0)) (fun _=>EG g (B9 l) junk) (g':=fun _=>g) (o':=fun _=> .cells (nS (B9 l)++junk).toArray 25 (0,0))
   rfl rfl rfl rfl rfl rfl (by kernel_rfl) rfl rfl (fun _ _=>rfl) (fun W1 hp=>SW cf hcf W1 g cap l junk (by omega) (hp.own.cell 1 _ rfl (g, .cells (nS l++junk).toArray 25 (0,0)) (List.mem_cons_self ..)).1 (fun W2 hk=>hf W2 ((H4 hg ⟨_,List.mem_cons_self ..⟩ hp).trans hk)) hz) (fun _ _=> ?_)
  refine Aa (zE (zO (zP (zQ (zP (zQ ?_))))))
  refine LI (X:=Unit) (val:=fun _=> .tuple #[]) (Φ:=fun _=>True) (nb:=fun _=>[AR (Az W g),EG g (B9 l) junk]) (fn:=Tryz.f155) tH I () I O fun W1 hp=> ?_
  exact(hp.pick (l:=[AR (Az W g),EG g (B9 l) junk]) [0,1] (by decide) I).own
 refine key.mono ?_
 rintro e W' ⟨x,he,_,hb,hn'⟩
 exact⟨x,he,O,EP hg I hb hn'⟩
theorem Tx (cf:Nat) (W:World) (p:Option Addr) (cap:Nat):Ad Tryz.prog 226 #[.slice p 0 cap, .int .i64 0, .int .i64 ((0:Nat):Int), .func (.func cf) #[] #[]] W (fun _:Unit=> .tuple #[]) (fun _=>True) (fun _=>[]):=by
 refine Ab (args:=[.slice p 0 cap, .int .i64 0, .int .i64 ((0:Nat):Int), .func (.func cf) #[] #[]]) Tryz.func226 I I I ?_
 refine zA (zB (wP I (wP I (wP I (Aa (zE (zH ?_)))))))
 refine At (X:=Unit) (fun _=>[(0, .slice p 0 cap),(1, .int .i64 0),(2, .int .i64 ((0:Nat):Int)),(3, .func (.func cf) #[] #[]),(8, .int .i64 1)]) (fun _=>[]) (fun _=>True) (fun _=>0) () O ⟨I,I,I,I,I,O⟩ [] I ?_
 intro _ _
 refine zA (zA (zB (wP I (wP I (wP I ?_)))))
 refine Al 14 (.bool false) I I ?_
 exact Aa (zE (zS I (zJ (zK (zK (zL (Gd (X:=Unit) (val:=fun _=> .tuple #[]) (Φ:=fun _=>True) (nb:=fun _=>[]) (fn:=Tryz.f226) tH I () I O fun W _=>Au.nil _ _)))))))
theorem Ss (cf:Nat) (W:World) (p:Option Addr) (cap:Nat) (z:Int):Ad Tryz.prog 155 #[.slice p 0 cap, .int .i64 0, .int .i64 ((0:Nat):Int), .int .i64 z, .func (.func cf) #[] #[]] W (fun _:Unit=> .tuple #[]) (fun _=>True) (fun _=>[]):=by
 refine Ab (args:=[.slice p 0 cap, .int .i64 0, .int .i64 ((0:Nat):Int), .int .i64 z, .func (.func cf) #[] #[]]) Tryz.func155 I I I ?_
 refine zA (zB (wP I (Aa (zE (zA (zB (wP I (Aa (zE (zH ?_))))))))))
 refine At (X:=Unit) (fun _=>[(0, .slice p 0 cap),(1, .int .i64 0),(2, .int .i64 ((0:Nat):Int)),(3, .int .i64 z),(4, .func (.func cf) #[] #[])]) (fun _=>[]) (fun _=>True) (fun _=>0) () O ⟨I,I,I,I,I,O⟩ [] I ?_
 intro _ _
 refine zH (zA (zB (wP I (wP I (wP I ?_)))))
 refine Al 23 (.int .i64 ((0:Nat):Int)) I I ?_
 refine wP I (Aa (zE (zA (zA (zB (wP I (wP I ?_)))))))
 refine Al 25 (.bool true) I I ?_
 refine Aa (zE (zR I (zA (zB (wP I (wP I (wP I (wP I ?_))))))))
 refine AU (capt:=[]) I I I I I I (by kernel_rfl) (fun W _=>Tx cf W p cap) ?_
 exact Aa (zE (zO (zP (zQ (zP (zQ (LI (X:=Unit) (val:=fun _=> .tuple #[]) (Φ:=fun _=>True) (nb:=fun _=>[]) (fn:=Tryz.f155) tH I () I O fun W _=>Au.nil _ _)))))))
theorem Fm (x:Nat) (h:x≤18446744073709551615) (W:World):Ad Tryz.prog 124 #[.int .u64 (x:Nat)] W (fun _:Unit=> .int .i64 (Lib.bitLen x)) (fun _=>True) (fun _=>[]):=by
 refine Ad.of1 ((Go.Proofs.Any.bits_Len (P:=Tryz.prog) (ρ:=Tryz.lays125_ren) Tryz.lays125 (x:Int) W (by omega) (by omega)).mono ?_)
 rintro e w' ⟨rfl,rfl⟩
 exact⟨I,Below.refl _ _⟩
theorem Ub {n:Nat} (h:n≤12):IntKind.u64.wrap (n:Nat)=(n:Int):=by
 simp only[IntKind.wrap,IntKind.signed,IntKind.bits]
 simp
 omega
theorem Pk (cf:Nat) (hcf:QV cf) (W:World) (g cap:Nat) (l:List Rat) (junk:List Value) (hn:l.length≤12) (hg:W.heap[g]? =some (.cells (nS l++junk).toArray 25 (0,0)))
  (hf: ∀W',HS W W' g→BP W'∧AM W') (hz: ∀p∈l, ∀q∈l,Sz2 p q):
  Calls Tryz.prog 96 #[.slice (some ⟨g,0,none⟩) l.length cap, .func (.func cf) #[] #[]] W fun e W'=> ∃x:Unit,e= .returned ((fun _=> .tuple #[]) x)∧True∧IH W W' g ((fun _=>g) x) ((fun _=> .cells (nS (B9 l)++junk).toArray 25 (0,0)) x):=by
 have key:Calls Tryz.prog 96 [.slice (some ⟨g,0,none⟩) l.length cap, .func (.func cf) #[] #[]].toArray W fun e W'=> ∃x:Unit,e= .returned ((fun _=> .tuple #[]) x)∧(fun _=>True) x∧Below (AW W).heap.size (AW W) W'∧Au (AW W) W' ((fun _=>[AR (Az W g),EG g (B9 l) junk]) x):=by
  refine BU (X:=Unit) (val:=fun _=> .tuple #[]) (Φ:=fun _=>True) (nb:=fun _=>[AR (Az W g),EG g (B9 l) junk]) (Hp.enterT (B:=EG g l junk) I hg) Tryz.func96 I I I ?_
  refine zA (zB (wP I (wP I (wP I (Aa (zE (zB (wP I (wP I (wP I ?_))))))))))
  refine F5 (k:= .u64) (kt:= .i64) (by kernel_rfl) (by kernel_rfl) I I I I ?_
  refine Al 10 (.int .u64 (l.length:Nat)) I (congrArg (Value.int .u64) (Ub hn)) ?_
  refine AU (capt:=[]) I I I I I I (by kernel_rfl) (fun W _=>Fm l.length (by omega) W) ?_
  refine wP I ?_
  refine CU (X:=Unit) (val:=fun _=> .tuple #[]) (Φ:=fun _=>True) (capt:=[]) 1 (B:=EG g l junk) (L1:=[]) (L2:=[]) (b:=g) (ob:= .cells (nS l++junk).toArray 25 (0,0)) (fun _=>EG g (B9 l) junk) (g':=fun _=>g) (o':=fun _=> .cells (nS (B9 l)++junk).toArray 25 (0,0))
   rfl rfl rfl rfl rfl rfl (by kernel_rfl) rfl rfl (fun _ _=>rfl) (fun W1 hp=>Sk cf hcf W1 g cap l junk _ hn (hp.own.cell 1 _ rfl (g, .cells (nS l++junk).toArray 25 (0,0)) (List.mem_cons_self ..)).1 (fun W2 hk=>hf W2 ((H4 hg ⟨_,List.mem_cons_self ..⟩ hp).trans hk)) hz) (fun _ _=> ?_)
  refine Aa ?_
  refine Gd (X:=Unit) (val:=fun _=> .tuple #[]) (Φ:=fun _=>True) (nb:=fun _=>[AR (Az W g),EG g (B9 l) junk]) (fn:=Tryz.f96) tH I () I O fun W1 hp=> ?_
  exact(hp.pick (l:=[AR (Az W g),EG g (B9 l) junk]) [0,1] (by decide) I).own
 refine key.mono ?_
 rintro e W' ⟨x,he,_,hb,hn'⟩
 exact⟨x,he,O,EP hg I hb hn'⟩
-- BOXES 3
abbrev cs (l:List (List UInt8)):List Value:=l.map Go.Proofs.encStr
theorem SM {l:List (List UInt8)} {j:Nat} (h:j<l.length) (junk:List Value):(cs l++junk)[j]? =some (Go.Proofs.encStr l.toArray[j]!):=by
 rw[List.getElem?_append_left (by simpa using h),List.getElem?_map,List.getElem?_eq_getElem h,getElem!_pos l.toArray j (by simpa using h)];simp
theorem Xs {W:World} {g:Nat} {zs:List (List UInt8)} {junk:List Value} {ty:TypeId} (h:W.heap[g]? =some (.cells (cs zs++junk).toArray ty (0,0))):Sort.Holds Go.Proofs.encStr W g 0 zs.toArray:=fun j hj=>by
 have hj':j<zs.length:=by simpa using hj
 have h1:=SM hj' junk
 constructor
 ·simp only[World.cell?,h,Nat.zero_add]
  rw[List.getElem?_toArray];exact h1
 ·simp[World.frozen?,h]
theorem RQ {zs zs':List (List UInt8)} (hl:zs'.length=zs.length) (junk:List Value):Sort.putCells Go.Proofs.encStr 0 zs'.toArray (cs zs++junk).toArray=(cs zs'++junk).toArray:=by
 apply Array.ext_getElem?
 intro k
 simp only[Sort.putCells,Array.getElem?_mapIdx,List.getElem?_toArray,List.size_toArray,Nat.zero_add,Nat.sub_zero,Nat.zero_le,true_and]
 by_cases hk:k<zs.length
 ·rw[SM hk,SM (show k<zs'.length by omega),Option.map_some,if_pos (by omega)]
 ·rw[List.getElem?_append_right (by simp;omega),List.getElem?_append_right (by simp;omega)]
  simp only[List.length_map,hl]
  cases junk[k-zs.length]? with
  |none=>rfl
  |some y=>rw[Option.map_some,if_neg (by omega)]
theorem Sz {W:World} {g:Nat} {zs zs':List (List UInt8)} {junk:List Value} {ty:TypeId} (h:W.heap[g]? =some (.cells (cs zs++junk).toArray ty (0,0))) (hl:zs'.length=zs.length) (n:Nat):
  IH W (Sort.putRow Go.Proofs.encStr (Sort.ahead W n) g 0 zs'.toArray) g g (.cells (cs zs'++junk).toArray ty (0,0)):=by
 have hlt:g<W.heap.size:=(Array.getElem?_eq_some_iff.1 h).1
 have hs: ∀x,x<W.heap.size→(Sort.putRow Go.Proofs.encStr (Sort.ahead W n) g 0 zs'.toArray).heap[x]? =(W.heap.modify g (Sort.onCells (Sort.putCells Go.Proofs.encStr 0 zs'.toArray)))[x]? :=fun x hx=>rfl
 refine⟨I,I,I, ?_, ?_, .inl I,fun x hx hlt'=> ?_⟩
 ·show W.heap.size≤(W.heap.modify g _).size
  simp
 ·rw[hs g hlt,Array.getElem?_modify,if_pos rfl,h,Option.map_some]
  show some (Obj.cells (Sort.putCells _ _ _ _) _ _)=_
  rw[RQ hl]
 ·rw[hs x hlt',Array.getElem?_modify,if_neg (fun e=>hx e.symm)]
theorem K7 (l:List Rat):(Ba l).length≤l.length:=by
 fun_induction Ba l with
 |case1=>exact Nat.le_refl _
 |case2 x=>exact Nat.le_refl _
 |case3 x l ih=>simp only[List.length_cons] at ih⊢;omega
 |case4 x y l h ih=>simp only[List.length_cons] at ih⊢;omega
theorem YR (l:List Rat):cs (l.map Ac)=nS l:=by simp[nS,cs]
abbrev Mz (l:List Rat) (junk:List Value):List Value:=cs (List.replicate (l.length-(Ba l).length) [])++junk
theorem Rb {W:World} {g cap:Nat} {l:List Rat} {junk:List Value} {ty:TypeId} (h:W.heap[g]? =some (.cells (nS l++junk).toArray ty (0,0))) (hn:l.length≤9223372036854775807) (hcap:l.length≤cap):
  Calls Tryz.prog 97 #[.slice (some ⟨g,0,none⟩) l.length cap] W fun e W'=> ∃x:Unit,e= .returned ((fun _=> .slice (some ⟨g,0,none⟩) (Ba l).length cap) x)∧True∧
   IH W W' g ((fun _=>g) x) ((fun _=> .cells (nS (Ba l)++Mz l junk).toArray ty (0,0)) x):=by
 have hl:=K7 l
 rw[←YR] at h
 have h1:=Go.Proofs.AnyG.slices_Compact_string (P:=Tryz.prog) (ρ:=Tryz.laysN44_ren) Tryz.laysN44 g 0 cap (l.map Ac) W (Xs h) (by rw[List.length_map];exact hn) (by rw[List.length_map];exact hcap)
 rw[Py,List.length_map,List.length_map] at h1
 refine h1.mono ?_
 rintro e W' ⟨rfl,n,rfl⟩
 refine⟨(),I,O, ?_⟩
 have h2:=Sz (zs':=(Ba l).map Ac++List.replicate (l.length-(Ba l).length) []) h (by rw[List.length_append,List.length_replicate,List.length_map,List.length_map];omega) n
 have e:cs ((Ba l).map Ac++List.replicate (l.length-(Ba l).length) [])++junk=nS (Ba l)++Mz l junk:=by
  rw[←YR, ←List.append_assoc];congr 1;exact List.map_append
 rw[e] at h2
 exact h2
theorem Rt (cf:Nat) (W:World) (p:Option Addr) (cap:Nat):Ad Tryz.prog 96 #[.slice p 0 cap, .func (.func cf) #[] #[]] W (fun _:Unit=> .tuple #[]) (fun _=>True) (fun _=>[]):=by
 refine Ab (args:=[.slice p 0 cap, .func (.func cf) #[] #[]]) Tryz.func96 I I I ?_
 refine zA (zB (wP I (wP I (wP I (Aa (zE (zB (wP I (wP I (wP I ?_))))))))))
 refine F5 (k:= .u64) (kt:= .i64) (by kernel_rfl) (by kernel_rfl) I I I I ?_
 refine Al 10 (.int .u64 ((0:Nat):Int)) I I ?_
 refine AU (capt:=[]) I I I I I I (by kernel_rfl) (fun W _=>Fm 0 (by omega) W) ?_
 refine wP I ?_
 refine AU (capt:=[]) I I I I I I (by kernel_rfl) (fun W _=>Ss cf W p cap _) ?_
 exact Aa (Gd (X:=Unit) (val:=fun _=> .tuple #[]) (Φ:=fun _=>True) (nb:=fun _=>[]) (fn:=Tryz.f96) tH I () I O fun W _=>Au.nil _ _)
theorem RN (W:World) (p:Option Addr) (cap:Nat):Ad Tryz.prog 97 #[.slice p 0 cap] W (fun _:Unit=> .slice p 0 cap) (fun _=>True) (fun _=>[]):=by
 refine Ab (args:=[.slice p 0 cap]) Tryz.func97 I I I ?_
 refine zA (zB (wP I (Aa (zE (zA (zA (zB (wP I (wP I (wP I (Aa (zE (zR I ?_)))))))))))))
 exact zA (zB (wP I (wP I (Aa (zE (zO (zP (wR1 I I I))))))))
theorem Kg {α:Type} {l:List α} {k:Nat} {x:α} (h:l[k]? =some x):l.set k x=l:=by
 obtain⟨h1,rfl⟩:=List.getElem?_eq_some_iff.1 h
 exact List.set_getElem_self h1
section
variable {r:Option Nat} {n:Nat} {W0:World} {N:Nat} {D:List Deferred} {ops:List Oper} {Q:Exit→Act→World→Prop} {o:Oper} {rest:List Oper} {env:Env} {bxs:List Bx}
theorem We (k:Nat) (cf:Nat) (hcf:QV cf) (hv0:BP W0) (ht0:AM W0) {c:Call} {f:Operand} {d:Nat} {V:Vec} {l:List Rat} {len:Nat}
  (hg:A7 ops N env o=some true) (hd:o.dst=some d) (ho:o.op= .call c) (hc:c.callee= .value f) (hf:evO N env f=some (.func (.func 96) #[] #[])) (ha:Cn (evO N env) c.args.toList=some [V.val len, .func (.func cf) #[] #[]])
  (hk:nth bxs k=some (V.bx 25 (nS l))) (hlen:len=l.length) (hV:V.OK 1 len (nS l)) (hn:l.length≤12) (hz: ∀p∈l, ∀q∈l,Sz2 p q)
  (h:WL r n Tryz.prog N D ops Q rest ((d, .tuple #[])::env) (Hp W0 (bxs.set k (V.bx 25 (nS (B9 l)))))):WL r n Tryz.prog N D ops Q (o::rest) env (Hp W0 bxs):=by
 subst hlen
 obtain⟨p,cap,junk⟩:=V
 cases p with
 |none=>
  have hz0:=hV.nil rfl
  have e:bxs.set k ((⟨none,cap,junk⟩:Vec).bx 25 (nS (B9 l)))=bxs:=by
   have h1:bxs[k]? =some ((⟨none,cap,junk⟩:Vec).bx 25 (nS l)):=by rw[←AV];exact hk
   exact Kg h1
  rw[e] at h
  refine AU (capt:=[]) hg hd ho hc hf ha (by kernel_rfl) (fun W _=> ?_) h
  exact Rt cf W none 0
 |some g=>
  have hk':bxs[k]? =some (EG g l junk):=by rw[←AV];exact hk
  refine CU (X:=Unit) (val:=fun _=> .tuple #[]) (Φ:=fun _=>True) (capt:=[]) k (B:=EG g l junk) (L1:=[]) (L2:=[]) (b:=g) (ob:= .cells (nS l++junk).toArray 25 (0,0)) (fun _=>EG g (B9 l) junk) (g':=fun _=>g) (o':=fun _=> .cells (nS (B9 l)++junk).toArray 25 (0,0))
   hg hd ho hc hf ha (by kernel_rfl) hk rfl (fun _ _=>rfl) (fun W hp=> ?_) (fun _ _=>h)
  have hcell:=hp.own.cell k _ hk' (g, .cells (nS l++junk).toArray 25 (0,0)) (List.mem_cons_self ..)
  exact Pk cf hcf W g cap l junk hn hcell.1 (fun W' hK=>⟨hv0.below (hK.below hp.below hcell.2),ht0.below (hK.below hp.below hcell.2)⟩) hz
theorem Xo (k:Nat) {c:Call} {f:Operand} {d:Nat} {V:Vec} {l:List Rat} {len:Nat}
  (hg:A7 ops N env o=some true) (hd:o.dst=some d) (ho:o.op= .call c) (hc:c.callee= .value f) (hf:evO N env f=some (.func (.func 97) #[] #[])) (ha:Cn (evO N env) c.args.toList=some [V.val len])
  (hk:nth bxs k=some (V.bx 25 (nS l))) (hlen:len=l.length) (hV:V.OK 1 len (nS l)) (hn:l.length≤9223372036854775807)
  (h: ∀V':Vec,V'.OK 1 (Ba l).length (nS (Ba l))→WL r n Tryz.prog N D ops Q rest ((d,V'.val (Ba l).length)::env) (Hp W0 (bxs.set k (V'.bx 25 (nS (Ba l)))))):WL r n Tryz.prog N D ops Q (o::rest) env (Hp W0 bxs):=by
 subst hlen
 have hl:=K7 l
 obtain⟨p,cap,junk⟩:=V
 cases p with
 |none=>
  have hz0:=hV.nil rfl
  have hl0:l=[]:=List.length_eq_zero_iff.1 hz0
  subst hl0
  have h:=h ⟨none,cap,junk⟩ ⟨by rw[KK];rfl,fun _=>by rw[KK];rfl,fun h=>absurd rfl h⟩
  have e:bxs.set k ((⟨none,cap,junk⟩:Vec).bx 25 (nS (Ba [])))=bxs:=by
   have h1:bxs[k]? =some ((⟨none,cap,junk⟩:Vec).bx 25 (nS [])):=by rw[←AV];exact hk
   exact Kg h1
  rw[e] at h
  refine AU (capt:=[]) hg hd ho hc hf ha (by kernel_rfl) (fun W _=> ?_) h
  exact RN W none 0
 |some g=>
  obtain⟨c1,c2,c3⟩:=hV.cap (by simp)
  have c1:l.length≤cap:=c1
  have c2:cap≤maxLen:=c2
  have hk':bxs[k]? =some (EG g l junk):=by rw[←AV];exact hk
  have h:=h ⟨some g,cap,Mz l junk⟩ ⟨by simp[nS],fun h=>by simp at h,fun _=>⟨by show(Ba l).length≤cap;omega,c2,by
   show(nS (Ba l)).length+(Mz l junk).length=cap*1
   simp only[nS,Mz,cs,List.length_append,List.length_map,List.length_replicate] at c3⊢
   have c3:l.length+junk.length=cap*1:=c3
   omega⟩⟩
  refine CU (X:=Unit) (val:=fun _=> .slice (some ⟨g,0,none⟩) (Ba l).length cap) (Φ:=fun _=>True) (capt:=[]) k (B:=EG g l junk) (L1:=[]) (L2:=[]) (b:=g) (ob:= .cells (nS l++junk).toArray 25 (0,0)) (fun _=>⟨g,25,nS (Ba l)++Mz l junk,true,none⟩) (g':=fun _=>g) (o':=fun _=> .cells (nS (Ba l)++Mz l junk).toArray 25 (0,0))
   hg hd ho hc hf ha (by kernel_rfl) hk rfl (fun _ _=>rfl) (fun W hp=> ?_) (fun _ _=>h)
  exact Rb (hp.own.cell k _ hk' (g, .cells (nS l++junk).toArray 25 (0,0)) (List.mem_cons_self ..)).1 hn c1
end
-- BOXES 6
theorem ZC:QV 76:=⟨by kernel_rfl,fun p q W h hv ht=>CG p q h W hv ht⟩
def fl (f g:FrP) (k:Nat):List Rat:=((AX f g).take k).filter (Dd f g)
theorem S4 (f g:FrP) (k:Nat):(fl f g k).length≤5:=by
 have h1:=List.length_filter_le (Dd f g) ((AX f g).take k)
 have h2:=US f g
 rw[List.length_take] at h1
 unfold fl;omega
theorem Yp (f g:FrP) {k:Nat} (hk:k<(AX f g).length):fl f g (k+1)=if Dd f g ((AX f g).getD k 0)=true then fl f g k++[(AX f g).getD k 0] else fl f g k:=by
 have e:(AX f g).getD k 0=(AX f g)[k]:=by rw[List.getD_eq_getElem?_getD,List.getElem?_eq_getElem hk];rfl
 rw[e,fl,List.take_add_one,List.getElem?_eq_getElem hk,List.filter_append]
 show _++List.filter _ [_]=_
 rw[List.filter_cons,List.filter_nil]
 split
 ·rfl
 ·rw[List.append_nil];rfl
theorem Wh {f g:FrP} {k:Nat} {t:Rat} (h:t∈fl f g k):t∈AX f g:=List.mem_of_mem_take (List.mem_filter.1 h).1
theorem PR (f g:FrP) (hf:f.OK) (hg:g.OK) (hax:f.ax=g.ax) (hz:V6 f g) (hs: ∀p∈AX f g, ∀q∈AX f g,Sz2 p q)
  (a b k:Nat) (ha:szQ f.sp a) (hb:szQ f.st b) (ha':szQ g.sp a) (hb':szQ g.st b) (hk: ∀t∈AX f g,szQ t k) (hk1:a+b+k+9≤300) (hk2:k+36+1≤300) (W:World) (hv:BP W) (ht:AM W):
  Ad Tryz.prog 43 #[frV f,frV g] W (fun V:Vec=> .tuple #[V.val (eqL f g).length, .int .i64 0]) (fun V=>V.OK 1 (eqL f g).length (nS (eqL f g))) (fun V=>[V.bx 25 (nS (eqL f g))]):=by
 refine Ab (args:=[frV f,frV g]) Tryz.func43 I I I ?_
 refine zA (zB ?_)
 (refine Ax rfl rfl rfl rfl ?_;intro)
 (refine Ax rfl rfl rfl rfl ?_;intro)
 refine wP I (wP I (Aa ?_))
 rename_i b2 b3
 refine zE (zA (zA (zB (wB 0 I I I (wC I I (fun W hp=>Hi f hf W (hv.hp hp) (ht.hp hp)) (wP I (wP I (wB 1 I I I (wC I I (fun W hp=>Hi g hg W (hv.hp hp) (ht.hp hp)) (wP I (wP I (Aa (zE ?_)))))))))))))
 refine zS I (zI (zE (zA (zA (zB (wP I (wB 0 I I I (wP I (wB 1 I I I ?_)))))))))
 refine D8 Tryz.underlying4 I I I I I I ?_
 refine wU 24 false I (by rw[hax];simp) (Aa (zE (zS I (zI (zE (zA (zB ?_)))))))
 (refine Ah Tryz.hZ rfl rfl rfl rfl ?_;intro)
 refine Aa ?_
 rename_i b6
 refine zE (zA (zA (zB (wB 0 I I I (wB 1 I I I ?_)))))
 refine wD (X:=Nat×Nat) I I (fun W _=>MQ f g W) ?_
 rintro⟨c1,c2⟩ _
 refine E7 ?_
 refine Aa (zE (zH ?_))
 refine O7 (X:=Nat×Vec) (fun x=>[frB b2 f,frB b3 g,⟨b6,31,[x.2.val (fl f g x.1).length],true,none⟩,frB c1 f,frB c2 g,x.2.bx 25 (nS (fl f g x.1))])
  (fun j x=>x.1=j∧x.2.OK 1 (fl f g x.1).length (nS (fl f g x.1))) (fun _ _=>False) (0,Vec.empty) rfl (by kernel_rfl) (Vm f g hf hg hz c1 c2) (fun _=>rfl)
  ⟨rfl,Vec.OK.empty 1⟩ [] rfl (fun k x W _ hp=>⟨An.of_bx hp 3 rfl rfl,An.of_bx hp 4 rfl rfl,hv.hp hp,ht.hp hp⟩) ?_ ?_ (fun _ _ _ _ _ h=>h.elim)
 ·rintro j' ⟨j,V⟩ d L rec hj ⟨e1,hV⟩ hrec
  obtain rfl:j=j':=e1
  have hV:V.OK 1 (fl f g j).length (nS (fl f g j)):=hV
  have hn:=S4 f g (j+1)
  have hfl:=Yp f g hj
  have htm:(AX f g).getD j 0∈AX f g:=by rw[List.getD_eq_getElem?_getD,List.getElem?_eq_getElem hj];exact List.getElem_mem hj
  obtain⟨t,hte⟩: ∃t,t=(AX f g).getD j 0:=⟨_,rfl⟩
  have henc:Sp (AX f g) j=[str (Ac t)]:=by rw[hte]
  rw[←hte] at hfl htm
  rw[henc]
  have zt:=hk t htm
  refine zB (wP I (Aa ?_))
  refine CA 7 hrec I ?_
  refine BL (zA (zB (wB 0 I I I (wP I (wC I I (fun W hp=>Gg f hf t k zt hk2 W (hv.hp hp) (ht.hp hp)) ?_)))))
  iterate 5 refine wP I ?_
  refine Aa (zE (zA (zB (wB 1 I I I (wP I (wC I I (fun W hp=>Gg g hg t k zt hk2 W (hv.hp hp) (ht.hp hp)) ?_))))))
  iterate 5 refine wP I ?_
  refine Aa (A3 (Av ?_))
  refine A8 (X:=Unit) (fun _=>[(2,Ap b2),(3,Ap b3),(6,Ap b6),(7,str (Ac t)),(57, .bool (Dd f g t))]) (fun _=>[frB b2 f,frB b3 g,⟨b6,31,[V.val (fl f g j).length],true,none⟩,frB c1 f,frB c2 g,V.bx 25 (nS (fl f g j)),BT d,Bo L rec .busy none]) (fun _=>True) ?_ ?_
  ·refine zU (qB 0 I I I (qP I (qC I I (fun W hp=>E8 f hf t a b k ha hb zt hk1 W (hv.hp hp) (ht.hp hp)) (qB 1 I I I (qP I (qC I I (fun W hp=>E8 g hg t a b k ha' hb' zt hk1 W (hv.hp hp) (ht.hp hp)) (qP I ?_)))))))
   by_cases h1:f.at t=g.at t
   ·refine qU 47 true I ((AE _ _).trans (dT (BD.2 h1))) (qP I (qP I (qP I (qP I ?_))))
    by_cases h2:f.velB t=g.velB t
    ·refine qU 51 false I (by show(!_)=false;rw[AE,dT (BD.2 h2)];rfl) (qP I (qP I (qP I (qP I ?_))))
     by_cases h3:f.velA t=g.velA t
     ·have e:Dd f g t=false:=by simp[Dd,h2,h3]
      exact qU 55 false I (by show(!_)=false;rw[AE,dT (BD.2 h3)];rfl) (qP I (qP I (A4 (Aa (Ak () O ⟨I,I,I,I,by rw[e];rfl,O⟩ [] I)))))
     ·have e:Dd f g t=true:=by simp[Dd,h1,h3]
      exact qU 55 true I (by show(!_)=true;rw[AE,dF fun e=>h3 (BD.1 e)];rfl) (qP I (qP I (A4 (Aa (Ak () O ⟨I,I,I,I,by rw[e];rfl,O⟩ [] I)))))
    ·have e:Dd f g t=true:=by simp[Dd,h1,h2]
     refine qU 51 true I (by show(!_)=true;rw[AE,dF fun e=>h2 (BD.1 e)];rfl) (qP I ?_)
     iterate 3 refine B7 I I ?_
     exact qP I (qP I (A4 (Aa (Ak () O ⟨I,I,I,I,by rw[e];rfl,O⟩ [] I))))
   ·have e:Dd f g t=false:=by simp[Dd,h1]
    refine qU 47 false I ((AE _ _).trans (dF fun e=>h1 (BD.1 e))) (qP I ?_)
    iterate 8 refine B7 I I ?_
    exact qP I (A4 (Aa (Ak () O ⟨I,I,I,I,by rw[e];rfl,O⟩ [] I)))
  ·intro _ _
   refine Af I (fun hc=> ?_) (fun hc=> ?_)
   ·have hc:Dd f g t=true:=hc
    rw[if_pos hc] at hfl
    refine zB (wB 2 I I I (wP I ?_))
    (refine As Tryz.hZ tH rfl rfl rfl rfl rfl rfl rfl rfl rfl rfl rfl ?_;intro)
    refine AA (V:=V) (len:=(fl f g j).length) (xs:=nS (fl f g j)) 5 8 Tryz.vec31 (fl f g (j+1)).length (nS (fl f g (j+1))) I I I I I I I I I I I hV I I (by rw[hfl];simp) (by rw[hfl];simp[nS];rfl) (by simp only[maxLen];omega) (by omega) I ?_
    intro gV cV jV hV1
    exact wS 2 I I I (Aa (zN (By 7 (j+1,⟨some gV,cV,jV⟩) hrec I ⟨I,hV1⟩ [_] I)))
   ·have hc:Dd f g t=false:=hc
    rw[if_neg (by rw[hc];decide)] at hfl
    exact zI (zN (By 7 (j+1,V) hrec I ⟨I,by show V.OK 1 (fl f g (j+1)).length (nS (fl f g (j+1)));rw[hfl];exact hV⟩ [] (by show _=[frB b2 f,frB b3 g,(⟨b6,31,[V.val (fl f g (j+1)).length],true,none⟩:Bx),frB c1 f,frB c2 g,V.bx 25 (nS (fl f g (j+1))),BT d,Bo L rec .ready none]++[];rw[hfl];rfl)))
 ·rintro⟨j,V⟩ d L rec ⟨e1,hV⟩
  obtain rfl:j=(AX f g).length:=e1
  have hV:V.OK 1 (fl f g (AX f g).length).length (nS (fl f g (AX f g).length)):=hV
  have hn:=S4 f g (AX f g).length
  have hsl:=Kz (fl f g (AX f g).length)
  have heq:eqL f g=Ba (B9 (fl f g (AX f g).length)):=by rw[eqL,fl,List.take_length]
  refine zN (zE (zA (zB (wB 2 I I I ?_))))
  refine We 5 76 ZC hv ht (V:=V) (l:=fl f g (AX f g).length) (len:=(fl f g (AX f g).length).length) I I I I I I I I hV (by omega) (fun p hp q hq=>hs p (Wh hp) q (Wh hq)) ?_
  refine Aa (zE (zA (zB (wB 2 I I I ?_))))
  refine Xo 5 (V:=V) (l:=B9 (fl f g (AX f g).length)) (len:=(fl f g (AX f g).length).length) I I I I I I I hsl.symm ⟨by rw[←hsl];simp[nS],hV.nil,fun h=>by
   have h2:=hV.cap h
   refine⟨h2.1,h2.2.1, ?_⟩
   have h3:=h2.2.2
   rw[List.length_map] at h3⊢
   rw[hsl]
   exact h3⟩ (by omega) ?_
  intro V2 hV2
  rw[←heq] at hV2⊢
  refine wP I (wP I (Aa (zE (zO ?_))))
  refine Dy 6 I ?_
  exact AJ tH I (.tmp I) (.tmp I) V2 I hV2 fun W hp=>Au.of_hp1 hp 5 I
-- BOXES 3
-- CODE2
theorem Eo (p q:Rat) (h:Sz2 p q) (W:World) (hv:BP W) (ht:AM W):
  Ad Tryz.prog 62 #[str (Ac p),str (Ac q)] W (fun _:Unit=> .int .i64 (CY p q)) (fun _=>True) (fun _=>[]):=by
 refine Ab (args:=[str (Ac p),str (Ac q)]) Tryz.func62 I I I ?_
 refine zA (zB (wP I (Aa (zE (zA (zB (wP I (wP I (wC I I (fun W hp=>(HQ p q h W (hv.hp hp) (ht.hp hp)).cast (by rw[Tt])) ?_)))))))))
 iterate 5 refine wP I ?_
 exact Aa (zE (zA (zB (wP I (wP I (Aa (zE (zO (wR1 I I I)))))))))
theorem Lc (z:List UInt8) (b:Nat) (s:Sd) (W:World) (hrow:An W b 0 s.cells):
  Ad Tryz.prog 101 #[str z,Ap b] W (fun _:Unit=> .bool (!s.gable)) (fun _=>True) (fun _=>[]):=by
 refine Ab (args:=[str z,Ap b]) Tryz.func101 I I I ?_
 exact zA (zB (wP I (Aa (zE (zA (zB (wP I (wL 4 I I (fun W1 hp=>hrow.hp hp) I (wP I (wP I (Aa (zE (zO (wR1 I I I))))))))))))))
theorem R4 (z y:Rat) (hz:Sz2 z y) (b:Nat) (W:World) (hv:BP W) (ht:AM W) (hrow:An W b 0 [str (Ac y)]):
  Ad Tryz.prog 102 #[str (Ac z),Ap b] W (fun _:Unit=> .bool (decide (y<z))) (fun _=>True) (fun _=>[]):=by
 refine Ab (args:=[str (Ac z),Ap b]) Tryz.func102 I I I ?_
 refine zA (zB (wP I (Aa (zE (zA (zB (wP I (wL 0 I I (fun W1 hp=>hrow.hp hp) I (wC I I (fun W1 hp=>Eo z y hz W1 (hv.hp hp) (ht.hp hp)) (wP I (wU 7 (decide (y<z)) I (GG z y) (wP I (Aa ?_)))))))))))))
 exact zE (zO (wR1 I I I))
section
variable {r:Option Nat} {n:Nat} {P:Program} {N:Nat} {D:List Deferred} {ops:List Oper} {Q:Exit→Act→World→Prop} {o:Oper} {rest:List Oper} {env:Env} {A:World→Prop}
theorem Y8 {ρ:Operand→Value} {t u:TypeId} {x y:Operand} {k yk:IntKind} {a b:Int} (ho:o.op= .binOp .shr t x y u) (hx:ρ x= .int k a) (hy:ρ y= .int yk b) (hb:0≤b) (W:World):(execOp ρ o).run P W= .ok (.value (.int k (a/2^min b.toNat k.bits))) W:=by
 simp[execOp,ho,hx,hy,eqGuard,binOp,shift_shr_any _ _ _ _ hb]
theorem Zh {d:Nat} {t u:TypeId} {x y:Operand} {k yk:IntKind} {a b:Int} (hg:A7 ops N env o=some true) (hd:o.dst=some d) (ho:o.op= .binOp .shr t x y u)
  (hx:evO N env x=some (.int k a)) (hy:evO N env y=some (.int yk b)) (hb:0≤b)
  (h:WL r n P N D ops Q rest ((d, .int k (a/2^min b.toNat k.bits))::env) A):WL r n P N D ops Q (o::rest) env A:=
 Do hg hd (fun c e=>by rw[ho] at e;cases e) (fun _ W hρ _=>Y8 ho (hρ _ _ hx) (hρ _ _ hy) hb W) h
end
def Tz (W:World) (p:Option Addr) (l:List Rat):Prop:=l=[]∨ ∃g off,p=some ⟨g,off,none⟩∧ ∀i (hi:i<l.length),An W g (off+i*1) [str (Ac l[i])]
theorem Tz.at_ {W:World} {p:Option Addr} {l:List Rat} (h:Tz W p l) {i:Nat} (hi:i<l.length): ∃g off,p=some ⟨g,off,none⟩∧ ∀i (hi:i<l.length),An W g (off+i*1) [str (Ac l[i])]:=by
 rcases h with rfl|h
 ·exact absurd hi (Nat.not_lt_zero _)
 ·exact h
theorem ZN {n:Nat} (h:n<9223372036854775808):IntKind.u64.wrap (n:Nat)=(n:Int):=by
 simp only[IntKind.wrap,IntKind.signed,IntKind.bits]
 simp
 omega
theorem Zw {n:Nat}:((n:Nat):Int)/2^min (1:Int).toNat IntKind.u64.bits=((n/2:Nat):Int):=by
 show((n:Nat):Int)/2^1=_
 omega
theorem VM (p q:Rat):(CY p q==0)=decide (p=q):=by
 unfold CY
 by_cases h:p<q
 ·rw[if_pos h]
  have: ¬p=q:=fun e=>by rw[e] at h;exact Rat.lt_irrefl h
  rw[dF this];rfl
 ·rw[if_neg h]
  by_cases e:p=q
  ·rw[if_pos e,dT e];rfl
  ·rw[if_neg e,dF e];rfl
theorem IJ (p:Option Addr) (cap:Nat) (l:List Rat) (a:Rat) (W:World) (hn:l.length<4611686018427387904) (hR:Tz W p l) (hs:l.Pairwise (· < ·)) (hz: ∀x∈l,Sz2 x a) (hv:BP W) (ht:AM W):
  Ad Tryz.prog 156 #[.slice p l.length cap,str (Ac a), .func (.func 62) #[] #[]] W (fun _:Unit=> .tuple #[.int .i64 (below a l:Nat), .bool (decide (l[below a l]? =some a))]) (fun _=>True) (fun _=>[]):=by
 have hB:=Jy a l
 have hlt:=RD (a:=a) hs
 refine Ab (args:=[.slice p l.length cap,str (Ac a), .func (.func 62) #[] #[]]) Tryz.func156 I I I ?_
 refine zA (zB (wP I (wP I (Aa (zE (zA (zB (wP I (wP I (wP I (Aa (zE (zA ?_)))))))))))))
 refine zB (wP I (wP I (wP I (Aa (zE (zA (zH ?_)))))))
 refine At (X:=Nat×Nat) (fun s=>[(0, .slice p l.length cap),(1,str (Ac a)),(2, .func (.func 62) #[] #[]),(8, .int .i64 (l.length:Nat)),(9, .int .i64 (s.1:Nat)),(10, .int .i64 (s.2:Nat))]) (fun _=>[])
  (fun s=>s.1≤below a l∧below a l≤s.2∧s.2≤l.length) (fun s=>s.2-s.1) (0,l.length) ⟨Nat.zero_le _,hB,Nat.le_refl _⟩ ⟨rfl,rfl,rfl,rfl,rfl,rfl,trivial⟩ [] rfl ?_
 rintro⟨i,j⟩ ⟨h1,h2,h3⟩
 have h1:i≤below a l:=h1
 have h2:below a l≤j:=h2
 have h3:j≤l.length:=h3
 refine zA (zA (zB (wP I (wP I (wP I ?_)))))
 by_cases hij:i<j
 ·refine wU 17 true I (dT (by omega)) (Aa (zE (zR I (zI (zE (zH (zA (zB ?_))))))))
  obtain⟨h,hh⟩: ∃h,h=(i+j)/2:=⟨_,rfl⟩
  have hhl:h<l.length:=by omega
  obtain⟨g,off,hpe,hrow⟩:=hR.at_ hhl
  have hrow:=hrow h hhl
  obtain⟨x,hx⟩: ∃x,x=l[h]:=⟨_,rfl⟩
  have hlx:=hlt h hhl
  rw[←hx] at hrow hlx
  subst hpe
  refine wP I (wP I (wP I (wV 20 ((i+j:Nat):Int) I (show w64 ((i:Nat)+(j:Nat))=_ by rw[Ai (by omega) (by omega)];omega) ?_)))
  refine F5 (k:= .u64) (kt:= .i64) (by kernel_rfl) (by kernel_rfl) I I I I ?_
  refine Al 21 (.int .u64 ((i+j:Nat):Int)) I (congrArg (Value.int .u64) (ZN (by omega))) ?_
  refine Zh I I I I I (by decide) ?_
  refine Al 22 (.int .u64 (h:Nat)) I (congrArg (Value.int .u64) (Zw.trans (by rw[hh]))) ?_
  refine F5 (k:= .i64) (kt:= .u64) (by kernel_rfl) (by kernel_rfl) I I I I ?_
  refine wV 23 (h:Nat) I (BF (by omega)) (wP I (Aa (zE (zA (zB (wP I (wP I (wP I ?_))))))))
  refine wJ ?_
  refine wL 0 I I (fun W1 hp=>hrow.hp hp) I (wP I ?_)
  refine AU (capt:=[]) I I I I I I (by kernel_rfl) (fun W1 hp=>Eo x a (hz x (hx▸List.getElem_mem hhl)) W1 (hv.hp hp) (ht.hp hp)) ?_
  refine wP I (wU 31 (decide (x<a)) I (FL x a) (Aa (zE ?_)))
  refine Af I (fun hc=> ?_) (fun hc=> ?_)
  ·have hc:x<a:=of_decide_eq_true hc
   have hhB:=hlx.1 hc
   exact zB (wP I (wP I (wV 33 ((h+1:Nat):Int) I (Ar (by omega)) (wP I (Aa (zN (Aj (h+1,j) ⟨hhB,h2,h3⟩ (by show j-(h+1)<j-i;omega) ⟨I,I,I,I,I,I,O⟩ [] I)))))))
  ·have hc: ¬x<a:=of_decide_eq_false hc
   have hhB:below a l≤h:=Nat.le_of_not_lt fun e=>hc (hlx.2 e)
   exact zB (wP I (wP I (Aa (zN (Aj (i,h) ⟨h1,hhB,by show h≤l.length;omega⟩ (by show h-i<j-i;omega) ⟨I,I,I,I,I,I,O⟩ [] I)))))
 have ei:i=below a l:=by omega
 subst ei
 refine wU 17 false I (dF (by omega)) (Aa (zE (zS I (zJ (zK (zK (zL (zE (zA (zB ?_))))))))))
 by_cases hbl:below a l<l.length
 ·obtain⟨g,off,hpe,hrow⟩:=hR.at_ hbl
  have hrow:=hrow (below a l) hbl
  obtain⟨x,hx⟩: ∃x,x=l[below a l]:=⟨_,rfl⟩
  rw[←hx] at hrow
  subst hpe
  refine wP I (wP I (wP I (wP I (wU 38 true I (dT (by omega)) (wP I (wP I (wP I (wP I ?_))))))))
  refine wJ ?_
  refine wL 0 I I (fun W1 hp=>hrow.hp hp) I (wP I ?_)
  refine AU (capt:=[]) I I I I I I (by kernel_rfl) (fun W1 hp=>Eo x a (hz x (hx▸List.getElem_mem hbl)) W1 (hv.hp hp) (ht.hp hp)) ?_
  refine wP I ?_
  refine wU 47 (decide (l[below a l]? =some a)) I ((VM _ _).trans (decide_eq_decide.2 (by rw[List.getElem?_eq_getElem hbl,Option.some.injEq,hx]))) ?_
  exact wP I (wP I (wP I (Aa (zE (zO (wR2 I I I))))))
 ·have e:l[below a l]? =none:=List.getElem?_eq_none (by omega)
  refine wP I (wP I (wP I (wP I (wU 38 false I (dF (by omega)) (wP I ?_)))))
  iterate 8 refine Ae I I ?_
  exact wP I (wP I (wP I (Aa (zE (zO (wR2 I I (by rw[e];rfl)))))))
end
section
open Go Go.RowKit Go.Am
set_option maxRecDepth 10000
-- BOXES 2
-- CODE2
theorem Wx {W0 W:World} {bxs:List Bx} (hp:Hp W0 bxs W) (k:Nat) {l:List (Nat×Obj)} (hk:nth bxs k=some (AR l)) {g:Nat} {c:List Value} {ty:TypeId} (hm:(g,Obj.cells c.toArray ty (0,0))∈l):An W g 0 c:=by
 rw[AV] at hk
 exact An.of_block (hp.own.cell k _ hk _ hm).1
abbrev EF (l:List Rat) (i:Nat) (a:Rat):List Rat:=l.take i++a::l.drop i
theorem C8 (l:List Rat):(nS l).length=l.length:=List.length_map _
theorem DA (a b:List Rat):nS (a++b)=nS a++nS b:=List.map_append
theorem Q7 {l:List Rat} {i:Nat} (hi:i≤l.length) (a:Rat):(EF l i a).length=l.length+1:=by simp only[EF,List.length_append,List.length_take,List.length_cons,List.length_drop];omega
theorem T9 {l:List Rat} {junk:List Value} (i:Nat) (j:Nat) {u:Value} (h:(nS (l.take i))[j]? =some u):(nS l++junk)[j]? =some u:=by
 have e:nS l=nS (l.take i)++nS (l.drop i):=by rw[←DA,List.take_append_drop]
 have hj:=(List.getElem?_eq_some_iff.1 h).1
 rw[e,List.append_assoc,List.getElem?_append_left hj];exact h
theorem Ki {l:List Rat} {junk:List Value} (i:Nat) (hi:i≤l.length) (j:Nat) {u:Value} (h:(nS (l.drop i))[j]? =some u):(nS l++junk)[i*1+j]? =some u:=by
 have e:nS l=nS (l.take i)++nS (l.drop i):=by rw[←DA,List.take_append_drop]
 have hj:=(List.getElem?_eq_some_iff.1 h).1
 have hl:(nS (l.take i)).length=i:=by rw[C8,List.length_take,Nat.min_eq_left hi]
 rw[e,List.append_assoc,List.getElem?_append_right (by omega),hl,Nat.mul_one,Nat.add_sub_cancel_left,List.getElem?_append_left hj];exact h
theorem GC: ∀l:List Rat,Dp (nS l)=true
 |[]=>rfl
 |_::l=>GC l
theorem HZ {l:List Rat} {i:Nat} (hi:i<l.length):nS l=nS (l.take i)++([str (Ac l[i])]++nS (l.drop (i+1))):=by
 conv=>lhs;rw[←List.take_append_drop i l,List.drop_eq_getElem_cons hi,DA]
 rfl
theorem Oh {W:World} {gs g off n m c1 c2:Nat} {cs xs:List Value} (h1:W.heap[gs]? =some (.cells cs.toArray 25 (0,0))) (h2:W.heap[g]? =some (.cells xs.toArray 25 (0,0))) (hx:0<xs.length) (hne:gs≠g):
  (callFunc 234 #[.slice (some ⟨gs,0,none⟩) n c1, .slice (some ⟨g,off,none⟩) m c2]).run Tryz.prog W= .ok (.value (.bool false)) W:=by
 rw[run_callFunc_extern Tryz.func234 (by kernel_rfl) (by kernel_rfl) (by kernel_rfl) (e:=Extern.SlicesOverlaps.overlaps #[31,31] #[4]) (by kernel_rfl),
  Lib.run_overlaps_apart W 31 4 25 (by kernel_rfl) 1 (fun W=>by kernel_rfl) ⟨gs,0,none⟩ ⟨g,off,none⟩ n c1 m c2 hne 25 25 cs.length xs.length (by simp[World.shape?,h1]) (by simp[World.shape?,h2]) (by omega) (by simp[World.frozen?,h1]) (by simp[World.frozen?,h1])]
 rfl
abbrev zNs:List Value:=[str []]
theorem NU (W:World) (g cap gs cs i:Nat) (junk:List Value) (l:List Rat) (a:Rat) (hi:i≤l.length) (hn:l.length<1099511627776) (hV:(⟨some g,cap,junk⟩:Vec).OK 1 l.length (nS l)) (hg:W.heap[g]? =some (.cells (nS l++junk).toArray 25 (0,0)))
  (hs:W.heap[gs]? =some (.cells [str (Ac a)].toArray 25 (0,0))) (hne:gs≠g):
  Calls Tryz.prog 157 #[.slice (some ⟨g,0,none⟩) l.length cap, .int .i64 (i:Nat), .slice (some ⟨gs,0,none⟩) 1 cs] W fun e W'=> ∃x:Nat×Nat×List Value,e= .returned ((fun x:Nat×Nat×List Value=> .slice (some ⟨x.1,0,none⟩) (l.length+1) x.2.1) x)∧
   (fun x:Nat×Nat×List Value=>(⟨some x.1,x.2.1,x.2.2⟩:Vec).OK 1 (l.length+1) (nS (EF l i a))) x∧IH W W' g ((fun x:Nat×Nat×List Value=>x.1) x) ((fun x:Nat×Nat×List Value=> .cells (nS (EF l i a)++x.2.2).toArray 25 (0,0)) x):=by
 obtain⟨hc1,hc2,hc3⟩:l.length≤cap∧cap≤maxLen∧(nS l).length+junk.length=cap*1:=hV.cap (by simp)
 rw[C8,Nat.mul_one] at hc3
 have hll:=Q7 hi a
 have key:Calls Tryz.prog 157 [.slice (some ⟨g,0,none⟩) l.length cap, .int .i64 (i:Nat), .slice (some ⟨gs,0,none⟩) 1 cs].toArray W fun e W'=> ∃x,e= .returned ((fun x:Nat×Nat×List Value=> .slice (some ⟨x.1,0,none⟩) (l.length+1) x.2.1) x)∧
   (fun x:Nat×Nat×List Value=>(⟨some x.1,x.2.1,x.2.2⟩:Vec).OK 1 (l.length+1) (nS (EF l i a))) x∧Below (AW W).heap.size (AW W) W'∧Au (AW W) W' ((fun x:Nat×Nat×List Value=>[AR (Az W g),⟨x.1,25,nS (EF l i a)++x.2.2,true,none⟩]) x):=by
  refine BU (X:=Nat×Nat×List Value) (val:=fun x=> .slice (some ⟨x.1,0,none⟩) (l.length+1) x.2.1) (Φ:=fun x=>(⟨some x.1,x.2.1,x.2.2⟩:Vec).OK 1 (l.length+1) (nS (EF l i a))) (nb:=fun x=>[AR (Az W g),⟨x.1,25,nS (EF l i a)++x.2.2,true,none⟩]) (Hp.enterT (B:=⟨g,25,nS l++junk,true,none⟩) I hg) Tryz.func157 I I I ?_
  have hrs: ∀ {W1:World} {bx:List Bx},Hp (AW W) bx W1→nth bx 0=some (AR (Az W g))→An W1 gs 0 [str (Ac a)]:=fun hp h0=>Wx hp 0 h0 (CO.2 ⟨hne,hs⟩)
  have hn1:IntKind.i64.wrap (((l.length:Nat):Int)+((1:Nat):Int))=((l.length+1:Nat):Int):=(AG (by omega) (by omega)).trans (by omega)
  refine zA (zB (wP I (Aa (zE (zA (zB (wP I (wP I ?_))))))))
  refine BA i tH I I I I I I I I hi hc1 ?_
  refine Aa (zE (zA (zB (wP I (wP I (wP I (Aa (zE (zA (zA (zB (wP I (wP I ?_)))))))))))))
  refine Aa (zE (zS I (zI (zE (zA (zB (wP I (wP I (wP I (Aa (zE (zA (zA ?_)))))))))))))
  refine zB (wP I (wP I (wP I (Aa (zE ?_)))))
  by_cases hil:i=l.length
  ·refine AP 22 (.bool true) I (congrArg Value.bool (beq_iff_eq.2 (show((i:Nat):Int)=((l.length:Nat):Int) by omega))) ?_
   refine zR I (zA (zB ?_))
   have e:EF l i a=l++[a]:=by rw[EF,List.take_of_length_le (by omega),List.drop_of_length_le (by omega)]
   refine wP I (wP I ?_)
   refine Eh (V:=⟨some g,cap,junk⟩) (news:=[str (Ac a)]) (xs:=nS l) 1 Tryz.vec31 rfl rfl rfl rfl rfl rfl rfl rfl rfl hV rfl (fun W1 hp j u hu=>by rw[Addr.add_none];exact(hrs hp rfl).get j u hu) (fun u hu=>by obtain rfl:=List.mem_singleton.1 hu;rfl) (by simp only[maxLen];omega) (by omega) ?_
   intro V' hV' hp'
   obtain⟨p,cp,jk⟩:=V'
   cases p with
   |none=>exact absurd (hp' rfl) (by decide)
   |some g'=>
    refine wP I (Aa (zE (zO (zP ?_))))
    refine A9 tH I (.tmp I) (g',cp,jk) I (by rw[e,DA];exact hV') fun W1 hp=> ?_
    have hp:Hp (AW W) [AR (Az W g),⟨g',25,(nS l++[str (Ac a)])++jk,true,none⟩] W1:=hp.pick [0,1] (by decide) rfl
    show Au (AW W) W1 [AR (Az W g),⟨g',25,nS (EF l i a)++jk,true,none⟩]
    rw[e,DA]
    exact hp.own
  have hi:i<l.length:=by omega
  refine AP 22 (.bool false) I (congrArg Value.bool (beq_eq_false_iff_ne.2 (show((i:Nat):Int)≠((l.length:Nat):Int) by omega))) ?_
  refine zS I (zI (zE (zA (zA (zB ?_)))))
  iterate 6 refine wP I ?_
  refine Aa (zE ?_)
  refine AP 31 (.bool (decide (cap<l.length+1))) I (congrArg Value.bool ((congrArg (fun z=>decide (z>(cap:Int))) hn1).trans (decide_eq_decide.2 (by omega)))) ?_
  refine Af I (fun h=> ?_) (fun h=> ?_)
  ·have h:cap<l.length+1:=by simpa using h
   refine zA (zB (wP I (wP I ?_)))
   refine Df i tH I I I I I I I I (by omega) ?_
   iterate 5 refine wP I ?_
   refine wV 39 ((l.length+1-i:Nat):Int) I ((congrArg (fun z=>IntKind.i64.wrap (z-(i:Int))) hn1).trans ((AG (by omega) (by omega)).trans (by omega))) ?_
   refine Ob Tryz.vec31 (ku:= .i64) (by kernel_rfl) (a:=⟨g,0,none⟩) (cs:=nS (l.take i)) (l.length+1-i) I I I I I I I I I (by omega) (by omega) (by simp only[maxLen];omega) (by omega) (by rw[C8,List.length_take,Nat.min_eq_left (by omega),Nat.mul_one]) ?_ ?_
   ·intro W1 hp j u hu
    have:=(An.of_bx hp 1 rfl rfl).get j u (T9 i _ hu)
    rw[Addr.add_none];exact this
   intro b cp hb1 hb2
   refine Al 40 (.slice (some ⟨b,0,none⟩) (l.length+1) cp) I (congrArg (fun m=>Value.slice (some ⟨b,0,none⟩) m cp) (by omega)) ?_
   refine wP I (Aa (zE (zA (zB (wP I (wP I ?_))))))
   refine BA i tH I I I I I I I I (by omega) (by omega) ?_
   refine Al 43 (.slice (some ⟨b,i*1,none⟩) (l.length+1-i) (cp-i)) I (congrArg (fun o=>Value.slice (some ⟨b,o,none⟩) (l.length+1-i) (cp-i)) ((if_neg (by omega)).trans (Nat.zero_add _))) ?_
   refine wP I ?_
   have tl:(nS (l.take i)).length=i:=by rw[C8,List.length_take,Nat.min_eq_left (by omega)]
   have dl:(nS (l.drop i)).length=l.length-i:=by rw[C8,List.length_drop]
   have q1:Bt (nS (l.take i)++(Bw zNs (l.length+1-i)++Bw zNs (cp-(i+(l.length+1-i))))) (i*1) [str (Ac a)]=nS (l.take i)++([str (Ac a)]++(Bw zNs (l.length-i)++Bw zNs (cp-(l.length+1)))):=by
    rw[show l.length+1-i=(l.length-i)+1 by omega,show i*1=(nS (l.take i)).length by omega]
    show Bt (nS (l.take i)++((zNs++Bw zNs (l.length-i))++_)) _ _=_
    rw[List.append_assoc,Ht _ zNs _ [str (Ac a)] rfl,show i+(l.length-i+1)=l.length+1 by omega]
   have q2:Bt (nS (l.take i)++([str (Ac a)]++(Bw zNs (l.length-i)++Bw zNs (cp-(l.length+1))))) ((i+1)*1) (nS (l.drop i))=nS (EF l i a)++Bw zNs (cp-(l.length+1)):=by
    have e1:(i+1)*1=(nS (l.take i)++[str (Ac a)]).length:=by rw[List.length_append,tl];show _=i+1;omega
    rw[←List.append_assoc (nS (l.take i)),e1,Ht _ _ _ _ (by rw[Cy,dl];exact Nat.mul_one _),DA]
    show _=(_++([str (Ac a)]++nS (l.drop i)))++_
    simp only[List.append_assoc]
   refine Iz 2 (ys:=nS (l.take i)++([str (Ac a)]++(Bw zNs (l.length-i)++Bw zNs (cp-(l.length+1))))) Tryz.vec31 (m:=1) (cs:=[str (Ac a)]) I I I I I I I I I I (Nat.min_eq_left (by omega)) I ?_ I ?_ q1 ?_
   ·intro W1 hp j u hu
    rw[Addr.add_none];exact(hrs hp rfl).get j u hu
   ·show i*1+1≤(nS (l.take i)++(Bw zNs (l.length+1-i)++Bw zNs (cp-(i+(l.length+1-i))))).length
    rw[List.length_append,List.length_append,Cy,Cy,tl]
    show i*1+1≤i+((l.length+1-i)*1+_)
    omega
   have fit:(i+1)*1+(nS (l.drop i)).length≤(nS (l.take i)++([str (Ac a)]++(Bw zNs (l.length-i)++Bw zNs (cp-(l.length+1))))).length:=by
    rw[List.length_append,List.length_append,List.length_append,Cy,dl,tl]
    show(i+1)*1+(l.length-i)≤i+(1+((l.length-i)*1+_))
    omega
   refine zC (zE ?_)
   repeat refine Av ?_
   refine Bz (X:=Unit) [true,true,true,true,false,true,true,false,false] (fun _=>[(9, .slice (some ⟨b,0,none⟩) (l.length+1) cp)]) (fun _=>[AR (Az W g),⟨b,25,nS (EF l i a)++Bw zNs (cp-(l.length+1)),true,none⟩])
    3 [AR (Az W g),⟨g,25,nS l++junk,true,none⟩,⟨b,25,nS (l.take i)++([str (Ac a)]++(Bw zNs (l.length-i)++Bw zNs (cp-(l.length+1)))),true,none⟩] Tryz.mixed (by kernel_rfl) ?_ ?_
   ·refine qP I ?_
    iterate 5 refine qP I ?_
    refine CK (wX ?_)
    refine RS.cons ?_ (RS.cons ?_ (RS.nil))
    ·refine BA (i+1) tH I I I I I I I ((AG (by omega) (by omega)).trans (by omega)) (by omega) (by omega) ?_;refine Al 50 (.slice (some ⟨b,(i+1)*1,none⟩) (l.length+1-(i+1)) (cp-(i+1))) I (congrArg (fun o=>Value.slice (some ⟨b,o,none⟩) (l.length+1-(i+1)) (cp-(i+1))) ((if_neg (by omega)).trans (Nat.zero_add _))) ?_
     refine Aa (Ag (wX (wZ ?_)))
     refine BA i tH I I I I I I I I (by omega) hc1 ?_;refine Al 53 (.slice (some ⟨g,i*1,none⟩) (l.length-i) (cap-i)) I (congrArg (fun o=>Value.slice (some ⟨g,o,none⟩) (l.length-i) (cap-i)) ((if_neg (by omega)).trans (Nat.zero_add _))) ?_
     refine Aa (Ag (wX (wZ ?_)))
     refine Iz 2 (ys:=nS (EF l i a)++Bw zNs (cp-(l.length+1))) Tryz.vec31 (m:=l.length-i) (cs:=nS (l.drop i)) I I I I I I I I I I (by rw[show l.length+1-(i+1)=l.length-i by omega];exact Nat.min_self _) (by rw[dl,Nat.mul_one]) (fun W1 hp j u hu=>by rw[Addr.add_none];have:=(An.of_bx hp 1 I I).get _ u (Ki i (by omega) j hu);rw[Nat.zero_add] at this;exact this) (GC _) fit q2 ?_
     refine Aa (Ag ?_)
     refine AF I (by kernel_rfl) ?_
     exact A6 () ⟨I,O⟩ [0,2] (by decide) I
    ·refine BA i tH I I I I I I I I (by omega) hc1 ?_;refine Al 53 (.slice (some ⟨g,i*1,none⟩) (l.length-i) (cap-i)) I (congrArg (fun o=>Value.slice (some ⟨g,o,none⟩) (l.length-i) (cap-i)) ((if_neg (by omega)).trans (Nat.zero_add _))) ?_
     refine Aa (Ag (wX (wZ ?_)))
     refine BA (i+1) tH I I I I I I I ((AG (by omega) (by omega)).trans (by omega)) (by omega) (by omega) ?_;refine Al 50 (.slice (some ⟨b,(i+1)*1,none⟩) (l.length+1-(i+1)) (cp-(i+1))) I (congrArg (fun o=>Value.slice (some ⟨b,o,none⟩) (l.length+1-(i+1)) (cp-(i+1))) ((if_neg (by omega)).trans (Nat.zero_add _))) ?_
     refine Aa (Ag (wX (wZ ?_)))
     refine Iz 2 (ys:=nS (EF l i a)++Bw zNs (cp-(l.length+1))) Tryz.vec31 (m:=l.length-i) (cs:=nS (l.drop i)) I I I I I I I I I I (by rw[show l.length+1-(i+1)=l.length-i by omega];exact Nat.min_self _) (by rw[dl,Nat.mul_one]) (fun W1 hp j u hu=>by rw[Addr.add_none];have:=(An.of_bx hp 1 I I).get _ u (Ki i (by omega) j hu);rw[Nat.zero_add] at this;exact this) (GC _) fit q2 ?_
     refine Aa (Ag ?_)
     refine AF I (by kernel_rfl) ?_
     exact A6 () ⟨I,O⟩ [0,2] (by decide) I
   intro _
   refine zE (zA (zB (wP I (wP I (Aa (zE (zO (zP ?_))))))))
   refine A9 tH rfl (.tmp rfl) (b,cp,Bw zNs (cp-(l.length+1))) rfl ⟨by rw[C8,hll,Nat.mul_one],(fun h=>by cases h),fun _=>⟨by show l.length+1≤cp;omega,hb2, ?_⟩⟩ fun W1 hp=>(hp.pick (l:=[AR (Az W g),⟨b,25,nS (EF l i a)++Bw zNs (cp-(l.length+1)),true,none⟩]) [0,1] (by decide) rfl).own
   rw[C8,hll,Cy]
   show(l.length+1)+(cp-(l.length+1))*1=cp*1
   omega
  have h:l.length+1≤cap:=by simp at h;omega
  have hjl:junk.length=cap-l.length:=by omega
  have tl:(nS (l.take i)).length=i:=by rw[C8,List.length_take,Nat.min_eq_left (by omega)]
  have dl:(nS (l.drop i)).length=l.length-i:=by rw[C8,List.length_drop]
  refine zI (zE (zA (zB (wP I (wP I (wP I (wP I ?_)))))))
  refine Df (l.length+1) tH I I I I I I I hn1 h ?_
  refine wP I (Aa (zE (zA (zA (zB ?_)))))
  iterate 5 refine wP I ?_
  have hi1:IntKind.i64.wrap (((i:Nat):Int)+((1:Nat):Int))=((i+1:Nat):Int):=(AG (by omega) (by omega)).trans (by omega)
  refine BA (i+1) tH I I I I I I I hi1 (by omega) h ?_
  refine Zu (g:=234) (capt:=[]) (v:= .bool false) I I I I I I (fun W1 hp=>Oh (hp.own.cell 0 (AR (Az W g)) I (gs, .cells [str (Ac a)].toArray 25 (0,0)) (CO.2 ⟨hne,hs⟩)).1 (hp.at_ 1 _ I I).1 (by rw[List.length_append,C8];omega) hne) ?_
  refine wP I (Aa (zE (zR I ?_)))
  have q3:Bt (nS l++junk) ((i+1)*1) (nS (l.drop i))=nS (l.take i)++([str (Ac l[i])]++(nS (l.drop i)++junk.drop 1)):=by
   have e1:(i+1)*1=(nS (l.take i)++[str (Ac l[i])]).length:=by rw[List.length_append,tl];show _=i+1;omega
   have e2:nS l++junk=(nS (l.take i)++[str (Ac l[i])])++((nS (l.drop (i+1))++junk.take 1)++junk.drop 1):=by
    rw[HZ hi]
    simp only[List.append_assoc,List.take_append_drop]
   rw[e1,e2,Ht _ _ _ _ (by rw[List.length_append,List.length_take,C8,dl,List.length_drop];omega),List.append_assoc]
  have q4:Bt (nS (l.take i)++([str (Ac l[i])]++(nS (l.drop i)++junk.drop 1))) (i*1) [str (Ac a)]=nS (EF l i a)++junk.drop 1:=by
   rw[show i*1=(nS (l.take i)).length by omega,Ht _ [str (Ac l[i])] _ [str (Ac a)] rfl,DA]
   show _=(_++([str (Ac a)]++nS (l.drop i)))++_
   simp only[List.append_assoc]
  have fit:(i+1)*1+(nS (l.drop i)).length≤(nS l++junk).length:=by
   rw[dl,List.length_append,C8,hjl]
   omega
  have fit2:i*1+[str (Ac a)].length≤(nS (l.take i)++([str (Ac l[i])]++(nS (l.drop i)++junk.drop 1))).length:=by
   rw[List.length_append,List.length_append,tl]
   show i*1+1≤i+(1+_)
   omega
  repeat refine Av ?_
  refine Bz (X:=Unit) [true,true,true,true,false,true,true,false,false] (fun _=>[(0, .slice (some ⟨g,0,none⟩) (l.length+1) cap),(1, .int .i64 (i:Nat)),(2, .slice (some ⟨gs,0,none⟩) 1 cs)]) (fun _=>[AR (Az W g),⟨g,25,nS (l.take i)++([str (Ac l[i])]++(nS (l.drop i)++junk.drop 1)),true,none⟩])
   3 [AR (Az W g),⟨g,25,nS l++junk,true,none⟩] Tryz.mixed (by kernel_rfl) ?_ ?_
  ·refine qP I ?_
   iterate 5 refine qP I ?_
   refine CK (wX ?_)
   refine RS.cons ?_ (RS.cons ?_ (RS.nil))
   ·refine BA (i+1) tH I I I I I I I hi1 (by omega) h ?_;refine Al 73 (.slice (some ⟨g,(i+1)*1,none⟩) (l.length+1-(i+1)) (cap-(i+1))) I (congrArg (fun o=>Value.slice (some ⟨g,o,none⟩) (l.length+1-(i+1)) (cap-(i+1))) ((if_neg (by omega)).trans (Nat.zero_add _))) ?_
    refine Aa (Ag (wX (wZ ?_)))
    refine BA i tH I I I I I I I I (by omega) h ?_;refine Al 76 (.slice (some ⟨g,i*1,none⟩) (l.length+1-i) (cap-i)) I (congrArg (fun o=>Value.slice (some ⟨g,o,none⟩) (l.length+1-i) (cap-i)) ((if_neg (by omega)).trans (Nat.zero_add _))) ?_
    refine Aa (Ag (wX (wZ ?_)))
    refine Iz 1 (ys:=nS (l.take i)++([str (Ac l[i])]++(nS (l.drop i)++junk.drop 1))) Tryz.vec31 (m:=l.length-i) (cs:=nS (l.drop i)) I I I I I I I I I I (by rw[show l.length+1-(i+1)=l.length-i by omega];exact Nat.min_eq_right (by omega)) (by rw[dl,Nat.mul_one]) (fun W1 hp j u hu=>by rw[Addr.add_none];have:=(An.of_bx hp 1 I I).get _ u (Ki i (by omega) j hu);rw[Nat.zero_add] at this;exact this) (GC _) fit q3 ?_
    refine Aa (Ag ?_)
    refine AF I (by kernel_rfl) ?_
    exact A6 () ⟨I,I,I,O⟩ [0,1] (by decide) I
   ·refine BA i tH I I I I I I I I (by omega) h ?_;refine Al 76 (.slice (some ⟨g,i*1,none⟩) (l.length+1-i) (cap-i)) I (congrArg (fun o=>Value.slice (some ⟨g,o,none⟩) (l.length+1-i) (cap-i)) ((if_neg (by omega)).trans (Nat.zero_add _))) ?_
    refine Aa (Ag (wX (wZ ?_)))
    refine BA (i+1) tH I I I I I I I hi1 (by omega) h ?_;refine Al 73 (.slice (some ⟨g,(i+1)*1,none⟩) (l.length+1-(i+1)) (cap-(i+1))) I (congrArg (fun o=>Value.slice (some ⟨g,o,none⟩) (l.length+1-(i+1)) (cap-(i+1))) ((if_neg (by omega)).trans (Nat.zero_add _))) ?_
    refine Aa (Ag (wX (wZ ?_)))
    refine Iz 1 (ys:=nS (l.take i)++([str (Ac l[i])]++(nS (l.drop i)++junk.drop 1))) Tryz.vec31 (m:=l.length-i) (cs:=nS (l.drop i)) I I I I I I I I I I (by rw[show l.length+1-(i+1)=l.length-i by omega];exact Nat.min_eq_right (by omega)) (by rw[dl,Nat.mul_one]) (fun W1 hp j u hu=>by rw[Addr.add_none];have:=(An.of_bx hp 1 I I).get _ u (Ki i (by omega) j hu);rw[Nat.zero_add] at this;exact this) (GC _) fit q3 ?_
    refine Aa (Ag ?_)
    refine AF I (by kernel_rfl) ?_
    exact A6 () ⟨I,I,I,O⟩ [0,1] (by decide) I
  intro _
  refine zE (zA (zB (wP I (wP I ?_))))
  refine BA i tH I I I I I I I I (by omega) h ?_
  refine Al 80 (.slice (some ⟨g,i*1,none⟩) (l.length+1-i) (cap-i)) I (congrArg (fun o=>Value.slice (some ⟨g,o,none⟩) (l.length+1-i) (cap-i)) ((if_neg (by omega)).trans (Nat.zero_add _))) ?_
  refine wP I ?_
  refine Iz 1 (ys:=nS (EF l i a)++junk.drop 1) Tryz.vec31 (m:=1) (cs:=[str (Ac a)]) I I I I I I I I I I (Nat.min_eq_left (by omega)) I (fun W1 hp j u hu=>by rw[Addr.add_none];exact(hrs hp I).get j u hu) I (fit2) q4 ?_
  refine zC (zE (zA (zB (wP I (wP I (Aa (zE (zO (zP ?_)))))))))
  refine A9 tH rfl (.tmp rfl) (g,cap,junk.drop 1) rfl ⟨by rw[C8,hll,Nat.mul_one],(fun h=>by cases h),fun _=>⟨h,hc2, ?_⟩⟩ fun W1 hp=>(hp.pick (l:=[AR (Az W g),⟨g,25,nS (EF l i a)++junk.drop 1,true,none⟩]) [0,1] (by decide) rfl).own
  rw[C8,hll,List.length_drop]
  show(l.length+1)+(junk.length-1)=cap*1
  omega
 refine key.mono ?_
 rintro e W' ⟨x,he,hx,hb,hn'⟩
 exact⟨x,he,hx,EP hg I hb hn'⟩
theorem NJ (W:World) (gs cs:Nat) (a:Rat) (hs:An W gs 0 [str (Ac a)]):
  Ad Tryz.prog 157 #[.slice none 0 0, .int .i64 0, .slice (some ⟨gs,0,none⟩) 1 cs] W (fun V:Vec=>V.val 1) (fun V=>V.OK 1 1 (nS [a])∧V.p≠none) (fun V=>[V.bx 25 (nS [a])]):=by
 refine Ab (args:=[.slice none 0 0, .int .i64 0, .slice (some ⟨gs,0,none⟩) 1 cs]) Tryz.func157 I I I ?_
 refine zA (zB (wP I (Aa (zE (zA (zB (wP I ?_)))))))
 refine E7 ?_
 refine wP I ?_
 refine RI tH I I I I I I I ?_
 refine Aa (zE (zA (zB (wP I (wP I (wP I (Aa (zE (zA (zA (zB (wP I (wP I ?_)))))))))))))
 refine Aa (zE (zS I (zI (zE (zA (zB (wP I (wP I (wP I (Aa (zE (zA (zA ?_)))))))))))))
 refine zB (wP I (wP I (wP I (Aa (zE (zR I (zA (zB (wP I (wP I ?_))))))))))
 refine Eh (V:=Vec.empty) (news:=[str (Ac a)]) (xs:=[]) 0 Tryz.vec31 rfl rfl rfl rfl rfl rfl rfl rfl rfl (Vec.OK.empty 1) rfl (fun W1 hp j u hu=>by rw[Addr.add_none];exact(hs.hp hp).get j u hu) (fun u hu=>by obtain rfl:=List.mem_singleton.1 hu;rfl) (by simp only[maxLen];omega) (by omega) ?_
 intro V' hV' hp'
 exact wP I (Aa (zE (zO (zP (A9 tH I (.tmp I) V' I ⟨hV',fun e=>absurd (hp' e) (by decide)⟩ fun W1 hp=>Au.of_hp (hp.pick (l:=[V'.bx 25 (nS [a])]) [0] (by decide) I))))))
-- BOXES 3
-- CODE2
def mrg (c:Bool) (l:List Rat) (a:Rat):List Rat:=if c=true then CD a l else l
theorem VT {W0 W:World} {bxs:List Bx} (hp:Hp W0 bxs W) (k:Nat) {g:Nat} {l:List Rat} {junk:List Value} (hk:nth bxs k=some ⟨g,25,nS l++junk,true,none⟩):Tz W (some ⟨g,0,none⟩) l:=
 .inr ⟨g,0,rfl,fun i hi=>CZ hp k (A:=nS (l.take i)) (C:=nS (l.drop (i+1))++junk) hk (by rw[HZ hi];simp only[List.append_assoc]) (by rw[C8,List.length_take];omega)⟩
abbrev fnM (cf:Nat) (capt:List Value):Value:= .func (.func cf) #[] capt.toArray
theorem Lu (W:World) (g cap:Nat) (junk:List Value) (l:List Rat) (a:Rat) (cf:Nat) (capt:List Value) (c:Bool) (hE:Bh Tryz.prog cf=true) (hn:l.length<1099511627776) (hV:(⟨some g,cap,junk⟩:Vec).OK 1 l.length (nS l))
  (hs:l.Pairwise (· < ·)) (hz: ∀x∈l,Sz2 x a) (hg:W.heap[g]? =some (.cells (nS l++junk).toArray 25 (0,0)))
  (hf: ∀W',HS W W' g→(BP W'∧AM W')∧Ad Tryz.prog cf ([str (Ac a)]++capt).toArray W' (fun _:Unit=> .bool c) (fun _=>True) (fun _=>[])):
  Calls Tryz.prog 100 #[.slice (some ⟨g,0,none⟩) l.length cap,str (Ac a),fnM cf capt] W fun e W'=> ∃x:Nat×Nat×List Value,e= .returned ((fun x:Nat×Nat×List Value=> .slice (some ⟨x.1,0,none⟩) (mrg c l a).length x.2.1) x)∧
   (fun x:Nat×Nat×List Value=>(⟨some x.1,x.2.1,x.2.2⟩:Vec).OK 1 (mrg c l a).length (nS (mrg c l a))) x∧IH W W' g ((fun x:Nat×Nat×List Value=>x.1) x) ((fun x:Nat×Nat×List Value=> .cells (nS (mrg c l a)++x.2.2).toArray 25 (0,0)) x):=by
 have key:Calls Tryz.prog 100 [.slice (some ⟨g,0,none⟩) l.length cap,str (Ac a),fnM cf capt].toArray W fun e W'=> ∃x,e= .returned ((fun x:Nat×Nat×List Value=> .slice (some ⟨x.1,0,none⟩) (mrg c l a).length x.2.1) x)∧
   (fun x:Nat×Nat×List Value=>(⟨some x.1,x.2.1,x.2.2⟩:Vec).OK 1 (mrg c l a).length (nS (mrg c l a))) x∧Below (AW W).heap.size (AW W) W'∧Au (AW W) W' ((fun x:Nat×Nat×List Value=>[AR (Az W g),⟨x.1,25,nS (mrg c l a)++x.2.2,true,none⟩]) x):=by
  refine BU (X:=Nat×Nat×List Value) (val:=fun x=> .slice (some ⟨x.1,0,none⟩) (mrg c l a).length x.2.1) (Φ:=fun x=>(⟨some x.1,x.2.1,x.2.2⟩:Vec).OK 1 (mrg c l a).length (nS (mrg c l a))) (nb:=fun x=>[AR (Az W g),⟨x.1,25,nS (mrg c l a)++x.2.2,true,none⟩]) (Hp.enterT (B:=⟨g,25,nS l++junk,true,none⟩) I hg) Tryz.func100 I I I ?_
  have hk: ∀ {W1:World},Hp (AW W) [AR (Az W g),⟨g,25,nS l++junk,true,none⟩] W1→HS W W1 g:=fun hp=>H4 hg ⟨_,List.mem_cons_self ..⟩ hp
  refine zA (zB (wP I (Aa (zE (zA (zA (zB (wP I (wP I ?_)))))))))
  refine AU (capt:=capt) I I I I I I hE (fun W1 hp=>(hf W1 (hk hp)).2) ?_
  cases c with
  |false=>
   have e:mrg false l a=l:=rfl
   exact wP I (Aa (zE (zR I (zA (zB (wP I (wP I (Aa (zE (zO (zP (A9 tH I (.tmp I) (g,cap,junk) I hV fun W1 hp=>(hp.pick (l:=[AR (Az W g),⟨g,25,nS l++junk,true,none⟩]) [0,1] (by decide) I).own))))))))))))
  |true=>
   have e:mrg true l a=CD a l:=rfl
   refine wP I (Aa (zE (zS I (zI (zE (zA (zB (wP I (wP I (wC I I (fun W1 hp=>IJ (some ⟨g,0,none⟩) cap l a W1 (by omega) (VT hp 1 I) hs hz (hf W1 (hk hp)).1.1 (hf W1 (hk hp)).1.2) ?_))))))))))
   iterate 5 refine wP I ?_
   refine Aa (zE (zA (zA (zB (wP I (Aa (zE ?_)))))))
   refine Af I (fun h=> ?_) (fun h=> ?_)
   ·have h:l[below a l]? =some a:=of_decide_eq_true h
    have e2:CD a l=l:=by rw[Ph hs,if_pos h]
    refine zA (zB (wP I (wP I (Aa (zE (zO (zP ?_)))))))
    rw[e,e2]
    exact A9 tH I (.tmp I) (g,cap,junk) I hV fun W1 hp=>(hp.pick (l:=[AR (Az W g),⟨g,25,nS l++junk,true,none⟩]) [0,1] (by decide) I).own
   ·have h: ¬l[below a l]? =some a:=of_decide_eq_false h
    have e2:CD a l=EF l (below a l) a:=by rw[Ph hs,if_neg h]
    refine zI (zE (zA (zB (wP I (wP I (wP I ?_))))))
    refine As Tryz.hZ tH I I I I I I I I I I I fun bS=> ?_
    refine CU 1 (X:=Nat×Nat×List Value) (val:=fun x=> .slice (some ⟨x.1,0,none⟩) (l.length+1) x.2.1) (Φ:=fun x=>(⟨some x.1,x.2.1,x.2.2⟩:Vec).OK 1 (l.length+1) (nS (EF l (below a l) a))) (L1:=[]) (L2:=[]) (B:=⟨g,25,nS l++junk,true,none⟩) (fun x=>⟨x.1,25,nS (EF l (below a l) a)++x.2.2,true,none⟩) I I I I I I (by kernel_rfl) I I (fun _ _=>rfl) (fun W1 hp=> ?_) ?_
    ·have c1:=(hp.own.cell 1 _ rfl _ (List.mem_cons_self ..)).1
     have c2:=(hp.own.cell 2 _ rfl _ (List.mem_cons_self ..)).1
     have hne:=hp.own.apart 2 1 _ _ rfl rfl (by decide) _ (List.mem_cons_self ..) _ (List.mem_cons_self ..)
     exact NU W1 g cap bS 1 (below a l) junk l a (Jy a l) hn hV c1 c2 hne
    rintro⟨g',cp,jk⟩ hx
    have hx:(⟨some g',cp,jk⟩:Vec).OK 1 (l.length+1) (nS (EF l (below a l) a)):=hx
    refine wP I (Aa (zE (zO ?_)))
    have el:(EF l (below a l) a).length=l.length+1:=Q7 (Jy a l) a
    rw[e,e2]
    refine A9 tH I (.tmp I) (g',cp,jk) (by show Value.slice (some ⟨g',0,none⟩) (l.length+1) cp= .slice (some ⟨g',0,none⟩) (EF l (below a l) a).length cp;rw[el]) (by show(⟨some g',cp,jk⟩:Vec).OK 1 (EF l (below a l) a).length _;rw[el];exact hx) fun W1 hp=>(hp.pick (l:=[AR (Az W g),⟨g',25,nS (EF l (below a l) a)++jk,true,none⟩]) [0,1] (by decide) I).own
 refine key.mono ?_
 rintro e W' ⟨x,he,hx,hb,hn'⟩
 exact⟨x,he,hx,EP hg I hb hn'⟩
theorem PV (W:World) (a:Rat) (cf:Nat) (capt:List Value) (c:Bool) (hE:Bh Tryz.prog cf=true) (hv:BP W) (ht:AM W)
  (hf: ∀W',Below W.heap.size W W'→Ad Tryz.prog cf ([str (Ac a)]++capt).toArray W' (fun _:Unit=> .bool c) (fun _=>True) (fun _=>[])):
  Ad Tryz.prog 100 #[.slice none 0 0,str (Ac a),fnM cf capt] W (fun V:Vec=>V.val (mrg c [] a).length) (fun V=>V.OK 1 (mrg c [] a).length (nS (mrg c [] a))) (fun V=>[V.bx 25 (nS (mrg c [] a))]):=by
 refine Ab (args:=[.slice none 0 0,str (Ac a),fnM cf capt]) Tryz.func100 I I I ?_
 refine zA (zB (wP I (Aa (zE (zA (zA (zB (wP I (wP I ?_)))))))))
 refine AU (capt:=capt) I I I I I I hE (fun W1 hp=>hf W1 hp.below) ?_
 cases c with
 |false=>
  refine wP I (Aa (zE (zR I (zA (zB (wP I ?_))))))
  refine E7 ?_
  exact wP I (Aa (zE (zO (zP (A9 tH I (.tmp I) Vec.empty I (Vec.OK.empty 1) fun W1 hp=>Au.of_hp (hp.pick (l:=[Vec.empty.bx 25 (nS [])]) [0] (by decide) I))))))
 |true=>
  refine wP rfl (Aa (zE (zS rfl (zI (zE (zA (zB (wP rfl (wP rfl (wC rfl rfl (fun W1 hp=>IJ none 0 [] a W1 (by decide) (.inl rfl) List.Pairwise.nil (fun x hx=>by cases hx) (hv.hp hp) (ht.hp hp)) ?_))))))))))
  iterate 5 refine wP I ?_
  refine Aa (zE (zA (zA (zB (wP I (Aa (zE (zS I (zI (zE (zA (zB (wP I (wP I (wP I ?_)))))))))))))))
  refine As Tryz.hZ tH I I I I I I I I I I I fun bS=> ?_
  refine wD (X:=Vec) I I (fun W1 hp=>NJ W1 bS 1 a (An.of_bx hp 0 I I)) ?_
  intro V hV
  exact wP I (Aa (zE (zO (A9 tH I (.tmp I) V I hV.1 fun W1 hp=>Au.of_hp (hp.pick (l:=[V.bx 25 (nS [a])]) [1] (by decide) I)))))
end
end Go.Proofs.YtmblgcglonikiaaGreatDoor
