/-
  Lemmas that the theorem levelStarts_upto_card needs (part 6 of 8).
-/
import Derived.Test.YtlagebbefnnnnaaGreatDoorSse
set_option maxHeartbeats 64000000
namespace Go.Proofs.YtlagebbefnnnnaaGreatDoor
section
open Go Go.RowKit Go.Am
set_option maxRecDepth 10000
-- BOXES 2
def IW (rs:List (List Sd)) (r i s k:Nat):Bool:=
 !((r==s)&&(decide (k≤i)||(k==i+1)||((i==0)&&(k+1==(rg rs r).length))))&&DT (sd (rg rs r) i) (sd (rg rs r) (nxt (rg rs r).length i)) (sd (rg rs s) k) (sd (rg rs s) (nxt (rg rs s).length k))
theorem KQ {rs:List (List Sd)} {r i s k:Nat} (hr:r<rs.length) (hi:i<(rg rs r).length) (hs:s<rs.length) (hk:k<(rg rs s).length) (h:IW rs r i s k=true):crs rs=true:=by
 unfold IW at h
 obtain⟨h1,h2⟩:=Bool.and_eq_true_iff.1 h
 cases hc:crs rs with
 |true=>rfl
 |false=>
  have:=(NA rs).1 hc r i s k hr hi hs hk (fun hn=>by
   obtain⟨rfl,hn⟩:=hn
   rw[Gf hi,Gf hk] at hn
   have:((r==r)&&(decide (k≤i)||(k==i+1)||((i==0)&&(k+1==(rg rs r).length))))=true:=by
    simp only[beq_self_eq_true,Bool.true_and,Bool.or_eq_true,Bool.and_eq_true,decide_eq_true_eq,beq_iff_eq]
    revert hn
    split<;>split<;>intro hn<;>omega
   rw[this] at h1;cases h1)
  rw[show DT (bsd rs (r,i)) (esd rs (r,i)) (bsd rs (s,k)) (esd rs (s,k))=true from h2] at this
  cases this
theorem Sw {rs:List (List Sd)} (h: ∀r i s k,r<rs.length→i<(rg rs r).length→s<rs.length→k<(rg rs s).length→r≤s→IW rs r i s k=false):crs rs=false:=by
 have one: ∀r i s k,r<rs.length→i<(rg rs r).length→s<rs.length→k<(rg rs s).length→(r<s∨(r=s∧i<k))→ ¬near rs r i s k→DT (bsd rs (r,i)) (esd rs (r,i)) (bsd rs (s,k)) (esd rs (s,k))=false:=fun r i s k hr hi hs hk ho hn=>by
  have hb:=h r i s k hr hi hs hk (by omega)
  unfold IW at hb
  have:((r==s)&&(decide (k≤i)||(k==i+1)||((i==0)&&(k+1==(rg rs r).length))))=false:=by
   by_cases e:r=s
   ·subst e
    have hik:i<k:=by omega
    rw[beq_self_eq_true,Bool.true_and,Bool.eq_false_iff]
    intro h2
    refine hn ⟨rfl, ?_⟩
    rw[Gf hi,Gf hk]
    simp only[Bool.or_eq_true,Bool.and_eq_true,decide_eq_true_eq,beq_iff_eq] at h2
    split<;>split<;>omega
   ·rw[beq_eq_false_iff_ne.2 e];rfl
  rw[this,Bool.not_false,Bool.true_and] at hb
  exact hb
 refine(NA rs).2 fun r i s k hr hi hs hk hn=> ?_
 by_cases ho:r<s∨(r=s∧i<k)
 ·exact one r i s k hr hi hs hk ho hn
 ·rw[Jy]
  have hne: ¬(r=s∧i=k):=fun⟨e1,e2⟩=>hn ⟨e1, .inl e2⟩
  refine one s k r i hs hk hr hi (by omega) fun hn2=>hn ?_
  obtain⟨rfl,hn2⟩:=hn2
  exact⟨rfl,by omega⟩
theorem Ll (W:World) (p:Option Addr) (cap:Nat) (rs:List (List Sd)) (hn:rs.length<4611686018427387904) (hl: ∀l∈rs,l.length<4611686018427387904) (hR:Bz W p rs):
  Aj Tryz.prog 48 #[slv p rs.length cap] W (fun _:Unit=> .bool (crs rs)) (fun _=>True) (fun _=>[]):=by
 refine Ad (args:=[slv p rs.length cap]) Tryz.func48 rfl rfl rfl ?_
 refine zA (zB (wP rfl (Aa (zE (zA (zA (zB (wP rfl (Aa (zE (zH ?_)))))))))))
 refine Av (X:=Nat) (fun r=>[(0,slv p rs.length cap),(3, .int .i64 (r:Nat))]) (fun _=>[])
  (fun r=>r≤rs.length∧ ∀r' i s k,r'<r→r'<rs.length→i<(rg rs r').length→s<rs.length→k<(rg rs s).length→r'≤s→IW rs r' i s k=false) (fun r=>rs.length-r) 0 ⟨Nat.zero_le _,fun r' i s k h=>absurd h (Nat.not_lt_zero _)⟩ ⟨rfl,rfl,trivial⟩ [] rfl ?_
 rintro r ⟨hr,P1⟩
 refine zA (zA (zB (wP rfl (wP rfl (wP rfl (wP rfl (Aa (zE ?_))))))))
 refine Ak rfl (fun h=> ?_) (fun h=> ?_)
 rotate_left
 ·have e:r=rs.length:=by simp at h;omega
  subst e
  refine zJ (zK (zK (zL (zE (zA (zB (wP rfl (Aa (zE (zO ?_))))))))))
  have hc:crs rs=false:=Sw fun r' i s k h1 h2 h3 h4 h5=>P1 r' i s k h1 h1 h2 h3 h4 h5
  exact Af tH rfl (.tmp rfl) () (by rw[hc]) trivial fun W _=>Ae.nil _ _
 have hr:r<rs.length:=by simp at h;omega
 clear h
 obtain⟨b,off,rfl,hrow⟩:=hR.row hr
 obtain⟨q,cap2,hq1,hq2⟩:=hrow r hr
 have hlr:=hl _ (List.mem_of_getElem? (Bf hr))
 refine zI (zE (zA (zH (zA (zB (wP rfl (Aa (zE (zH ?_)))))))))
 refine Av (X:=Nat) (fun i=>[(0,slv (some ⟨b,off,none⟩) rs.length cap),(3, .int .i64 (r:Nat)),(4, .int .i64 (i:Nat))]) (fun _=>[])
  (fun i=>i≤(rg rs r).length∧ ∀i' s k,i'<i→i'<(rg rs r).length→s<rs.length→k<(rg rs s).length→r≤s→IW rs r i' s k=false) (fun i=>(rg rs r).length-i) 0 ⟨Nat.zero_le _,fun i' s k h=>absurd h (Nat.not_lt_zero _)⟩ ⟨rfl,rfl,rfl,trivial⟩ [] rfl ?_
 rintro i ⟨hi,P2⟩
 refine zA (zA (zB (wP rfl (wP rfl (wP rfl ?_)))))
 refine wJ ?_
 refine Aw rfl rfl rfl rfl (fun W hp=>Ag.load 0 tH rfl ((fun W hp=>hq1.hp hp) W hp) rfl) ?_
 refine wP rfl (wP rfl (Aa (zE ?_)))
 refine Ak rfl (fun h=> ?_) (fun h=> ?_)
 rotate_left
 ·have e:i=(rg rs r).length:=by simp at h;omega
  subst e
  refine zJ (zK (zK (zL (zN (zE (zB (wP rfl (wP rfl (wP rfl (Aa ?_))))))))))
  refine As (r+1) ⟨hr,fun r' i' s k h0 h1 h2 h3 h4 h5=> ?_⟩ (by omega) ⟨rfl,congrArg (fun z=>some (Value.int .i64 z)) (AI (x:=(r:Int)+1) (by omega) (by omega)),trivial⟩ [] rfl
  by_cases e:r'=r
  ·subst e;exact P2 i' s k h2 h2 h3 h4 h5
  ·exact P1 r' i' s k (by omega) h1 h2 h3 h4 h5
 have hi:i<(rg rs r).length:=by simp at h;omega
 clear h
 refine zI (zE (zA (zH (zA (zB (wP rfl (wP rfl (Aa (zE (zH ?_))))))))))
 refine Av (X:=Nat) (fun s=>[(0,slv (some ⟨b,off,none⟩) rs.length cap),(3, .int .i64 (r:Nat)),(4, .int .i64 (i:Nat)),(5, .int .i64 (s:Nat))]) (fun _=>[])
  (fun s=>s≤rs.length∧r≤s∧ ∀s' k,s'<s→s'<rs.length→k<(rg rs s').length→r≤s'→IW rs r i s' k=false) (fun s=>rs.length-s) r ⟨by omega,Nat.le_refl _,fun s' k h0 _ _ h5=>absurd h0 (by omega)⟩ ⟨rfl,rfl,rfl,rfl,trivial⟩ [] rfl ?_
 rintro s ⟨hs,hrs,P3⟩
 refine zA (zA (zB (wP rfl (wP rfl (wP rfl (wP rfl (Aa (zE ?_))))))))
 refine Ak rfl (fun h=> ?_) (fun h=> ?_)
 rotate_left
 ·have e:s=rs.length:=by simp at h;omega
  subst e
  refine zJ (zK (zK (zL (zN (zE (zB (wP rfl (wP rfl (wP rfl (Aa ?_))))))))))
  refine As (i+1) ⟨hi,fun i' s k h0 h2 h3 h4 h5=> ?_⟩ (by omega) ⟨rfl,rfl,congrArg (fun z=>some (Value.int .i64 z)) (AI (x:=(i:Int)+1) (by omega) (by omega)),trivial⟩ [] rfl
  by_cases e:i'=i
  ·subst e;exact P3 s k h3 h3 h4 h5
  ·exact P2 i' s k (by omega) h2 h3 h4 h5
 have hs:s<rs.length:=by simp at h;omega
 clear h
 obtain⟨q',cap3,hq3,hq4⟩:=hrow s hs
 have hls:=hl _ (List.mem_of_getElem? (Bf hs))
 refine zI (zE (zA (zH (zA (zB (wP rfl (Aa (zE (zH ?_)))))))))
 refine Av (X:=Nat) (fun k=>[(0,slv (some ⟨b,off,none⟩) rs.length cap),(3, .int .i64 (r:Nat)),(4, .int .i64 (i:Nat)),(5, .int .i64 (s:Nat)),(6, .int .i64 (k:Nat))]) (fun _=>[])
  (fun k=>k≤(rg rs s).length∧ ∀k',k'<k→IW rs r i s k'=false) (fun k=>(rg rs s).length-k) 0 ⟨Nat.zero_le _,fun k' h=>absurd h (Nat.not_lt_zero _)⟩ ⟨rfl,rfl,rfl,rfl,rfl,trivial⟩ [] rfl ?_
 rintro k ⟨hk,P4⟩
 refine zA (zA (zB (wP rfl (wP rfl (wP rfl ?_)))))
 refine wJ ?_
 refine Aw rfl rfl rfl rfl (fun W hp=>Ag.load 0 tH rfl ((fun W hp=>hq3.hp hp) W hp) rfl) ?_
 refine wP rfl (wP rfl (Aa (zE ?_)))
 refine Ak rfl (fun h=> ?_) (fun h=> ?_)
 rotate_left
 ·have e:k=(rg rs s).length:=by simp at h;omega
  subst e
  refine zJ (zK (zK (zL (zN (zE (zB (wP rfl (wP rfl (wP rfl (Aa ?_))))))))))
  refine As (s+1) ⟨hs,by omega,fun s' k h0 h3 h4 h5=> ?_⟩ (by omega) ⟨rfl,rfl,rfl,congrArg (fun z=>some (Value.int .i64 z)) (AI (x:=(s:Int)+1) (by omega) (by omega)),trivial⟩ [] rfl
  by_cases e:s'=s
  ·subst e;exact P4 k h4
  ·exact P3 s' k (by omega) h3 h4 h5
 have hk:k<(rg rs s).length:=by simp at h;omega
 clear h
 have fin:IW rs r i s k=false→ ∀k',k'<k+1→IW rs r i s k'=false:=fun h k' hk'=>by
  by_cases e:k'=k
  ·subst e;exact h
  ·exact P4 k' (by omega)
 have e1: ∀z:Int,z=(k:Int)+1→w64 z=((k+1:Nat):Int):=fun z h=>by rw[h,An (by omega) (by omega)];omega
 -- the side is left out
 have skip:((r==s)&&(decide (k≤i)||(k==i+1)||((i==0)&&(k+1==(rg rs r).length))))=true→IW rs r i s k=false:=fun h=>by unfold IW;rw[h];rfl
 have test:((r==s)&&(decide (k≤i)||(k==i+1)||((i==0)&&(k+1==(rg rs r).length))))=false→IW rs r i s k=DT (sd (rg rs r) i) (sd (rg rs r) (nxt (rg rs r).length i)) (sd (rg rs s) k) (sd (rg rs s) (nxt (rg rs s).length k)):=fun h=>by unfold IW;rw[h];rfl
 obtain⟨C1,c1⟩: ∃b,((r:Int)==(s:Int))=b:=⟨_,rfl⟩
 obtain⟨C2,c2⟩: ∃b,decide ((k:Int)≤(i:Int))=b:=⟨_,rfl⟩
 obtain⟨C3,c3⟩: ∃b,((k:Int)==w64 ((i:Int)+1))=b:=⟨_,rfl⟩
 obtain⟨C4,c4⟩: ∃b,((i:Int)==0)=b:=⟨_,rfl⟩
 obtain⟨C5,c5⟩: ∃b,((k:Int)==w64 (((rg rs r).length:Nat)-1))=b:=⟨_,rfl⟩
 have hC:((r==s)&&(decide (k≤i)||(k==i+1)||((i==0)&&(k+1==(rg rs r).length))))=(C1&&(C2||C3||(C4&&C5))):=by
  rw[An (by omega) (by omega)] at c3 c5
  rw[←c1, ←c2, ←c3, ←c4, ←c5,Cq]
  have a2:decide (k≤i)=decide ((k:Int)≤(i:Int)):=by by_cases h:k≤i;rw[decide_eq_true h,decide_eq_true (by omega)];rw[decide_eq_false h,decide_eq_false (by omega)]
  have a3:(k==i+1)=((k:Int)==(i:Int)+1):=by rw[Bool.eq_iff_iff,beq_iff_eq,beq_iff_eq];omega
  have a4:(i==0)=((i:Int)==0):=by rw[Bool.eq_iff_iff,beq_iff_eq,beq_iff_eq];omega
  have a5:(k+1==(rg rs r).length)=((k:Int)==((rg rs r).length:Nat)-1):=by rw[Bool.eq_iff_iff,beq_iff_eq,beq_iff_eq];omega
  rw[a2,a3,a4,a5]
 refine zI (zE (zA (zH (zA (zB (wP rfl (wP rfl ?_)))))))
 refine wJ ?_
 refine Aw rfl rfl rfl rfl (fun W hp=>Ag.load 0 tH rfl ((fun W hp=>hq1.hp hp) W hp) rfl) ?_
 refine wP rfl (wP rfl (Aa (zE (zA (zA (zB (wP rfl (wP rfl (wP rfl (wP rfl ?_))))))))))
 refine AM 47 rfl (fun h47=> ?_) (fun h47=> ?_)
 ·refine wP rfl (wP rfl (wP rfl (wP rfl ?_)))
  refine AM 51 rfl (fun h51=> ?_) (fun h51=> ?_)
  ·refine Ah rfl rfl ?_
   iterate 3 refine Ah rfl rfl ?_
   refine wP rfl (wP rfl ?_)
   iterate 8 refine Ah rfl rfl ?_
   refine wP rfl (wP rfl (Aa ?_))
   have e:(C1&&(C2||C3||(C4&&C5)))=true:=by first|(rw[show C1=true from c1.symm.trans h47,show C2=true from c2.symm.trans h51];rfl)|(rw[show C1=true from c1.symm.trans h47,show C3=true from c3.symm.trans h57];cases C2<;>rfl)
   refine zE (zR rfl (zJ (zK (zL (zE (zB (wP rfl (wP rfl (wP rfl (Aa ?_))))))))))
   exact As (k+1) ⟨hk,fin (skip (hC.trans e))⟩ (by omega) ⟨rfl,rfl,rfl,rfl,congrArg (fun z=>some (Value.int .i64 z)) (AI (x:=(k:Int)+1) (by omega) (by omega)),trivial⟩ [] rfl
  ·refine wP rfl ?_
   iterate 5 refine wP rfl ?_
   refine AM 57 rfl (fun h57=> ?_) (fun h57=> ?_)
   ·refine Ah rfl rfl ?_
    iterate 7 refine Ah rfl rfl ?_
    refine wP rfl (wP rfl (Aa ?_))
    have e:(C1&&(C2||C3||(C4&&C5)))=true:=by first|(rw[show C1=true from c1.symm.trans h47,show C2=true from c2.symm.trans h51];rfl)|(rw[show C1=true from c1.symm.trans h47,show C3=true from c3.symm.trans h57];cases C2<;>rfl)
    refine zE (zR rfl (zJ (zK (zL (zE (zB (wP rfl (wP rfl (wP rfl (Aa ?_))))))))))
    exact As (k+1) ⟨hk,fin (skip (hC.trans e))⟩ (by omega) ⟨rfl,rfl,rfl,rfl,congrArg (fun z=>some (Value.int .i64 z)) (AI (x:=(k:Int)+1) (by omega) (by omega)),trivial⟩ [] rfl
   ·refine wP rfl (wP rfl (wP rfl ?_))
    refine AM 60 rfl (fun h60=> ?_) (fun h60=> ?_)
    ·refine wP rfl ?_
     iterate 6 refine wP rfl ?_
     refine Aa (zE ?_)
     refine Ak rfl (fun hx=> ?_) (fun hx=> ?_)
     ·have e:(C1&&(C2||C3||(C4&&C5)))=true:=by first|(rw[show C1=true from c1.symm.trans h47,show C3=true from c3.symm.trans h57];cases C2<;>rfl)|(rw[show C1=true from c1.symm.trans h47,show C4=true from c4.symm.trans h60,show C5=true from c5.symm.trans hx];cases C2<;>cases C3<;>rfl)|(rw[show C1=true from c1.symm.trans h47,show C3=true from c3.symm.trans hx];cases C2<;>rfl)
      refine zJ (zK (zL (zE (zB (wP rfl (wP rfl (wP rfl (Aa ?_))))))))
      exact As (k+1) ⟨hk,fin (skip (hC.trans e))⟩ (by omega) ⟨rfl,rfl,rfl,rfl,congrArg (fun z=>some (Value.int .i64 z)) (AI (x:=(k:Int)+1) (by omega) (by omega)),trivial⟩ [] rfl
     ·have e:(C1&&(C2||C3||(C4&&C5)))=false:=by first|(rw[show C2=false from c2.symm.trans h51,show C3=false from c3.symm.trans h57,show C5=false from c5.symm.trans hx,Bool.and_false];cases C1<;>rfl)
      refine zI (zE (zA ?_))
      refine zT Tryz.mixed (by kernel_rfl) ?_
      refine qP rfl (qP rfl ?_)
      refine qJ ?_
      refine Ap rfl rfl rfl rfl (fun W hp=>Ag.load 0 tH rfl ((fun W hp=>hq1.hp hp) W hp) rfl) ?_
      refine qP rfl (qP rfl (qP rfl ?_))
      refine qJ ?_
      refine Ap rfl rfl rfl rfl (fun W hp=>Ag.load 0 tH rfl ((fun W hp=>hq3.hp hp) W hp) rfl) ?_
      refine qP rfl ?_
      refine A9 rfl rfl rfl rfl rfl rfl (by kernel_rfl) (fun W hp=>He W q q' cap2 cap3 (rg rs r) (rg rs s) i k hlr hls (hq2.hp hp) (hq4.hp hp) hi hk) ?_
      refine AE (Aa (zE ?_))
      refine Ak rfl (fun h=> ?_) (fun h=> ?_)
      ·refine zA (zB (wP rfl (Aa (zE (zO (zQ (zP (zP (zQ (zQ (zP (zP (zQ (zQ ?_))))))))))))))
       refine zP (zP (zQ (zQ (zP (zP (zQ (zP ?_)))))))
       have hc:crs rs=true:=KQ hr hi hs hk ((test (hC.trans e)).trans h)
       exact Af tH rfl (.tmp rfl) () (by rw[hc]) trivial fun W _=>Ae.nil _ _
      ·refine zI (zN (zE (zB (wP rfl (wP rfl (wP rfl (Aa ?_)))))))
       exact As (k+1) ⟨hk,fin ((test (hC.trans e)).trans h)⟩ (by omega) ⟨rfl,rfl,rfl,rfl,congrArg (fun z=>some (Value.int .i64 z)) (AI (x:=(k:Int)+1) (by omega) (by omega)),trivial⟩ [] rfl
    ·refine Ah rfl rfl ?_
     iterate 3 refine Ah rfl rfl ?_
     refine wP rfl (wP rfl (wP rfl (Aa ?_)))
     have e:(C1&&(C2||C3||(C4&&C5)))=false:=by first|(rw[show C1=false from c1.symm.trans h47];rfl)|(rw[show C2=false from c2.symm.trans h51,show C3=false from c3.symm.trans h57,show C4=false from c4.symm.trans h60,Bool.false_and];cases C1<;>rfl)
     refine zE (zS rfl (zI (zE (zA ?_))))
     refine zT Tryz.mixed (by kernel_rfl) ?_
     refine qP rfl (qP rfl ?_)
     refine qJ ?_
     refine Ap rfl rfl rfl rfl (fun W hp=>Ag.load 0 tH rfl ((fun W hp=>hq1.hp hp) W hp) rfl) ?_
     refine qP rfl (qP rfl (qP rfl ?_))
     refine qJ ?_
     refine Ap rfl rfl rfl rfl (fun W hp=>Ag.load 0 tH rfl ((fun W hp=>hq3.hp hp) W hp) rfl) ?_
     refine qP rfl ?_
     refine A9 rfl rfl rfl rfl rfl rfl (by kernel_rfl) (fun W hp=>He W q q' cap2 cap3 (rg rs r) (rg rs s) i k hlr hls (hq2.hp hp) (hq4.hp hp) hi hk) ?_
     refine AE (Aa (zE ?_))
     refine Ak rfl (fun h=> ?_) (fun h=> ?_)
     ·refine zA (zB (wP rfl (Aa (zE (zO (zQ (zP (zP (zQ (zQ (zP (zP (zQ (zQ ?_))))))))))))))
      refine zP (zP (zQ (zQ (zP (zP (zQ (zP ?_)))))))
      have hc:crs rs=true:=KQ hr hi hs hk ((test (hC.trans e)).trans h)
      exact Af tH rfl (.tmp rfl) () (by rw[hc]) trivial fun W _=>Ae.nil _ _
     ·refine zI (zN (zE (zB (wP rfl (wP rfl (wP rfl (Aa ?_)))))))
      exact As (k+1) ⟨hk,fin ((test (hC.trans e)).trans h)⟩ (by omega) ⟨rfl,rfl,rfl,rfl,congrArg (fun z=>some (Value.int .i64 z)) (AI (x:=(k:Int)+1) (by omega) (by omega)),trivial⟩ [] rfl
 ·refine Ah rfl rfl ?_
  iterate 18 refine Ah rfl rfl ?_
  refine wP rfl (Aa ?_)
  have e:(C1&&(C2||C3||(C4&&C5)))=false:=by first|(rw[show C1=false from c1.symm.trans h47];rfl)|(rw[show C2=false from c2.symm.trans h51,show C3=false from c3.symm.trans h57,show C4=false from c4.symm.trans h60,Bool.false_and];cases C1<;>rfl)
  refine zE (zS rfl (zI (zE (zA ?_))))
  refine zT Tryz.mixed (by kernel_rfl) ?_
  refine qP rfl (qP rfl ?_)
  refine qJ ?_
  refine Ap rfl rfl rfl rfl (fun W hp=>Ag.load 0 tH rfl ((fun W hp=>hq1.hp hp) W hp) rfl) ?_
  refine qP rfl (qP rfl (qP rfl ?_))
  refine qJ ?_
  refine Ap rfl rfl rfl rfl (fun W hp=>Ag.load 0 tH rfl ((fun W hp=>hq3.hp hp) W hp) rfl) ?_
  refine qP rfl ?_
  refine A9 rfl rfl rfl rfl rfl rfl (by kernel_rfl) (fun W hp=>He W q q' cap2 cap3 (rg rs r) (rg rs s) i k hlr hls (hq2.hp hp) (hq4.hp hp) hi hk) ?_
  refine AE (Aa (zE ?_))
  refine Ak rfl (fun h=> ?_) (fun h=> ?_)
  ·refine zA (zB (wP rfl (Aa (zE (zO (zQ (zP (zP (zQ (zQ (zP (zP (zQ (zQ ?_))))))))))))))
   refine zP (zP (zQ (zQ (zP (zP (zQ (zP ?_)))))))
   have hc:crs rs=true:=KQ hr hi hs hk ((test (hC.trans e)).trans h)
   exact Af tH rfl (.tmp rfl) () (by rw[hc]) trivial fun W _=>Ae.nil _ _
  ·refine zI (zN (zE (zB (wP rfl (wP rfl (wP rfl (Aa ?_)))))))
   exact As (k+1) ⟨hk,fin ((test (hC.trans e)).trans h)⟩ (by omega) ⟨rfl,rfl,rfl,rfl,congrArg (fun z=>some (Value.int .i64 z)) (AI (x:=(k:Int)+1) (by omega) (by omega)),trivial⟩ [] rfl
-- BOXES 2
def MD (rs:List (List Sd)) (r s:Nat):Bool:=(s==r)||(FX (rg rs s) (sd (rg rs r) 0).x (sd (rg rs r) 0).y (rg rs s).length==(s==0))
def QW (rs:List (List Sd)) (r:Nat):Bool:=(r==0)||(!decide (twR (rg rs r) (rg rs r).length≥0)&&(List.range rs.length).all (MD rs r))
def GG (rs:List (List Sd)):Bool:= !decide (twR (rg rs 0) (rg rs 0).length≤0)&&(List.range rs.length).all (QW rs)
theorem MB (W:World) (p:Option Addr) (cap:Nat) (rs:List (List Sd)) (hn:rs.length<4611686018427387904) (hl: ∀l∈rs,l.length<4611686018427387904) (hne: ∀l∈rs,l≠[]) (h0:0<rs.length) (hR:Bz W p rs):
  Aj Tryz.prog 49 #[slv p rs.length cap] W (fun _:Unit=> .bool (GG rs)) (fun _=>True) (fun _=>[]):=by
 obtain⟨b,off,rfl,hrow⟩:=hR.row h0
 obtain⟨q0,cap0,hq1,hq2⟩:=hrow 0 h0
 refine Ad (args:=[slv (some ⟨b,off,none⟩) rs.length cap]) Tryz.func49 rfl rfl rfl ?_
 refine zA (zB (wP rfl (Aa (zE (zA (zA (zB (wP rfl ?_))))))))
 refine wJ ?_
 refine Aw rfl rfl rfl rfl (fun W hp=>Ag.load 0 tH rfl ((fun W hp=>hq1.hp hp) W hp) rfl) ?_
 refine Ac rfl rfl rfl rfl rfl rfl (by kernel_rfl) (fun W hp=>Ke W q0 cap0 (rg rs 0) (hl _ (List.mem_of_getElem? (Bf h0))) (hq2.hp hp)) ?_
 refine wP rfl (Aa (zE ?_))
 refine Ak rfl (fun h=> ?_) (fun h=> ?_)
 ·refine zA (zB (wP rfl (Aa (zE (zO (zP ?_))))))
  have hf:GG rs=false:=by unfold GG;rw[show decide (twR (rg rs 0) (rg rs 0).length≤0)=true from h];rfl
  exact Af tH rfl (.tmp rfl) () (by rw[hf]) trivial fun W _=>Ae.nil _ _
 have hA:decide (twR (rg rs 0) (rg rs 0).length≤0)=false:=h
 clear h
 refine zI (zE (zA (zA (zB (wP rfl (Aa (zE (zH ?_))))))))
 refine Av (X:=Nat) (fun r=>[(0,slv (some ⟨b,off,none⟩) rs.length cap),(3, .int .i64 (r:Nat))]) (fun _=>[]) (fun r=>1≤r∧r≤rs.length∧ ∀j,j<r→QW rs j=true) (fun r=>rs.length-r) 1
  ⟨Nat.le_refl _,h0,fun j hj=>by rw[show j=0 by omega];rfl⟩ ⟨rfl,rfl,trivial⟩ [] rfl ?_
 rintro r ⟨hr1,hr,hok⟩
 refine zA (zA (zB (wP rfl (wP rfl (wP rfl (wP rfl (Aa (zE ?_))))))))
 refine Ak rfl (fun h=> ?_) (fun h=> ?_)
 rotate_left
 ·have e:r=rs.length:=by simp at h;omega
  subst e
  refine zJ (zK (zK (zL (zE (zA (zB (wP rfl (Aa (zE (zO ?_))))))))))
  have ht:GG rs=true:=by unfold GG;rw[hA,List.all_eq_true.2 fun j hj=>hok j (List.mem_range.1 hj)];rfl
  exact Af tH rfl (.tmp rfl) () (by rw[ht]) trivial fun W _=>Ae.nil _ _
 have hr:r<rs.length:=by simp at h;omega
 clear h
 obtain⟨q,cap2,hq3,hq4⟩:=hrow r hr
 have hlr:=hl _ (List.mem_of_getElem? (Bf hr))
 have hner:0<(rg rs r).length:=List.length_pos_iff.2 (hne _ (List.mem_of_getElem? (Bf hr)))
 have hr0:(r==0)=false:=beq_eq_false_iff_ne.2 (by omega)
 refine zI (zE (zA (zH (zA (zA (zB (wP rfl (wP rfl ?_))))))))
 refine wJ ?_
 refine Aw rfl rfl rfl rfl (fun W hp=>Ag.load 0 tH rfl ((fun W hp=>hq3.hp hp) W hp) rfl) ?_
 refine Ac rfl rfl rfl rfl rfl rfl (by kernel_rfl) (fun W hp=>Ke W q cap2 (rg rs r) hlr (hq4.hp hp)) ?_
 refine wP rfl (Aa (zE ?_))
 refine Ak rfl (fun h=> ?_) (fun h=> ?_)
 ·refine zA (zB (wP rfl (Aa (zE (zO (zP (zQ (zP (zP (zQ (zP ?_)))))))))))
  have hf:GG rs=false:=by unfold GG;rw[BF hr (by unfold QW;rw[hr0,show decide (twR (rg rs r) (rg rs r).length≥0)=true from h];rfl),Bool.and_false]
  exact Af tH rfl (.tmp rfl) () (by rw[hf]) trivial fun W _=>Ae.nil _ _
 have hB:decide (twR (rg rs r) (rg rs r).length≥0)=false:=h
 clear h
 refine zI (zE (zA (zB (wP rfl (Aa (zE (zH ?_)))))))
 refine Av (X:=Nat) (fun s=>[(0,slv (some ⟨b,off,none⟩) rs.length cap),(3, .int .i64 (r:Nat)),(4, .int .i64 (s:Nat))]) (fun _=>[]) (fun s=>s≤rs.length∧ ∀j,j<s→MD rs r j=true) (fun s=>rs.length-s) 0
  ⟨Nat.zero_le _,fun j hj=>absurd hj (Nat.not_lt_zero _)⟩ ⟨rfl,rfl,rfl,trivial⟩ [] rfl ?_
 rintro s ⟨hs,hoks⟩
 refine zA (zA (zB (wP rfl (wP rfl (wP rfl (wP rfl (Aa (zE ?_))))))))
 refine Ak rfl (fun h=> ?_) (fun h=> ?_)
 rotate_left
 ·have e:s=rs.length:=by simp at h;omega
  subst e
  refine zJ (zK (zK (zL (zN (zE (zB (wP rfl (wP rfl (wP rfl (Aa ?_))))))))))
  refine As (r+1) ⟨by omega,hr,fun j hj=> ?_⟩ (by omega) ⟨rfl,congrArg (fun z=>some (Value.int .i64 z)) (AI (x:=(r:Int)+1) (by omega) (by omega)),trivial⟩ [] rfl
  by_cases e:j=r
  ·subst e
   unfold QW
   rw[hB,List.all_eq_true.2 fun m hm=>hoks m (List.mem_range.1 hm),hr0];rfl
  ·exact hok j (by omega)
 have hs:s<rs.length:=by simp at h;omega
 clear h
 obtain⟨q',cap3,hq5,hq6⟩:=hrow s hs
 have hls:=hl _ (List.mem_of_getElem? (Bf hs))
 have next:MD rs r s=true→ ∀j,j<s+1→MD rs r j=true:=fun h j hj=>by
  by_cases e:j=s
  ·subst e;exact h
  ·exact hoks j (by omega)
 obtain⟨b3,off3,rfl,hrow3⟩:=hq4.row hner
 refine zI (zE (zA (zH (zA ?_))))
 refine zT Tryz.mixed (by kernel_rfl) ?_
 refine qP rfl (qP rfl (qP rfl (qP rfl ?_)))
 refine G4 31 rfl (fun h31=> ?_) (fun h31=> ?_)
 ·refine qP rfl (qP rfl ?_)
  refine qJ ?_
  refine Ap rfl rfl rfl rfl (fun W hp=>Ag.load 0 tH rfl ((fun W hp=>hq5.hp hp) W hp) rfl) ?_
  refine qP rfl (qP rfl ?_)
  refine qJ ?_
  refine Ap rfl rfl rfl rfl (fun W hp=>Ag.load 0 tH rfl ((fun W hp=>hq3.hp hp) W hp) rfl) ?_
  refine qJ ?_
  refine qP rfl ?_
  refine Ap rfl rfl rfl rfl (fun W hp=>Ag.load 0 tH rfl ((fun W hp=>(hrow3 0 hner).hp hp) W hp) rfl) ?_
  refine qP rfl (qP rfl ?_)
  refine qJ ?_
  refine Ap rfl rfl rfl rfl (fun W hp=>Ag.load 0 tH rfl ((fun W hp=>hq3.hp hp) W hp) rfl) ?_
  refine qJ ?_
  refine qP rfl ?_
  refine Ap rfl rfl rfl rfl (fun W hp=>Ag.load 1 tH rfl ((fun W hp=>(hrow3 0 hner).hp hp) W hp) rfl) ?_
  refine A9 rfl rfl rfl rfl rfl rfl (by kernel_rfl) (fun W hp=>Mu W q' cap3 (rg rs s) _ _ hls (hq6.hp hp)) ?_
  refine qP rfl (qP rfl ?_)
  refine J8 Tryz.underlying4 rfl rfl rfl rfl rfl rfl ?_
  refine qP rfl (AE (Aa ?_))
  have e:(s==r)=false:=by have h':((s:Int) !=(r:Int))=true:=h31;rw[bne_iff_ne] at h';rw[beq_eq_false_iff_ne];omega
  refine zE ?_
  refine Ak rfl (fun h=> ?_) (fun h=> ?_)
  ·refine zA (zB (wP rfl (Aa (zE (zO (zQ (zP (zP (zQ (zQ (zP (zP (zQ ?_)))))))))))))
   refine zP ?_
   have h':(FX (rg rs s) (sd (rg rs r) 0).x (sd (rg rs r) 0).y (rg rs s).length==(s==0))=false:=by
    rw[←Cq s 0]
    have h2:(!(FX (rg rs s) (sd (rg rs r) 0).x (sd (rg rs r) 0).y (rg rs s).length==((s:Int)==0)))=true:=h
    simpa using h2
   have hf:GG rs=false:=by unfold GG;rw[BF hr (by unfold QW;rw[hr0,BF hs (by unfold MD;rw[e,h'];rfl),Bool.and_false];rfl),Bool.and_false]
   exact Af tH rfl (.tmp rfl) () (by rw[hf]) trivial fun W _=>Ae.nil _ _
  ·have h':(FX (rg rs s) (sd (rg rs r) 0).x (sd (rg rs r) 0).y (rg rs s).length==(s==0))=true:=by
    rw[←Cq s 0]
    have h2:(!(FX (rg rs s) (sd (rg rs r) 0).x (sd (rg rs r) 0).y (rg rs s).length==((s:Int)==0)))=false:=h
    simpa using h2
   refine zI (zN (zE (zB (wP rfl (wP rfl (wP rfl (Aa ?_)))))))
   exact As (s+1) ⟨hs,next (by unfold MD;rw[h',Bool.or_true])⟩ (by omega) ⟨rfl,rfl,congrArg (fun z=>some (Value.int .i64 z)) (AI (x:=(s:Int)+1) (by omega) (by omega)),trivial⟩ [] rfl
 ·refine BC rfl rfl ?_
  iterate 21 refine BC rfl rfl ?_
  refine qP rfl (AE (Aa ?_))
  have e:(s==r)=true:=by have h':((s:Int) !=(r:Int))=false:=h31;rw[bne_eq_false_iff_eq] at h';rw[beq_iff_eq];omega
  refine zE (zS rfl (zI (zN (zE (zB (wP rfl (wP rfl (wP rfl (Aa ?_)))))))))
  exact As (s+1) ⟨hs,next (by unfold MD;rw[e];rfl)⟩ (by omega) ⟨rfl,rfl,congrArg (fun z=>some (Value.int .i64 z)) (AI (x:=(s:Int)+1) (by omega) (by omega)),trivial⟩ [] rfl
def Hr (l:List Sd) (k:Nat):Bool:= !(decide (Jn l k<0)&&((sd l (prv l.length k)).gable||(sd l k).gable||((sd l (prv l.length k)).plate !=(sd l k).plate)))
def JD (rs:List (List Sd)):Bool:=rs.all (fun l=>(List.range l.length).all (Hr l))&&Ba rs rs.length
theorem Ou (W:World) (p:Option Addr) (cap:Nat) (rs:List (List Sd)) (hn:rs.length<4611686018427387904) (hl: ∀l∈rs,l.length<4611686018427387904) (hR:Bz W p rs):
  Aj Tryz.prog 50 #[slv p rs.length cap] W (fun _:Unit=> .bool (JD rs)) (fun _=>True) (fun _=>[]):=by
 refine Ad (args:=[slv p rs.length cap]) Tryz.func50 rfl rfl rfl ?_
 refine zA (zB (wP rfl (Aa (zE (zA (zB (wP rfl (Aa (zE (zA (zA (zB (wP rfl ?_)))))))))))))
 refine Aa (zE (zH ?_))
 refine Av (X:=Nat) (fun r=>[(0,slv p rs.length cap),(3, .bool (Ba rs r)),(4, .int .i64 (r:Nat))]) (fun _=>[]) (fun r=>r≤rs.length∧ ∀j,j<r→(List.range (rg rs j).length).all (Hr (rg rs j))=true) (fun r=>rs.length-r) 0
  ⟨Nat.zero_le _,fun j hj=>absurd hj (Nat.not_lt_zero _)⟩ ⟨rfl,rfl,rfl,trivial⟩ [] rfl ?_
 rintro r ⟨hr,hok⟩
 refine zA (zA (zB (wP rfl (wP rfl (wP rfl (wP rfl (Aa (zE ?_))))))))
 refine Ak rfl (fun h=> ?_) (fun h=> ?_)
 rotate_left
 ·have e:r=rs.length:=by simp at h;omega
  subst e
  refine zJ (zK (zK (zL (zE (zA (zB (wP rfl (wP rfl (Aa (zE (zO ?_)))))))))))
  have ht:JD rs=Ba rs rs.length:=by
   unfold JD
   rw[List.all_eq_true.2 fun l hl=> ?_,Bool.true_and]
   obtain⟨j,hj,e⟩:=List.getElem_of_mem hl
   have:=hok j hj
   rw[show rg rs j=l by simp[rg,hj,e]] at this
   exact this
  exact Af tH rfl (.tmp rfl) () (by rw[ht]) trivial fun W _=>Ae.nil _ _
 have hr:r<rs.length:=by simp at h;omega
 clear h
 obtain⟨b,off,rfl,hrow⟩:=hR.row hr
 obtain⟨q,cap2,hq1,hq2⟩:=hrow r hr
 have hlr:=hl _ (List.mem_of_getElem? (Bf hr))
 refine zI (zE (zA (zH (zA (zB (wP rfl (wP rfl ?_)))))))
 refine wJ ?_
 refine Aw rfl rfl rfl rfl (fun W hp=>Ag.load 0 tH rfl ((fun W hp=>hq1.hp hp) W hp) rfl) ?_
 refine wP rfl (Aa (zE (zA (zB (wP rfl (Aa (zE (zH ?_))))))))
 refine Av (X:=Nat) (fun i=>[(0,slv (some ⟨b,off,none⟩) rs.length cap),(3, .bool (Bl (rg rs r) (Ba rs r) i)),(4, .int .i64 (r:Nat)),(5,slv q (rg rs r).length cap2),(6, .int .i64 (i:Nat))]) (fun _=>[]) (fun i=>i≤(rg rs r).length∧ ∀j,j<i→Hr (rg rs r) j=true) (fun i=>(rg rs r).length-i) 0
  ⟨Nat.zero_le _,fun j hj=>absurd hj (Nat.not_lt_zero _)⟩ ⟨rfl,rfl,rfl,rfl,rfl,trivial⟩ [] rfl ?_
 rintro i ⟨hi,hoki⟩
 refine zA (zA (zB (wP rfl (wP rfl (wP rfl (wP rfl (Aa (zE ?_))))))))
 refine Ak rfl (fun h=> ?_) (fun h=> ?_)
 rotate_left
 ·have e:i=(rg rs r).length:=by simp at h;omega
  subst e
  refine zJ (zK (zK (zL (zN (zE (zB (wP rfl (wP rfl (wP rfl (Aa ?_))))))))))
  refine As (r+1) ⟨hr,fun j hj=> ?_⟩ (by omega) ⟨rfl,rfl,congrArg (fun z=>some (Value.int .i64 z)) (AI (x:=(r:Int)+1) (by omega) (by omega)),trivial⟩ [] rfl
  by_cases e:j=r
  ·subst e;exact List.all_eq_true.2 fun m hm=>hoki m (List.mem_range.1 hm)
  ·exact hok j (by omega)
 have hi:i<(rg rs r).length:=by simp at h;omega
 clear h
 have hi2:=FC hi
 obtain⟨b3,off3,rfl,hrow3⟩:=hq2.row hi
 have bad:Hr (rg rs r) i=false→JD rs=false:=fun h=>by
  unfold JD
  have:rs.all (fun l=>(List.range l.length).all (Hr l))=false:=Bool.eq_false_iff.2 fun e=>by
   have:=List.all_eq_true.1 e _ (List.mem_of_getElem? (Bf hr))
   rw[BF hi h] at this;cases this
  rw[this];rfl
 have good:Hr (rg rs r) i=true→ ∀j,j<i+1→Hr (rg rs r) j=true:=fun h j hj=>by
  by_cases e:j=i
  ·subst e;exact h
  ·exact hoki j (by omega)
 refine zI (zE (A7 (BI ?_)))
 repeat refine A7 ?_
 refine Lf (X:=Nat×Nat) (fun y=>[(0,slv (some ⟨b,off,none⟩) rs.length cap),(3, .bool (Bl (rg rs r) (Ba rs r) i)),(4, .int .i64 (r:Nat)),(5,slv (some ⟨b3,off3,none⟩) (rg rs r).length cap2),(6, .int .i64 (i:Nat)),(7, .pointer (some ⟨y.1,0,none⟩)),(8, .pointer (some ⟨y.2,0,none⟩))])
  (fun y=>[⟨y.1,42,(sd (rg rs r) (prv (rg rs r).length i)).cells,true,none⟩,⟨y.2,42,(sd (rg rs r) i).cells,true,none⟩]) 4 Tryz.mixed (by kernel_rfl) ?_ ?_
 ·refine qP rfl ?_
  iterate 5 refine qP rfl ?_
  refine A6 30 (.int .i64 ((i+(rg rs r).length-1:Nat):Int)) rfl (congrArg (Value.int .i64) (show w64 (w64 ((i:Nat)+((rg rs r).length:Nat))-1)=((i+(rg rs r).length-1:Nat):Int) by rw[An (x:=(i:Nat)+((rg rs r).length:Nat)) (by omega) (by omega),An (by omega) (by omega)];omega)) ?_
  refine qP rfl (qP rfl ?_)
  refine EN rfl rfl rfl rfl rfl (by omega) ?_
  refine A6 33 (.int .i64 (prv (rg rs r).length i:Nat)) rfl (congrArg (Value.int .i64) (show Int.tmod ((i+(rg rs r).length-1:Nat):Int) ((rg rs r).length:Nat)=(prv (rg rs r).length i:Nat) from(Int.ofNat_tmod _ _).symm)) ?_
  refine qJ ?_
  refine Ap rfl rfl rfl rfl (fun W hp=>Ag.load 0 tH rfl ((fun W hp=>(hrow3 _ hi2).hp hp) W hp) rfl) ?_
  refine qP rfl (qP rfl ?_)
  refine qJ ?_
  refine Ap rfl rfl rfl rfl (fun W hp=>Ag.load 0 tH rfl ((fun W hp=>(hrow3 i hi).hp hp) W hp) rfl) ?_
  refine Dd ?_
  refine wX ?_
  refine RS.cons ?_ (RS.cons ?_ (RS.nil))
  ·refine Ao Tryz.hZ rfl rfl rfl rfl ?_;intro b7
   refine Aa (Al ?_)
   refine wX ?_
   refine RS.cons ?_ (RS.nil)
   refine Ao Tryz.hZ rfl rfl rfl rfl ?_;intro b8
   refine Aa (Al ?_)
   refine wX ?_
   refine RS.cons ?_ (RS.nil)
   refine wS 0 rfl rfl rfl (Aa (Al ?_))
   refine wX ?_
   refine RS.cons ?_ (RS.nil)
   refine wS 1 rfl rfl rfl (Aa (Al ?_))
   (first|refine B8 rfl (by((repeat (first|refine Bu.same ?_|refine Bu.off rfl ?_));exact trivial)) ?_|refine AJ rfl (by kernel_rfl) ?_);(first|exact AD (b7,b8) ⟨rfl,rfl,rfl,rfl,rfl,rfl,rfl,trivial⟩ [0,1] (by decide) rfl|exact AD (b7,b8) ⟨rfl,rfl,rfl,rfl,rfl,rfl,rfl,trivial⟩ [1,0] (by decide) rfl)
  ·refine Ao Tryz.hZ rfl rfl rfl rfl ?_;intro b8
   refine Aa (Al ?_)
   refine wX ?_
   refine RS.cons ?_ (RS.nil)
   refine Ao Tryz.hZ rfl rfl rfl rfl ?_;intro b7
   refine Aa (Al ?_)
   refine wX ?_
   refine RS.cons ?_ (RS.nil)
   refine wS 1 rfl rfl rfl (Aa (Al ?_))
   refine wX ?_
   refine RS.cons ?_ (RS.nil)
   refine wS 0 rfl rfl rfl (Aa (Al ?_))
   (first|refine B8 rfl (by((repeat (first|refine Bu.same ?_|refine Bu.off rfl ?_));exact trivial)) ?_|refine AJ rfl (by kernel_rfl) ?_);(first|exact AD (b7,b8) ⟨rfl,rfl,rfl,rfl,rfl,rfl,rfl,trivial⟩ [0,1] (by decide) rfl|exact AD (b7,b8) ⟨rfl,rfl,rfl,rfl,rfl,rfl,rfl,trivial⟩ [1,0] (by decide) rfl)
 rintro⟨b7,b8⟩
 obtain⟨C1,c1⟩: ∃b,decide (Jn (rg rs r) i<0)=b:=⟨_,rfl⟩
 obtain⟨C4,c4⟩: ∃b,((sd (rg rs r) (prv (rg rs r).length i)).plate !=(sd (rg rs r) i).plate)=b:=⟨_,rfl⟩
 have hC:Hr (rg rs r) i= !(C1&&((sd (rg rs r) (prv (rg rs r).length i)).gable||(sd (rg rs r) i).gable||C4)):=by unfold Hr;rw[c1,c4]
 refine zE (zA (zA (zB (wP rfl (wP rfl ?_)))))
 refine Ac rfl rfl rfl rfl rfl rfl (by kernel_rfl) (fun W hp=>LF W _ cap2 (rg rs r) i hlr (hq2.hp hp) hi) ?_
 refine wP rfl (wP rfl ?_)
 refine AM 44 rfl (fun h44=> ?_) (fun h44=> ?_)
 ·refine wP rfl (wB 0 rfl rfl rfl (wP rfl ?_))
  refine AM 47 rfl (fun h47=> ?_) (fun h47=> ?_)
  ·refine Ah rfl rfl ?_
   refine Ah rfl rfl ?_
   refine wP rfl (wP rfl ?_)
   iterate 5 refine Ah rfl rfl ?_
   refine wP rfl (wP rfl (Aa ?_))
   have e:Hr (rg rs r) i=false:=by
    rw[hC,show C1=true from c1.symm.trans h44]
    first
    |(rw[show(sd (rg rs r) (prv (rg rs r).length i)).gable=true from h47];rfl)
    |(rw[show(sd (rg rs r) i).gable=true from h51];cases(sd (rg rs r) (prv (rg rs r).length i)).gable<;>rfl)
   refine zE (zR rfl (zA (zB (wP rfl (Aa (zE (zO (zP (zQ (zP (zP (zQ (zQ ?_)))))))))))))
   refine zP (zP (zQ (zP ?_)))
   exact Af tH rfl (.tmp rfl) () (by rw[bad e]) trivial fun W _=>Ae.nil _ _
  ·refine wP rfl (wB 1 rfl rfl rfl (wP rfl (wP rfl ?_)))
   refine AM 51 rfl (fun h51=> ?_) (fun h51=> ?_)
   ·refine Ah rfl rfl ?_
    iterate 4 refine Ah rfl rfl ?_
    refine wP rfl (wP rfl (Aa ?_))
    have e:Hr (rg rs r) i=false:=by
     rw[hC,show C1=true from c1.symm.trans h44]
     first
     |(rw[show(sd (rg rs r) (prv (rg rs r).length i)).gable=true from h47];rfl)
     |(rw[show(sd (rg rs r) i).gable=true from h51];cases(sd (rg rs r) (prv (rg rs r).length i)).gable<;>rfl)
    refine zE (zR rfl (zA (zB (wP rfl (Aa (zE (zO (zP (zQ (zP (zP (zQ (zQ ?_)))))))))))))
    refine zP (zP (zQ (zP ?_)))
    exact Af tH rfl (.tmp rfl) () (by rw[bad e]) trivial fun W _=>Ae.nil _ _
   ·refine wP rfl (wB 0 rfl rfl rfl (wP rfl (wB 1 rfl rfl rfl (wP rfl (wP rfl (wP rfl (Aa (zE ?_))))))))
    refine Ak rfl (fun hx=> ?_) (fun hx=> ?_)
    ·have e:Hr (rg rs r) i=false:=by
      rw[hC,show C1=true from c1.symm.trans h44,show C4=true from c4.symm.trans hx]
      cases(sd (rg rs r) (prv (rg rs r).length i)).gable<;>cases(sd (rg rs r) i).gable<;>rfl
     refine zA (zB (wP rfl (Aa (zE (zO (zP (zQ (zP (zP (zQ (zQ (zP (zP ?_)))))))))))))
     refine zQ (zP ?_)
     exact Af tH rfl (.tmp rfl) () (by rw[bad e]) trivial fun W _=>Ae.nil _ _
    ·have e:Hr (rg rs r) i=true:=by
      rw[hC,show(sd (rg rs r) (prv (rg rs r).length i)).gable=false from h47]
      rw[show(sd (rg rs r) i).gable=false from h51,show C4=false from c4.symm.trans hx]
      cases C1<;>rfl
     refine zI (zE (zB (wP rfl (wP rfl ?_))))
     refine AM 60 rfl (fun h60=> ?_) (fun h60=> ?_)
     ·refine Ah rfl rfl ?_
      iterate 2 refine Ah rfl rfl ?_
      refine wP rfl (wP rfl (Aa (zN (zE (zB (wP rfl (wP rfl (wP rfl (Aa ?_)))))))))
      exact As (i+1) ⟨hi,good e⟩ (by omega) ⟨rfl,congrArg (fun z=>some (Value.bool z)) (show _=(Bl (rg rs r) (Ba rs r) i|| !(sd (rg rs r) i).gable) by first|(rw[show Bl (rg rs r) (Ba rs r) i=true from h60];rfl)|(rw[show Bl (rg rs r) (Ba rs r) i=false from h60];rfl)),rfl,rfl,congrArg (fun z=>some (Value.int .i64 z)) (AI (x:=(i:Int)+1) (by omega) (by omega)),trivial⟩ [_,_] rfl
     ·refine wP rfl (wB 1 rfl rfl rfl (wP rfl (wP rfl (wP rfl (Aa (zN (zE (zB (wP rfl (wP rfl (wP rfl (Aa ?_))))))))))))
      exact As (i+1) ⟨hi,good e⟩ (by omega) ⟨rfl,congrArg (fun z=>some (Value.bool z)) (show _=(Bl (rg rs r) (Ba rs r) i|| !(sd (rg rs r) i).gable) by first|(rw[show Bl (rg rs r) (Ba rs r) i=true from h60];rfl)|(rw[show Bl (rg rs r) (Ba rs r) i=false from h60];rfl)),rfl,rfl,congrArg (fun z=>some (Value.int .i64 z)) (AI (x:=(i:Int)+1) (by omega) (by omega)),trivial⟩ [_,_] rfl
 ·refine Ah rfl rfl ?_
  iterate 12 refine Ah rfl rfl ?_
  refine wP rfl (Aa ?_)
  have e:Hr (rg rs r) i=true:=by rw[hC,show C1=false from c1.symm.trans h44];rfl
  refine zE (zS rfl (zI (zE (zB (wP rfl (wP rfl ?_))))))
  refine AM 60 rfl (fun h60=> ?_) (fun h60=> ?_)
  ·refine Ah rfl rfl ?_
   iterate 2 refine Ah rfl rfl ?_
   refine wP rfl (wP rfl (Aa (zN (zE (zB (wP rfl (wP rfl (wP rfl (Aa ?_)))))))))
   exact As (i+1) ⟨hi,good e⟩ (by omega) ⟨rfl,congrArg (fun z=>some (Value.bool z)) (show _=(Bl (rg rs r) (Ba rs r) i|| !(sd (rg rs r) i).gable) by first|(rw[show Bl (rg rs r) (Ba rs r) i=true from h60];rfl)|(rw[show Bl (rg rs r) (Ba rs r) i=false from h60];rfl)),rfl,rfl,congrArg (fun z=>some (Value.int .i64 z)) (AI (x:=(i:Int)+1) (by omega) (by omega)),trivial⟩ [_,_] rfl
  ·refine wP rfl (wB 1 rfl rfl rfl (wP rfl (wP rfl (wP rfl (Aa (zN (zE (zB (wP rfl (wP rfl (wP rfl (Aa ?_))))))))))))
   exact As (i+1) ⟨hi,good e⟩ (by omega) ⟨rfl,congrArg (fun z=>some (Value.bool z)) (show _=(Bl (rg rs r) (Ba rs r) i|| !(sd (rg rs r) i).gable) by first|(rw[show Bl (rg rs r) (Ba rs r) i=true from h60];rfl)|(rw[show Bl (rg rs r) (Ba rs r) i=false from h60];rfl)),rfl,rfl,congrArg (fun z=>some (Value.int .i64 z)) (AI (x:=(i:Int)+1) (by omega) (by omega)),trivial⟩ [_,_] rfl
-- BOXES 1
def KT (rs:List (List Sd)):Int:=
 if rs.any (fun l=>l.length==0)=true then 5
 else if tot rs=0 then 5
 else if tot rs>24 then 4
 else if rs.flatten.any (fun s=> !rgd s)=true then 2
 else if rs.any (fun l=> !Im l)=true then 14
 else if crs rs=true then 15
 else if (!GG rs|| !JD rs)=true then 14
 else 0
theorem I9 (W:World) (p:Option Addr) (cap:Nat) (rs:List (List Sd)) (hn:rs.length<4611686018427387904) (hT:tot rs<1099511627776) (hR:Bz W p rs):
  Aj Tryz.prog 12 #[B5 p rs.length cap] W (fun _:Unit=> .int .i64 (KT rs)) (fun _=>True) (fun _=>[]):=by
 have hl: ∀l∈rs,l.length<4611686018427387904:=fun l h=>by have:=Gk h;omega
 refine Ad (args:=[B5 p rs.length cap]) Tryz.func12 rfl rfl rfl ?_
 refine zA (zB ?_)
 (refine A8 rfl rfl rfl rfl ?_;intro)
 refine wP rfl (Aa ?_)
 rename_i b1
 refine zE (zA (zA (zB (wP rfl (wB 0 rfl rfl rfl (wP rfl (wP rfl (Aa (zE ?_)))))))))
 refine Ak rfl (fun h=> ?_) (fun h=> ?_)
 ·refine zA (zB (wP rfl (Aa (zE (zO (zP ?_))))))
  have h0:rs=[]:=by have h':(((rs.length:Nat):Int)==0)=true:=h;rw[beq_iff_eq] at h';exact List.length_eq_zero_iff.1 (by omega)
  exact Af tH rfl (.tmp rfl) () (by subst h0;rfl) trivial fun W _=>Ae.nil _ _
 have hpos:0<rs.length:=by have h':(((rs.length:Nat):Int)==0)=false:=h;rw[beq_eq_false_iff_ne] at h';omega
 clear h
 obtain⟨b,off,rfl,hrow⟩:=hR.row hpos
 refine zI (zE (zA (zB (wP rfl (Aa (zE (zA (zA (zB (wP rfl (Aa (zE (zH ?_)))))))))))))
 refine Av (X:=Nat) (fun k=>[(1, .pointer (some ⟨b1,0,none⟩)),(3, .int .i64 (tot (rs.take k):Nat)),(4, .int .i64 (k:Nat))]) (fun _=>[⟨b1,24,[slv (some ⟨b,off,none⟩) rs.length cap],true,none⟩])
  (fun k=>k≤rs.length∧ ∀j,j<k→(rg rs j).length≠0) (fun k=>rs.length-k) 0 ⟨Nat.zero_le _,fun j hj=>absurd hj (Nat.not_lt_zero _)⟩ ⟨rfl,rfl,rfl,trivial⟩ [] rfl ?_
 rintro k ⟨hk,hok⟩
 refine zA (zA (zB (wP rfl (wP rfl (wB 0 rfl rfl rfl (wP rfl (wP rfl (Aa (zE ?_)))))))))
 refine Ak rfl (fun h=> ?_) (fun h=> ?_)
 ·have hk:k<rs.length:=by simp at h;omega
  clear h
  obtain⟨q,cap2,hq1,hq2⟩:=hrow k hk
  refine zI (zE (zA (zH (zA (zA (zB (wP rfl (wB 0 rfl rfl rfl (wP rfl ?_)))))))))
  refine wJ ?_
  refine Aw rfl rfl rfl rfl (fun W hp=>Ag.load 0 tH rfl ((fun W hp=>hq1.hp hp) W hp) rfl) ?_
  refine wP rfl (wP rfl (Aa (zE ?_)))
  refine Ak rfl (fun h=> ?_) (fun h=> ?_)
  ·refine zA (zB (wP rfl (Aa (zE (zO (zP (zQ (zP (zP (zQ (zP ?_)))))))))))
   have he:rs.any (fun l=>l.length==0)=true:=List.any_eq_true.2 ⟨_,List.mem_of_getElem? (Bf hk),by have h':((((rg rs k).length:Nat):Int)==0)=true:=h;rw[beq_iff_eq] at h'⊢;omega⟩
   exact Af tH rfl (.tmp rfl) () (by unfold KT;rw[if_pos he]) trivial fun W _=>Ae.nil _ _
  have hz:(rg rs k).length≠0:=by
   have h':((((rg rs k).length:Nat):Int)==0)=false:=h
   rw[beq_eq_false_iff_ne] at h';omega
  clear h
  refine zI (zE (zB (wP rfl (wP rfl (wB 0 rfl rfl rfl (wP rfl ?_))))))
  refine wJ ?_
  refine Aw rfl rfl rfl rfl (fun W hp=>Ag.load 0 tH rfl ((fun W hp=>hq1.hp hp) W hp) rfl) ?_
  refine wP rfl (wP rfl (wP rfl (Aa ?_)))
  have hs:w64 ((tot (rs.take k):Nat)+((rg rs k).length:Nat))=(tot (rs.take (k+1)):Nat):=by
   have h1:=Bm hk
   have h2:=Cn rs (k+1)
   rw[An (by omega) (by omega)];omega
  refine zN (zE (zB ?_))
  refine Ab 3 _ rfl (congrArg (Value.int .i64) hs) ?_
  refine wP rfl (wP rfl (wP rfl (Aa ?_)))
  refine As (k+1) ⟨hk,fun j hj=> ?_⟩ (by omega) ⟨rfl,rfl,congrArg (fun z=>some (Value.int .i64 z)) (AI (x:=(k:Int)+1) (by omega) (by omega)),trivial⟩ [] rfl
  by_cases e:j=k
  ·subst e;exact hz
  ·exact hok j (by omega)
 have e:k=rs.length:=by simp at h;omega
 subst e
 clear h
 rw[List.take_length]
 have hne: ∀l∈rs,l≠[]:=fun l hl e=>by
  obtain⟨i,hi,e2⟩:=List.getElem_of_mem hl
  have:=hok i hi
  rw[show rg rs i=rs[i] by simp[rg,hi],e2,e] at this
  exact this rfl
 have he:rs.any (fun l=>l.length==0)=false:=Bool.eq_false_iff.2 fun h2=>by
  obtain⟨l,h3,h4⟩:=List.any_eq_true.1 h2
  rw[beq_iff_eq] at h4
  exact hne l h3 (List.length_eq_zero_iff.1 h4)
 have hN: ¬(rs.any (fun l=>l.length==0)=true):=by rw[he];decide
 have h0: ¬tot rs=0:=by
  have h1:=Gk (List.mem_of_getElem? (Bf hpos))
  have h2:=hok 0 hpos
  omega
 refine zJ (zK (zK (zL (zE (zA (zA (zB (wP rfl (wP rfl (Aa (zE ?_)))))))))))
 refine Ak rfl (fun h=> ?_) (fun h=> ?_)
 ·refine zA (zB (wP rfl (Aa (zE (zO (zP ?_))))))
  have h1:tot rs>24:=by have h':decide (((tot rs:Nat):Int)>24)=true:=h;rw[decide_eq_true_iff] at h';omega
  exact Af tH rfl (.tmp rfl) () (by unfold KT;rw[if_neg hN,if_neg h0,if_pos h1]) trivial fun W _=>Ae.nil _ _
 have h1: ¬tot rs>24:=by have h':decide (((tot rs:Nat):Int)>24)=false:=h;rw[decide_eq_false_iff_not] at h';omega
 clear h
 refine zI (zE (zA (zA (zB (wP rfl (Aa (zE (zH ?_))))))))
 refine Av (X:=Nat) (fun k=>[(1, .pointer (some ⟨b1,0,none⟩)),(5, .int .i64 (k:Nat))]) (fun _=>[⟨b1,24,[slv (some ⟨b,off,none⟩) rs.length cap],true,none⟩])
  (fun k=>k≤rs.length∧ ∀j,j<k→ ∀s∈rg rs j,rgd s=true) (fun k=>rs.length-k) 0 ⟨Nat.zero_le _,fun j hj=>absurd hj (Nat.not_lt_zero _)⟩ ⟨rfl,rfl,trivial⟩ [] rfl ?_
 rintro k ⟨hk,hok2⟩
 refine zA (zA (zB (wP rfl (wP rfl (wB 0 rfl rfl rfl (wP rfl (wP rfl (Aa (zE ?_)))))))))
 refine Ak rfl (fun h=> ?_) (fun h=> ?_)
 ·have hk:k<rs.length:=by simp at h;omega
  clear h
  obtain⟨q,cap2,hq1,hq2⟩:=hrow k hk
  have hlk:=hl _ (List.mem_of_getElem? (Bf hk))
  refine zI (zE (zA (zH (zA (zB (wP rfl (Aa (zE (zH ?_)))))))))
  refine Av (X:=Nat) (fun i=>[(1, .pointer (some ⟨b1,0,none⟩)),(5, .int .i64 (k:Nat)),(6, .int .i64 (i:Nat))]) (fun _=>[⟨b1,24,[slv (some ⟨b,off,none⟩) rs.length cap],true,none⟩])
   (fun i=>i≤(rg rs k).length∧ ∀j,j<i→rgd (sd (rg rs k) j)=true) (fun i=>(rg rs k).length-i) 0 ⟨Nat.zero_le _,fun j hj=>absurd hj (Nat.not_lt_zero _)⟩ ⟨rfl,rfl,rfl,trivial⟩ [] rfl ?_
  rintro i ⟨hi,hoki⟩
  refine zA (zA (zB (wP rfl (wP rfl (wB 0 rfl rfl rfl (wP rfl ?_))))))
  refine wJ ?_
  refine Aw rfl rfl rfl rfl (fun W hp=>Ag.load 0 tH rfl ((fun W hp=>hq1.hp hp) W hp) rfl) ?_
  refine wP rfl (wP rfl (Aa (zE ?_)))
  refine Ak rfl (fun h=> ?_) (fun h=> ?_)
  ·have hi:i<(rg rs k).length:=by simp at h;omega
   clear h
   obtain⟨b4,off4,rfl,hrow4⟩:=hq2.row hi
   refine zI (zE (zA (zH (zA (zB (wP rfl (wB 0 rfl rfl rfl (wP rfl ?_))))))))
   refine wJ ?_
   refine Aw rfl rfl rfl rfl (fun W hp=>Ag.load 0 tH rfl ((fun W hp=>hq1.hp hp) W hp) rfl) ?_
   refine wP rfl ?_
   refine wJ ?_
   refine Aw rfl rfl rfl rfl (fun W hp=>Ag.load 0 tH rfl ((fun W hp=>(hrow4 i hi).hp hp) W hp) rfl) ?_
   refine Ac rfl rfl rfl rfl rfl rfl (by kernel_rfl) (fun W _=>Mr (sd (rg rs k) i) W) ?_
   refine wP rfl (Aa (zE ?_))
   refine Ak rfl (fun h=> ?_) (fun h=> ?_)
   ·refine zA (zB (wP rfl (Aa (zE (zO (zQ (zP (zP (zQ (zQ (zP (zP (zQ ?_)))))))))))))
    refine zP ?_
    have h2:rs.flatten.any (fun s=> !rgd s)=true:=List.any_eq_true.2 ⟨sd (rg rs k) i,List.mem_flatten.2 ⟨rg rs k,List.mem_of_getElem? (Bf hk),List.mem_of_getElem? (DY hi)⟩,h⟩
    exact Af tH rfl (.tmp rfl) () (by unfold KT;rw[if_neg hN,if_neg h0,if_neg h1,if_pos h2]) trivial fun W _=>Ae.nil _ _
   ·have hg:rgd (sd (rg rs k) i)=true:=by have h':(!rgd (sd (rg rs k) i))=false:=h;simpa using h'
    refine zI (zN (zE (zB (wP rfl (wP rfl (wP rfl (Aa ?_)))))))
    refine As (i+1) ⟨hi,fun j hj=> ?_⟩ (by omega) ⟨rfl,rfl,congrArg (fun z=>some (Value.int .i64 z)) (AI (x:=(i:Int)+1) (by omega) (by omega)),trivial⟩ [] rfl
    by_cases e:j=i
    ·subst e;exact hg
    ·exact hoki j (by omega)
  ·have e:i=(rg rs k).length:=by simp at h;omega
   subst e
   refine zJ (zK (zK (zL (zN (zE (zB (wP rfl (wP rfl (wP rfl (Aa ?_))))))))))
   refine As (k+1) ⟨hk,fun j hj s hs=> ?_⟩ (by omega) ⟨rfl,congrArg (fun z=>some (Value.int .i64 z)) (AI (x:=(k:Int)+1) (by omega) (by omega)),trivial⟩ [] rfl
   by_cases e:j=k
   ·subst e
    obtain⟨m,hm,e⟩:=List.getElem_of_mem hs
    have:=hoki m hm
    rw[show sd (rg rs j) m=s by simp[sd,hm,e]] at this
    exact this
   ·exact hok2 j (by omega) s hs
 have e:k=rs.length:=by simp at h;omega
 subst e
 clear h
 have hrg: ∀l∈rs, ∀s∈l,rgd s=true:=fun l hl s hs=>by
  obtain⟨i,hi,e2⟩:=List.getElem_of_mem hl
  have:=hok2 i hi
  rw[show rg rs i=l by simp[rg,hi,e2]] at this
  exact this s hs
 have h2: ¬(rs.flatten.any (fun s=> !rgd s)=true):=fun h=>by
  obtain⟨s,hs,h⟩:=List.any_eq_true.1 h
  obtain⟨l,hl,hs⟩:=List.mem_flatten.1 hs
  rw[hrg l hl s hs] at h;cases h
 refine zJ (zK (zK (zL (zE (zA (zA (zB (wP rfl (Aa (zE (zH ?_)))))))))))
 refine Av (X:=Nat) (fun k=>[(1, .pointer (some ⟨b1,0,none⟩)),(7, .int .i64 (k:Nat))]) (fun _=>[⟨b1,24,[slv (some ⟨b,off,none⟩) rs.length cap],true,none⟩])
  (fun k=>k≤rs.length∧ ∀j,j<k→Im (rg rs j)=true) (fun k=>rs.length-k) 0 ⟨Nat.zero_le _,fun j hj=>absurd hj (Nat.not_lt_zero _)⟩ ⟨rfl,rfl,trivial⟩ [] rfl ?_
 rintro k ⟨hk,hok3⟩
 refine zA (zA (zB (wP rfl (wP rfl (wB 0 rfl rfl rfl (wP rfl (wP rfl (Aa (zE ?_)))))))))
 refine Ak rfl (fun h=> ?_) (fun h=> ?_)
 ·have hk:k<rs.length:=by simp at h;omega
  clear h
  obtain⟨q,cap2,hq1,hq2⟩:=hrow k hk
  have hlk:=hl _ (List.mem_of_getElem? (Bf hk))
  refine zI (zE (zA (zH (zA (zB (wP rfl (wB 0 rfl rfl rfl (wP rfl ?_))))))))
  refine wJ ?_
  refine Aw rfl rfl rfl rfl (fun W hp=>Ag.load 0 tH rfl ((fun W hp=>hq1.hp hp) W hp) rfl) ?_
  refine Ac rfl rfl rfl rfl rfl rfl (by kernel_rfl) (fun W hp=>M2 W q cap2 (rg rs k) hlk (hq2.hp hp)) ?_
  refine wP rfl (Aa (zE ?_))
  refine Ak rfl (fun h=> ?_) (fun h=> ?_)
  ·refine zA (zB (wP rfl (Aa (zE (zO (zQ (zP (zP (zQ (zP ?_))))))))))
   have h3:rs.any (fun l=> !Im l)=true:=List.any_eq_true.2 ⟨_,List.mem_of_getElem? (Bf hk),h⟩
   exact Af tH rfl (.tmp rfl) () (by unfold KT;rw[if_neg hN,if_neg h0,if_neg h1,if_neg h2,if_pos h3]) trivial fun W _=>Ae.nil _ _
  ·have hg:Im (rg rs k)=true:=by have h':(!Im (rg rs k))=false:=h;simpa using h'
   refine zI (zN (zE (zB (wP rfl (wP rfl (wP rfl (Aa ?_)))))))
   refine As (k+1) ⟨hk,fun j hj=> ?_⟩ (by omega) ⟨rfl,congrArg (fun z=>some (Value.int .i64 z)) (AI (x:=(k:Int)+1) (by omega) (by omega)),trivial⟩ [] rfl
   by_cases e:j=k
   ·subst e;exact hg
   ·exact hok3 j (by omega)
 have e:k=rs.length:=by simp at h;omega
 subst e
 clear h
 have h3: ¬(rs.any (fun l=> !Im l)=true):=fun h=>by
  obtain⟨l,hl,h⟩:=List.any_eq_true.1 h
  obtain⟨i,hi,e2⟩:=List.getElem_of_mem hl
  have:=hok3 i hi
  rw[show rg rs i=l by simp[rg,hi,e2]] at this
  rw[this] at h;cases h
 refine zJ (zK (zK (zL (zE (zA (zA (zB (wP rfl (wB 0 rfl rfl rfl ?_)))))))))
 refine Ac rfl rfl rfl rfl rfl rfl (by kernel_rfl) (fun W hp=>Ll W _ cap rs hn hl (hR.below (Nat.le_refl _) hp.below)) ?_
 refine Aa (zE ?_)
 refine Ak rfl (fun h=> ?_) (fun h=> ?_)
 ·refine zA (zB (wP rfl (Aa (zE (zO (zP ?_))))))
  exact Af tH rfl (.tmp rfl) () (by unfold KT;rw[if_neg hN,if_neg h0,if_neg h1,if_neg h2,if_neg h3,if_pos h]) trivial fun W _=>Ae.nil _ _
 have h4: ¬(crs rs=true):=by rw[h];decide
 clear h
 refine zI (zE (zA (zA (zB (wP rfl (wB 0 rfl rfl rfl ?_))))))
 refine Ac rfl rfl rfl rfl rfl rfl (by kernel_rfl) (fun W hp=>MB W _ cap rs hn hl hne hpos (hR.below (Nat.le_refl _) hp.below)) ?_
 refine wP rfl (wP rfl ?_)
 refine AM 84 rfl (fun h84=> ?_) (fun h84=> ?_)
 ·refine Ah rfl rfl ?_
  iterate 3 refine Ah rfl rfl ?_
  refine wP rfl (Aa ?_)
  have h5:(!GG rs|| !JD rs)=true:=by rw[show(!GG rs)=true from h84];rfl
  refine zE (zR rfl (zA (zB (wP rfl (Aa (zE (zO (zP ?_))))))))
  exact Af tH rfl (.tmp rfl) () (by unfold KT;rw[if_neg hN,if_neg h0,if_neg h1,if_neg h2,if_neg h3,if_neg h4,if_pos h5]) trivial fun W _=>Ae.nil _ _
 ·refine wP rfl (wB 0 rfl rfl rfl ?_)
  refine Ac rfl rfl rfl rfl rfl rfl (by kernel_rfl) (fun W hp=>Ou W _ cap rs hn hl (hR.below (Nat.le_refl _) hp.below)) ?_
  refine wP rfl (wP rfl (Aa ?_))
  have h':(!GG rs)=false:=h84
  refine zE ?_
  refine Ak rfl (fun h=> ?_) (fun h=> ?_)
  ·refine zA (zB (wP rfl (Aa (zE (zO (zP ?_))))))
   have h5:(!GG rs|| !JD rs)=true:=by rw[h',show(!JD rs)=true from h];rfl
   exact Af tH rfl (.tmp rfl) () (by unfold KT;rw[if_neg hN,if_neg h0,if_neg h1,if_neg h2,if_neg h3,if_neg h4,if_pos h5]) trivial fun W _=>Ae.nil _ _
  ·refine zI (zE (zA (zB (wP rfl (Aa (zE (zO ?_)))))))
   have h5: ¬((!GG rs|| !JD rs)=true):=by rw[h',show(!JD rs)=false from h];decide
   exact Af tH rfl (.tmp rfl) () (by unfold KT;rw[if_neg hN,if_neg h0,if_neg h1,if_neg h2,if_neg h3,if_neg h4,if_neg h5]) trivial fun W _=>Ae.nil _ _
end
section
open Go Go.RowKit Go.Am
theorem EB (a:Int):(sgI a= -1∧a<0)∨(sgI a=0∧a=0)∨(sgI a=1∧a>0):=by
 unfold sgI
 rcases Int.lt_trichotomy a 0 with h|h|h
 ·rw[if_pos h];exact .inl ⟨rfl,h⟩
 ·rw[if_neg (by omega),if_neg (by omega)];exact .inr (.inl ⟨rfl,h⟩)
 ·rw[if_neg (by omega),if_pos h];exact .inr (.inr ⟨rfl,h⟩)
theorem Q6 {l:List Sd} (hr: ∀s∈l,inR s) {i:Nat} (hi:i<l.length):L9 l i=sgI ((sd l (nxt l.length i)).x-(sd l i).x)∧KC l i=sgI ((sd l (nxt l.length i)).y-(sd l i).y):=by
 obtain⟨s1,s2,s3,s4⟩:=CG hr hi
 obtain⟨n1,n2,n3,n4⟩:=CG hr (Ee hi)
 unfold L9 KC
 rw[d64 ⟨n1,n2⟩ ⟨s1,s2⟩,d64 ⟨n3,n4⟩ ⟨s3,s4⟩]
 exact⟨rfl,rfl⟩
theorem Md {l:List Sd} (hr: ∀s∈l,inR s) {i:Nat} (hi:i<l.length):axR l i=true↔ ¬(((sd l (nxt l.length i)).x-(sd l i).x=0)↔((sd l (nxt l.length i)).y-(sd l i).y=0)):=by
 obtain⟨e1,e2⟩:=Q6 hr hi
 unfold axR
 rw[e1,e2]
 generalize (sd l (nxt l.length i)).x-(sd l i).x=a
 generalize (sd l (nxt l.length i)).y-(sd l i).y=b
 rcases EB a with⟨ea,ha⟩|⟨ea,ha⟩|⟨ea,ha⟩<;>rcases EB b with⟨eb,hb⟩|⟨eb,hb⟩|⟨eb,hb⟩<;>rw[ea,eb]
 ·rw[show(w64 (w64 (-1* -1)+w64 (-1* -1))==1)=false by decide];constructor<;>intro h;cases h;omega
 ·rw[show(w64 (w64 (-1* -1)+w64 (0*0))==1)=true by decide];constructor<;>intro h;omega;rfl
 ·rw[show(w64 (w64 (-1* -1)+w64 (1*1))==1)=false by decide];constructor<;>intro h;cases h;omega
 ·rw[show(w64 (w64 (0*0)+w64 (-1* -1))==1)=true by decide];constructor<;>intro h;omega;rfl
 ·rw[show(w64 (w64 (0*0)+w64 (0*0))==1)=false by decide];constructor<;>intro h;cases h;omega
 ·rw[show(w64 (w64 (0*0)+w64 (1*1))==1)=true by decide];constructor<;>intro h;omega;rfl
 ·rw[show(w64 (w64 (1*1)+w64 (-1* -1))==1)=false by decide];constructor<;>intro h;cases h;omega
 ·rw[show(w64 (w64 (1*1)+w64 (0*0))==1)=true by decide];constructor<;>intro h;omega;rfl
 ·rw[show(w64 (w64 (1*1)+w64 (1*1))==1)=false by decide];constructor<;>intro h;cases h;omega
theorem J1 {l:List Sd} (hr: ∀s∈l,inR s) {i:Nat} (hi:i<l.length) (h1:axR l i=true) (h2:axR l (prv l.length i)=true):
  (Jn l i≠0↔ ¬(((sd l i).x-(sd l (prv l.length i)).x=0)↔((sd l (nxt l.length i)).x-(sd l i).x=0)))∧(Jn l i≠0→(Jn l i<0↔GS (sd l (prv l.length i)) (sd l i) (sd l (nxt l.length i))=false)):=by
 have a1:=(Md hr hi).1 h1
 have a2:=(Md hr (FC hi)).1 h2
 obtain⟨e1,e2⟩:=Q6 hr hi
 obtain⟨e3,e4⟩:=Q6 hr (FC hi)
 rw[VS hi] at a2 e3 e4
 have i1:=CG hr hi
 have i2:=CG hr (Ee hi)
 have i3:=CG hr (FC hi)
 rw[Uv i3 i1 i2,decide_eq_false_iff_not]
 unfold Jn
 rw[e1,e2,e3,e4]
 generalize (sd l (nxt l.length i)).x-(sd l i).x=c at*
 generalize (sd l (nxt l.length i)).y-(sd l i).y=d at*
 generalize (sd l i).x-(sd l (prv l.length i)).x=a at*
 generalize (sd l i).y-(sd l (prv l.length i)).y=b at*
 have pp: ∀x y:Int,x>0→y>0→x*y>0:=fun x y h h'=>Int.mul_pos h h'
 have pn: ∀x y:Int,x>0→y<0→x*y<0:=fun x y h h'=>Int.mul_neg_of_pos_of_neg h h'
 have np: ∀x y:Int,x<0→y>0→x*y<0:=fun x y h h'=>Int.mul_neg_of_neg_of_pos h h'
 have nn: ∀x y:Int,x<0→y<0→x*y>0:=fun x y h h'=>Int.mul_pos_of_neg_of_neg h h'
 by_cases ha:a=0
 ·subst ha
  have hb:b≠0:=by omega
  rw[show sgI 0=0 from rfl,Int.zero_mul,Int.zero_mul]
  by_cases hd:d=0
  ·subst hd
   have hc:c≠0:=by omega
   rcases EB b with⟨eb,hb'⟩|⟨eb,hb'⟩|⟨eb,hb'⟩<;>rcases EB c with⟨ec,hc'⟩|⟨ec,hc'⟩|⟨ec,hc'⟩<;>first|omega|skip
   ·rw[eb,ec,show w64 (w64 0-w64 (-1* -1))= -1 by decide];have:=nn b c hb' hc';omega
   ·rw[eb,ec,show w64 (w64 0-w64 (-1*1))=1 by decide];have:=np b c hb' hc';omega
   ·rw[eb,ec,show w64 (w64 0-w64 (1* -1))=1 by decide];have:=pn b c hb' hc';omega
   ·rw[eb,ec,show w64 (w64 0-w64 (1*1))= -1 by decide];have:=pp b c hb' hc';omega
  ·have hc:c=0:=by omega
   subst hc
   rw[show sgI 0=0 from rfl,Int.mul_zero,show w64 (w64 0-w64 0)=0 by decide]
   omega
 ·have hb:b=0:=by omega
  subst hb
  rw[show sgI 0=0 from rfl,Int.zero_mul,Int.zero_mul]
  by_cases hc:c=0
  ·subst hc
   have hd:d≠0:=by omega
   rcases EB a with⟨eb,hb'⟩|⟨eb,hb'⟩|⟨eb,hb'⟩<;>rcases EB d with⟨ec,hc'⟩|⟨ec,hc'⟩|⟨ec,hc'⟩<;>first|omega|skip
   ·rw[eb,ec,show w64 (w64 (-1* -1)-w64 0)=1 by decide];have:=nn a d hb' hc';omega
   ·rw[eb,ec,show w64 (w64 (-1*1)-w64 0)= -1 by decide];have:=np a d hb' hc';omega
   ·rw[eb,ec,show w64 (w64 (1* -1)-w64 0)= -1 by decide];have:=pn a d hb' hc';omega
   ·rw[eb,ec,show w64 (w64 (1*1)-w64 0)=1 by decide];have:=pp a d hb' hc';omega
  ·have hd:d=0:=by omega
   subst hd
   rw[show sgI 0=0 from rfl,Int.mul_zero,show w64 (w64 0-w64 0)=0 by decide]
   omega
theorem T7 {l:List Sd} (hr: ∀s∈l,inR s):Im l=shp l:=by
 rw[Bool.eq_iff_iff]
 constructor
 ·intro h
  unfold Im at h
  obtain⟨h1,h2⟩:=Bool.and_eq_true_iff.1 h
  have ok: ∀i,i<l.length→axR l i=true∧Jn l i≠0:=fun i hi=>by
   have:=List.all_eq_true.1 h1 i (List.mem_range.2 hi)
   unfold okR at this
   obtain⟨a,b⟩:=Bool.and_eq_true_iff.1 this
   exact⟨a,by simpa using b⟩
  exact Wx hr (of_decide_eq_true h2) fun i hi=>⟨(Md hr hi).1 (ok i hi).1,(J1 hr hi (ok i hi).1 (ok _ (FC hi)).1).1.1 (ok i hi).2⟩
 ·intro h
  have ax: ∀i,i<l.length→axR l i=true:=fun i hi=>(Md hr hi).2 (EH hr h hi).1
  unfold Im
  rw[decide_eq_true (RU h),Bool.and_true]
  refine List.all_eq_true.2 fun i hi=> ?_
  have hi:=List.mem_range.1 hi
  have:=(J1 hr hi (ax i hi) (ax _ (FC hi))).1.2 (EH hr h hi).2
  unfold okR
  rw[ax i hi,beq_eq_false_iff_ne.2 this];rfl
theorem Ul {l:List Sd} (hr: ∀s∈l,inR s) (h:shp l=true) {i:Nat} (hi:i<l.length):Jn l i≠0∧(Jn l i<0↔GS (sd l (prv l.length i)) (sd l i) (sd l (nxt l.length i))=false):=by
 have ax: ∀i,i<l.length→axR l i=true:=fun i hi=>(Md hr hi).2 (EH hr h hi).1
 have t:=J1 hr hi (ax i hi) (ax _ (FC hi))
 have hne:=t.1.2 (EH hr h hi).2
 exact⟨hne,t.2 hne⟩
theorem WD {l:List Sd} (hr: ∀s∈l,inR s) (h:shp l=true) {i:Nat} (hi:i<l.length):Hr l i=CC l i:=by
 have t:=(Ul hr h hi).2
 unfold Hr CC Mk
 cases hl:GS (sd l (prv l.length i)) (sd l i) (sd l (nxt l.length i)) with
 |true=>rw[decide_eq_false (fun e=>by rw[t.1 e] at hl;cases hl)];rfl
 |false=>
  rw[decide_eq_true (t.2 hl),Bool.true_and,Bool.false_or]
  have e: ∀a b:Int,(!(false||false||(a !=b)))=(!false&& !false&&(b==a)):=fun a b=>by
   by_cases h:a=b
   ·subst h;simp
   ·rw[bne_iff_ne.2 h,beq_eq_false_iff_ne.2 (fun x=>h x.symm)];rfl
  cases(sd l i).gable<;>cases(sd l (prv l.length i)).gable<;>first|rfl|exact e _ _
theorem W7 {rs:List (List Sd)} (hin:SK rs) (hs: ∀l∈rs,shp l=true):JD rs=jnd rs:=by
 unfold JD jnd
 congr 1
 rw[Bool.eq_iff_iff,List.all_eq_true,List.all_eq_true]
 have e: ∀l∈rs,((List.range l.length).all (Hr l))=FM l:=fun l hl=>MF fun i hi=>WD (hin l hl) (hs l hl) hi
 constructor<;>intro h l hl
 ·rw[←e l hl];exact h l hl
 ·rw[e l hl];exact h l hl
theorem Wl {l:List Sd} (h: ∀s∈l,inR s): ∀k,k≤l.length→k≤1000000→twR l k=AN (Ek l) k∧ -(k*4294967296:Int)≤twR l k∧twR l k≤k*4294967296
 |0,_,_=>⟨rfl,by simp[twR],by simp[twR]⟩
 |k+1,hk,hm=>by
  obtain⟨h1,h2,h3⟩:=Wl h k (by omega) (by omega)
  have hs:=CG h (show k<l.length by omega)
  have hn:=CG h (Ee (show k<l.length by omega))
  obtain⟨a1,a2⟩:=Hz hs.1 hs.2.1 hn.2.2.1 hn.2.2.2
  obtain⟨b1,b2⟩:=Hz hs.2.2.1 hs.2.2.2 hn.1 hn.2.1
  have e:twR l (k+1)=twR l k+Ek l k:=by
   show w64 (w64 (twR l k+w64 ((sd l k).x*(sd l (nxt l.length k)).y))-w64 ((sd l (nxt l.length k)).x*(sd l k).y))=_
   unfold Ek
   rw[Int.mul_comm (sd l (nxt l.length k)).x,An (x:=(sd l k).x*_) (by omega) (by omega),An (x:=(sd l k).y*_) (by omega) (by omega),An (x:=twR l k+_) (by omega) (by omega)]
   rw[An (by omega) (by omega)];omega
  have ec:Ek l k=(sd l k).x*(sd l (nxt l.length k)).y-(sd l k).y*(sd l (nxt l.length k)).x:=rfl
  refine⟨by rw[e,h1];rfl, ?_, ?_⟩<;>rw[e,ec]<;>push_cast<;>omega
theorem TB {l:List Sd} (h: ∀s∈l,inR s) (px py:Int): ∀k,k≤l.length→FX l px py k=D1 l px py k
 |0,_=>rfl
 |k+1,hk=>by
  have hs:=CG h (show k<l.length by omega)
  have hn:=CG h (Ee (show k<l.length by omega))
  have e:Kc (sd l k) (sd l (nxt l.length k)) px py=HJ (sd l k) (sd l (nxt l.length k)) px py:=by
   unfold Kc HJ
   rw[d64 ⟨hn.1,hn.2.1⟩ ⟨hs.1,hs.2.1⟩]
   generalize sd l k=t
   generalize sd l (nxt l.length k)=u
   by_cases hx:t.x=u.x
   ·rw[beq_iff_eq.2 hx,beq_iff_eq.2 (show u.x-t.x=0 by omega),hx]
    rw[Bool.true_and,Bool.and_assoc]
    congr 1
    unfold loy hiy
    by_cases h1:t.y>py<;>by_cases h2:u.y>py
    ·rw[decide_eq_true h1,decide_eq_true h2,decide_eq_false (by split<;>omega)];rfl
    ·rw[decide_eq_true h1,decide_eq_false h2,decide_eq_true (by split<;>omega),decide_eq_true (by split<;>omega)];rfl
    ·rw[decide_eq_false h1,decide_eq_true h2,decide_eq_true (by split<;>omega),decide_eq_true (by split<;>omega)];rfl
    ·rw[decide_eq_false h1,decide_eq_false h2,decide_eq_false (p:=py<_) (by split<;>omega),Bool.and_false];rfl
   ·rw[beq_eq_false_iff_ne.2 hx,beq_eq_false_iff_ne.2 (show u.x-t.x≠0 by omega)];rfl
  show(if Kc (sd l k) (sd l (nxt l.length k)) px py=true then !FX l px py k else FX l px py k)=(if HJ (sd l k) (sd l (nxt l.length k)) px py=true then !D1 l px py k else D1 l px py k)
  rw[e,TB h px py k (by omega)]
theorem Xh {rs:List (List Sd)} (hin:SK rs) (hs: ∀l∈rs,shp l=true) (hc:crs rs=false) (hT:tot rs≤24) (hpos:0<rs.length):GG rs=plc rs:=by
 have ar: ∀r,r<rs.length→twR (rg rs r) (rg rs r).length=C9 (rg rs r) (rg rs r).length∧C9 (rg rs r) (rg rs r).length≠0:=fun r hr=>by
  have hm:rg rs r∈rs:=List.mem_of_getElem? (Bf hr)
  have hlen:=Gk hm
  rw[(Wl (hin _ hm) _ (Nat.le_refl _) (by omega)).1,(MY (hin _ hm) _ (Nat.le_refl _) (by omega)).1]
  exact⟨rfl,VT hin hs hc hr⟩
 have pk: ∀r s,r<rs.length→s<rs.length→r≠0→MD rs r s=Fa rs r s:=fun r s hr hs' h0=>by
  unfold MD Fa
  rw[TB (hin _ (List.mem_of_getElem? (Bf hs'))) _ _ _ (Nat.le_refl _),beq_eq_false_iff_ne.2 h0,Bool.or_false]
 have all: ∀r,r<rs.length→r≠0→((List.range rs.length).all (MD rs r))=((List.range rs.length).all (Fa rs r)):=fun r hr h0=>MF fun s hs'=>pk r s hr hs' h0
 rw[Bool.eq_iff_iff]
 constructor
 ·intro h
  unfold GG at h
  obtain⟨h1,h2⟩:=Bool.and_eq_true_iff.1 h
  refine List.all_eq_true.2 fun r hr=> ?_
  have hr:=List.mem_range.1 hr
  have hr2:=List.all_eq_true.1 h2 r (List.mem_range.2 hr)
  obtain⟨a1,a2⟩:=ar r hr
  unfold CX
  by_cases e:r=0
  ·subst e
   rw[a1] at h1
   have h1: ¬C9 (rg rs 0) (rg rs 0).length≤0:=by simpa using h1
   rw[decide_eq_true (by omega)]
   exact Bool.and_eq_true_iff.2 ⟨rfl,List.all_eq_true.2 fun k _=>by unfold Fa;simp⟩
  ·unfold QW at hr2
   rw[beq_eq_false_iff_ne.2 e,Bool.false_or,a1] at hr2
   obtain⟨b1,b2⟩:=Bool.and_eq_true_iff.1 hr2
   have b1: ¬C9 (rg rs r) (rg rs r).length≥0:=by simpa using b1
   rw[decide_eq_false (by omega),beq_eq_false_iff_ne.2 e, ←all r hr e,b2];rfl
 ·intro h
  have pr: ∀r,r<rs.length→CX rs r=true:=fun r hr=>List.all_eq_true.1 h r (List.mem_range.2 hr)
  unfold GG
  have h0:=pr 0 hpos
  unfold CX at h0
  obtain⟨c1,_⟩:=Bool.and_eq_true_iff.1 h0
  obtain⟨a1,a2⟩:=ar 0 hpos
  have c2:C9 (rg rs 0) (rg rs 0).length>0:=by simpa using c1
  rw[a1,decide_eq_false (by omega),Bool.not_false,Bool.true_and]
  refine List.all_eq_true.2 fun r hr=> ?_
  have hr:=List.mem_range.1 hr
  unfold QW
  by_cases e:r=0
  ·subst e;rfl
  ·have h1:=pr r hr
   unfold CX at h1
   obtain⟨d1,d2⟩:=Bool.and_eq_true_iff.1 h1
   obtain⟨a1,a2⟩:=ar r hr
   rw[beq_eq_false_iff_ne.2 e,beq_iff_eq,decide_eq_false_iff_not] at d1
   rw[a1,decide_eq_false (by omega),all r hr e,d2]
   simp
theorem RN (rs:List (List Sd)):KT rs=chk rs:=by
 unfold KT chk
 by_cases hN:rs.any (fun l=>l.length==0)=true
 ·rw[if_pos hN,if_pos hN]
 rw[if_neg hN,if_neg hN]
 by_cases h0:tot rs=0
 ·rw[if_pos h0,if_pos h0]
 rw[if_neg h0,if_neg h0]
 by_cases h1:tot rs>24
 ·rw[if_pos h1,if_pos h1]
 rw[if_neg h1,if_neg h1]
 by_cases h2:rs.flatten.any (fun s=> !rgd s)=true
 ·rw[if_pos h2,if_pos h2]
 rw[if_neg h2,if_neg h2]
 have hg: ∀l∈rs, ∀s∈l,rgd s=true:=Vp (by simpa using h2)
 have hin:SK rs:=fun l hl s hs=>VL (hg l hl s hs)
 have e3:rs.any (fun l=> !Im l)=rs.any (fun l=> !shp l):=by
  rw[Bool.eq_iff_iff,List.any_eq_true,List.any_eq_true]
  constructor<;>rintro⟨l,hl,h⟩
  ·exact⟨l,hl,by rw[←T7 (hin l hl)];exact h⟩
  ·exact⟨l,hl,by rw[T7 (hin l hl)];exact h⟩
 rw[e3]
 by_cases h3:rs.any (fun l=> !shp l)=true
 ·rw[if_pos h3,if_pos h3]
 rw[if_neg h3,if_neg h3]
 have hs: ∀l∈rs,shp l=true:=fun l hl=>by
  cases h:shp l with
  |true=>rfl
  |false=>exact absurd (List.any_eq_true.2 ⟨l,hl,by rw[h];rfl⟩) h3
 by_cases h4:crs rs=true
 ·rw[if_pos h4,if_pos h4]
 rw[if_neg h4,if_neg h4]
 have hpos:0<rs.length:=by
  cases rs with
  |nil=>exact absurd rfl h0
  |cons x rs=>simp
 rw[Xh hin hs (by simpa using h4) (by omega) hpos,W7 hin hs]
end
section
open Go Go.RowKit Go.Am Go.Lib
set_option maxRecDepth 10000
-- BOXES 5
-- CODE2
theorem Vs {rs:List (List Sd)} {r:Nat} (hr:r<rs.length) (i:Nat) (hi:i<(rg rs r).length):rs.flatten[tot (rs.take r)+i]? =some (sd (rg rs r) i):=by
 have e:rs.flatten=(rs.take r).flatten++(rg rs r++(rs.drop (r+1)).flatten):=by
  conv=>lhs;rw[←List.take_append_drop r rs,List.drop_eq_getElem_cons hr,List.flatten_append,List.flatten_cons]
  rw[show rs[r]=rg rs r by unfold rg;rw[List.getD_eq_getElem?_getD,List.getElem?_eq_getElem hr];rfl]
 have hl:(rs.take r).flatten.length=tot (rs.take r):=List.length_flatten
 rw[e,List.getElem?_append_right (by omega),hl,Nat.add_sub_cancel_left,List.getElem?_append_left hi]
 exact DY hi
theorem Vm {rs:List (List Sd)} {r:Nat} (hr:r<rs.length) {i:Nat} (hi:i<(rg rs r).length):sd rs.flatten (tot (rs.take r)+i)=sd (rg rs r) i:=by
 have h1:=Vs hr i hi
 have h2:=DY (l:=rs.flatten) (List.getElem?_eq_some_iff.1 h1).1
 rw[h1] at h2
 exact(Option.some.inj h2).symm
theorem Vec.frs {V:Vec} {l:List FrP} (hV:V.OK 5 l.length (frC l)) (h0:0<l.length): ∃g cap,V.val l.length= .slice (some ⟨g,0,none⟩) l.length cap∧
  ∀ {W0 W:World} {bxs:List Bx},Hp W0 bxs W→ ∀k,nth bxs k=some (V.bx 39 (frC l))→ ∀m f,l[m]? =some f→Ag W g (0+m*5) (frV f).cells.toList:=by
 obtain⟨p,cap,junk⟩:=V
 cases p with
 |none=>have:=hV.nil rfl;omega
 |some g=>
  refine⟨g,cap,rfl,fun {W0 W bxs} hp k hk m f hf=> ?_⟩
  obtain⟨hm,rfl⟩:=List.getElem?_eq_some_iff.1 hf
  refine Dw hp k (A:=frC (l.take m)) (C:=frC (l.drop (m+1))++junk) hk ?_ (by rw[UY,List.length_take];omega)
  have e:frC l=frC (l.take m)++((frV l[m]).cells.toList++frC (l.drop (m+1))):=by
   conv=>lhs;rw[←List.take_append_drop m l,List.drop_eq_getElem_cons hm,Sh]
   rfl
  rw[e,List.append_assoc,List.append_assoc]
theorem Vec.sds {V:Vec} {l:List Sd} (hV:V.OK 7 l.length (cellsOf l)) (h0:0<l.length): ∃g cap,V.val l.length=slv (some ⟨g,0,none⟩) l.length cap∧
  ∀ {W0 W:World} {bxs:List Bx},Hp W0 bxs W→ ∀k,nth bxs k=some (V.bx 42 (cellsOf l))→ ∀m,m<l.length→Ag W g (0+m*7) (sd l m).cells:=by
 obtain⟨p,cap,junk⟩:=V
 cases p with
 |none=>have:=hV.nil rfl;omega
 |some g=>
  refine⟨g,cap,rfl,fun {W0 W bxs} hp k hk m hm=> ?_⟩
  have hrow:=Ag.of_bx hp k hk rfl
  have hring:Fd W g 0 l:=Fd.of_cells hrow.lt fun j u hj=>by
   refine hrow.get j u ?_
   show(cellsOf l++junk)[j]? =some u
   rw[List.getElem?_append_left (List.getElem?_eq_some_iff.1 hj).1]
   exact hj
  exact hring.get m _ (DY hm)
-- BOXES 15
-- CODE2
theorem Ag.keep {W W':World} {b off g:Nat} {c:List Value} (h:Ag W b off c) (hk:Hq W W' g) (hne:b≠g):Ag W' b off c:=by
 refine⟨Nat.lt_of_lt_of_le h.lt hk.size,fun j x hx=> ?_⟩
 have h1:=h.get j x hx
 have h2:=hk.at_ b hne h.lt
 rw[←h1]
 simp only[World.cell?,h2]
theorem NI (V:Vec) (n:Nat):Nat.beq (V.val n).cells.toList.length 1=true∧CP (V.val n).cells.toList=true∧(V.val n).cells.toList=[V.val n]:=by
 obtain⟨p,c,j⟩:=V
 cases p<;>exact⟨rfl,rfl,rfl⟩
theorem Vec.num {V:Vec} {l:List Rat} (hV:V.OK 1 l.length (nS l)): ∃p cap,V.val l.length= .slice p l.length cap∧(0<l.length→ ∃g,p=some ⟨g,0,none⟩∧
  ∀ {W0 W:World} {bxs:List Bx},Hp W0 bxs W→ ∀k,nth bxs k=some (V.bx 37 (nS l))→ ∀i (hi:i<l.length),Ag W g (0+i*1) [str (Ai l[i])]):=by
 obtain⟨p,cap,junk⟩:=V
 cases p with
 |none=>
  have h0:=hV.nil rfl
  exact⟨none,0,by rw[h0];rfl,fun h=>by omega⟩
 |some g=>
  refine⟨some ⟨g,0,none⟩,cap,rfl,fun _=>⟨g,rfl,fun {W0 W bxs} hp k hk i hi=> ?_⟩⟩
  exact Dw hp k (A:=nS (l.take i)) (C:=nS (l.drop (i+1))++junk) hk (by rw[I2 hi];simp only[List.append_assoc]) (by rw[CO,List.length_take];omega)
theorem Pv {rs:List (List Sd)} {i:Nat} (hi:i<tot rs):(fr (Az rs) i).st=((sd rs.flatten i).plate:Rat):=by
 obtain⟨r,j,hr,hj,e⟩:=RL hi
 have h1:=Sg hr hj
 have h2:=Vm hr hj
 rw[←e] at h1 h2
 have h3:=Gi (F:=Az rs) (i:=i) (by rw[Dm];exact hi)
 rw[h1] at h3
 rw[←Option.some.inj h3,h2];rfl
theorem X6 {N:Nat} {W0:World} {D:List Deferred} {Q:Exit→Act→World→Prop} {e:Exit} {env:Env} {bxs bxs':List Bx} (h:bxs=bxs') (h2:NE N D Q e env (Hp W0 bxs')):NE N D Q e env (Hp W0 bxs):=h▸h2
abbrev bxE (b:Nat) (t:TypeId) (v:Value):Bx:=⟨b,t,[v],true,none⟩
abbrev bxN (x:Nat×Nat×List Value) (l:List Rat):Bx:=⟨x.1,37,nS l++x.2.2,true,none⟩
abbrev okV (x:Nat×Nat×List Value) (l:List Rat):Prop:=(⟨some x.1,x.2.1,x.2.2⟩:Vec).OK 1 l.length (nS l)
abbrev slN (x:Nat×Nat×List Value) (l:List Rat):Value:= .slice (some ⟨x.1,0,none⟩) l.length x.2.1
theorem Gz (W:World) (p:Option Addr) (cap:Nat) (rs:List (List Sd)) (hn:rs.length<1099511627776) (hR:Bz W p rs) (hc:chk rs=0) (hd:Ig W) (hv:BJ W) (ht:AV W):
  Aj Tryz.prog 62 #[B5 p rs.length cap] W (fun x:Vec×Vec=> .tuple #[x.1.val (Az rs).length,x.2.val (Bk rs).length, .int .i64 0]) (fun x=>x.1.OK 5 (Az rs).length (frC (Az rs))∧x.2.OK 1 (Bk rs).length (nS (Bk rs)))
   (fun x=>[x.1.bx 39 (frC (Az rs)),x.2.bx 37 (nS (Bk rs))]):=by
 obtain⟨hne,hT24,hT0⟩:=Ea hc
 obtain⟨hrg,_⟩:=DA hc
 have eF:=Dm rs
 have eS:rs.flatten.length=tot rs:=List.length_flatten
 have hsne:=Ng hc
 obtain⟨T,hTe⟩: ∃T,T=tot rs:=⟨_,rfl⟩
 rw[←hTe] at eF eS hT24 hT0
 refine Ad (args:=[B5 p rs.length cap]) Tryz.func62 rfl rfl rfl ?_
 refine zA (zB ?_)
 (refine A8 rfl rfl rfl rfl ?_;intro)
 (refine Ao Tryz.hZ rfl rfl rfl rfl ?_;intro)
 (refine Ao Tryz.hZ rfl rfl rfl rfl ?_;intro)
 (refine Ao Tryz.hZ rfl rfl rfl rfl ?_;intro)
 refine Aa ?_
 rename_i b1 b2 b3 b4
 refine zE (zA (zB (wB 0 rfl rfl rfl ?_)))
 refine Au (X:=Vec) rfl rfl rfl rfl rfl rfl (by kernel_rfl) (fun W1 hp=>HT W1 p cap rs (by omega) (hR.hp hp) hc (hd.hp hp) (ht.hp hp)) ?_
 intro F hF
 have hF:F.OK 5 (Az rs).length (frC (Az rs)):=hF
 obtain⟨gF,cF,hFv,hFr⟩:=Vec.frs hF (by omega)
 rw[hFv,eF]
 refine wP rfl (wP rfl (wP rfl ?_))
 (refine Ao Tryz.hZ rfl rfl rfl rfl ?_;intro)
 refine wS 5 rfl rfl rfl (wP rfl (Aa ?_))
 rename_i b5
 refine zE (zA (zA (zB (wP rfl (wP rfl (Aa (zE (zS rfl (zI (zE (zA (zB (wB 0 rfl rfl rfl ?_)))))))))))))
 refine Au (X:=Vec) rfl rfl rfl rfl rfl rfl (by kernel_rfl) (fun W1 hp=>OW W1 p cap rs (by omega) (hR.hp hp) hc) ?_
 intro S hS
 have hS:S.OK 7 rs.flatten.length (cellsOf rs.flatten):=hS
 obtain⟨gS,cS,hSv,hSr⟩:=Vec.sds hS (by omega)
 rw[hSv,eS]
 iterate 5 refine wP rfl ?_
 refine Aa (zE (zA (zA (zB (wP rfl (wP rfl (Aa (zE (zS rfl (zI (zE (zA (zB ?_)))))))))))))
 (refine Ao Tryz.hZ rfl rfl rfl rfl ?_;intro)
 refine Aa ?_
 rename_i b8
 refine zE (zA (zA (zB (wP rfl (wP rfl (wP rfl (Aa (zE (zH ?_)))))))))
 refine CM ?_
 have hFr: ∀ {W0 W:World} {bxs:List Bx},Hp W0 bxs W→ ∀k,nth bxs k=some (F.bx 39 (frC (Az rs)))→ ∀m,m<T→Ag W gF (0+m*5) (frV (fr (Az rs) m)).cells.toList:=fun hp k hk m hm=>hFr hp k hk m _ (Gi (by omega))
 have hFr4: ∀ {W0 W:World} {bxs:List Bx},Hp W0 bxs W→ ∀k,nth bxs k=some (F.bx 39 (frC (Az rs)))→ ∀m,m<T→Ag W gF (0+m*5+4) [str (Ai ((sd rs.flatten m).plate:Rat))]:=fun hp k hk m hm=>by
  have h:=(hFr hp k hk m hm).sub 4
  rw[←Pv (by omega)]
  exact h
 have hSr: ∀ {W0 W:World} {bxs:List Bx},Hp W0 bxs W→ ∀k,nth bxs k=some (S.bx 42 (cellsOf rs.flatten))→ ∀m,m<T→Ag W gS (0+m*7) (sd rs.flatten m).cells:=fun hp k hk m hm=>hSr hp k hk m (by omega)
 refine Av (X:=Nat×Vec) (fun s=>[(2,Ax b2),(3,Ax b3),(4,Ax b4),(5,Ax b5),(8,Ax b8),(32,slv (some ⟨gS,0,none⟩) T cS),(33, .int .i64 (T:Nat)),(34, .int .i64 (s.1:Nat))])
  (fun s=>[bxE b1 24 (slv p rs.length cap),bxE b2 29 (.slice none 0 0),bxE b3 50 (.slice none 0 0),bxE b4 26 (.int .i64 0),F.bx 39 (frC (Az rs)),bxE b5 29 (.slice (some ⟨gF,0,none⟩) T cF),S.bx 42 (cellsOf rs.flatten),bxE b8 50 (s.2.val (stT rs s.1).length),s.2.bx 37 (nS (stT rs s.1))])
  (fun s=>s.1≤T∧s.2.OK 1 (stT rs s.1).length (nS (stT rs s.1))) (fun s=>T-s.1) (0,Vec.empty) ⟨Nat.zero_le _,Vec.OK.empty 1⟩ ⟨rfl,rfl,rfl,rfl,rfl,rfl,rfl,rfl,trivial⟩ [] rfl ?_
 rintro⟨i,V⟩ ⟨hi,hV⟩
 have hi:i≤T:=hi
 have hV:V.OK 1 (stT rs i).length (nS (stT rs i)):=hV
 by_cases hlt:i<T
 ·refine zA (zB (wP rfl ?_))
  refine Ab 35 (.bool true) rfl (congrArg Value.bool (decide_eq_true (by omega))) ?_
  refine Aa (zE (zA (zR rfl (zI (zE (zA (zH (zA (zB ?_)))))))))
  have hsu:=UG (rs:=rs) (i:=i) (by omega)
  have hsl:=NK rs i (by omega)
  have hsz: ∀x∈stT rs i,Sz2 x ((sd rs.flatten i).plate:Rat):=fun x hx=>by
   have hm:sd rs.flatten i∈rs.flatten:=List.mem_of_getElem? (DY (by omega))
   obtain⟨l,hl,hsm⟩:=List.mem_flatten.1 hm
   obtain⟨_,_,hp,_⟩:=EE (hrg l hl _ hsm)
   exact sz2 (Nq hrg (VQ hx)) (Ft (k:=5) (by show _<100000;omega) (by decide)) (by decide)
  refine wP rfl ?_
  refine wJ ?_
  refine Aw rfl rfl rfl rfl (fun W hp=>Ag.load 0 tH rfl ((fun W1 hp=>hSr hp 6 rfl i hlt) W hp) rfl) ?_
  (refine Ao Tryz.hZ rfl rfl rfl rfl ?_;intro)
  refine wP rfl (wS 9 rfl rfl rfl (Aa ?_))
  rename_i b10
  obtain⟨cg,hcg⟩: ∃cg,cg= !(sd rs.flatten i).gable:=⟨_,rfl⟩
  rw[←hcg] at hsu
  refine zE ?_
  repeat refine A7 ?_
  cases hVc:V.p with
  |none=>
   have h0:=hV.nil hVc
   have h00:stT rs i=[]:=List.length_eq_zero_iff.1 h0
   have hv0:V.val (stT rs i).length= .slice none 0 0:=by unfold Vec.val;rw[hVc]
   have hb0:V.bx 37 (nS (stT rs i))=Du:=by unfold Vec.bx;rw[hVc]
   rw[hv0,hb0]
   rw[h00] at hsu
   refine BU (X:= { U:Vec//U.OK 1 (stT rs (i+1)).length (nS (stT rs (i+1))) }) [true,true,true,true,true,true,true,false,false] (fun U=>[(2,Ax b2),(3,Ax b3),(4,Ax b4),(5,Ax b5),(8,Ax b8),(32,slv (some ⟨gS,0,none⟩) T cS),(33, .int .i64 (T:Nat)),(34, .int .i64 (i:Nat))])
    (fun U=>[bxE b1 24 (slv p rs.length cap),bxE b2 29 (.slice none 0 0),bxE b3 50 (.slice none 0 0),bxE b4 26 (.int .i64 0),F.bx 39 (frC (Az rs)),bxE b5 29 (.slice (some ⟨gF,0,none⟩) T cF),S.bx 42 (cellsOf rs.flatten),bxE b8 50 (U.1.val (stT rs (i+1)).length),U.1.bx 37 (nS (stT rs (i+1)))])
    2 [bxE b1 24 (slv p rs.length cap),bxE b2 29 (.slice none 0 0),bxE b3 50 (.slice none 0 0),bxE b4 26 (.int .i64 0),F.bx 39 (frC (Az rs)),bxE b5 29 (.slice (some ⟨gF,0,none⟩) T cF),S.bx 42 (cellsOf rs.flatten),bxE b8 50 (.slice none 0 0),Du,⟨b10,42,(sd rs.flatten i).cells,true,none⟩] Tryz.mixed (by kernel_rfl) ?_ ?_
   ·refine qB 7 rfl rfl rfl (qB 5 rfl rfl rfl (qP rfl ?_))
    refine qJ ?_
    refine qP rfl ?_
    refine Ap rfl rfl rfl rfl (fun W hp=>Ag.load 0 tH rfl ((fun W1 hp=>hFr4 hp 4 rfl i hlt) W hp) rfl) ?_
    refine qP rfl (Dd ?_)
    refine wX ?_
    refine RS.cons ?_ (RS.nil)
    refine Au (X:=Vec) rfl rfl rfl rfl rfl rfl (by kernel_rfl) (fun W1 hp=>Nz W1 ((sd rs.flatten i).plate:Rat) 137 [Ax b10] cg (by kernel_rfl) (hv.hp hp) (ht.hp hp) fun W' hb=>by rw[hcg];exact Ki _ b10 (sd rs.flatten i) W' ((Ag.of_bx hp 9 rfl rfl).below (Nat.le_refl _) hb)) ?_;intro U hU;rw[←hsu] at hU⊢
    refine Aa (Al ?_)
    refine wX ?_
    refine RS.cons ?_ (RS.nil)
    refine Ay 7 [U.val (stT rs (i+1)).length] tH rfl rfl rfl rfl rfl rfl rfl rfl (NI _ _).1 (NI _ _).2.1 (by exact Nat.le_refl 1) (by rw[(NI _ _).2.2];rfl) ?_
    refine Aa (Al ?_)
    refine AJ rfl (by kernel_rfl) ?_
    exact AD ⟨U,hU⟩ ⟨rfl,rfl,rfl,rfl,rfl,rfl,rfl,rfl,trivial⟩ [0,1,2,3,4,5,6,7,10] (by decide) rfl
   intro U
   refine zN (zE (zB (wP rfl ?_)))
   refine Ab 47 (.int .i64 ((i+1:Nat):Int)) rfl (congrArg (Value.int .i64) (A5 (by omega))) ?_
   refine wP rfl (Aa ?_)
   exact As (i+1,U.1) ⟨hlt,U.2⟩ (by show T-(i+1)<T-i;omega) ⟨rfl,rfl,rfl,rfl,rfl,rfl,rfl,rfl,trivial⟩ [] rfl
  |some gV=>
   obtain⟨pV,cV,jk⟩:=V
   obtain rfl:pV=some gV:=hVc
   refine BU (X:= { U:Nat×Nat×List Value//okV U (stT rs (i+1)) }) [true,true,true,true,true,true,true,false,false] (fun U=>[(2,Ax b2),(3,Ax b3),(4,Ax b4),(5,Ax b5),(8,Ax b8),(32,slv (some ⟨gS,0,none⟩) T cS),(33, .int .i64 (T:Nat)),(34, .int .i64 (i:Nat))])
    (fun U=>[bxE b1 24 (slv p rs.length cap),bxE b2 29 (.slice none 0 0),bxE b3 50 (.slice none 0 0),bxE b4 26 (.int .i64 0),F.bx 39 (frC (Az rs)),bxE b5 29 (.slice (some ⟨gF,0,none⟩) T cF),S.bx 42 (cellsOf rs.flatten),bxE b8 50 (slN U.1 (stT rs (i+1))),bxN U.1 (stT rs (i+1))])
    2 [bxE b1 24 (slv p rs.length cap),bxE b2 29 (.slice none 0 0),bxE b3 50 (.slice none 0 0),bxE b4 26 (.int .i64 0),F.bx 39 (frC (Az rs)),bxE b5 29 (.slice (some ⟨gF,0,none⟩) T cF),S.bx 42 (cellsOf rs.flatten),bxE b8 50 (slN (gV,cV,jk) (stT rs i)),bxN (gV,cV,jk) (stT rs i),⟨b10,42,(sd rs.flatten i).cells,true,none⟩] Tryz.mixed (by kernel_rfl) ?_ ?_
   ·refine qB 7 rfl rfl rfl (qB 5 rfl rfl rfl (qP rfl ?_))
    refine qJ ?_
    refine qP rfl ?_
    refine Ap rfl rfl rfl rfl (fun W hp=>Ag.load 0 tH rfl ((fun W1 hp=>hFr4 hp 4 rfl i hlt) W hp) rfl) ?_
    refine qP rfl (Dd ?_)
    refine wX ?_
    refine RS.cons ?_ (RS.nil)
    refine CE 8 (X:=Nat×Nat×List Value) (val:=fun x=> .slice (some ⟨x.1,0,none⟩) (mrg cg (stT rs i) ((sd rs.flatten i).plate:Rat)).length x.2.1) (Φ:=fun x=>okV x (mrg cg (stT rs i) ((sd rs.flatten i).plate:Rat))) (L1:=[]) (L2:=[]) (B:=bxN (gV,cV,jk) (stT rs i)) (fun x=>bxN x (mrg cg (stT rs i) ((sd rs.flatten i).plate:Rat))) rfl rfl rfl rfl rfl rfl (by kernel_rfl) rfl rfl (fun _ _=>rfl) (fun W1 hp=>JM W1 gV cV jk (stT rs i) ((sd rs.flatten i).plate:Rat) 137 [Ax b10] cg (by kernel_rfl) (by omega) hV (Rj rs i) hsz (hp.own.cell 8 _ rfl _ (List.mem_cons_self ..)).1 fun W' hk=>(by have hbel:=hk.below hp.below (hp.own.cell 8 _ rfl _ (List.mem_cons_self ..)).2;refine⟨⟨hv.below hbel,ht.below hbel⟩, ?_⟩;rw[hcg];exact Ki _ b10 (sd rs.flatten i) W' (Ag.keep (Ag.of_bx hp 9 rfl rfl) hk (hp.own.apart 9 8 _ _ rfl rfl (by decide) _ (List.mem_cons_self ..) _ (List.mem_cons_self ..))))) ?_;intro U hU;rw[←hsu] at hU⊢
    refine Aa (Al ?_)
    refine wY ?_
    refine RS.cons ?_ (RS.nil)
    refine wS 7 rfl rfl rfl (Aa (Al ?_))
    refine AJ rfl (by kernel_rfl) ?_
    exact AD ⟨U,hU⟩ ⟨rfl,rfl,rfl,rfl,rfl,rfl,rfl,rfl,trivial⟩ [0,1,2,3,4,5,6,7,8] (by decide) rfl
   rintro⟨⟨g',c',j'⟩,hU⟩
   refine zN (zE (zB (wP rfl ?_)))
   refine Ab 47 (.int .i64 ((i+1:Nat):Int)) rfl (congrArg (Value.int .i64) (A5 (by omega))) ?_
   refine wP rfl (Aa ?_)
   exact As (i+1,⟨some g',c',j'⟩) ⟨hlt,hU⟩ (by show T-(i+1)<T-i;omega) ⟨rfl,rfl,rfl,rfl,rfl,rfl,rfl,rfl,trivial⟩ [] rfl
 have e:i=T:=by omega
 subst e
 have est:stT rs i=st0 rs:=by rw[←eS];exact NN rs
 obtain⟨pV,cV,jk⟩:=V
 have hst0:st0 rs≠[]:=fun e=>by
  have:=IT.2 (LZ hsne)
  rw[e] at this;cases this
 have hstl:0<(st0 rs).length:=by
  cases h:st0 rs with
  |nil=>exact absurd h hst0
  |cons x l=>rw[List.length_cons];omega
 cases pV with
 |none=>
  have:=hV.nil rfl
  rw[est] at this
  omega
 |some gV=>
 rw[est] at hV
 refine MJ (bxs':=[bxE b1 24 (slv p rs.length cap),bxE b2 29 (.slice none 0 0),bxE b3 50 (.slice none 0 0),bxE b4 26 (.int .i64 0),F.bx 39 (frC (Az rs)),bxE b5 29 (.slice (some ⟨gF,0,none⟩) i cF),S.bx 42 (cellsOf rs.flatten),bxE b8 50 (slN (gV,cV,jk) (st0 rs)),bxN (gV,cV,jk) (st0 rs)]) (by rw[est];rfl) ?_
 refine zA (zB (wP rfl ?_))
 refine Ab 35 (.bool false) rfl (congrArg Value.bool (decide_eq_false (by omega))) ?_
 refine Aa (zE (zA (zS rfl (zJ (zK (zK (zL (zE (zA (zB ?_))))))))))
 obtain⟨st,hst⟩: ∃st,st0 rs=base rs::st:=by
  cases h:st0 rs with
  |nil=>exact absurd h hst0
  |cons x l=>exact⟨l,by unfold base;rw[h];rfl⟩
 refine wB 7 rfl rfl rfl ?_
 refine wJ ?_
 refine Aw rfl rfl rfl rfl (fun W hp=>Ag.load 0 tH rfl ((fun W1 hp=>show Ag W1 gV (0+0*1) [str (Ai (base rs))] from Dw hp 8 (A:=[]) (C:=nS st++jk) rfl (by show nS (st0 rs)++jk=_;rw[hst];rfl) rfl) W hp) rfl) ?_
 (refine Ao Tryz.hZ rfl rfl rfl rfl ?_;intro)
 refine wS 9 rfl rfl rfl (Aa ?_)
 rename_i b11
 refine zE (zA (zA (zB (wB 5 rfl rfl rfl ?_))))
 refine Au (X:=Nat) rfl rfl rfl rfl rfl rfl (by kernel_rfl) (fun W1 _=>Kb W1 _) ?_
 intro bp _
 refine Aa (zE (zH ?_))
 refine MU (X:=Nat×(Nat×Nat×List Value)) (fun x=>[bxE b1 24 (slv p rs.length cap),bxE b2 29 (.slice none 0 0),bxE b3 50 (.slice none 0 0),bxE b4 26 (.int .i64 0),F.bx 39 (frC (Az rs)),bxE b5 29 (.slice (some ⟨gF,0,none⟩) i cF),S.bx 42 (cellsOf rs.flatten),bxE b8 50 (slN x.2 (lvT rs x.1)),bxN x.2 (lvT rs x.1),bxE b11 37 (str (Ai (base rs))),bxE bp 29 (.slice (some ⟨gF,0,none⟩) i cF)])
  (fun j x=>x.1=j∧okV x.2 (lvT rs x.1)) (fun _ _=>False) (0,(gV,cV,jk)) rfl (by kernel_rfl) (Mj (Az rs) bp gF cF (by omega)) (fun _=>rfl)
  ⟨rfl,hV⟩ [] rfl (fun k x W1 _ hp=>⟨by rw[eF];exact Ag.of_bx hp 10 rfl rfl,fun m hm=>hFr hp 4 rfl m (by omega)⟩) ?_ ?_ (fun _ _ _ _ _ h=>h.elim)
 ·rintro j' ⟨j,V⟩ d l rec L hj ⟨e1,hV⟩ hrec
  obtain rfl:j=j':=e1
  have hV:okV V (lvT rs j):=hV
  obtain⟨q,hq⟩: ∃q,q=(prs (Az rs)).getD j (0,0):=⟨_,rfl⟩
  have hqm:q∈prs (Az rs):=by rw[hq,List.getD_eq_getElem?_getD,List.getElem?_eq_getElem hj];exact List.getElem_mem hj
  obtain⟨q1,q2,q3⟩:=NQ.1 hqm
  have henc:Vq (Az rs) j=[.int .i64 (q.1:Nat), .int .i64 (q.2:Nat)]:=by rw[hq]
  rw[henc]
  have hsuc:=TU hj
  rw[←hq] at hsuc
  obtain⟨f,hf⟩: ∃f,f=fr (Az rs) q.1:=⟨_,rfl⟩
  obtain⟨g,hg⟩: ∃g,g=fr (Az rs) q.2:=⟨_,rfl⟩
  have pf:f.Pl:=hf▸H1 hrg (Ie (by omega))
  have pg:g.Pl:=hg▸H1 hrg (Ie q2)
  have hax:f.ax=g.ax:=by rw[hf,hg];exact q3
  obtain⟨E,hE⟩: ∃E,E=eqL f g:=⟨_,rfl⟩
  have hEk:eqK (Az rs) q=E:=by rw[hE,hf,hg]
  rw[hEk] at hsuc
  have hEl:E.length≤5:=hE▸RM f g
  have hEz: ∀z∈E,szQ z 9:=fun z hz=>pf.meet pg (IU (hE▸hz))
  have hlz: ∀ {t:Nat} {z:Rat},z∈lvU rs j E t→szQ z 9:=fun {t z} hz=>by
   unfold lvU at hz
   rcases(EJ _ _).1 hz with h|h
   ·exact Kv hrg (VV h)
   ·exact hEz z (List.mem_of_mem_take (List.mem_filter.1 h).1)
  have hll: ∀t,(lvU rs j E t).length≤20000:=fun t=>Vj (by omega) hEl
  have hbz:szQ (base rs) 9:=Kv hrg (Hn.2 (.inl (LZ hsne)))
  refine zA (zB (wP rfl (Aa (zE (zB (wP rfl (Aa ?_)))))))
  refine Ct 13 hrec rfl ?_
  refine BI ?_
  repeat refine A7 ?_
  refine BU (X:= { U:Vec//U.OK 1 E.length (nS E) }) [true,true,true,true,true,true,true,true,false,false,false,false,false,false] (fun U=>[(8,Ax b8),(11,Ax b11),(14,U.1.val E.length),(15, .int .i64 0)])
   (fun U=>[AU L,bxE b1 24 (slv p rs.length cap),bxE b2 29 (.slice none 0 0),bxE b3 50 (.slice none 0 0),bxE b4 26 (.int .i64 0),F.bx 39 (frC (Az rs)),bxE b5 29 (.slice (some ⟨gF,0,none⟩) i cF),S.bx 42 (cellsOf rs.flatten),bxE b8 50 (slN V (lvT rs j)),bxN V (lvT rs j),bxE b11 37 (str (Ai (base rs))),bxE bp 29 (.slice (some ⟨gF,0,none⟩) i cF),BO d,Bj l rec .busy none,U.1.bx 37 (nS E)]) 6 [AU L,bxE b1 24 (slv p rs.length cap),bxE b2 29 (.slice none 0 0),bxE b3 50 (.slice none 0 0),bxE b4 26 (.int .i64 0),F.bx 39 (frC (Az rs)),bxE b5 29 (.slice (some ⟨gF,0,none⟩) i cF),S.bx 42 (cellsOf rs.flatten),bxE b8 50 (slN V (lvT rs j)),bxN V (lvT rs j),bxE b11 37 (str (Ai (base rs))),bxE bp 29 (.slice (some ⟨gF,0,none⟩) i cF),BO d,Bj l rec .busy none] Tryz.mixed (by kernel_rfl) ?_ ?_
  ·refine qB 6 rfl rfl rfl (qP rfl ?_)
   refine qJ ?_
   refine Ap rfl rfl rfl rfl (fun W hp=>Ag.load 0 tH rfl ((fun W1 hp=>show Ag W1 gF (0+q.1*5) (frV f).cells.toList from hf▸hFr hp 5 rfl q.1 (by omega)) W hp) rfl) ?_
   refine qB 6 rfl rfl rfl (qP rfl ?_)
   refine qJ ?_
   refine Ap rfl rfl rfl rfl (fun W hp=>Ag.load 0 tH rfl ((fun W1 hp=>show Ag W1 gF (0+q.2*5) (frV g).cells.toList from hg▸hFr hp 5 rfl q.2 (by omega)) W hp) rfl) ?_
   refine Dd ?_
   refine wX ?_
   refine RS.cons ?_ (RS.nil)
   refine Au (X:=Vec) rfl rfl rfl rfl rfl rfl (by kernel_rfl) (fun W1 hp=>hE▸ND f g pf.ok pg.ok hax (Uj pf pg) (fun p hp q hq=>sz2 (pf.meet pg hp) (pf.meet pg hq) (by decide)) 2 5 9 pf.szp pf.szt pg.szp pg.szt (fun t ht=>pf.meet pg ht) (by decide) (by decide) W1 (hv.hp hp) (ht.hp hp)) ?_;intro U hU
   refine Aa (Al ?_)
   refine wX ?_
   refine RS.cons ?_ (RS.nil)
   refine wP rfl (Aa (Al ?_))
   refine wX ?_
   refine RS.cons ?_ (RS.cons ?_ (RS.nil))
   ·refine wP rfl (Aa (Al ?_))
    refine wX ?_
    refine RS.cons ?_ (RS.cons ?_ (RS.nil))
    ·refine wP rfl (Aa (Al ?_))
     refine wX ?_
     refine RS.cons ?_ (RS.nil)
     refine wP rfl (Aa (Al ?_))
     refine wX ?_
     refine RS.cons ?_ (RS.nil)
     refine wP rfl (Aa (Al ?_))
     refine B8 rfl (by((repeat (first|refine Bu.same ?_|refine Bu.off rfl ?_));exact trivial)) ?_
     exact AD ⟨U,hU⟩ ⟨rfl,rfl,rfl,rfl,trivial⟩ [0,1,2,3,4,5,6,7,8,9,10,11,12,13,14] (by decide) rfl
    ·refine wP rfl (Aa (Al ?_))
     refine wX ?_
     refine RS.cons ?_ (RS.nil)
     refine wP rfl (Aa (Al ?_))
     refine wX ?_
     refine RS.cons ?_ (RS.nil)
     refine wP rfl (Aa (Al ?_))
     refine B8 rfl (by((repeat (first|refine Bu.same ?_|refine Bu.off rfl ?_));exact trivial)) ?_
     exact AD ⟨U,hU⟩ ⟨rfl,rfl,rfl,rfl,trivial⟩ [0,1,2,3,4,5,6,7,8,9,10,11,12,13,14] (by decide) rfl
   ·refine wP rfl (Aa (Al ?_))
    refine wX ?_
    refine RS.cons ?_ (RS.nil)
    refine wP rfl (Aa (Al ?_))
    refine wX ?_
    refine RS.cons ?_ (RS.nil)
    refine wP rfl (Aa (Al ?_))
    refine wX ?_
    refine RS.cons ?_ (RS.nil)
    refine wP rfl (Aa (Al ?_))
    refine B8 rfl (by((repeat (first|refine Bu.same ?_|refine Bu.off rfl ?_));exact trivial)) ?_
    exact AD ⟨U,hU⟩ ⟨rfl,rfl,rfl,rfl,trivial⟩ [0,1,2,3,4,5,6,7,8,9,10,11,12,13,14] (by decide) rfl
  rintro⟨U,hU⟩
  have hU:U.OK 1 E.length (nS E):=hU
  obtain⟨pU,cU,hUv,hUr⟩:=Vec.num hU
  have hUr:0<E.length→ ∃g,pU=some ⟨g,0,none⟩∧ ∀ {W0 W:World} {bxs:List Bx},Hp W0 bxs W→ ∀k,nth bxs k=some (U.bx 37 (nS E))→ ∀i (hi:i<E.length),Ag W g (0+i*1) [str (Ai E[i])]:=hUr
  dsimp only
  rw[hUv]
  refine zE (zA (zA (zB (wP rfl (wP rfl (Aa (zE (zS rfl (zI (zE (zA (zB (wP rfl (wP rfl (wP rfl ?_)))))))))))))))
  refine Aa (zE (zH ?_))
  refine Av (X:=Nat×(Nat×Nat×List Value)) (fun s=>[(8,Ax b8),(11,Ax b11),(70, .slice pU E.length cU),(71, .int .i64 (E.length:Nat)),(72, .int .i64 (s.1:Nat))])
   (fun s=>[AU L,bxE b1 24 (slv p rs.length cap),bxE b2 29 (.slice none 0 0),bxE b3 50 (.slice none 0 0),bxE b4 26 (.int .i64 0),F.bx 39 (frC (Az rs)),bxE b5 29 (.slice (some ⟨gF,0,none⟩) i cF),S.bx 42 (cellsOf rs.flatten),bxE b8 50 (slN s.2 (lvU rs j E s.1)),bxN s.2 (lvU rs j E s.1),bxE b11 37 (str (Ai (base rs))),bxE bp 29 (.slice (some ⟨gF,0,none⟩) i cF),BO d,Bj l rec .busy none,U.bx 37 (nS E)])
   (fun s=>s.1≤E.length∧okV s.2 (lvU rs j E s.1)) (fun s=>E.length-s.1) (0,V) ⟨Nat.zero_le _,hV⟩ ⟨rfl,rfl,rfl,rfl,rfl,trivial⟩ [] rfl ?_
  rintro⟨t,V'⟩ ⟨ht',hV'⟩
  have ht':t≤E.length:=ht'
  have hV':okV V' (lvU rs j E t):=hV'
  by_cases htl:t<E.length
  rotate_left
  ·have e:t=E.length:=by omega
   subst e
   rw[←hsuc] at hV'
   refine MJ (bxs':=[AU L,bxE b1 24 (slv p rs.length cap),bxE b2 29 (.slice none 0 0),bxE b3 50 (.slice none 0 0),bxE b4 26 (.int .i64 0),F.bx 39 (frC (Az rs)),bxE b5 29 (.slice (some ⟨gF,0,none⟩) i cF),S.bx 42 (cellsOf rs.flatten),bxE b8 50 (slN V' (lvT rs (j+1))),bxN V' (lvT rs (j+1)),bxE b11 37 (str (Ai (base rs))),bxE bp 29 (.slice (some ⟨gF,0,none⟩) i cF),BO d,Bj l rec .busy none,U.bx 37 (nS E)]) (by rw[hsuc]) ?_
   refine zA (zB (wP rfl ?_))
   refine Ab 73 (.bool false) rfl (congrArg Value.bool (decide_eq_false (by omega))) ?_
   refine Aa (zE (zA (zS rfl (zJ (zK (zK (zL (zN ?_))))))))
   exact Bw 13 (j+1,V') hrec rfl ⟨rfl,hV'⟩ [U.bx 37 (nS E)] rfl
  obtain⟨gU,hpe,hUq⟩:=hUr (by omega)
  subst hpe
  obtain⟨z,hz⟩: ∃z,z=E[t]:=⟨_,rfl⟩
  have hzE:z∈E:=hz▸List.getElem_mem htl
  have hsu:=Uz (rs:=rs) (k:=j) htl
  rw[←hz] at hsu
  have hlen:=hll t
  refine zA (zB (wP rfl ?_))
  refine Ab 73 (.bool true) rfl (congrArg Value.bool (decide_eq_true (by omega))) ?_
  refine Aa (zE (zA (zR rfl (zI (zE (zA (zH (zA (zB ?_)))))))))
  refine wJ ?_
  refine Aw rfl rfl rfl rfl (fun W hp=>Ag.load 0 tH rfl ((fun W1 hp=>show Ag W1 gU (0+t*1) [str (Ai z)] from hz▸hUq hp 14 rfl t htl) W hp) rfl) ?_
  refine wP rfl (Aa (zE (zB (wB 8 rfl rfl rfl (wP rfl (wP rfl ?_))))))
  refine CE 9 (X:=Nat×Nat×List Value) (val:=fun x=>slN x (mrg (decide (base rs<z)) (lvU rs j E t) z)) (Φ:=fun x=>okV x (mrg (decide (base rs<z)) (lvU rs j E t) z)) (L1:=[]) (L2:=[]) (B:=bxN V' (lvU rs j E t)) (fun x=>bxN x (mrg (decide (base rs<z)) (lvU rs j E t) z)) rfl rfl rfl rfl rfl rfl (by kernel_rfl) rfl rfl (fun _ _=>rfl) (fun W1 hp=> ?_) ?_
  ·refine JM W1 V'.1 V'.2.1 V'.2.2 (lvU rs j E t) z 138 [Ax b11] (decide (base rs<z)) (by kernel_rfl) (by omega) hV' (QB rs j E t) (fun x hx=>sz2 (hlz hx) (hEz z hzE) (by decide)) (hp.own.cell 9 _ rfl _ (List.mem_cons_self ..)).1 fun W' hk=> ?_
   have hbel:=hk.below hp.below (hp.own.cell 9 _ rfl _ (List.mem_cons_self ..)).2
   refine⟨⟨hv.below hbel,ht.below hbel⟩, ?_⟩
   exact PQ z (base rs) (sz2 (hEz z hzE) hbz (by decide)) b11 W' (hv.below hbel) (ht.below hbel) (Ag.keep (Ag.of_bx hp 10 rfl rfl) hk (hp.own.apart 10 9 _ _ rfl rfl (by decide) _ (List.mem_cons_self ..) _ (List.mem_cons_self ..)))
  intro V2 hV2
  have hV2:okV V2 (mrg (decide (base rs<z)) (lvU rs j E t) z):=hV2
  dsimp only
  rw[←hsu] at hV2⊢
  refine wS 8 rfl rfl rfl (Aa (zN (zE (zB (wP rfl ?_)))))
  refine Ab 80 (.int .i64 ((t+1:Nat):Int)) rfl (congrArg (Value.int .i64) (A5 (by omega))) ?_
  refine wP rfl (Aa ?_)
  exact As (t+1,V2) ⟨htl,hV2⟩ (by show E.length-(t+1)<E.length-t;omega) ⟨rfl,rfl,rfl,rfl,rfl,trivial⟩ [] rfl
 ·rintro⟨j,V⟩ d l rec ⟨e1,hV⟩
  obtain rfl:j=(prs (Az rs)).length:=e1
  have hV:okV V (lvT rs (prs (Az rs)).length):=hV
  rw[Se] at hV
  refine X6 (bxs':=[bxE b1 24 (slv p rs.length cap),bxE b2 29 (.slice none 0 0),bxE b3 50 (.slice none 0 0),bxE b4 26 (.int .i64 0),F.bx 39 (frC (Az rs)),bxE b5 29 (.slice (some ⟨gF,0,none⟩) i cF),S.bx 42 (cellsOf rs.flatten),bxE b8 50 (slN V (Bk rs)),bxN V (Bk rs),bxE b11 37 (str (Ai (base rs))),bxE bp 29 (.slice (some ⟨gF,0,none⟩) i cF),BO d,Bj l rec .exhausted none]) (by dsimp only;rw[Se];rfl) ?_
  refine zN (zE ?_)
  repeat refine A7 ?_
  refine BU (X:=Unit) [true,true,false,false,false] (fun _=>[(2,Ax b2),(3,Ax b3),(4,Ax b4)]) (fun _=>[bxE b2 29 (.slice (some ⟨gF,0,none⟩) i cF),bxE b3 50 (slN V (Bk rs)),bxE b4 26 (.int .i64 0),F.bx 39 (frC (Az rs)),bxN V (Bk rs),BO d])
   3 [Du,Du,Du,Du,Du,bxE b5 29 (.slice (some ⟨gF,0,none⟩) i cF),Du,bxE b8 50 (slN V (Bk rs)),Du,Du,Du,Du,Du] Tryz.mixed (by kernel_rfl) ?_ ?_
  ·refine qB 5 rfl rfl rfl (qB 7 rfl rfl rfl (Dd ?_))
   refine wX ?_
   refine RS.cons ?_ (RS.nil)
   refine wS 1 rfl rfl rfl (Aa (Al ?_))
   refine wX ?_
   refine RS.cons ?_ (RS.nil)
   refine wS 2 rfl rfl rfl (Aa (Al ?_))
   refine wX ?_
   refine RS.cons ?_ (RS.nil)
   refine wS 3 rfl rfl rfl (Aa (Al ?_))
   refine B8 rfl (by((repeat (first|refine Bu.same ?_|refine Bu.off rfl ?_));exact trivial)) ?_
   exact AD () ⟨rfl,rfl,rfl,trivial⟩ [1,2,3,4,8,11] (by decide) rfl
  intro _
  refine zE (zO ?_)
  refine CS 5 rfl ?_
  refine BW tH rfl (.cell 0 rfl rfl rfl rfl rfl) (.cell 1 rfl rfl rfl rfl rfl) (.cell 2 rfl rfl rfl rfl rfl) (F,⟨some V.1,V.2.1,V.2.2⟩) (by show Value.tuple #[.slice (some ⟨gF,0,none⟩) i cF,slN V (Bk rs), .int .i64 0]= .tuple #[F.val i,slN V (Bk rs), .int .i64 0];have hFi:=hFv;rw[eF] at hFi;rw[hFi]) ⟨eF▸hF,hV⟩ fun W1 hp=>Ae.of_hp (hp.pick (l:=[F.bx 39 (frC (Az rs)),bxN V (Bk rs)]) [3,4] (by decide) rfl)
-- BOXES 6
-- CODE2
theorem Tq: ∀(k n:Nat),n<10^(k+1)→(decDigits n).length≤k+1
 |k,n,h=>by
  by_cases h1:n<10
  ·rw[decDigits,dif_pos h1,List.length_singleton];omega
  ·cases k with
   |zero=>exact absurd h h1
   |succ k=>
    rw[decDigits,dif_neg h1,List.length_append,List.length_singleton]
    have h2:n/10<10^(k+1):=by
     rw[Nat.pow_succ] at h
     omega
    have:=Tq k (n/10) h2
    omega
structure DQ (W:World) (p:Option Addr) (rs:List (List Sd)):Prop where
 n:rs.length<1099511627776
 R:Bz W p rs
 c:chk rs=0
 d:Ig W
 v:BJ W
 t:AV W
theorem DQ.hp {W0 W:World} {bxs:List Bx} {p:Option Addr} {rs:List (List Sd)} (h:DQ W0 p rs) (hp:Hp W0 bxs W):DQ W p rs:=⟨h.n,h.R.hp hp,h.c,h.d.hp hp,h.v.hp hp,h.t.hp hp⟩
theorem DQ.check {W:World} {p:Option Addr} {rs:List (List Sd)} (h:DQ W p rs) (cap:Nat):Aj Tryz.prog 40 #[B5 p rs.length cap] W (fun _:Unit=> .int .i64 0) (fun _=>True) (fun _=>[]):=
 (GM W p cap rs (by have:=h.n;omega) (by have:=(Ea h.c).2.1;omega) h.R).cast (by rw[h.c])
def Rd (rs:List (List Sd)) (i:Nat):Rat:=(Bk rs).getD i 0
theorem KK {rs:List (List Sd)} {i:Nat} (hi:i<(Bk rs).length):(Bk rs)[i]=Rd rs i:=by unfold Rd;rw[List.getD_eq_getElem?_getD,List.getElem?_eq_getElem hi];rfl
theorem Ji {rs:List (List Sd)} {gL:Nat} {W0 W:World} {bxs:List Bx} {V:Vec} (hLq: ∀ {W0 W:World} {bxs:List Bx},Hp W0 bxs W→ ∀k,nth bxs k=some (V.bx 37 (nS (Bk rs)))→ ∀i (hi:i<(Bk rs).length),Ag W gL (0+i*1) [str (Ai (Bk rs)[i])])
  (hp:Hp W0 bxs W) (k:Nat) (hk:nth bxs k=some (V.bx 37 (nS (Bk rs)))) (i:Nat) (hi:i<(Bk rs).length):Ag W gL (0+i*1) [str (Ai (Rd rs i))]:=by
 have h:=hLq hp k hk i hi
 rw[KK hi] at h
 exact h
theorem KS {rs:List (List Sd)} (h:chk rs=0):0<(Bk rs).length:=by
 obtain⟨l,e⟩:=Td (Ng h)
 rw[e,List.length_cons];omega
theorem KP (W:World) (p:Option Addr) (cap:Nat) (rs:List (List Sd)) (h:DQ W p rs):
  Aj Tryz.prog 22 #[B5 p rs.length cap] W (fun V:Vec=> .tuple #[V.val (Bk rs).length, .int .i64 0]) (fun V=>V.OK 1 (Bk rs).length (nS (Bk rs))) (fun V=>[V.bx 37 (nS (Bk rs))]):=by
 refine Ad (args:=[B5 p rs.length cap]) Tryz.func22 rfl rfl rfl ?_
 refine zA (zB ?_)
 (refine A8 rfl rfl rfl rfl ?_;intro)
 refine wP rfl (wP rfl (Aa (zE (zA (zB (wB 0 rfl rfl rfl ?_))))))
 refine Au (X:=Vec×Vec) rfl rfl rfl rfl rfl rfl (by kernel_rfl) (fun W1 hp=>Gz W1 p cap rs h.n (h.R.hp hp) h.c (h.d.hp hp) (h.v.hp hp) (h.t.hp hp)) ?_
 intro x hx
 iterate 7 refine wP rfl ?_
 refine Aa (zE (zA (zB (wP rfl (wP rfl (wP rfl (wP rfl (Aa (zE (zO ?_))))))))))
 exact Ar tH rfl (.tmp rfl) (.tmp rfl) x.2 rfl hx.2 fun W1 hp=>Ae.of_hp (hp.pick (l:=[x.2.bx 37 (nS (Bk rs))]) [2] (by decide) rfl)
theorem P9 (W:World) (p:Option Addr) (cap:Nat) (rs:List (List Sd)) (h:DQ W p rs):
  Aj Tryz.prog 23 #[B5 p rs.length cap] W (fun _:Unit=> .tuple #[str (Ai (Rd rs 0)), .int .i64 0]) (fun _=>True) (fun _=>[]):=by
 have hpos:=KS h.c
 refine Ad (args:=[B5 p rs.length cap]) Tryz.func23 rfl rfl rfl ?_
 refine zA (zB ?_)
 (refine A8 rfl rfl rfl rfl ?_;intro)
 refine wP rfl (wP rfl (Aa (zE (zA (zB (wB 0 rfl rfl rfl ?_))))))
 refine Au (X:=Vec×Vec) rfl rfl rfl rfl rfl rfl (by kernel_rfl) (fun W1 hp=>Gz W1 p cap rs h.n (h.R.hp hp) h.c (h.d.hp hp) (h.v.hp hp) (h.t.hp hp)) ?_
 intro x hx
 obtain⟨pL,cL,hLv,hLr⟩:=Vec.num hx.2
 obtain⟨gL,hpe,hLq⟩:=hLr hpos
 subst hpe
 dsimp only
 rw[hLv]
 iterate 7 refine wP rfl ?_
 refine Aa (zE (zA (zA (zB (wP rfl (wP rfl (Aa (zE (zS rfl (zI (zE (zA (zB ?_)))))))))))))
 refine wP rfl ?_
 refine wJ ?_
 refine Aw rfl rfl rfl rfl (fun W hp=>Ag.load 0 tH rfl ((fun W1 hp=>Ji hLq hp 2 rfl 0 hpos) W hp) rfl) ?_
 refine wP rfl (wP rfl (Aa (zE (zO ?_))))
 exact Ar tH rfl (.tmp rfl) (.tmp rfl) () rfl trivial fun W _=>Ae.nil _ _
theorem Rl (W:World) (p:Option Addr) (cap:Nat) (rs:List (List Sd)) (h:DQ W p rs):
  Aj Tryz.prog 24 #[B5 p rs.length cap] W (fun _:Unit=> .tuple #[str (Ai (Rd rs ((Bk rs).length-1))), .int .i64 0]) (fun _=>True) (fun _=>[]):=by
 have hpos:=KS h.c
 have hlen:=Qi (Ea h.c).2.1
 refine Ad (args:=[B5 p rs.length cap]) Tryz.func24 rfl rfl rfl ?_
 refine zA (zB ?_)
 (refine A8 rfl rfl rfl rfl ?_;intro)
 refine wP rfl (wP rfl (Aa (zE (zA (zB (wB 0 rfl rfl rfl ?_))))))
 refine Au (X:=Vec×Vec) rfl rfl rfl rfl rfl rfl (by kernel_rfl) (fun W1 hp=>Gz W1 p cap rs h.n (h.R.hp hp) h.c (h.d.hp hp) (h.v.hp hp) (h.t.hp hp)) ?_
 intro x hx
 obtain⟨pL,cL,hLv,hLr⟩:=Vec.num hx.2
 obtain⟨gL,hpe,hLq⟩:=hLr hpos
 subst hpe
 dsimp only
 rw[hLv]
 obtain⟨m,hm⟩: ∃m,m=(Bk rs).length-1:=⟨_,rfl⟩
 have hml:m<(Bk rs).length:=by omega
 rw[←hm]
 iterate 7 refine wP rfl ?_
 refine Aa (zE (zA (zA (zB (wP rfl (wP rfl (Aa (zE (zS rfl (zI (zE (zA (zB ?_)))))))))))))
 refine wP rfl (wP rfl (wP rfl (wP rfl ?_)))
 refine Ab 19 (.int .i64 (m:Nat)) rfl (congrArg (Value.int .i64) ((An (by omega) (by omega)).trans (by omega))) ?_
 refine wJ ?_
 refine Aw rfl rfl rfl rfl (fun W hp=>Ag.load 0 tH rfl ((fun W1 hp=>Ji hLq hp 2 rfl m hml) W hp) rfl) ?_
 refine wP rfl (wP rfl (Aa (zE (zO ?_))))
 exact Ar tH rfl (.tmp rfl) (.tmp rfl) () rfl trivial fun W _=>Ae.nil _ _
theorem G6 (W:World) (p:Option Addr) (cap:Nat) (rs:List (List Sd)) (h:DQ W p rs) (z:Rat) (hz:szQ z 20):
  Aj Tryz.prog 71 #[B5 p rs.length cap,str (Ai z)] W (fun _:Unit=> .int .i64 0) (fun _=>True) (fun _=>[]):=by
 have h1:=Tq 19 z.num.natAbs hz.1
 have h2:=Tq 19 z.den hz.2
 refine Ad (args:=[B5 p rs.length cap,str (Ai z)]) Tryz.func71 rfl rfl rfl ?_
 refine zA (zB ?_)
 (refine A8 rfl rfl rfl rfl ?_;intro)
 refine wP rfl (Aa (zE (zA (zA (zB (wB 0 rfl rfl rfl ?_))))))
 refine Ac rfl rfl rfl rfl rfl rfl (by kernel_rfl) (fun W1 hp=>(h.hp hp).check cap) ?_
 refine wP rfl (Aa (zE (zS rfl (zI (zE (zA (zB (wP rfl ?_))))))))
 refine Ac rfl rfl rfl rfl rfl rfl (by kernel_rfl) (fun W1 hp=>IB z (hz.ok (by decide)) W1 (h.v.hp hp) (h.t.hp hp)) ?_
 iterate 7 refine wP rfl ?_
 refine Aa (zE (zA (zA (zB (wP rfl (wP rfl (Aa (zE (zS rfl (zI (zE (zA (zA ?_)))))))))))))
 refine zB (wP rfl ?_)
 refine Ac rfl rfl rfl rfl rfl rfl (by kernel_rfl) (fun W1 _=>Cw (itoa z.num) [45] W1) ?_
 refine Ab 21 (str (decDigits z.num.natAbs)) rfl (by rw[Bn]) ?_
 refine wP rfl ?_
 refine Ab 22 (.int .i64 ((decDigits z.num.natAbs).length:Nat)) rfl (congrArg (fun n:Nat=>Value.int .i64 (n:Int)) (AF _)) ?_
 refine wP rfl ?_
 refine Ab 23 (.bool false) rfl (congrArg Value.bool (decide_eq_false (by omega))) ?_
 refine wP rfl (wP rfl (wP rfl ?_))
 refine Ab 26 (.int .i64 ((decDigits z.den).length:Nat)) rfl (congrArg (fun n:Nat=>Value.int .i64 (n:Int)) ((AF _).trans (by rw[Hb]))) ?_
 refine wP rfl ?_
 refine Ab 27 (.bool false) rfl (congrArg Value.bool (decide_eq_false (by omega))) ?_
 refine wP rfl (Aa (zE (zS rfl (zI (zE (zA (zB (wP rfl (Aa (zE (zO ?_)))))))))))
 exact Af tH rfl (.tmp rfl) () rfl trivial fun W _=>Ae.nil _ _
def CL (F:List FrP) (z:Rat):List Rat:=F.map fun f=>f.at z
theorem EO (F:List FrP) (z:Rat):(CL F z).length=F.length:=List.length_map _
theorem RF {F:List FrP} {z:Rat} {i:Nat} (hi:i<(CL F z).length):(CL F z)[i]=(fr F i).at z:=by
 have h:i<F.length:=by rwa [EO] at hi
 have e:(CL F z)[i]? =some ((fr F i).at z):=by unfold CL;rw[List.getElem?_map,Gi h];rfl
 rw[List.getElem?_eq_getElem hi] at e
 exact Option.some.inj e
theorem Sq {F:List FrP} {z:Rat} {i:Nat} (h:i<F.length):CL (F.take (i+1)) z=CL (F.take i) z++[(fr F i).at z]:=by
 have e:F.take (i+1)=F.take i++[fr F i]:=by rw[List.take_add_one,Gi h];rfl
 unfold CL
 rw[e,List.map_append];rfl
theorem GC (W:World) (p:Option Addr) (cap:Nat) (rs:List (List Sd)) (h:DQ W p rs) (z:Rat) (hz:szQ z 36):
  Aj Tryz.prog 75 #[B5 p rs.length cap,str (Ai z)] W (fun x:Vec×Vec=> .tuple #[x.1.val (Az rs).length,x.2.val (CL (Az rs) z).length, .int .i64 0]) (fun x=>x.1.OK 5 (Az rs).length (frC (Az rs))∧x.2.OK 1 (CL (Az rs) z).length (nS (CL (Az rs) z)))
   (fun x=>[x.1.bx 39 (frC (Az rs)),x.2.bx 37 (nS (CL (Az rs) z))]):=by
 obtain⟨hne,hT24,hT0⟩:=Ea h.c
 obtain⟨hrg,_⟩:=DA h.c
 have eF:=Dm rs
 obtain⟨T,hTe⟩: ∃T,T=tot rs:=⟨_,rfl⟩
 rw[←hTe] at eF hT24 hT0
 refine Ad (args:=[B5 p rs.length cap,str (Ai z)]) Tryz.func75 rfl rfl rfl ?_
 refine zA (zB ?_)
 (refine A8 rfl rfl rfl rfl ?_;intro)
 refine wP rfl (wP rfl (wP rfl (Aa ?_)))
 rename_i b2
 refine zE (zA (zB (wB 0 rfl rfl rfl ?_)))
 refine Au (X:=Vec) rfl rfl rfl rfl rfl rfl (by kernel_rfl) (fun W1 hp=>HT W1 p cap rs (by have:=h.n;omega) (h.R.hp hp) h.c (h.d.hp hp) (h.t.hp hp)) ?_
 intro F hF
 have hF:F.OK 5 (Az rs).length (frC (Az rs)):=hF
 obtain⟨gF,cF,hFv,hFr⟩:=Vec.frs hF (by omega)
 have hFr: ∀ {W0 W:World} {bxs:List Bx},Hp W0 bxs W→ ∀k,nth bxs k=some (F.bx 39 (frC (Az rs)))→ ∀m,m<T→Ag W gF (0+m*5) (frV (fr (Az rs) m)).cells.toList:=fun hp k hk m hm=>hFr hp k hk m _ (Gi (by omega))
 rw[hFv,eF]
 iterate 5 refine wP rfl ?_
 refine Aa (zE (zA (zA (zB (wP rfl (wP rfl (Aa (zE (zS rfl (zI (zE (zA (zB ?_)))))))))))))
 refine wP rfl (Aa (zE (zA (zA (zB (wP rfl (wP rfl (wP rfl (Aa (zE (zH ?_)))))))))))
 refine CM ?_
 refine Av (X:=Nat×Vec) (fun s=>[(1,str (Ai z)),(7, .slice (some ⟨gF,0,none⟩) T cF),(9,s.2.val s.1),(22, .slice (some ⟨gF,0,none⟩) T cF),(23, .int .i64 (T:Nat)),(24, .int .i64 (s.1:Nat))])
  (fun s=>[bxE b2 24 (slv p rs.length cap),F.bx 39 (frC (Az rs)),s.2.bx 37 (nS (CL ((Az rs).take s.1) z))]) (fun s=>s.1≤T∧s.2.OK 1 s.1 (nS (CL ((Az rs).take s.1) z))) (fun s=>T-s.1) (0,Vec.empty) ⟨Nat.zero_le _,Vec.OK.empty 1⟩ ⟨rfl,rfl,rfl,rfl,rfl,rfl,trivial⟩ [] rfl ?_
 rintro⟨i,V⟩ ⟨hi,hV⟩
 have hi:i≤T:=hi
 have hV:V.OK 1 i (nS (CL ((Az rs).take i) z)):=hV
 by_cases hlt:i<T
 ·refine zA (zB (wP rfl ?_))
  refine Ab 25 (.bool true) rfl (congrArg Value.bool (decide_eq_true (by omega))) ?_
  refine Aa (zE (zA (zR rfl (zI (zE (zA (zH (zA (zB ?_)))))))))
  refine wJ ?_
  refine Aw rfl rfl rfl rfl (fun W hp=>Ag.load 0 tH rfl ((fun W1 hp=>hFr hp 1 rfl i hlt) W hp) rfl) ?_
  (refine Ao Tryz.hZ rfl rfl rfl rfl ?_;intro)
  refine wS 3 rfl rfl rfl (Aa (zE (zA (zB (wB 3 rfl rfl rfl (wP rfl ?_))))))
  have ok:=(H1 hrg (Ie (F:=Az rs) (i:=i) (by omega))).ok
  refine Ac rfl rfl rfl rfl rfl rfl (by kernel_rfl) (fun W1 hp=>Q2 (fr (Az rs) i) ok z hz W1 (h.v.hp hp) (h.t.hp hp)) ?_
  iterate 5 refine wP rfl ?_
  refine Aa (zE (zA (zA (zB (wP rfl (wP rfl (Aa (zE (zS rfl (zI (zE (zB (wP rfl (wP rfl ?_))))))))))))))
  have hsu:=Sq (F:=Az rs) (z:=z) (i:=i) (by omega)
  refine A0 Tryz.hZ tH rfl rfl rfl rfl rfl rfl rfl rfl rfl rfl rfl fun bS=> ?_
  refine AP (V:=V) (len:=i) (xs:=nS (CL ((Az rs).take i) z)) 2 4 Tryz.vec50 (i+1) (nS (CL ((Az rs).take (i+1)) z)) rfl rfl rfl rfl rfl rfl rfl rfl rfl rfl rfl hV rfl rfl rfl (by rw[hsu,Ht];rfl) (by simp only[maxLen];omega) (by omega) rfl ?_
  intro gV cV jV hV1
  refine wP rfl (Aa (zN (zE (zB (wP rfl ?_)))))
  refine Ab 41 (.int .i64 ((i+1:Nat):Int)) rfl (congrArg (Value.int .i64) (A5 (by omega))) ?_
  refine wP rfl (Aa ?_)
  exact As (i+1,⟨some gV,cV,jV⟩) ⟨hlt,hV1⟩ (by show T-(i+1)<T-i;omega) ⟨rfl,rfl,rfl,rfl,rfl,rfl,trivial⟩ _ rfl
 have e:i=T:=by omega
 subst e
 have et:(Az rs).take i=Az rs:=List.take_of_length_le (by omega)
 rw[et] at hV
 refine MJ (bxs':=[bxE b2 24 (slv p rs.length cap),F.bx 39 (frC (Az rs)),V.bx 37 (nS (CL (Az rs) z))]) (by rw[et]) ?_
 refine zA (zB (wP rfl ?_))
 refine Ab 25 (.bool false) rfl (congrArg Value.bool (decide_eq_false (by omega))) ?_
 refine Aa (zE (zA (zS rfl (zJ (zK (zK (zL (zE (zA (zB ?_))))))))))
 iterate 5 refine wP rfl ?_
 refine Aa (zE (zO ?_))
 refine BW tH rfl (.tmp rfl) (.tmp rfl) (.tmp rfl) (F,V) (by show Value.tuple #[.slice (some ⟨gF,0,none⟩) i cF,V.val i, .int .i64 0]= .tuple #[F.val i,V.val (CL (Az rs) z).length, .int .i64 0];have hFi:=hFv;rw[eF] at hFi;rw[EO,eF,hFi]) ⟨eF▸hF,by show V.OK 1 (CL (Az rs) z).length (nS (CL (Az rs) z));rw[EO,eF];exact hV⟩ fun W1 hp=>Ae.of_hp (hp.pick (l:=[F.bx 39 (frC (Az rs)),V.bx 37 (nS (CL (Az rs) z))]) [1,2] (by decide) rfl)
def stP (rs:List (List Sd)) (z:Rat) (i:Nat):Bool:= !(sd rs.flatten i).gable&&decide (((sd rs.flatten i).plate:Rat)=z)
def stI (rs:List (List Sd)) (z:Rat) (k:Nat):List Nat:=(List.range k).filter (stP rs z)
abbrev iC (l:List Nat):List Value:=l.map fun i:Nat=> .int .i64 (i:Nat)
theorem TA (rs:List (List Sd)) (z:Rat) (k:Nat):stI rs z (k+1)=if stP rs z k=true then stI rs z k++[k] else stI rs z k:=by
 unfold stI
 rw[List.range_succ,List.filter_append]
 show _++List.filter _ [k]=_
 rw[List.filter_cons,List.filter_nil]
 split
 ·rfl
 ·rw[List.append_nil]
theorem Kt (rs:List (List Sd)) (z:Rat) (k:Nat):(stI rs z k).length≤k:=by
 have:=List.length_filter_le (stP rs z) (List.range k)
 rwa [List.length_range] at this
theorem Mo (W:World) (p:Option Addr) (cap:Nat) (rs:List (List Sd)) (h:DQ W p rs) (z:Rat) (hz:szQ z 20):
  Aj Tryz.prog 28 #[B5 p rs.length cap,str (Ai z)] W (fun V:Vec=> .tuple #[V.val (stI rs z (tot rs)).length, .int .i64 0]) (fun V=>V.OK 1 (stI rs z (tot rs)).length (iC (stI rs z (tot rs)))) (fun V=>[V.bx 3 (iC (stI rs z (tot rs)))]):=by
 obtain⟨hne,hT24,hT0⟩:=Ea h.c
 obtain⟨hrg,_⟩:=DA h.c
 have eF:=Dm rs
 have eS:rs.flatten.length=tot rs:=List.length_flatten
 obtain⟨T,hTe⟩: ∃T,T=tot rs:=⟨_,rfl⟩
 rw[←hTe] at eF eS hT24 hT0⊢
 refine Ad (args:=[B5 p rs.length cap,str (Ai z)]) Tryz.func28 rfl rfl rfl ?_
 refine zA (zB ?_)
 (refine A8 rfl rfl rfl rfl ?_;intro)
 refine wP rfl (wP rfl (Aa ?_))
 rename_i b2
 refine zE (zA (zA (zB (wB 0 rfl rfl rfl (wP rfl ?_)))))
 refine Ac rfl rfl rfl rfl rfl rfl (by kernel_rfl) (fun W1 hp=>G6 W1 p cap rs (h.hp hp) z hz) ?_
 refine wP rfl (Aa (zE (zA (zB (wP rfl (wP rfl (Aa (zE (zS rfl (zI (zE (zA (zB ?_)))))))))))))
 refine wB 0 rfl rfl rfl ?_
 refine Au (X:=Vec) rfl rfl rfl rfl rfl rfl (by kernel_rfl) (fun W1 hp=>OW W1 p cap rs (by have:=h.n;omega) (h.R.hp hp) h.c) ?_
 intro S hS
 have hS:S.OK 7 rs.flatten.length (cellsOf rs.flatten):=hS
 obtain⟨gS,cS,hSv,hSr⟩:=Vec.sds hS (by omega)
 rw[hSv,eS]
 iterate 5 refine wP rfl ?_
 refine Aa (zE (zA (zA (zB (wP rfl (wP rfl (Aa (zE (zS rfl (zI (zE (zA (zB ?_)))))))))))))
 refine wB 0 rfl rfl rfl ?_
 refine Au (X:=Vec) rfl rfl rfl rfl rfl rfl (by kernel_rfl) (fun W1 hp=>HT W1 p cap rs (by have:=h.n;omega) (h.R.hp hp) h.c (h.d.hp hp) (h.t.hp hp)) ?_
 intro F hF
 have hF:F.OK 5 (Az rs).length (frC (Az rs)):=hF
 obtain⟨gF,cF,hFv,hFr⟩:=Vec.frs hF (by omega)
 rw[hFv,eF]
 have hFr4: ∀ {W0 W:World} {bxs:List Bx},Hp W0 bxs W→ ∀k,nth bxs k=some (F.bx 39 (frC (Az rs)))→ ∀m,m<T→Ag W gF (0+m*5+4) [str (Ai ((sd rs.flatten m).plate:Rat))]:=fun hp k hk m hm=>by
  have h:=(hFr hp k hk m _ (Gi (by omega))).sub 4
  rw[←Pv (by omega)]
  exact h
 have hSr: ∀ {W0 W:World} {bxs:List Bx},Hp W0 bxs W→ ∀k,nth bxs k=some (S.bx 42 (cellsOf rs.flatten))→ ∀m,m<T→Ag W gS (0+m*7) (sd rs.flatten m).cells:=fun hp k hk m hm=>hSr hp k hk m (by omega)
 iterate 5 refine wP rfl ?_
 refine Aa (zE (zA (zA (zB (wP rfl (wP rfl (Aa (zE (zS rfl (zI (zE (zA (zB ?_)))))))))))))
 refine wP rfl (Aa (zE (zA (zA (zB (wP rfl (wP rfl (wP rfl (Aa (zE (zH ?_)))))))))))
 refine CM ?_
 refine Av (X:=Nat×Vec) (fun s=>[(1,str (Ai z)),(9, .slice (some ⟨gF,0,none⟩) T cF),(10,s.2.val (stI rs z s.1).length),(35,slv (some ⟨gS,0,none⟩) T cS),(36, .int .i64 (T:Nat)),(37, .int .i64 (s.1:Nat))])
  (fun s=>[bxE b2 24 (slv p rs.length cap),S.bx 42 (cellsOf rs.flatten),F.bx 39 (frC (Az rs)),s.2.bx 3 (iC (stI rs z s.1))]) (fun s=>s.1≤T∧s.2.OK 1 (stI rs z s.1).length (iC (stI rs z s.1))) (fun s=>T-s.1) (0,Vec.empty) ⟨Nat.zero_le _,Vec.OK.empty 1⟩ ⟨rfl,rfl,rfl,rfl,rfl,rfl,trivial⟩ [] rfl ?_
 rintro⟨i,V⟩ ⟨hi,hV⟩
 have hi:i≤T:=hi
 have hV:V.OK 1 (stI rs z i).length (iC (stI rs z i)):=hV
 have hsl:=Kt rs z i
 by_cases hlt:i<T
 ·have hsu:=TA rs z i
  refine zA (zB (wP rfl ?_))
  refine Ab 38 (.bool true) rfl (congrArg Value.bool (decide_eq_true (by omega))) ?_
  refine Aa (zE (zA (zR rfl (zI (zE (zA (zH (zA (zB (wP rfl ?_))))))))))
  refine wJ ?_
  refine Aw rfl rfl rfl rfl (fun W hp=>Ag.load 0 tH rfl ((fun W1 hp=>hSr hp 1 rfl i hlt) W hp) rfl) ?_
  (refine Ao Tryz.hZ rfl rfl rfl rfl ?_;intro)
  refine wP rfl (wS 4 rfl rfl rfl (Aa ?_))
  rename_i b12
  refine zE (zA (zB (wP rfl ?_)))
  refine JA 4 (v:= .bool (sd rs.flatten i).gable) tH rfl rfl rfl rfl rfl rfl rfl rfl ?_
  have hcase: ∀ {Q:Prop},((sd rs.flatten i).gable=true→Q)→((sd rs.flatten i).gable=false→Q)→Q:=fun {Q} h1 h2=>by cases h:(sd rs.flatten i).gable;exact h2 h;exact h1 h
  by_cases hg:(sd rs.flatten i).gable=true
  ·have e:stP rs z i=false:=by unfold stP;rw[hg];rfl
   rw[e] at hsu
   have hsu:stI rs z (i+1)=stI rs z i:=hsu
   refine Ab 43 (.bool true) rfl (congrArg Value.bool hg) ?_
   refine wP rfl (wP rfl ?_)
   iterate 7 refine Ah rfl rfl ?_
   refine wP rfl (Aa (zE (zS rfl (zI (zN (zE (zB (wP rfl ?_))))))))
   refine Ab 58 (.int .i64 ((i+1:Nat):Int)) rfl (congrArg (Value.int .i64) (A5 (by omega))) ?_
   refine wP rfl (Aa ?_)
   exact As (i+1,V) ⟨hlt,by show V.OK 1 (stI rs z (i+1)).length (iC (stI rs z (i+1)));rw[hsu];exact hV⟩ (by show T-(i+1)<T-i;omega) ⟨rfl,rfl,by show some (V.val _)=some (V.val (stI rs z (i+1)).length);rw[hsu],rfl,rfl,rfl,trivial⟩ [⟨b12,42,(sd rs.flatten i).cells,true,none⟩] (by show _=[_,_,_,V.bx 3 (iC (stI rs z (i+1))),_];rw[hsu];rfl)
  ·have hg:(sd rs.flatten i).gable=false:=by simpa using hg
   refine Ab 43 (.bool false) rfl (congrArg Value.bool hg) ?_
   refine wP rfl (wP rfl (wP rfl (wP rfl ?_)))
   refine wJ ?_
   refine wP rfl ?_
   refine Aw rfl rfl rfl rfl (fun W hp=>Ag.load 0 tH rfl ((fun W1 hp=>hFr4 hp 2 rfl i hlt) W hp) rfl) ?_
   refine wP rfl (wP rfl ?_)
   refine Ab 52 (.bool (decide (((sd rs.flatten i).plate:Rat)=z))) rfl (congrArg Value.bool ((AR _ _).trans (decide_eq_decide.2 Cl))) ?_
   refine wP rfl (Aa (zE ?_))
   refine Ak rfl (fun hc=> ?_) (fun hc=> ?_)
   ·have hc:((sd rs.flatten i).plate:Rat)=z:=of_decide_eq_true hc
    have e:stP rs z i=true:=by unfold stP;rw[hg,decide_eq_true hc];rfl
    rw[if_pos e] at hsu
    refine zB (wP rfl (wP rfl ?_))
    refine A0 Tryz.hZ tH rfl rfl rfl rfl rfl rfl rfl rfl rfl rfl rfl fun bS=> ?_
    refine AP (V:=V) (len:=(stI rs z i).length) (xs:=iC (stI rs z i)) 3 5 Tryz.vec58 (stI rs z (i+1)).length (iC (stI rs z (i+1))) rfl rfl rfl rfl rfl rfl rfl rfl rfl rfl rfl hV rfl rfl (by rw[hsu,List.length_append];rfl) (by rw[hsu];show _=(stI rs z i++[i]).map _;rw[List.map_append];rfl) (by have:=Kt rs z (i+1);simp only[maxLen];omega) (by have:=Kt rs z (i+1);omega) rfl ?_
    intro gV cV jV hV1
    refine wP rfl (Aa (zN (zE (zB (wP rfl ?_)))))
    refine Ab 58 (.int .i64 ((i+1:Nat):Int)) rfl (congrArg (Value.int .i64) (A5 (by omega))) ?_
    refine wP rfl (Aa ?_)
    exact As (i+1,⟨some gV,cV,jV⟩) ⟨hlt,hV1⟩ (by show T-(i+1)<T-i;omega) ⟨rfl,rfl,rfl,rfl,rfl,rfl,trivial⟩ _ rfl
   ·have hc: ¬((sd rs.flatten i).plate:Rat)=z:=of_decide_eq_false hc
    have e:stP rs z i=false:=by unfold stP;rw[decide_eq_false hc,Bool.and_false]
    rw[e] at hsu
    have hsu:stI rs z (i+1)=stI rs z i:=hsu
    refine zI (zN (zE (zB (wP rfl ?_))))
    refine Ab 58 (.int .i64 ((i+1:Nat):Int)) rfl (congrArg (Value.int .i64) (A5 (by omega))) ?_
    refine wP rfl (Aa ?_)
    exact As (i+1,V) ⟨hlt,by show V.OK 1 (stI rs z (i+1)).length (iC (stI rs z (i+1)));rw[hsu];exact hV⟩ (by show T-(i+1)<T-i;omega) ⟨rfl,rfl,by show some (V.val _)=some (V.val (stI rs z (i+1)).length);rw[hsu],rfl,rfl,rfl,trivial⟩ [⟨b12,42,(sd rs.flatten i).cells,true,none⟩] (by show _=[_,_,_,V.bx 3 (iC (stI rs z (i+1))),_];rw[hsu];rfl)
 have e:i=T:=by omega
 subst e
 refine zA (zB (wP rfl ?_))
 refine Ab 38 (.bool false) rfl (congrArg Value.bool (decide_eq_false (by omega))) ?_
 refine Aa (zE (zA (zS rfl (zJ (zK (zK (zL (zE (zA (zB (wP rfl (wP rfl (wP rfl ?_)))))))))))))
 refine Aa (zE (zO ?_))
 exact Ar tH rfl (.tmp rfl) (.tmp rfl) V rfl hV fun W1 hp=>Ae.of_hp (hp.pick (l:=[V.bx 3 (iC (stI rs z i))]) [3] (by decide) rfl)
-- BOXES 3
-- CODE2
def Mm (c:Nat→Nat→Int) (x:Nat) (s:List Nat):List Nat:=
 let k:=s.length-(s.reverse.takeWhile fun y=>decide (c x y<0)).length
 s.take k++x::s.drop k
def BL (c:Nat→Nat→Int) (l:List Nat):List Nat:=l.foldl (fun s x=>Mm c x s) []
theorem UH (c:Nat→Nat→Int) (x:Nat) (s:List Nat):(Mm c x s).length=s.length+1:=by
 unfold Mm
 simp only[List.length_append,List.length_take,List.length_cons,List.length_drop]
 omega
theorem Ua {c:Nat→Nat→Int} {x y:Nat} {s:List Nat}:y∈Mm c x s↔y=x∨y∈s:=by
 unfold Mm
 dsimp only
 obtain⟨k,hk⟩: ∃k,k=s.length-(s.reverse.takeWhile fun y=>decide (c x y<0)).length:=⟨_,rfl⟩
 rw[←hk]
 conv=>rhs;rw[←List.take_append_drop k s]
 simp only[List.mem_append,List.mem_cons]
 constructor
 ·rintro(h|h|h)
  ·exact .inr (.inl h)
  ·exact .inl h
  ·exact .inr (.inr h)
 ·rintro(h|h|h)
  ·exact .inr (.inl h)
  ·exact .inl h
  ·exact .inr (.inr h)
theorem QS (c:Nat→Nat→Int) (l:List Nat) {i:Nat} (hi:i<l.length):BL c (l.take (i+1))=Mm c l[i] (BL c (l.take i)):=by
 unfold BL
 rw[List.take_add_one,List.getElem?_eq_getElem hi,List.foldl_append];rfl
theorem MI (c:Nat→Nat→Int): ∀(l s:List Nat),(l.foldl (fun s x=>Mm c x s) s).length=s.length+l.length
 |[],s=>by simp
 |x::l,s=>by
  rw[List.foldl_cons,MI c l,UH,List.length_cons];omega
theorem MQ (c:Nat→Nat→Int) (l:List Nat):(BL c l).length=l.length:=by
 have:=MI c l []
 rw[List.length_nil,Nat.zero_add] at this
 exact this
theorem Nm {c:Nat→Nat→Int} {y:Nat}: ∀(l s:List Nat),y∈l.foldl (fun s x=>Mm c x s) s↔y∈s∨y∈l
 |[],s=>by simp
 |x::l,s=>by
  rw[List.foldl_cons,Nm l,Ua,List.mem_cons]
  constructor
  ·rintro((h|h)|h)
   ·exact .inr (.inl h)
   ·exact .inl h
   ·exact .inr (.inr h)
  ·rintro(h|h|h)
   ·exact .inl (.inr h)
   ·exact .inl (.inl h)
   ·exact .inr h
theorem Sy {c:Nat→Nat→Int} {y:Nat} {l:List Nat}:y∈BL c l↔y∈l:=by
 unfold BL
 rw[Nm];simp
theorem P0 (c:Nat→Nat→Int) (l:List Nat):BL c (l.take 1)++l.drop 1=l:=by
 cases l with
 |nil=>rfl
 |cons x l=>rfl
theorem SV {c:Nat→Nat→Int} {x:Nat} {s:List Nat} {j:Nat} (hj:j≤s.length) (h2: ∀y∈s.drop j,c x y<0) (h1: ∀(h:0<j), ¬c x s[j-1]<0):Mm c x s=s.take j++x::s.drop j:=by
 have e:(s.reverse.takeWhile fun y=>decide (c x y<0))=(s.drop j).reverse:=by
  have er:s.reverse=(s.drop j).reverse++(s.take j).reverse:=by rw[←List.reverse_append,List.take_append_drop]
  have et:(s.take j).reverse.takeWhile (fun y=>decide (c x y<0))=[]:=by
   cases j with
   |zero=>simp
   |succ m=>
    rw[List.take_add_one,List.getElem?_eq_getElem (by omega),Option.toList_some,List.reverse_append,List.reverse_singleton]
    show List.takeWhile _ (s[m]::_)=[]
    rw[List.takeWhile_cons,if_neg]
    have h3:=h1 (Nat.succ_pos _)
    simpa using h3
  rw[er,List.takeWhile_append_of_pos (fun y hy=>decide_eq_true (h2 y (List.mem_reverse.1 hy))),et,List.append_nil]
 unfold Mm
 dsimp only
 rw[e,List.length_reverse,List.length_drop,show s.length-(s.length-j)=j by omega]
abbrev DS (g:Nat) (l:List Nat) (junk:List Value):Bx:=⟨g,3,iC l++junk,true,none⟩
theorem Rs (cf:Nat) (capt:List Value) (hE:Bq Tryz.prog cf=true) (c:Nat→Nat→Int) (W:World) (g cap:Nat) (l:List Nat) (junk:List Value) (hn:l.length<4611686018427387904) (hg:W.heap[g]? =some (.cells (iC l++junk).toArray 3 (0,0)))
  (hf: ∀W',Hq W W' g→ ∀p∈l, ∀q∈l,Aj Tryz.prog cf ([Value.int .i64 (p:Nat),Value.int .i64 (q:Nat)]++capt).toArray W' (fun _:Unit=> .int .i64 (c p q)) (fun _=>True) (fun _=>[])):
  Calls Tryz.prog 223 #[.slice (some ⟨g,0,none⟩) l.length cap, .int .i64 0, .int .i64 (l.length:Nat),fnM cf capt] W fun e W'=> ∃x:Unit,e= .returned ((fun _=> .tuple #[]) x)∧True∧HE W W' g ((fun _=>g) x) ((fun _=> .cells (iC (BL c l)++junk).toArray 3 (0,0)) x):=by
 have key:Calls Tryz.prog 223 [.slice (some ⟨g,0,none⟩) l.length cap, .int .i64 0, .int .i64 (l.length:Nat),fnM cf capt].toArray W fun e W'=> ∃x:Unit,e= .returned ((fun _=> .tuple #[]) x)∧(fun _=>True) x∧Below (AZ W).heap.size (AZ W) W'∧Ae (AZ W) W' ((fun _=>[AU (A3 W g),DS g (BL c l) junk]) x):=by
  refine BM (X:=Unit) (val:=fun _=> .tuple #[]) (Φ:=fun _=>True) (nb:=fun _=>[AU (A3 W g),DS g (BL c l) junk]) (Hp.enterT (B:=DS g l junk) rfl hg) Tryz.func223 rfl rfl rfl ?_
  refine zA (zB (wP rfl (wP rfl (wP rfl (Aa (zE (zH ?_)))))))
  refine Av (X:=Nat) (fun i=>[(0, .slice (some ⟨g,0,none⟩) l.length cap),(1, .int .i64 0),(2, .int .i64 (l.length:Nat)),(3,fnM cf capt),(8, .int .i64 (i:Nat))]) (fun i=>[AU (A3 W g),DS g (BL c (l.take i)++l.drop i) junk])
   (fun i=>1≤i∧(i≤l.length∨i=1)) (fun i=>l.length+1-i) 1 ⟨Nat.le_refl _, .inr rfl⟩ ⟨rfl,rfl,rfl,rfl,rfl,trivial⟩ [] (by rw[P0];rfl) ?_
  rintro i ⟨hi1,hi2⟩
  refine zA (zA (zB (wP rfl (wP rfl (wP rfl ?_)))))
  by_cases hlt:i<l.length
  rotate_left
  ·refine Ab 14 (.bool false) rfl (congrArg Value.bool (decide_eq_false (by omega))) ?_
   refine Aa (zE (zS rfl (zJ (zK (zK (zL ?_))))))
   have e:BL c (l.take i)++l.drop i=BL c l:=by rw[List.take_of_length_le (by omega),List.drop_of_length_le (by omega),List.append_nil]
   refine Fy (X:=Unit) (val:=fun _=> .tuple #[]) (Φ:=fun _=>True) (nb:=fun _=>[AU (A3 W g),DS g (BL c l) junk]) (fn:=Tryz.f223) tH rfl () rfl trivial fun W1 hp=> ?_
   rw[e] at hp
   exact(hp.pick (l:=[AU (A3 W g),DS g (BL c l) junk]) [0,1] (by decide) rfl).own
  refine Ab 14 (.bool true) rfl (congrArg Value.bool (decide_eq_true (by omega))) ?_
  refine Aa (zE (zR rfl (zI (zE (zA (zH (zA (zB (wP rfl (wP rfl (Aa (zE (zH ?_)))))))))))))
  obtain⟨s,hs⟩: ∃s,s=BL c (l.take i):=⟨_,rfl⟩
  obtain⟨x,hx⟩: ∃x,x=l[i]:=⟨_,rfl⟩
  obtain⟨rr,hr⟩: ∃rr,rr=l.drop (i+1):=⟨_,rfl⟩
  have hsl:s.length=i:=by rw[hs,MQ,List.length_take];omega
  have hdrop:l.drop i=x::rr:=by rw[hx,hr];exact List.drop_eq_getElem_cons hlt
  have hrl:rr.length=l.length-(i+1):=by rw[hr,List.length_drop]
  have hxl:x∈l:=hx▸List.getElem_mem hlt
  have hsm: ∀y∈s,y∈l:=fun y hy=>by rw[hs] at hy;exact List.mem_of_mem_take (Sy.1 hy)
  have hnext: ∀j,j≤s.length→(∀y∈s.drop j,c x y<0)→(∀(h:0<j), ¬c x s[j-1]! <0)→s.take j++x::s.drop j++rr=BL c (l.take (i+1))++l.drop (i+1):=fun j h1 h2 h3=>by
   rw[QS c l hlt, ←hs, ←hx, ←hr,SV h1 h2 fun h=>by have:=h3 h;rwa [getElem!_pos s (j-1) (by omega)] at this]
  refine Av (X:=Nat) (fun j=>[(0, .slice (some ⟨g,0,none⟩) l.length cap),(1, .int .i64 0),(2, .int .i64 (l.length:Nat)),(3,fnM cf capt),(8, .int .i64 (i:Nat)),(9, .int .i64 (j:Nat))]) (fun j=>[AU (A3 W g),DS g (s.take j++x::s.drop j++rr) junk])
   (fun j=>j≤s.length∧ ∀y∈s.drop j,c x y<0) (fun j=>j) i ⟨by omega,by rw[←hsl,List.drop_length];exact fun y hy=>absurd hy List.not_mem_nil⟩ ⟨rfl,rfl,rfl,rfl,rfl,rfl,trivial⟩ [] (by rw[←hs,hdrop, ←hsl,List.take_length,List.drop_length,List.append_assoc];rfl) ?_
  rintro j ⟨hj,hgt⟩
  have hj:j≤s.length:=hj
  have hgt: ∀y∈s.drop j,c x y<0:=hgt
  refine zA (zA ?_)
  refine zT Tryz.mixed (by kernel_rfl) ?_
  refine qP rfl (qP rfl (qP rfl ?_))
  cases j with
  |zero=>
   refine A6 20 (.bool false) rfl rfl ?_
   refine qP rfl ?_
   iterate 12 refine BC rfl rfl ?_
   refine qP rfl (AE (Aa (zE (zS rfl (zJ (zK (zK (zL (zN (zE (zB (wP rfl (wP rfl ?_)))))))))))))
   refine Ab 16 (.int .i64 ((i+1:Nat):Int)) rfl (congrArg (Value.int .i64) (A5 (by omega))) ?_
   refine wP rfl (Aa ?_)
   refine As (i+1) ⟨by show 1≤i+1;omega, .inl hlt⟩ (by show l.length+1-(i+1)<l.length+1-i;omega) ⟨rfl,rfl,rfl,rfl,rfl,trivial⟩ [] ?_
   rw[hnext 0 hj hgt fun h=>absurd h (by decide)];rfl
  |succ m=>
   have hm:m<s.length:=hj
   obtain⟨y,hy⟩: ∃y,y=s[m]:=⟨_,rfl⟩
   have hyl:y∈l:=hsm y (hy▸List.getElem_mem hm)
   have e1:s.take (m+1)=s.take m++[y]:=by rw[List.take_add_one,List.getElem?_eq_getElem hm,hy];rfl
   have e2:s.drop m=y::s.drop (m+1):=by rw[hy];exact List.drop_eq_getElem_cons hm
   have e3:s[m+1-1]! =y:=by rw[Nat.add_sub_cancel,getElem!_pos s m hm,hy]
   have hA:(iC (s.take m)).length=m:=by rw[List.length_map,List.length_take];omega
   obtain⟨C,hC⟩: ∃C,C=iC (s.drop (m+1)++rr)++junk:=⟨_,rfl⟩
   have row1:iC (s.take (m+1)++x::s.drop (m+1)++rr)++junk=iC (s.take m)++([Value.int .i64 (y:Nat),Value.int .i64 (x:Nat)]++C):=by rw[e1,hC];simp[iC]
   have row2:iC (s.take m++x::s.drop m++rr)++junk=iC (s.take m)++([Value.int .i64 (x:Nat),Value.int .i64 (y:Nat)]++C):=by rw[e2,hC];simp[iC]
   refine A6 20 (.bool true) rfl (congrArg Value.bool (decide_eq_true (by omega))) ?_
   refine qP rfl (qP rfl (qP rfl (qP rfl ?_)))
   refine qJ ?_
   refine Ap rfl rfl rfl rfl (fun W hp=>Ag.load 0 tH rfl ((fun W1 hp=>show Ag W1 g (0+(m+1)*1) [Value.int .i64 (x:Nat)] from Dw hp 1 (A:=iC (s.take m)++[Value.int .i64 (y:Nat)]) (C:=C) rfl (by rw[row1];simp) (by rw[List.length_append,hA];simp)) W hp) rfl) ?_
   refine qP rfl (qP rfl (qP rfl ?_))
   refine A6 29 (.int .i64 (m:Nat)) rfl (congrArg (Value.int .i64) (show w64 (((m+1:Nat):Int)-1)=_ by rw[An (by omega) (by omega)];omega)) ?_
   refine qJ ?_
   refine Ap rfl rfl rfl rfl (fun W hp=>Ag.load 0 tH rfl ((fun W1 hp=>show Ag W1 g (0+m*1) [Value.int .i64 (y:Nat)] from Dw hp 1 (A:=iC (s.take m)) (C:=[Value.int .i64 (x:Nat)]++C) rfl (by rw[row1];simp) (by rw[hA];simp)) W hp) rfl) ?_
   refine A9 (capt:=capt) rfl rfl rfl rfl rfl rfl hE (fun W1 hp=>hf W1 (Gm hg ⟨_,List.mem_cons_self ..⟩ hp) x hxl y hyl) ?_
   refine qP rfl ?_
   refine A6 33 (.bool (decide (c x y<0))) rfl rfl ?_
   refine qP rfl (AE (Aa (zE ?_)))
   refine Ak rfl (fun h=> ?_) (fun h=> ?_)
   rotate_left
   ·have hc: ¬c x y<0:=of_decide_eq_false h
    refine zJ (zK (zK (zL (zN (zE (zB (wP rfl (wP rfl ?_))))))))
    refine Ab 16 (.int .i64 ((i+1:Nat):Int)) rfl (congrArg (Value.int .i64) (A5 (by omega))) ?_
    refine wP rfl (Aa ?_)
    refine As (i+1) ⟨by show 1≤i+1;omega, .inl hlt⟩ (by show l.length+1-(i+1)<l.length+1-i;omega) ⟨rfl,rfl,rfl,rfl,rfl,trivial⟩ [] ?_
    rw[hnext (m+1) hj hgt fun _=>by rw[e3];exact hc];rfl
   have hc:c x y<0:=of_decide_eq_true h
   clear h
   refine MJ (bxs':=[AU (A3 W g),⟨g,3,iC (s.take m)++([Value.int .i64 (y:Nat),Value.int .i64 (x:Nat)]++C),true,none⟩]) (by rw[←row1]) ?_
   refine zI (zE (A7 (BI ?_)))
   repeat refine A7 ?_
   refine BU (X:=Unit) [true,true,false,false,false,true,true,true,true,true,true,true,true,true,true,false,false,false] (fun _=>[(0, .slice (some ⟨g,0,none⟩) l.length cap),(1, .int .i64 0),(2, .int .i64 (l.length:Nat)),(3,fnM cf capt),(8, .int .i64 (i:Nat)),(9, .int .i64 ((m+1:Nat):Int))]) (fun _=>[AU (A3 W g),⟨g,3,iC (s.take m)++([Value.int .i64 (x:Nat),Value.int .i64 (y:Nat)]++C),true,none⟩])
    6 [AU (A3 W g),⟨g,3,iC (s.take m)++([Value.int .i64 (y:Nat),Value.int .i64 (x:Nat)]++C),true,none⟩] Tryz.mixed (by kernel_rfl) ?_ ?_
   ·refine qP rfl (qP rfl (qP rfl (qP rfl (qP rfl ?_))))
    refine A6 44 (.int .i64 (m:Nat)) rfl (congrArg (Value.int .i64) (show w64 (((m+1:Nat):Int)-1)=_ by rw[An (by omega) (by omega)];omega)) ?_
    refine qJ ?_
    refine Ap rfl rfl rfl rfl (fun W hp=>Ag.load 0 tH rfl ((fun W1 hp=>show Ag W1 g (0+m*1) [Value.int .i64 (y:Nat)] from Dw hp 1 (A:=iC (s.take m)) (C:=[Value.int .i64 (x:Nat)]++C) rfl (by simp) (by rw[hA];simp)) W hp) rfl) ?_
    refine qP rfl (qP rfl ?_)
    refine qJ ?_
    refine Ap rfl rfl rfl rfl (fun W hp=>Ag.load 0 tH rfl ((fun W1 hp=>show Ag W1 g (0+(m+1)*1) [Value.int .i64 (x:Nat)] from Dw hp 1 (A:=iC (s.take m)++[Value.int .i64 (y:Nat)]) (C:=C) rfl (by simp) (by rw[List.length_append,hA];simp)) W hp) rfl) ?_
    refine qJ ?_
    refine Dd ?_
    have h1:Bs (iC (s.take m)++([Value.int .i64 (y:Nat),Value.int .i64 (x:Nat)]++C)) (0+(m+1)*1) (Value.int .i64 (y:Nat)).cells.toList=iC (s.take m)++([Value.int .i64 (y:Nat),Value.int .i64 (y:Nat)]++C):=by
     rw[show 0+(m+1)*1=(iC (s.take m)).length+1 by rw[hA];omega,Da];rfl
    have h2:Bs (iC (s.take m)++([Value.int .i64 (y:Nat),Value.int .i64 (y:Nat)]++C)) (0+m*1) (Value.int .i64 (x:Nat)).cells.toList=iC (s.take m)++([Value.int .i64 (x:Nat),Value.int .i64 (y:Nat)]++C):=by
     rw[show 0+m*1=(iC (s.take m)).length+0 by rw[hA];omega,Da];rfl
    refine wX ?_
    refine RS.cons ?_ (RS.cons ?_ (RS.cons ?_ (RS.nil)))
    ·refine wP rfl (Aa (Al ?_))
     refine wX ?_
     refine RS.cons ?_ (RS.cons ?_ (RS.nil))
     ·refine wP rfl (Aa (Al ?_))
      refine wX ?_
      refine RS.cons ?_ (RS.cons ?_ (RS.nil))
      ·refine wP rfl (Aa (Al ?_))
       refine wX ?_
       refine RS.cons ?_ (RS.nil)
       refine Ay 1 _ tH rfl rfl rfl rfl rfl rfl rfl rfl rfl rfl (by show 0+(m+1)*1+1≤(iC (s.take m)++([Value.int .i64 (y:Nat),Value.int .i64 (x:Nat)]++C)).length;rw[List.length_append,hA];simp<;>omega) h1 ?_
       refine Aa (Al ?_)
       refine wY ?_
       refine RS.cons ?_ (RS.nil)
       refine Ab 41 (.int .i64 (m:Nat)) rfl (congrArg (Value.int .i64) (show w64 (((m+1:Nat):Int)-1)=_ by rw[An (by omega) (by omega)];omega)) ?_;(first|refine wJ ?_|refine qJ ?_)
       refine Aa (Al ?_)
       refine wY ?_
       refine RS.cons ?_ (RS.nil)
       refine Ay 1 _ tH rfl rfl rfl rfl rfl rfl rfl rfl rfl rfl (by show 0+m*1+1≤(iC (s.take m)++([Value.int .i64 (y:Nat),Value.int .i64 (y:Nat)]++C)).length;rw[List.length_append,hA];simp<;>omega) h2 ?_
       refine Aa (Al ?_)
       refine AJ rfl (by kernel_rfl) ?_
       exact AD () ⟨rfl,rfl,rfl,rfl,rfl,rfl,trivial⟩ [0,1] (by decide) rfl
      ·refine Ay 1 _ tH rfl rfl rfl rfl rfl rfl rfl rfl rfl rfl (by show 0+(m+1)*1+1≤(iC (s.take m)++([Value.int .i64 (y:Nat),Value.int .i64 (x:Nat)]++C)).length;rw[List.length_append,hA];simp<;>omega) h1 ?_
       refine Aa (Al ?_)
       refine wY ?_
       refine RS.cons ?_ (RS.nil)
       refine wP rfl (Aa (Al ?_))
       refine wY ?_
       refine RS.cons ?_ (RS.nil)
       refine Ab 41 (.int .i64 (m:Nat)) rfl (congrArg (Value.int .i64) (show w64 (((m+1:Nat):Int)-1)=_ by rw[An (by omega) (by omega)];omega)) ?_;(first|refine wJ ?_|refine qJ ?_)
       refine Aa (Al ?_)
       refine wY ?_
       refine RS.cons ?_ (RS.nil)
       refine Ay 1 _ tH rfl rfl rfl rfl rfl rfl rfl rfl rfl rfl (by show 0+m*1+1≤(iC (s.take m)++([Value.int .i64 (y:Nat),Value.int .i64 (y:Nat)]++C)).length;rw[List.length_append,hA];simp<;>omega) h2 ?_
       refine Aa (Al ?_)
       refine AJ rfl (by kernel_rfl) ?_
       exact AD () ⟨rfl,rfl,rfl,rfl,rfl,rfl,trivial⟩ [0,1] (by decide) rfl
     ·refine Ay 1 _ tH rfl rfl rfl rfl rfl rfl rfl rfl rfl rfl (by show 0+(m+1)*1+1≤(iC (s.take m)++([Value.int .i64 (y:Nat),Value.int .i64 (x:Nat)]++C)).length;rw[List.length_append,hA];simp<;>omega) h1 ?_
      refine Aa (Al ?_)
      refine wY ?_
      refine RS.cons ?_ (RS.nil)
      refine wP rfl (Aa (Al ?_))
      refine wY ?_
      refine RS.cons ?_ (RS.nil)
      refine wP rfl (Aa (Al ?_))
      refine wY ?_
      refine RS.cons ?_ (RS.nil)
      refine Ab 41 (.int .i64 (m:Nat)) rfl (congrArg (Value.int .i64) (show w64 (((m+1:Nat):Int)-1)=_ by rw[An (by omega) (by omega)];omega)) ?_;(first|refine wJ ?_|refine qJ ?_)
      refine Aa (Al ?_)
      refine wY ?_
      refine RS.cons ?_ (RS.nil)
      refine Ay 1 _ tH rfl rfl rfl rfl rfl rfl rfl rfl rfl rfl (by show 0+m*1+1≤(iC (s.take m)++([Value.int .i64 (y:Nat),Value.int .i64 (y:Nat)]++C)).length;rw[List.length_append,hA];simp<;>omega) h2 ?_
      refine Aa (Al ?_)
      refine AJ rfl (by kernel_rfl) ?_
      exact AD () ⟨rfl,rfl,rfl,rfl,rfl,rfl,trivial⟩ [0,1] (by decide) rfl
    ·refine wP rfl (Aa (Al ?_))
     refine wX ?_
     refine RS.cons ?_ (RS.cons ?_ (RS.cons ?_ (RS.nil)))
     ·refine wP rfl (Aa (Al ?_))
      refine wX ?_
      refine RS.cons ?_ (RS.cons ?_ (RS.nil))
      ·refine wP rfl (Aa (Al ?_))
       refine wX ?_
       refine RS.cons ?_ (RS.nil)
       refine Ay 1 _ tH rfl rfl rfl rfl rfl rfl rfl rfl rfl rfl (by show 0+(m+1)*1+1≤(iC (s.take m)++([Value.int .i64 (y:Nat),Value.int .i64 (x:Nat)]++C)).length;rw[List.length_append,hA];simp<;>omega) h1 ?_
       refine Aa (Al ?_)
       refine wY ?_
       refine RS.cons ?_ (RS.nil)
       refine Ab 41 (.int .i64 (m:Nat)) rfl (congrArg (Value.int .i64) (show w64 (((m+1:Nat):Int)-1)=_ by rw[An (by omega) (by omega)];omega)) ?_;(first|refine wJ ?_|refine qJ ?_)
       refine Aa (Al ?_)
       refine wY ?_
       refine RS.cons ?_ (RS.nil)
       refine Ay 1 _ tH rfl rfl rfl rfl rfl rfl rfl rfl rfl rfl (by show 0+m*1+1≤(iC (s.take m)++([Value.int .i64 (y:Nat),Value.int .i64 (y:Nat)]++C)).length;rw[List.length_append,hA];simp<;>omega) h2 ?_
       refine Aa (Al ?_)
       refine AJ rfl (by kernel_rfl) ?_
       exact AD () ⟨rfl,rfl,rfl,rfl,rfl,rfl,trivial⟩ [0,1] (by decide) rfl
      ·refine Ay 1 _ tH rfl rfl rfl rfl rfl rfl rfl rfl rfl rfl (by show 0+(m+1)*1+1≤(iC (s.take m)++([Value.int .i64 (y:Nat),Value.int .i64 (x:Nat)]++C)).length;rw[List.length_append,hA];simp<;>omega) h1 ?_
       refine Aa (Al ?_)
       refine wY ?_
       refine RS.cons ?_ (RS.nil)
       refine wP rfl (Aa (Al ?_))
       refine wY ?_
       refine RS.cons ?_ (RS.nil)
       refine Ab 41 (.int .i64 (m:Nat)) rfl (congrArg (Value.int .i64) (show w64 (((m+1:Nat):Int)-1)=_ by rw[An (by omega) (by omega)];omega)) ?_;(first|refine wJ ?_|refine qJ ?_)
       refine Aa (Al ?_)
       refine wY ?_
       refine RS.cons ?_ (RS.nil)
       refine Ay 1 _ tH rfl rfl rfl rfl rfl rfl rfl rfl rfl rfl (by show 0+m*1+1≤(iC (s.take m)++([Value.int .i64 (y:Nat),Value.int .i64 (y:Nat)]++C)).length;rw[List.length_append,hA];simp<;>omega) h2 ?_
       refine Aa (Al ?_)
       refine AJ rfl (by kernel_rfl) ?_
       exact AD () ⟨rfl,rfl,rfl,rfl,rfl,rfl,trivial⟩ [0,1] (by decide) rfl
     ·refine wP rfl (Aa (Al ?_))
      refine wX ?_
      refine RS.cons ?_ (RS.cons ?_ (RS.nil))
      ·refine wP rfl (Aa (Al ?_))
       refine wX ?_
       refine RS.cons ?_ (RS.nil)
       refine Ay 1 _ tH rfl rfl rfl rfl rfl rfl rfl rfl rfl rfl (by show 0+(m+1)*1+1≤(iC (s.take m)++([Value.int .i64 (y:Nat),Value.int .i64 (x:Nat)]++C)).length;rw[List.length_append,hA];simp<;>omega) h1 ?_
       refine Aa (Al ?_)
       refine wY ?_
       refine RS.cons ?_ (RS.nil)
       refine Ab 41 (.int .i64 (m:Nat)) rfl (congrArg (Value.int .i64) (show w64 (((m+1:Nat):Int)-1)=_ by rw[An (by omega) (by omega)];omega)) ?_;(first|refine wJ ?_|refine qJ ?_)
       refine Aa (Al ?_)
       refine wY ?_
       refine RS.cons ?_ (RS.nil)
       refine Ay 1 _ tH rfl rfl rfl rfl rfl rfl rfl rfl rfl rfl (by show 0+m*1+1≤(iC (s.take m)++([Value.int .i64 (y:Nat),Value.int .i64 (y:Nat)]++C)).length;rw[List.length_append,hA];simp<;>omega) h2 ?_
       refine Aa (Al ?_)
       refine AJ rfl (by kernel_rfl) ?_
       exact AD () ⟨rfl,rfl,rfl,rfl,rfl,rfl,trivial⟩ [0,1] (by decide) rfl
      ·refine Ay 1 _ tH rfl rfl rfl rfl rfl rfl rfl rfl rfl rfl (by show 0+(m+1)*1+1≤(iC (s.take m)++([Value.int .i64 (y:Nat),Value.int .i64 (x:Nat)]++C)).length;rw[List.length_append,hA];simp<;>omega) h1 ?_
       refine Aa (Al ?_)
       refine wY ?_
       refine RS.cons ?_ (RS.nil)
       refine wP rfl (Aa (Al ?_))
       refine wY ?_
       refine RS.cons ?_ (RS.nil)
       refine Ab 41 (.int .i64 (m:Nat)) rfl (congrArg (Value.int .i64) (show w64 (((m+1:Nat):Int)-1)=_ by rw[An (by omega) (by omega)];omega)) ?_;(first|refine wJ ?_|refine qJ ?_)
       refine Aa (Al ?_)
       refine wY ?_
       refine RS.cons ?_ (RS.nil)
       refine Ay 1 _ tH rfl rfl rfl rfl rfl rfl rfl rfl rfl rfl (by show 0+m*1+1≤(iC (s.take m)++([Value.int .i64 (y:Nat),Value.int .i64 (y:Nat)]++C)).length;rw[List.length_append,hA];simp<;>omega) h2 ?_
       refine Aa (Al ?_)
       refine AJ rfl (by kernel_rfl) ?_
       exact AD () ⟨rfl,rfl,rfl,rfl,rfl,rfl,trivial⟩ [0,1] (by decide) rfl
     ·refine Ay 1 _ tH rfl rfl rfl rfl rfl rfl rfl rfl rfl rfl (by show 0+(m+1)*1+1≤(iC (s.take m)++([Value.int .i64 (y:Nat),Value.int .i64 (x:Nat)]++C)).length;rw[List.length_append,hA];simp<;>omega) h1 ?_
      refine Aa (Al ?_)
      refine wY ?_
      refine RS.cons ?_ (RS.cons ?_ (RS.nil))
      ·refine wP rfl (Aa (Al ?_))
       refine wY ?_
       refine RS.cons ?_ (RS.nil)
       refine wP rfl (Aa (Al ?_))
       refine wY ?_
       refine RS.cons ?_ (RS.nil)
       refine Ab 41 (.int .i64 (m:Nat)) rfl (congrArg (Value.int .i64) (show w64 (((m+1:Nat):Int)-1)=_ by rw[An (by omega) (by omega)];omega)) ?_;(first|refine wJ ?_|refine qJ ?_)
       refine Aa (Al ?_)
       refine wY ?_
       refine RS.cons ?_ (RS.nil)
       refine Ay 1 _ tH rfl rfl rfl rfl rfl rfl rfl rfl rfl rfl (by show 0+m*1+1≤(iC (s.take m)++([Value.int .i64 (y:Nat),Value.int .i64 (y:Nat)]++C)).length;rw[List.length_append,hA];simp<;>omega) h2 ?_
       refine Aa (Al ?_)
       refine AJ rfl (by kernel_rfl) ?_
       exact AD () ⟨rfl,rfl,rfl,rfl,rfl,rfl,trivial⟩ [0,1] (by decide) rfl
      ·refine wP rfl (Aa (Al ?_))
       refine wY ?_
       refine RS.cons ?_ (RS.nil)
       refine wP rfl (Aa (Al ?_))
       refine wY ?_
       refine RS.cons ?_ (RS.nil)
       refine Ab 41 (.int .i64 (m:Nat)) rfl (congrArg (Value.int .i64) (show w64 (((m+1:Nat):Int)-1)=_ by rw[An (by omega) (by omega)];omega)) ?_;(first|refine wJ ?_|refine qJ ?_)
       refine Aa (Al ?_)
       refine wY ?_
       refine RS.cons ?_ (RS.nil)
       refine Ay 1 _ tH rfl rfl rfl rfl rfl rfl rfl rfl rfl rfl (by show 0+m*1+1≤(iC (s.take m)++([Value.int .i64 (y:Nat),Value.int .i64 (y:Nat)]++C)).length;rw[List.length_append,hA];simp<;>omega) h2 ?_
       refine Aa (Al ?_)
       refine AJ rfl (by kernel_rfl) ?_
       exact AD () ⟨rfl,rfl,rfl,rfl,rfl,rfl,trivial⟩ [0,1] (by decide) rfl
    ·refine Ay 1 _ tH rfl rfl rfl rfl rfl rfl rfl rfl rfl rfl (by show 0+(m+1)*1+1≤(iC (s.take m)++([Value.int .i64 (y:Nat),Value.int .i64 (x:Nat)]++C)).length;rw[List.length_append,hA];simp<;>omega) h1 ?_
     refine Aa (Al ?_)
     refine wY ?_
     refine RS.cons ?_ (RS.cons ?_ (RS.nil))
     ·refine wP rfl (Aa (Al ?_))
      refine wY ?_
      refine RS.cons ?_ (RS.nil)
      refine wP rfl (Aa (Al ?_))
      refine wY ?_
      refine RS.cons ?_ (RS.nil)
      refine wP rfl (Aa (Al ?_))
      refine wY ?_
      refine RS.cons ?_ (RS.nil)
      refine Ab 41 (.int .i64 (m:Nat)) rfl (congrArg (Value.int .i64) (show w64 (((m+1:Nat):Int)-1)=_ by rw[An (by omega) (by omega)];omega)) ?_;(first|refine wJ ?_|refine qJ ?_)
      refine Aa (Al ?_)
      refine wY ?_
      refine RS.cons ?_ (RS.nil)
      refine Ay 1 _ tH rfl rfl rfl rfl rfl rfl rfl rfl rfl rfl (by show 0+m*1+1≤(iC (s.take m)++([Value.int .i64 (y:Nat),Value.int .i64 (y:Nat)]++C)).length;rw[List.length_append,hA];simp<;>omega) h2 ?_
      refine Aa (Al ?_)
      refine AJ rfl (by kernel_rfl) ?_
      exact AD () ⟨rfl,rfl,rfl,rfl,rfl,rfl,trivial⟩ [0,1] (by decide) rfl
     ·refine wP rfl (Aa (Al ?_))
      refine wY ?_
      refine RS.cons ?_ (RS.cons ?_ (RS.nil))
      ·refine wP rfl (Aa (Al ?_))
       refine wY ?_
       refine RS.cons ?_ (RS.nil)
       refine wP rfl (Aa (Al ?_))
       refine wY ?_
       refine RS.cons ?_ (RS.nil)
       refine Ab 41 (.int .i64 (m:Nat)) rfl (congrArg (Value.int .i64) (show w64 (((m+1:Nat):Int)-1)=_ by rw[An (by omega) (by omega)];omega)) ?_;(first|refine wJ ?_|refine qJ ?_)
       refine Aa (Al ?_)
       refine wY ?_
       refine RS.cons ?_ (RS.nil)
       refine Ay 1 _ tH rfl rfl rfl rfl rfl rfl rfl rfl rfl rfl (by show 0+m*1+1≤(iC (s.take m)++([Value.int .i64 (y:Nat),Value.int .i64 (y:Nat)]++C)).length;rw[List.length_append,hA];simp<;>omega) h2 ?_
       refine Aa (Al ?_)
       refine AJ rfl (by kernel_rfl) ?_
       exact AD () ⟨rfl,rfl,rfl,rfl,rfl,rfl,trivial⟩ [0,1] (by decide) rfl
      ·refine wP rfl (Aa (Al ?_))
       refine wY ?_
       refine RS.cons ?_ (RS.nil)
       refine wP rfl (Aa (Al ?_))
       refine wY ?_
       refine RS.cons ?_ (RS.nil)
       refine Ab 41 (.int .i64 (m:Nat)) rfl (congrArg (Value.int .i64) (show w64 (((m+1:Nat):Int)-1)=_ by rw[An (by omega) (by omega)];omega)) ?_;(first|refine wJ ?_|refine qJ ?_)
       refine Aa (Al ?_)
       refine wY ?_
       refine RS.cons ?_ (RS.nil)
       refine Ay 1 _ tH rfl rfl rfl rfl rfl rfl rfl rfl rfl rfl (by show 0+m*1+1≤(iC (s.take m)++([Value.int .i64 (y:Nat),Value.int .i64 (y:Nat)]++C)).length;rw[List.length_append,hA];simp<;>omega) h2 ?_
       refine Aa (Al ?_)
       refine AJ rfl (by kernel_rfl) ?_
       exact AD () ⟨rfl,rfl,rfl,rfl,rfl,rfl,trivial⟩ [0,1] (by decide) rfl
   intro _
   refine zN (zE (zB (wP rfl (wP rfl ?_))))
   refine Ab 36 (.int .i64 (m:Nat)) rfl (congrArg (Value.int .i64) (show w64 (((m+1:Nat):Int)-1)=_ by rw[An (by omega) (by omega)];omega)) ?_
   refine wP rfl (Aa ?_)
   refine As m ⟨by show m≤s.length;omega,fun z hz=> ?_⟩ (by show m<m+1;omega) ⟨rfl,rfl,rfl,rfl,rfl,rfl,trivial⟩ [] (by rw[←row2];rfl)
   rw[e2] at hz
   rcases List.mem_cons.1 hz with rfl|hz
   ·exact hc
   ·exact hgt z hz
 refine key.mono ?_
 rintro e W' ⟨x,he,_,hb,hn'⟩
 exact⟨x,he,trivial,El hg rfl hb hn'⟩
theorem QM (cf:Nat) (capt:List Value) (hE:Bq Tryz.prog cf=true) (c:Nat→Nat→Int) (W:World) (g cap:Nat) (l:List Nat) (junk:List Value) (z:Int) (hn:l.length≤12) (hg:W.heap[g]? =some (.cells (iC l++junk).toArray 3 (0,0)))
  (hf: ∀W',Hq W W' g→ ∀p∈l, ∀q∈l,Aj Tryz.prog cf ([Value.int .i64 (p:Nat),Value.int .i64 (q:Nat)]++capt).toArray W' (fun _:Unit=> .int .i64 (c p q)) (fun _=>True) (fun _=>[])):
  Calls Tryz.prog 160 #[.slice (some ⟨g,0,none⟩) l.length cap, .int .i64 0, .int .i64 (l.length:Nat), .int .i64 z,fnM cf capt] W fun e W'=> ∃x:Unit,e= .returned ((fun _=> .tuple #[]) x)∧True∧HE W W' g ((fun _=>g) x) ((fun _=> .cells (iC (BL c l)++junk).toArray 3 (0,0)) x):=by
 have key:Calls Tryz.prog 160 [.slice (some ⟨g,0,none⟩) l.length cap, .int .i64 0, .int .i64 (l.length:Nat), .int .i64 z,fnM cf capt].toArray W fun e W'=> ∃x:Unit,e= .returned ((fun _=> .tuple #[]) x)∧(fun _=>True) x∧Below (AZ W).heap.size (AZ W) W'∧Ae (AZ W) W' ((fun _=>[AU (A3 W g),DS g (BL c l) junk]) x):=by
  refine BM (X:=Unit) (val:=fun _=> .tuple #[]) (Φ:=fun _=>True) (nb:=fun _=>[AU (A3 W g),DS g (BL c l) junk]) (Hp.enterT (B:=DS g l junk) rfl hg) Tryz.func160 rfl rfl rfl ?_
  refine zA (zB (wP rfl (Aa (zE (zA (zB (wP rfl (Aa (zE (zH ?_))))))))))
  refine Av (X:=Unit) (fun _=>[(0, .slice (some ⟨g,0,none⟩) l.length cap),(1, .int .i64 0),(2, .int .i64 (l.length:Nat)),(3, .int .i64 z),(4,fnM cf capt)]) (fun _=>[AU (A3 W g),DS g l junk]) (fun _=>True) (fun _=>0) () trivial ⟨rfl,rfl,rfl,rfl,rfl,trivial⟩ [] rfl ?_
  intro _ _
  refine zH (zA (zB (wP rfl (wP rfl (wP rfl ?_)))))
  refine Ab 23 (.int .i64 (l.length:Nat)) rfl (congrArg (Value.int .i64) (show w64 ((l.length:Nat)-0)=_ by rw[An (by omega) (by omega)];omega)) ?_
  refine wP rfl (Aa (zE (zA (zA (zB (wP rfl (wP rfl ?_)))))))
  refine Ab 25 (.bool true) rfl (congrArg Value.bool (decide_eq_true (by omega))) ?_
  refine Aa (zE (zR rfl (zA (zB (wP rfl (wP rfl (wP rfl (wP rfl ?_))))))))
  refine CE (X:=Unit) (val:=fun _=> .tuple #[]) (Φ:=fun _=>True) (capt:=[]) 1 (B:=DS g l junk) (L1:=[]) (L2:=[]) (b:=g) (ob:= .cells (iC l++junk).toArray 3 (0,0)) (fun _=>DS g (BL c l) junk) (g':=fun _=>g) (o':=fun _=> .cells (iC (BL c l)++junk).toArray 3 (0,0))
   rfl rfl rfl rfl rfl rfl (by kernel_rfl) rfl rfl (fun _ _=>rfl) (fun W1 hp=>Rs cf capt hE c W1 g cap l junk (by omega) (hp.own.cell 1 _ rfl (g, .cells (iC l++junk).toArray 3 (0,0)) (List.mem_cons_self ..)).1 (fun W2 hk=>hf W2 ((Gm hg ⟨_,List.mem_cons_self ..⟩ hp).trans hk))) (fun _ _=> ?_)
  refine Aa (zE (zO (zP (zQ (zP (zQ ?_))))))
  refine K9 (X:=Unit) (val:=fun _=> .tuple #[]) (Φ:=fun _=>True) (nb:=fun _=>[AU (A3 W g),DS g (BL c l) junk]) (fn:=Tryz.f160) tH rfl () rfl trivial fun W1 hp=> ?_
  exact(hp.pick (l:=[AU (A3 W g),DS g (BL c l) junk]) [0,1] (by decide) rfl).own
 refine key.mono ?_
 rintro e W' ⟨x,he,_,hb,hn'⟩
 exact⟨x,he,trivial,El hg rfl hb hn'⟩
theorem Pf (cf:Nat) (capt:List Value) (W:World) (p:Option Addr) (cap:Nat):Aj Tryz.prog 223 #[.slice p 0 cap, .int .i64 0, .int .i64 ((0:Nat):Int),fnM cf capt] W (fun _:Unit=> .tuple #[]) (fun _=>True) (fun _=>[]):=by
 refine Ad (args:=[.slice p 0 cap, .int .i64 0, .int .i64 ((0:Nat):Int),fnM cf capt]) Tryz.func223 rfl rfl rfl ?_
 refine zA (zB (wP rfl (wP rfl (wP rfl (Aa (zE (zH ?_)))))))
 refine Av (X:=Unit) (fun _=>[(0, .slice p 0 cap),(1, .int .i64 0),(2, .int .i64 ((0:Nat):Int)),(3,fnM cf capt),(8, .int .i64 1)]) (fun _=>[]) (fun _=>True) (fun _=>0) () trivial ⟨rfl,rfl,rfl,rfl,rfl,trivial⟩ [] rfl ?_
 intro _ _
 refine zA (zA (zB (wP rfl (wP rfl (wP rfl ?_)))))
 refine Ab 14 (.bool false) rfl rfl ?_
 refine Aa (zE (zS rfl (zJ (zK (zK (zL ?_))))))
 exact Fy (X:=Unit) (val:=fun _=> .tuple #[]) (Φ:=fun _=>True) (nb:=fun _=>[]) (fn:=Tryz.f223) tH rfl () rfl trivial fun W _=>Ae.nil _ _
theorem OG (cf:Nat) (capt:List Value) (W:World) (p:Option Addr) (cap:Nat) (z:Int):Aj Tryz.prog 160 #[.slice p 0 cap, .int .i64 0, .int .i64 ((0:Nat):Int), .int .i64 z,fnM cf capt] W (fun _:Unit=> .tuple #[]) (fun _=>True) (fun _=>[]):=by
 refine Ad (args:=[.slice p 0 cap, .int .i64 0, .int .i64 ((0:Nat):Int), .int .i64 z,fnM cf capt]) Tryz.func160 rfl rfl rfl ?_
 refine zA (zB (wP rfl (Aa (zE (zA (zB (wP rfl (Aa (zE (zH ?_))))))))))
 refine Av (X:=Unit) (fun _=>[(0, .slice p 0 cap),(1, .int .i64 0),(2, .int .i64 ((0:Nat):Int)),(3, .int .i64 z),(4,fnM cf capt)]) (fun _=>[]) (fun _=>True) (fun _=>0) () trivial ⟨rfl,rfl,rfl,rfl,rfl,trivial⟩ [] rfl ?_
 intro _ _
 refine zH (zA (zB (wP rfl (wP rfl (wP rfl ?_)))))
 refine Ab 23 (.int .i64 ((0:Nat):Int)) rfl rfl ?_
 refine wP rfl (Aa (zE (zA (zA (zB (wP rfl (wP rfl ?_)))))))
 refine Ab 25 (.bool true) rfl rfl ?_
 refine Aa (zE (zR rfl (zA (zB (wP rfl (wP rfl (wP rfl (wP rfl ?_))))))))
 refine Ac (capt:=[]) rfl rfl rfl rfl rfl rfl (by kernel_rfl) (fun W _=>Pf cf capt W p cap) ?_
 refine Aa (zE (zO (zP (zQ (zP (zQ ?_))))))
 exact K9 (X:=Unit) (val:=fun _=> .tuple #[]) (Φ:=fun _=>True) (nb:=fun _=>[]) (fn:=Tryz.f160) tH rfl () rfl trivial fun W _=>Ae.nil _ _
theorem OL (cf:Nat) (capt:List Value) (hE:Bq Tryz.prog cf=true) (c:Nat→Nat→Int) (W:World) (g cap:Nat) (l:List Nat) (junk:List Value) (hn:l.length≤12) (hg:W.heap[g]? =some (.cells (iC l++junk).toArray 3 (0,0)))
  (hf: ∀W',Hq W W' g→ ∀p∈l, ∀q∈l,Aj Tryz.prog cf ([Value.int .i64 (p:Nat),Value.int .i64 (q:Nat)]++capt).toArray W' (fun _:Unit=> .int .i64 (c p q)) (fun _=>True) (fun _=>[])):
  Calls Tryz.prog 79 #[.slice (some ⟨g,0,none⟩) l.length cap,fnM cf capt] W fun e W'=> ∃x:Unit,e= .returned ((fun _=> .tuple #[]) x)∧True∧HE W W' g ((fun _=>g) x) ((fun _=> .cells (iC (BL c l)++junk).toArray 3 (0,0)) x):=by
 have key:Calls Tryz.prog 79 [.slice (some ⟨g,0,none⟩) l.length cap,fnM cf capt].toArray W fun e W'=> ∃x:Unit,e= .returned ((fun _=> .tuple #[]) x)∧(fun _=>True) x∧Below (AZ W).heap.size (AZ W) W'∧Ae (AZ W) W' ((fun _=>[AU (A3 W g),DS g (BL c l) junk]) x):=by
  refine BM (X:=Unit) (val:=fun _=> .tuple #[]) (Φ:=fun _=>True) (nb:=fun _=>[AU (A3 W g),DS g (BL c l) junk]) (Hp.enterT (B:=DS g l junk) rfl hg) Tryz.func79 rfl rfl rfl ?_
  refine zA (zB (wP rfl (wP rfl (wP rfl (Aa (zE (zB (wP rfl (wP rfl (wP rfl ?_))))))))))
  refine EM (k:= .u64) (kt:= .i64) (by kernel_rfl) (by kernel_rfl) rfl rfl rfl rfl ?_
  refine Ab 10 (.int .u64 (l.length:Nat)) rfl (congrArg (Value.int .u64) (R5 hn)) ?_
  refine Ac (capt:=[]) rfl rfl rfl rfl rfl rfl (by kernel_rfl) (fun W _=>E2 l.length (by omega) W) ?_
  refine wP rfl ?_
  refine CE (X:=Unit) (val:=fun _=> .tuple #[]) (Φ:=fun _=>True) (capt:=[]) 1 (B:=DS g l junk) (L1:=[]) (L2:=[]) (b:=g) (ob:= .cells (iC l++junk).toArray 3 (0,0)) (fun _=>DS g (BL c l) junk) (g':=fun _=>g) (o':=fun _=> .cells (iC (BL c l)++junk).toArray 3 (0,0))
   rfl rfl rfl rfl rfl rfl (by kernel_rfl) rfl rfl (fun _ _=>rfl) (fun W1 hp=>QM cf capt hE c W1 g cap l junk _ hn (hp.own.cell 1 _ rfl (g, .cells (iC l++junk).toArray 3 (0,0)) (List.mem_cons_self ..)).1 (fun W2 hk=>hf W2 ((Gm hg ⟨_,List.mem_cons_self ..⟩ hp).trans hk))) (fun _ _=> ?_)
  refine Aa ?_
  refine Fy (X:=Unit) (val:=fun _=> .tuple #[]) (Φ:=fun _=>True) (nb:=fun _=>[AU (A3 W g),DS g (BL c l) junk]) (fn:=Tryz.f79) tH rfl () rfl trivial fun W1 hp=> ?_
  exact(hp.pick (l:=[AU (A3 W g),DS g (BL c l) junk]) [0,1] (by decide) rfl).own
 refine key.mono ?_
 rintro e W' ⟨x,he,_,hb,hn'⟩
 exact⟨x,he,trivial,El hg rfl hb hn'⟩
-- BOXES 9
-- CODE2
theorem Qz {f:FrP} (h:f.OK) (z:Rat):f.velA z=if f.hd<0 then 0-f.speed z else f.speed z:=by
 unfold FrP.velA FrP.speed FrP.vel
 rcases h.hd with e|e<;>rw[e]
 ·rw[if_neg (show¬(1:Int)<0 by decide)]
  split
  ·rfl
  ·show((1:Int):Rat)*f.sp=f.sp
   have:((1:Int):Rat)=1:=rfl
   rw[this,Rat.one_mul]
 ·rw[if_pos (show(-1:Int)<0 by decide)]
  have:((-1:Int):Rat)= -1:=rfl
  rw[this]
  split<;>grind
theorem PS (q:Rat) (h:Sz2 0 q) (W:World) (hv:BJ W) (ht:AV W):Aj Tryz.prog 78 #[str [48],str (Ai q)] W (fun _:Unit=> .tuple #[str (Ai (0-q)), .int .i64 0]) (fun _=>True) (fun _=>[]):=by
 have h:=LS 0 q h W hv ht
 rwa [DU] at h
theorem WP:szQ (0:Rat) 1:=Ft (z:=0) (by decide) (by decide)
theorem TK {f:FrP} (h:f.Pl) (z:Rat):szQ (f.speed z) 2:=by
 unfold FrP.speed
 split
 ·exact WP.mono (by decide)
 ·exact h.szp
theorem Sa {f:FrP} (h:f.Pl) (z:Rat):szQ (f.velA z) 3:=by
 unfold FrP.velA
 split
 ·exact WP.mono (by decide)
 ·exact h.vz
theorem LW (f:FrP) (h:f.Pl) (z:Rat) (hz:szQ z 36) (b:Nat) (W:World) (hrow:Ag W b 0 [str (Ai z)]) (hv:BJ W) (ht:AV W):
  Aj Tryz.prog 76 #[frV f,Ax b] W (fun _:Unit=>str (Ai (f.velA z))) (fun _=>True) (fun _=>[]):=by
 have e:=Qz h.ok z
 have zs:=sz2 (WP) (TK h z) (by decide)
 refine Ad (args:=[frV f,Ax b]) Tryz.func76 rfl rfl rfl ?_
 refine zA (zB ?_)
 (refine A8 rfl rfl rfl rfl ?_;intro)
 refine wP rfl (Aa (zE (zA (zB (wB 0 rfl rfl rfl ?_)))))
 refine Aw rfl rfl rfl rfl (fun W hp=>Ag.load 0 tH rfl ((fun W1 hp=>hrow.hp hp) W hp) rfl) ?_
 refine Ac rfl rfl rfl rfl rfl rfl (by kernel_rfl) (fun W1 hp=>NS f h.ok z hz W1 (hv.hp hp) (ht.hp hp)) ?_
 iterate 5 refine wP rfl ?_
 refine Aa (zE (zA (zA (zB (wP rfl (wB 0 rfl rfl rfl (wP rfl (Aa (zE ?_)))))))))
 refine Ak rfl (fun hc=> ?_) (fun hc=> ?_)
 ·have hc:f.hd<0:=of_decide_eq_true hc
  rw[if_pos hc] at e
  refine zB (wP rfl ?_)
  refine Ac rfl rfl rfl rfl rfl rfl (by kernel_rfl) (fun W1 hp=>PS (f.speed z) zs W1 (hv.hp hp) (ht.hp hp)) ?_
  refine wP rfl (wP rfl (wP rfl (wP rfl (Aa (zE (zA (zB (wP rfl (wP rfl (Aa (zE (zO ?_))))))))))))
  exact Af tH rfl (.tmp rfl) () (by rw[e]) trivial fun W _=>Ae.nil _ _
 ·have hc: ¬f.hd<0:=of_decide_eq_false hc
  rw[if_neg hc] at e
  refine zI (zE (zA (zB (wP rfl (wP rfl (Aa (zE (zO ?_))))))))
  exact Af tH rfl (.tmp rfl) () (by rw[e]) trivial fun W _=>Ae.nil _ _
def or3 (a b c:Int):Int:=if a≠0 then a else if b≠0 then b else c
theorem XG {z:Int} (h:z≠0):(!(z==0))=true:=by simp[h]
theorem Tm (g:Nat) (a b c:Int) (W:World) (hrow:Ag W g 0 [.int .i64 a, .int .i64 b, .int .i64 c]):
  Aj Tryz.prog 81 #[.slice (some ⟨g,0,none⟩) 3 3] W (fun _:Unit=> .int .i64 (or3 a b c)) (fun _=>True) (fun _=>[]):=by
 have at_: ∀(i:Nat) (v:Int),[a,b,c][i]? =some v→Ag W g (0+i*1) [.int .i64 v]:=fun i v hv=>by
  refine⟨hrow.lt,fun m u hu=> ?_⟩
  have hm:m=0:=by have:=(List.getElem?_eq_some_iff.1 hu).1;simpa using this
  subst hm
  have:=hrow.get i u (by
   match i,hv with
   |0,hv=>simp at hv hu⊢;rw[←hu,hv]
   |1,hv=>simp at hv hu⊢;rw[←hu,hv]
   |2,hv=>simp at hv hu⊢;rw[←hu,hv])
  rw[show 0+i*1+0=0+i by omega];exact this
 refine Ad (args:=[.slice (some ⟨g,0,none⟩) 3 3]) Tryz.func81 rfl rfl rfl ?_
 refine zA (zB (wP rfl (Aa (zE (zA (zB (wP rfl (Aa (zE (zA (zA (zB (wP rfl (wP rfl (wP rfl ?_)))))))))))))))
 refine Aa (zE (zH ?_))
 refine Av (X:=Nat) (fun i=>[(3, .int .i64 0),(6, .slice (some ⟨g,0,none⟩) 3 3),(7, .int .i64 ((3:Nat):Int)),(8, .int .i64 (i:Nat))]) (fun _=>[]) (fun i=>i≤3∧(0<i→a=0)∧(1<i→b=0)∧(2<i→c=0)) (fun i=>3-i) 0 ⟨by omega,fun h=>absurd h (by omega),fun h=>absurd h (by omega),fun h=>absurd h (by omega)⟩ ⟨rfl,rfl,rfl,rfl,trivial⟩ [] rfl ?_
 rintro i ⟨hi,h0,h1,h2⟩
 refine zA (zB (wP rfl ?_))
 by_cases hlt:i<3
 ·refine Ab 9 (.bool true) rfl (congrArg Value.bool (decide_eq_true (by omega))) ?_
  refine Aa (zE (zA (zR rfl (zI (zE (zA (zH (zA (zB ?_)))))))))
  obtain⟨v,hv⟩: ∃v,[a,b,c][i]? =some v:=⟨_,List.getElem?_eq_getElem (by simpa using hlt)⟩
  have hr:=at_ i v hv
  refine wJ ?_
  refine Aw rfl rfl rfl rfl (fun W hp=>Ag.load 0 tH rfl ((fun W1 hp=>hr.hp hp) W hp) rfl) ?_
  refine wP rfl (Aa (zE (zA (zB (wP rfl (wP rfl (wP rfl ?_)))))))
  have hor:(v≠0→or3 a b c=v)∧(v=0→(i=0→a=0)∧(i=1→b=0)∧(i=2→c=0)):=by
   have:i=0∨i=1∨i=2:=by omega
   rcases this with rfl|rfl|rfl
   ·simp at hv;subst hv;exact⟨fun h=>by unfold or3;rw[if_pos h],fun h=>⟨fun _=>h,fun e=>by omega,fun e=>by omega⟩⟩
   ·simp at hv;subst hv;exact⟨fun h=>by unfold or3;rw[if_neg (fun hc=>hc (h0 (by omega))),if_pos h],fun h=>⟨fun e=>by omega,fun _=>h,fun e=>by omega⟩⟩
   ·simp at hv;subst hv;exact⟨fun h=>by unfold or3;rw[if_neg (fun hc=>hc (h0 (by omega))),if_neg (fun hc=>hc (h1 (by omega)))],fun h=>⟨fun e=>by omega,fun e=>by omega,fun _=>h⟩⟩
  by_cases hz:v=0
  ·refine Ab 14 (.bool false) rfl (congrArg Value.bool (by rw[hz];rfl)) ?_
   refine Aa (zE (zS rfl (zI (zN (zE (zB (wP rfl ?_)))))))
   refine Ab 16 (.int .i64 ((i+1:Nat):Int)) rfl (congrArg (Value.int .i64) (A5 (by omega))) ?_
   refine wP rfl (Aa ?_)
   obtain⟨k0,k1,k2⟩:=hor.2 hz
   exact As (i+1) ⟨by show i+1≤3;omega,fun h=>by by_cases e:i=0;exact k0 e;exact h0 (by omega),fun h=>by have h:1<i+1:=h;by_cases e:i=1;exact k1 e;exact h1 (by omega),fun h=>by have h:2<i+1:=h;by_cases e:i=2;exact k2 e;exact h2 (by omega)⟩ (by show 3-(i+1)<3-i;omega) ⟨rfl,rfl,rfl,rfl,trivial⟩ [] rfl
  ·refine Ab 14 (.bool true) rfl (congrArg Value.bool (XG hz)) ?_
   refine Aa (zE (zR rfl (zA (zB (wP rfl (wP rfl (Aa (zE (zO (zQ (zP (zP (zQ ?_)))))))))))))
   refine zP ?_
   exact Af tH rfl (.tmp rfl) () (by rw[hor.1 hz]) trivial fun W _=>Ae.nil _ _
 ·refine Ab 9 (.bool false) rfl (congrArg Value.bool (decide_eq_false (by omega))) ?_
  refine Aa (zE (zA (zS rfl (zJ (zK (zK (zL (zE (zA (zB (wP rfl (wP rfl (Aa ?_)))))))))))))
  refine zE (zO ?_)
  exact Af tH rfl (.tmp rfl) () (by unfold or3;rw[if_neg (fun hc=>hc (h0 (by omega))),if_neg (fun hc=>hc (h1 (by omega))),h2 (by omega)]) trivial fun W _=>Ae.nil _ _
abbrev Vv (b:Nat):Value:= .func (.func 76) #[] #[Ax b]
structure UB (F:List FrP) (z:Rat) (b4 b9 b10 b12 gF cF gP cP:Nat) (W:World):Prop where
 zz:Ag W b4 0 [str (Ai z)]
 f:Ag W b9 0 [.slice (some ⟨gF,0,none⟩) F.length cF]
 p:Ag W b10 0 [.slice (some ⟨gP,0,none⟩) F.length cP]
 v:Ag W b12 0 [Vv b4]
 rf: ∀m,m<F.length→Ag W gF (0+m*5) (frV (fr F m)).cells.toList
 rp: ∀m,m<F.length→Ag W gP (0+m*1) [str (Ai ((fr F m).at z))]
 mv:BJ W
 mt:AV W
theorem Wk {f:FrP} (h:f.Pl) {z:Rat} (hz:szQ z 20):szQ (f.at z) 60:=by
 unfold FrP.at
 have h1:=h.ok.posz.mono (show 5≤60 by decide)
 split
 ·exact h1
 ·exact(h.ok.posz.add (h.vz.mul (hz.sub h.szt))).mono (by decide)
theorem Q1 (F:List FrP) (hF: ∀f∈F,f.Pl) (hn:F.length≤24) (z:Rat) (hz:szQ z 20) (b4 b9 b10 b12 gF cF gP cP:Nat) (i k:Nat) (hi:i<F.length) (hk:k<F.length) (W:World) (hN:UB F z b4 b9 b10 b12 gF cF gP cP W):
  Aj Tryz.prog 80 #[.int .i64 (i:Nat), .int .i64 (k:Nat),Ax b10,Ax b12,Ax b9] W (fun _:Unit=> .int .i64 (PJ F z i k)) (fun _=>True) (fun _=>[]):=by
 have pi:=hF _ (Ie hi)
 have pk:=hF _ (Ie hk)
 refine Ad (args:=[.int .i64 (i:Nat), .int .i64 (k:Nat),Ax b10,Ax b12,Ax b9]) Tryz.func80 rfl rfl rfl ?_
 refine zA (zB (wP rfl (Aa (zE (zA ?_)))))
 refine zT Tryz.mixed (by kernel_rfl) ?_
 refine Ap rfl rfl rfl rfl (fun W hp=>Ag.load 0 tH rfl ((fun W1 hp=>hN.p.hp hp) W hp) rfl) ?_
 refine qP rfl ?_
 refine qJ ?_
 refine Ap rfl rfl rfl rfl (fun W hp=>Ag.load 0 tH rfl ((fun W1 hp=>(hN.rp i hi).hp hp) W hp) rfl) ?_
 refine Ap rfl rfl rfl rfl (fun W hp=>Ag.load 0 tH rfl ((fun W1 hp=>hN.p.hp hp) W hp) rfl) ?_
 refine qP rfl ?_
 refine qJ ?_
 refine Ap rfl rfl rfl rfl (fun W hp=>Ag.load 0 tH rfl ((fun W1 hp=>(hN.rp k hk).hp hp) W hp) rfl) ?_
 refine A9 rfl rfl rfl rfl rfl rfl (by kernel_rfl) (fun W1 hp=>DL _ _ (sz2 (Wk pi hz) (Wk pk hz) (by decide)) W1 (hN.mv.hp hp) (hN.mt.hp hp)) ?_
 refine Ap rfl rfl rfl rfl (fun W hp=>Ag.load 0 tH rfl ((fun W1 hp=>hN.v.hp hp) W hp) rfl) ?_
 refine Ap rfl rfl rfl rfl (fun W hp=>Ag.load 0 tH rfl ((fun W1 hp=>hN.f.hp hp) W hp) rfl) ?_
 refine qP rfl ?_
 refine qJ ?_
 refine Ap rfl rfl rfl rfl (fun W hp=>Ag.load 0 tH rfl ((fun W1 hp=>(hN.rf i hi).hp hp) W hp) rfl) ?_
 refine A9 (capt:=[Ax b4]) rfl rfl rfl rfl rfl rfl (by kernel_rfl) (fun W1 hp=>LW (fr F i) pi z (hz.mono (by decide)) b4 W1 (hN.zz.hp hp) (hN.mv.hp hp) (hN.mt.hp hp)) ?_
 refine Ap rfl rfl rfl rfl (fun W hp=>Ag.load 0 tH rfl ((fun W1 hp=>hN.v.hp hp) W hp) rfl) ?_
 refine Ap rfl rfl rfl rfl (fun W hp=>Ag.load 0 tH rfl ((fun W1 hp=>hN.f.hp hp) W hp) rfl) ?_
 refine qP rfl ?_
 refine qJ ?_
 refine Ap rfl rfl rfl rfl (fun W hp=>Ag.load 0 tH rfl ((fun W1 hp=>(hN.rf k hk).hp hp) W hp) rfl) ?_
 refine A9 (capt:=[Ax b4]) rfl rfl rfl rfl rfl rfl (by kernel_rfl) (fun W1 hp=>LW (fr F k) pk z (hz.mono (by decide)) b4 W1 (hN.zz.hp hp) (hN.mv.hp hp) (hN.mt.hp hp)) ?_
 refine A9 rfl rfl rfl rfl rfl rfl (by kernel_rfl) (fun W1 hp=>DL _ _ (sz2 (Sa pi z) (Sa pk z) (by decide)) W1 (hN.mv.hp hp) (hN.mt.hp hp)) ?_
 refine qP rfl (qP rfl (qP rfl ?_))
 refine A6 32 (.int .i64 ((i:Int)-(k:Int))) rfl (congrArg (Value.int .i64) (An (by omega) (by omega))) ?_
 refine AE ?_
 refine A0 Tryz.hZ tH rfl rfl rfl rfl rfl rfl rfl rfl rfl rfl rfl fun bS=> ?_
 refine Ac rfl rfl rfl rfl rfl rfl (by kernel_rfl) (fun W1 hp=>Tm bS _ _ _ W1 (Ag.of_bx hp 0 rfl rfl)) ?_
 refine wP rfl (Aa (zE (zO ?_)))
 exact Af tH rfl (.tmp rfl) () rfl trivial fun W _=>Ae.nil _ _
def E8 (F:List FrP) (ax:Bool) (k:Nat):List Nat:=(List.range k).filter fun i=>(fr F i).ax==ax
theorem Uh (F:List FrP) (ax:Bool):E8 F ax F.length=upr F ax:=rfl
theorem S1 (F:List FrP) (ax:Bool) (k:Nat):E8 F ax (k+1)=if ((fr F k).ax==ax)=true then E8 F ax k++[k] else E8 F ax k:=by
 unfold E8
 rw[List.range_succ,List.filter_append]
 show _++List.filter _ [k]=_
 rw[List.filter_cons,List.filter_nil]
 split
 ·rfl
 ·rw[List.append_nil]
theorem OT (F:List FrP) (ax:Bool) (k:Nat):(E8 F ax k).length≤k:=by
 have:=List.length_filter_le (fun i=>(fr F i).ax==ax) (List.range k)
 rwa [List.length_range] at this
def J4 (F:List FrP) (z:Rat) (ax:Bool):List Nat:=BL (PJ F z) (upr F ax)
theorem NT (cf:Nat) (capt:List Value) (W:World) (p:Option Addr) (cap:Nat):Aj Tryz.prog 79 #[.slice p 0 cap,fnM cf capt] W (fun _:Unit=> .tuple #[]) (fun _=>True) (fun _=>[]):=by
 refine Ad (args:=[.slice p 0 cap,fnM cf capt]) Tryz.func79 rfl rfl rfl ?_
 refine zA (zB (wP rfl (wP rfl (wP rfl (Aa (zE (zB (wP rfl (wP rfl (wP rfl ?_))))))))))
 refine EM (k:= .u64) (kt:= .i64) (by kernel_rfl) (by kernel_rfl) rfl rfl rfl rfl ?_
 refine Ab 10 (.int .u64 ((0:Nat):Int)) rfl rfl ?_
 refine Ac (capt:=[]) rfl rfl rfl rfl rfl rfl (by kernel_rfl) (fun W _=>E2 0 (by omega) W) ?_
 refine wP rfl ?_
 refine Ac (capt:=[]) rfl rfl rfl rfl rfl rfl (by kernel_rfl) (fun W _=>OG cf capt W p cap _) ?_
 refine Aa ?_
 exact Fy (X:=Unit) (val:=fun _=> .tuple #[]) (Φ:=fun _=>True) (nb:=fun _=>[]) (fn:=Tryz.f79) tH rfl () rfl trivial fun W _=>Ae.nil _ _
theorem UB.keep {F:List FrP} {z:Rat} {b4 b9 b10 b12 gF cF gP cP g:Nat} {W W':World} (h:UB F z b4 b9 b10 b12 gF cF gP cP W) (hk:Hq W W' g) (h4:b4≠g) (h9:b9≠g) (h10:b10≠g) (h12:b12≠g) (hF:gF≠g) (hP:gP≠g) (hm:BJ W') (ht:AV W'):UB F z b4 b9 b10 b12 gF cF gP cP W':=
 ⟨Ag.keep h.zz hk h4,Ag.keep h.f hk h9,Ag.keep h.p hk h10,Ag.keep h.v hk h12,fun m hm'=>Ag.keep (h.rf m hm') hk hF,fun m hm'=>Ag.keep (h.rp m hm') hk hP,hm,ht⟩
theorem O1 (W:World) (p:Option Addr) (cap:Nat) (rs:List (List Sd)) (h:DQ W p rs) (h12:tot rs≤12) (z:Rat) (hz:szQ z 20) (ax:Bool):
  Aj Tryz.prog 32 #[B5 p rs.length cap,str (Ai z), .bool ax] W (fun V:Vec=> .tuple #[V.val (J4 (Az rs) z ax).length, .int .i64 0]) (fun V=>V.OK 1 (J4 (Az rs) z ax).length (iC (J4 (Az rs) z ax))) (fun V=>[V.bx 3 (iC (J4 (Az rs) z ax))]):=by
 obtain⟨hne,hT24,hT0⟩:=Ea h.c
 obtain⟨hrg,_⟩:=DA h.c
 have eF:=Dm rs
 have eP:=EO (Az rs) z
 have hpl: ∀f∈Az rs,f.Pl:=fun f hf=>H1 hrg hf
 obtain⟨T,hTe⟩: ∃T,T=tot rs:=⟨_,rfl⟩
 rw[←hTe] at eF hT24 hT0 h12
 rw[eF] at eP
 refine Ad (args:=[B5 p rs.length cap,str (Ai z), .bool ax]) Tryz.func32 rfl rfl rfl ?_
 refine zA (zB ?_)
 (refine A8 rfl rfl rfl rfl ?_;intro)
 (refine A8 rfl rfl rfl rfl ?_;intro)
 refine wP rfl (wP rfl (Aa ?_))
 rename_i b3 b4
 refine zE (zA (zA (zB (wB 0 rfl rfl rfl (wB 1 rfl rfl rfl ?_)))))
 refine Ac rfl rfl rfl rfl rfl rfl (by kernel_rfl) (fun W1 hp=>G6 W1 p cap rs (h.hp hp) z hz) ?_
 refine wP rfl (Aa (zE (zA (zB (wP rfl (wP rfl (Aa (zE (zS rfl (zI (zE (zA (zB ?_)))))))))))))
 refine wB 0 rfl rfl rfl (wB 1 rfl rfl rfl ?_)
 refine Au (X:=Vec×Vec) rfl rfl rfl rfl rfl rfl (by kernel_rfl) (fun W1 hp=>GC W1 p cap rs (h.hp hp) z (hz.mono (by decide))) ?_
 rintro⟨F,P⟩ ⟨hF,hP⟩
 have hF:F.OK 5 (Az rs).length (frC (Az rs)):=hF
 have hP:P.OK 1 (CL (Az rs) z).length (nS (CL (Az rs) z)):=hP
 obtain⟨gF,cF,junkF,rfl⟩: ∃(gF cF:Nat) (junkF:List Value),F=⟨some gF,cF,junkF⟩:=by
  obtain⟨pF,cF,jF⟩:=F
  cases pF with
  |none=>have:=hF.nil rfl;omega
  |some g=>exact⟨g,cF,jF,rfl⟩
 obtain⟨gP,cP,junkP,rfl⟩: ∃(gP cP:Nat) (junkP:List Value),P=⟨some gP,cP,junkP⟩:=by
  obtain⟨pP,cP,jP⟩:=P
  cases pP with
  |none=>have:=hP.nil rfl;omega
  |some g=>exact⟨g,cP,jP,rfl⟩
 obtain⟨gF',cF',hFv,hFr⟩:=Vec.frs hF (by omega)
 have hFv:Value.slice (some ⟨gF,0,none⟩) (Az rs).length cF=Value.slice (some ⟨gF',0,none⟩) (Az rs).length cF':=hFv
 obtain⟨rfl,rfl⟩:gF=gF'∧cF=cF':=by injection hFv with a b c;injection a with a;injection a with a;exact⟨a,c⟩
 have hFr: ∀ {W0 W:World} {bxs:List Bx},Hp W0 bxs W→ ∀k,nth bxs k=some (⟨gF,39,frC (Az rs)++junkF,true,none⟩:Bx)→ ∀m,m<(Az rs).length→Ag W gF (0+m*5) (frV (fr (Az rs) m)).cells.toList:=fun hp k hk m hm=>hFr hp k hk m _ (Gi hm)
 have hPr: ∀ {W0 W:World} {bxs:List Bx},Hp W0 bxs W→ ∀k,nth bxs k=some (⟨gP,37,nS (CL (Az rs) z)++junkP,true,none⟩:Bx)→ ∀m,m<(Az rs).length→Ag W gP (0+m*1) [str (Ai ((fr (Az rs) m).at z))]:=fun hp k hk m hm=>by
  have hq:=Dw hp k (A:=nS ((CL (Az rs) z).take m)) (B:=[str (Ai ((fr (Az rs) m).at z))]) (C:=nS ((CL (Az rs) z).drop (m+1))++junkP) (off:=0+m*1) hk (by rw[I2 (l:=CL (Az rs) z) (i:=m) (by rw[EO];exact hm),RF];simp only[List.append_assoc]) (by rw[CO,List.length_take,EO];omega)
  exact hq
 dsimp only[Vec.val,Vec.bx]
 rw[eF,eP]
 refine wP rfl (wP rfl (wP rfl (wP rfl ?_)))
 (refine Ao Tryz.hZ rfl rfl rfl rfl ?_;intro)
 (refine Ao Tryz.hZ rfl rfl rfl rfl ?_;intro)
 refine wS 4 rfl rfl rfl (wS 5 rfl rfl rfl (wP rfl (Aa ?_)))
 rename_i b9 b10
 refine zE (zA (zA (zB (wP rfl (wP rfl (Aa (zE (zS rfl (zI (zE (zA (zB (wP rfl ?_)))))))))))))
 refine Bi (z:= .nilFunc) rfl rfl rfl (fun W=>by kernel_rfl) fun b12=> ?_
 refine wS 6 rfl rfl rfl (Aa (zE (zA (zB (wP rfl (Aa (zE (zA (zA (zB (wB 4 rfl rfl rfl (wP rfl (wP rfl ?_)))))))))))))
 refine Aa (zE (zH ?_))
 refine CM ?_
 refine Av (X:=Nat×Vec) (fun s=>[(2, .bool ax),(9,Ax b9),(10,Ax b10),(12,Ax b12),(13,s.2.val (E8 (Az rs) ax s.1).length),(33, .slice (some ⟨gF,0,none⟩) T cF),(34, .int .i64 (T:Nat)),(35, .int .i64 (s.1:Nat))])
  (fun s=>[bxE b3 24 (slv p rs.length cap),bxE b4 37 (str (Ai z)),⟨gF,39,frC (Az rs)++junkF,true,none⟩,⟨gP,37,nS (CL (Az rs) z)++junkP,true,none⟩,bxE b9 29 (.slice (some ⟨gF,0,none⟩) T cF),bxE b10 50 (.slice (some ⟨gP,0,none⟩) T cP),bxE b12 120 (Vv b4),s.2.bx 3 (iC (E8 (Az rs) ax s.1))]) (fun s=>s.1≤T∧s.2.OK 1 (E8 (Az rs) ax s.1).length (iC (E8 (Az rs) ax s.1))) (fun s=>T-s.1) (0,Vec.empty) ⟨Nat.zero_le _,Vec.OK.empty 1⟩ ⟨rfl,rfl,rfl,rfl,rfl,rfl,rfl,rfl,trivial⟩ [] rfl ?_
 rintro⟨i,V⟩ ⟨hi,hV⟩
 have hi:i≤T:=hi
 have hV:V.OK 1 (E8 (Az rs) ax i).length (iC (E8 (Az rs) ax i)):=hV
 have hul:=OT (Az rs) ax i
 by_cases hlt:i<T
 ·have hsu:=S1 (Az rs) ax i
  have hul1:=OT (Az rs) ax (i+1)
  refine zA (zB (wP rfl ?_))
  refine Ab 36 (.bool true) rfl (congrArg Value.bool (decide_eq_true (by omega))) ?_
  refine Aa (zE (zA (zR rfl (zI (zE (zA (zH (zA (zB (wP rfl ?_))))))))))
  refine wJ ?_
  refine Aw rfl rfl rfl rfl (fun W hp=>Ag.load 0 tH rfl ((fun W1 hp=>hFr hp 2 rfl i (by omega)) W hp) rfl) ?_
  (refine Ao Tryz.hZ rfl rfl rfl rfl ?_;intro)
  refine wP rfl (wS 8 rfl rfl rfl (Aa ?_))
  rename_i b15
  refine zE (zA (zB (wP rfl ?_)))
  refine JA 8 (v:= .bool (fr (Az rs) i).ax) tH rfl rfl rfl rfl rfl rfl rfl rfl ?_
  refine wP rfl ?_
  refine DZ Tryz.underlying4 rfl rfl rfl rfl rfl rfl ?_
  refine Aa (zE ?_)
  refine Ak rfl (fun hc=> ?_) (fun hc=> ?_)
  ·have hc:((fr (Az rs) i).ax==ax)=true:=hc
   rw[if_pos hc] at hsu
   refine zB (wP rfl (wP rfl ?_))
   refine A0 Tryz.hZ tH rfl rfl rfl rfl rfl rfl rfl rfl rfl rfl rfl fun bS=> ?_
   refine AP (V:=V) (len:=(E8 (Az rs) ax i).length) (xs:=iC (E8 (Az rs) ax i)) 7 9 Tryz.vec58 (E8 (Az rs) ax (i+1)).length (iC (E8 (Az rs) ax (i+1))) rfl rfl rfl rfl rfl rfl rfl rfl rfl rfl rfl hV rfl rfl (by rw[hsu,List.length_append];rfl) (by rw[hsu];show _=(E8 (Az rs) ax i++[i]).map _;rw[List.map_append];rfl) (by simp only[maxLen];omega) (by omega) rfl ?_
   intro gV cV jV hV1
   refine wP rfl (Aa (zN (zE (zB (wP rfl ?_)))))
   refine Ab 48 (.int .i64 ((i+1:Nat):Int)) rfl (congrArg (Value.int .i64) (A5 (by omega))) ?_
   refine wP rfl (Aa ?_)
   exact As (i+1,⟨some gV,cV,jV⟩) ⟨hlt,hV1⟩ (by show T-(i+1)<T-i;omega) ⟨rfl,rfl,rfl,rfl,rfl,rfl,rfl,rfl,trivial⟩ _ rfl
  ·have hc:((fr (Az rs) i).ax==ax)=false:=hc
   rw[if_neg (by rw[hc];decide)] at hsu
   refine zI (zN (zE (zB (wP rfl ?_))))
   refine Ab 48 (.int .i64 ((i+1:Nat):Int)) rfl (congrArg (Value.int .i64) (A5 (by omega))) ?_
   refine wP rfl (Aa ?_)
   exact As (i+1,V) ⟨hlt,by show V.OK 1 (E8 (Az rs) ax (i+1)).length (iC (E8 (Az rs) ax (i+1)));rw[hsu];exact hV⟩ (by show T-(i+1)<T-i;omega) ⟨rfl,rfl,rfl,rfl,by show some (V.val _)=some (V.val (E8 (Az rs) ax (i+1)).length);rw[hsu],rfl,rfl,rfl,trivial⟩ [⟨b15,39,(frV (fr (Az rs) i)).cells.toList,true,none⟩] (by show _=[_,_,_,_,_,_,_,V.bx 3 (iC (E8 (Az rs) ax (i+1))),_];rw[hsu];rfl)
 have e:i=T:=by omega
 subst e
 obtain⟨U,hU⟩: ∃U,U=upr (Az rs) ax:=⟨_,rfl⟩
 have hUe:E8 (Az rs) ax i=U:=by rw[←eF,hU];exact Uh _ _
 have hoe:J4 (Az rs) z ax=BL (PJ (Az rs) z) U:=by rw[hU];rfl
 rw[hUe] at hV hul
 have hUm: ∀x∈U,x<(Az rs).length:=fun x hx=>(Vl.1 (hU▸hx)).1
 have hsl:=MQ (PJ (Az rs) z) U
 refine MJ (bxs':=[bxE b3 24 (slv p rs.length cap),bxE b4 37 (str (Ai z)),⟨gF,39,frC (Az rs)++junkF,true,none⟩,⟨gP,37,nS (CL (Az rs) z)++junkP,true,none⟩,bxE b9 29 (.slice (some ⟨gF,0,none⟩) i cF),bxE b10 50 (.slice (some ⟨gP,0,none⟩) i cP),bxE b12 120 (Vv b4),V.bx 3 (iC U)]) (by rw[hUe]) ?_
 refine zA (zB (wP rfl ?_))
 refine Ab 36 (.bool false) rfl (congrArg Value.bool (decide_eq_false (by omega))) ?_
 refine Aa (zE (zA (zS rfl (zJ (zK (zK (zL (zE (zA (zB (wP rfl ?_)))))))))))
 refine Ab 49 (V.val U.length) rfl (by show V.val (E8 (Az rs) ax i).length=_;rw[hUe]) ?_
 refine wP rfl ?_
 obtain⟨pV,cV,jk⟩:=V
 cases pV with
 |none=>
  have h0:=hV.nil rfl
  have h00:U=[]:=List.length_eq_zero_iff.1 h0
  have ho0:J4 (Az rs) z ax=[]:=by rw[hoe,h00];rfl
  refine Ac (capt:=[]) rfl rfl rfl rfl rfl rfl (by kernel_rfl) (fun W1 _=>NT _ _ W1 none 0) ?_
  refine Aa (zE (zA (zB (wP rfl (wP rfl (wP rfl (Aa (zE (zO ?_)))))))))
  exact Ar tH rfl (.tmp rfl) (.tmp rfl) Vec.empty rfl (by show Vec.empty.OK 1 (J4 (Az rs) z ax).length _;rw[ho0];exact Vec.OK.empty 1) fun W1 hp=>by
   show Ae W W1 [Vec.empty.bx 3 (iC (J4 (Az rs) z ax))]
   rw[ho0]
   exact Ae.of_hp (hp.pick (l:=[Vec.empty.bx 3 (iC [])]) [7] (by decide) rfl)
 |some gV=>
  refine CE (X:=Unit) (val:=fun _=> .tuple #[]) (Φ:=fun _=>True) (capt:=[]) 7 (B:=DS gV U jk) (L1:=[]) (L2:=[]) (b:=gV) (ob:= .cells (iC U++jk).toArray 3 (0,0)) (fun _=>DS gV (BL (PJ (Az rs) z) U) jk) (g':=fun _=>gV) (o':=fun _=> .cells (iC (BL (PJ (Az rs) z) U)++jk).toArray 3 (0,0))
   rfl rfl rfl rfl rfl rfl (by kernel_rfl) rfl rfl (fun _ _=>rfl) (fun W1 hp=> ?_) (fun _ _=> ?_)
  ·have hcell:=hp.own.cell 7 _ rfl (gV, .cells (iC U++jk).toArray 3 (0,0)) (List.mem_cons_self ..)
   have apart: ∀k B,([bxE b3 24 (slv p rs.length cap),bxE b4 37 (str (Ai z)),⟨gF,39,frC (Az rs)++junkF,true,none⟩,⟨gP,37,nS (CL (Az rs) z)++junkP,true,none⟩,bxE b9 29 (.slice (some ⟨gF,0,none⟩) i cF),bxE b10 50 (.slice (some ⟨gP,0,none⟩) i cP),bxE b12 120 (Vv b4),DS gV U jk]:List Bx)[k]? =some B→k≠7→ ∀q∈B.blk,q.1≠gV:=fun k B hk hne q hq=>hp.own.apart k 7 B (DS gV U jk) hk rfl hne q hq (gV, .cells (iC U++jk).toArray 3 (0,0)) (List.mem_cons_self ..)
   have hN:UB (Az rs) z b4 b9 b10 b12 gF cF gP cP W1:=⟨Ag.of_bx hp 1 rfl rfl,by rw[eF];exact Ag.of_bx hp 4 rfl rfl,by rw[eF];exact Ag.of_bx hp 5 rfl rfl,Ag.of_bx hp 6 rfl rfl,fun m hm=>hFr hp 2 rfl m hm,fun m hm=>hPr hp 3 rfl m hm,h.v.hp hp,h.t.hp hp⟩
   refine OL 80 [Ax b10,Ax b12,Ax b9] (by kernel_rfl) (PJ (Az rs) z) W1 gV cV U jk (by omega) hcell.1 fun W' hK x hx y hy=> ?_
   have hbel:=hK.below hp.below hcell.2
   exact Q1 (Az rs) hpl (by omega) z hz b4 b9 b10 b12 gF cF gP cP x y (hUm x hx) (hUm y hy) W' (hN.keep hK (apart 1 _ rfl (by decide) _ (List.mem_cons_self ..)) (apart 4 _ rfl (by decide) _ (List.mem_cons_self ..)) (apart 5 _ rfl (by decide) _ (List.mem_cons_self ..)) (apart 6 _ rfl (by decide) _ (List.mem_cons_self ..)) (apart 2 _ rfl (by decide) _ (List.mem_cons_self ..)) (apart 3 _ rfl (by decide) _ (List.mem_cons_self ..)) (h.v.below hbel) (h.t.below hbel))
  refine Aa (zE (zA (zB (wP rfl (wP rfl (wP rfl (Aa (zE (zO ?_)))))))))
  have hOK:(⟨some gV,cV,jk⟩:Vec).OK 1 (J4 (Az rs) z ax).length (iC (J4 (Az rs) z ax)):=by
   rw[hoe,hsl]
   refine⟨by rw[List.length_map,hsl,Nat.mul_one],fun hc=>(by cases hc),fun hc=> ?_⟩
   obtain⟨k1,k2,k3⟩:=hV.cap hc
   refine⟨k1,k2, ?_⟩
   rw[List.length_map] at k3⊢
   rw[hsl]
   exact k3
  exact Ar tH rfl (.tmp rfl) (.tmp rfl) ⟨some gV,cV,jk⟩ (by show Value.tuple #[.slice (some ⟨gV,0,none⟩) (E8 (Az rs) ax i).length cV, .int .i64 0]= .tuple #[.slice (some ⟨gV,0,none⟩) (J4 (Az rs) z ax).length cV, .int .i64 0];rw[hUe,hoe,hsl]) hOK fun W1 hp=>by
   show Ae W W1 [DS gV (J4 (Az rs) z ax) jk]
   rw[hoe]
   exact Ae.of_hp (hp.pick (l:=[DS gV (BL (PJ (Az rs) z) U) jk]) [7] (by decide) rfl)
-- BOXES 10
-- CODE2
section
variable {r:Option Nat} {n:Nat} {P:Program} {W0:World} {N:Nat} {D:List Deferred} {ops:List Oper} {Q:Exit→Act→World→Prop} {l:List Oper} {env:Env} {bxs:List Bx}
theorem SQ (h:WL r n P N D ops Q l env (Hp W0 (bxs++[AU []]))):WL r n P N D ops Q l env (Hp W0 bxs):= .mk fun a W ha hd hp=>h.out a W ha hd hp.newGrp
end
def Hu (f g:FrP):Bool:=decide (f.pos=g.pos)&&(decide (f.sp=g.sp)&&(decide (f.sp=0)||(decide (f.st=g.st)&&decide (f.hd=g.hd))))
theorem PY {f g:FrP}:Hu f g=true↔alw f g:=by simp[Hu,alw]
theorem Of (f g:FrP) (W:World):Aj Tryz.prog 84 #[frV f,frV g] W (fun _:Unit=> .bool (Hu f g)) (fun _=>True) (fun _=>[]):=by
 refine Ad (args:=[frV f,frV g]) Tryz.func84 rfl rfl rfl ?_
 refine zA (zB ?_)
 (refine A8 rfl rfl rfl rfl ?_;intro)
 (refine A8 rfl rfl rfl rfl ?_;intro)
 refine wP rfl (Aa (zE (zA (zB (wP rfl (wB 0 rfl rfl rfl (wP rfl (wB 1 rfl rfl rfl (wP rfl ?_)))))))))
 by_cases c1:f.pos=g.pos
 rotate_left
 ·have e:Hu f g=false:=by unfold Hu;rw[decide_eq_false c1];rfl
  refine Ab 9 (.bool false) rfl (congrArg Value.bool (beq_eq_false_iff_ne.2 c1)) ?_
  refine wP rfl ?_
  iterate 5 refine Ah rfl rfl ?_
  refine wP rfl (wP rfl ?_)
  iterate 17 refine Ah rfl rfl ?_
  refine wP rfl (wP rfl (Aa (zE (zO ?_))))
  exact Af tH rfl (.tmp rfl) () (by rw[e]) trivial fun W _=>Ae.nil _ _
 refine Ab 9 (.bool true) rfl (congrArg Value.bool (beq_iff_eq.2 c1)) ?_
 refine wP rfl (wP rfl (wB 0 rfl rfl rfl (wP rfl (wB 1 rfl rfl rfl (wP rfl ?_)))))
 by_cases c2:f.sp=g.sp
 rotate_left
 ·have e:Hu f g=false:=by unfold Hu;rw[decide_eq_false c2,Bool.false_and,Bool.and_false]
  refine Ab 15 (.bool false) rfl (congrArg Value.bool ((AR _ _).trans (decide_eq_false fun h=>c2 (Cl.1 h)))) ?_
  refine wP rfl (wP rfl ?_)
  iterate 17 refine Ah rfl rfl ?_
  refine wP rfl (wP rfl (Aa (zE (zO ?_))))
  exact Af tH rfl (.tmp rfl) () (by rw[e]) trivial fun W _=>Ae.nil _ _
 refine Ab 15 (.bool true) rfl (congrArg Value.bool ((AR _ _).trans (decide_eq_true (by rw[c2])))) ?_
 refine wP rfl (wP rfl (wP rfl (wB 0 rfl rfl rfl (wP rfl ?_))))
 by_cases c3:f.sp=0
 ·have e:Hu f g=true:=PY.2 ⟨c1,c2, .inl c3⟩
  refine Ab 20 (.bool true) rfl (congrArg Value.bool ((AR _ _).trans ((FF _).trans (decide_eq_true c3)))) ?_
  refine wP rfl ?_
  iterate 12 refine Ah rfl rfl ?_
  refine wP rfl (wP rfl (wP rfl (Aa (zE (zO ?_)))))
  exact Af tH rfl (.tmp rfl) () (by rw[e]) trivial fun W _=>Ae.nil _ _
 refine Ab 20 (.bool false) rfl (congrArg Value.bool ((AR _ _).trans ((FF _).trans (decide_eq_false c3)))) ?_
 refine wP rfl (wP rfl (wB 0 rfl rfl rfl (wP rfl (wB 1 rfl rfl rfl (wP rfl ?_)))))
 by_cases c4:f.st=g.st
 rotate_left
 ·have e:Hu f g=false:=by unfold Hu;rw[decide_eq_false c3,decide_eq_false c4];simp
  refine Ab 26 (.bool false) rfl (congrArg Value.bool ((AR _ _).trans (decide_eq_false fun h=>c4 (Cl.1 h)))) ?_
  refine wP rfl ?_
  iterate 5 refine Ah rfl rfl ?_
  refine wP rfl (wP rfl (wP rfl (wP rfl (Aa (zE (zO ?_))))))
  exact Af tH rfl (.tmp rfl) () (by rw[e]) trivial fun W _=>Ae.nil _ _
 refine Ab 26 (.bool true) rfl (congrArg Value.bool ((AR _ _).trans (decide_eq_true (by rw[c4])))) ?_
 refine wP rfl (wP rfl (wB 0 rfl rfl rfl (wP rfl (wB 1 rfl rfl rfl (wP rfl ?_)))))
 by_cases c5:f.hd=g.hd
 ·have e:Hu f g=true:=PY.2 ⟨c1,c2, .inr ⟨c4,c5⟩⟩
  refine Ab 32 (.bool true) rfl (congrArg Value.bool (beq_iff_eq.2 c5)) ?_
  refine wP rfl (wP rfl (wP rfl (wP rfl (Aa (zE (zO ?_))))))
  exact Af tH rfl (.tmp rfl) () (by rw[e]) trivial fun W _=>Ae.nil _ _
 ·have e:Hu f g=false:=by unfold Hu;rw[decide_eq_false c3,decide_eq_false c5];simp
  refine Ab 32 (.bool false) rfl (congrArg Value.bool (beq_eq_false_iff_ne.2 c5)) ?_
  refine wP rfl (wP rfl (wP rfl (wP rfl (Aa (zE (zO ?_))))))
  exact Af tH rfl (.tmp rfl) () (by rw[e]) trivial fun W _=>Ae.nil _ _
abbrev KR:Type:=List (Nat×(Nat×Nat))
abbrev prC (q:Nat×Nat):List Value:=[.int .i64 (q.1:Nat), .int .i64 (q.2:Nat)]
def D6 (mk:KR):List Value:=mk.map fun p=> .slice (some ⟨p.1,0,none⟩) 2 2
def prL (mk:KR):List (Nat×Obj):=mk.reverse.map fun p=>(p.1, .cells (prC p.2).toArray 3 (0,0))
def prB (mk:KR):Bx:=AU (prL mk)
theorem Tb (mk:KR):(D6 mk).length=mk.length:=List.length_map _
theorem Qx (mk:KR) (b:Nat) (q:Nat×Nat):D6 (mk++[(b,q)])=D6 mk++[.slice (some ⟨b,0,none⟩) 2 2]:=by unfold D6;rw[List.map_append];rfl
theorem UC (mk:KR) (b:Nat) (q:Nat×Nat):(prB (mk++[(b,q)])).blk=(⟨b,3,prC q,true,none⟩:Bx).blk++(prB mk).blk:=by
 show prL (mk++[(b,q)])=_++prL mk
 unfold prL
 rw[List.reverse_append];rfl
def Lr (W:World) (p:Option Addr) (L:List (Nat×Nat)):Prop:=L=[]∨ ∃g off,p=some ⟨g,off,none⟩∧ ∀i (hi:i<L.length), ∃b,Ag W g (off+i*1) [.slice (some ⟨b,0,none⟩) 2 2]∧Ag W b 0 (prC L[i])
theorem Lr.at_ {W:World} {p:Option Addr} {L:List (Nat×Nat)} (h:Lr W p L) {i:Nat} (hi:i<L.length): ∃g off,p=some ⟨g,off,none⟩∧ ∀i (hi:i<L.length), ∃b,Ag W g (off+i*1) [.slice (some ⟨b,0,none⟩) 2 2]∧Ag W b 0 (prC L[i]):=by
 rcases h with rfl|h
 ·exact absurd hi (Nat.not_lt_zero _)
 ·exact h
theorem S7 {V:Vec} {mk:KR} {L:List (Nat×Nat)} (hL:mk.map (·.2)=L) (hV:V.OK 1 mk.length (D6 mk)): ∃p cap,V.val mk.length= .slice p L.length cap∧
  ∀ {W0 W:World} {bxs:List Bx},Hp W0 bxs W→ ∀k i,nth bxs k=some (V.bx 58 (D6 mk))→nth bxs i=some (prB mk)→Lr W p L:=by
 have hl:L.length=mk.length:=by rw[←hL,List.length_map]
 obtain⟨p,cap,junk⟩:=V
 cases p with
 |none=>
  have h0:=hV.nil rfl
  refine⟨none,0,by rw[hl,h0];rfl,fun _ _ _ _ _=> .inl (List.length_eq_zero_iff.1 (by omega))⟩
 |some g=>
  refine⟨some ⟨g,0,none⟩,cap,by rw[hl];rfl,fun {W0 W bxs} hp k i hk hi=> .inr ⟨g,0,rfl,fun j hj=> ?_⟩⟩
  have hjm:j<mk.length:=by omega
  have e2:L[j]=mk[j].2:=by simp only[←hL,List.getElem_map]
  refine⟨mk[j].1,Dw hp k (A:=D6 (mk.take j)) (C:=D6 (mk.drop (j+1))++junk) hk ?_ (by rw[Tb,List.length_take];omega), ?_⟩
  ·conv=>lhs;rw[←List.take_append_drop j mk,List.drop_eq_getElem_cons hjm]
   unfold D6
   rw[List.map_append,List.map_cons,List.append_assoc];rfl
  ·rw[e2]
   refine TD (ty:=3) hp i hi (l:=prL mk) ?_
   exact List.mem_map.2 ⟨mk[j],List.mem_reverse.2 (List.getElem_mem hjm),rfl⟩
def Od (F:List FrP) (z:Rat) (q:Nat×Nat):Bool:=decide ((fr F q.1).at z=(fr F q.2).at z)&& !Hu (fr F q.1) (fr F q.2)
def prW (F:List FrP) (z:Rat):List (Nat×Nat):=(prs F).filter (Od F z)
def Iq (F:List FrP) (z:Rat) (j:Nat):List (Nat×Nat):=((prs F).take j).filter (Od F z)
theorem Uu (F:List FrP) (z:Rat):Iq F z (prs F).length=prW F z:=by unfold Iq prW;rw[List.take_length]
theorem SF {F:List FrP} {z:Rat} {j:Nat} (hj:j<(prs F).length):Iq F z (j+1)=if Od F z ((prs F).getD j (0,0))=true then Iq F z j++[(prs F).getD j (0,0)] else Iq F z j:=by
 unfold Iq
 rw[List.getD_eq_getElem?_getD,List.take_add_one,List.getElem?_eq_getElem hj,List.filter_append]
 show _++List.filter _ [_]=_
 rw[List.filter_cons,List.filter_nil]
 show _++_=if Od F z (prs F)[j]=true then _++[(prs F)[j]] else _
 split
 ·rfl
 ·rw[List.append_nil]
theorem TP (F:List FrP) (z:Rat) (j:Nat):(Iq F z j).length≤F.length*F.length:=by
 have h1:=List.length_filter_le (Od F z) ((prs F).take j)
 have h2:=Nt F
 rw[List.length_take] at h1
 unfold Iq
 omega
theorem NW (W:World) (p:Option Addr) (cap:Nat) (rs:List (List Sd)) (h:DQ W p rs) (z:Rat) (hz:szQ z 20):
  Aj Tryz.prog 33 #[B5 p rs.length cap,str (Ai z)] W (fun x:Vec×KR=> .tuple #[x.1.val x.2.length, .int .i64 0]) (fun x=>x.2.map (·.2)=prW (Az rs) z∧x.1.OK 1 x.2.length (D6 x.2))
   (fun x=>[x.1.bx 58 (D6 x.2),prB x.2]):=by
 obtain⟨hne,hT24,hT0⟩:=Ea h.c
 obtain⟨hrg,_⟩:=DA h.c
 have eF:=Dm rs
 have eP:=EO (Az rs) z
 obtain⟨T,hTe⟩: ∃T,T=tot rs:=⟨_,rfl⟩
 rw[←hTe] at eF hT24 hT0
 rw[eF] at eP
 have hwl: ∀j,(Iq (Az rs) z j).length≤576:=fun j=>by
  have h1:=TP (Az rs) z j
  rw[eF] at h1
  have:=Nat.mul_le_mul hT24 hT24
  omega
 refine Ad (args:=[B5 p rs.length cap,str (Ai z)]) Tryz.func33 rfl rfl rfl ?_
 refine zA (zB ?_)
 (refine A8 rfl rfl rfl rfl ?_;intro)
 refine wP rfl (wP rfl (Aa ?_))
 rename_i b2
 refine zE (zA (zA (zB (wB 0 rfl rfl rfl (wP rfl ?_)))))
 refine Ac rfl rfl rfl rfl rfl rfl (by kernel_rfl) (fun W1 hp=>G6 W1 p cap rs (h.hp hp) z hz) ?_
 refine wP rfl (Aa (zE (zA (zB (wP rfl (wP rfl (Aa (zE (zS rfl (zI (zE (zA (zB ?_)))))))))))))
 refine wB 0 rfl rfl rfl (wP rfl ?_)
 refine Au (X:=Vec×Vec) rfl rfl rfl rfl rfl rfl (by kernel_rfl) (fun W1 hp=>GC W1 p cap rs (h.hp hp) z (hz.mono (by decide))) ?_
 rintro⟨F,P⟩ ⟨hF,hP⟩
 have hF:F.OK 5 (Az rs).length (frC (Az rs)):=hF
 have hP:P.OK 1 (CL (Az rs) z).length (nS (CL (Az rs) z)):=hP
 obtain⟨gF,cF,hFv,hFr⟩:=Vec.frs hF (by omega)
 have hFr: ∀ {W0 W:World} {bxs:List Bx},Hp W0 bxs W→ ∀k,nth bxs k=some (F.bx 39 (frC (Az rs)))→ ∀m,m<T→Ag W gF (0+m*5) (frV (fr (Az rs) m)).cells.toList:=fun hp k hk m hm=>hFr hp k hk m _ (Gi (by omega))
 obtain⟨pP,cP,hPv,hPr⟩:=Vec.num hP
 obtain⟨gP,hpe,hPq⟩:=hPr (by omega)
 subst hpe
 have hPr: ∀ {W0 W:World} {bxs:List Bx},Hp W0 bxs W→ ∀k,nth bxs k=some (P.bx 37 (nS (CL (Az rs) z)))→ ∀m,m<T→Ag W gP (0+m*1) [str (Ai ((fr (Az rs) m).at z))]:=fun hp k hk m hm=>RF (F:=Az rs) (z:=z) (i:=m) (by omega)▸hPq hp k hk m (by omega)
 dsimp only
 rw[hFv,hPv,eF,eP]
 refine wP rfl (wP rfl (wP rfl (wP rfl ?_)))
 (refine Ao Tryz.hZ rfl rfl rfl rfl ?_;intro)
 (refine Ao Tryz.hZ rfl rfl rfl rfl ?_;intro)
 refine wS 3 rfl rfl rfl (wS 4 rfl rfl rfl (wP rfl (Aa ?_)))
 rename_i b7 b8
 refine zE (zA (zA (zB (wP rfl (wP rfl (Aa (zE (zS rfl (zI (zE (zA (zB ?_))))))))))))
 (refine Ao Tryz.hZ rfl rfl rfl rfl ?_;intro)
 refine Aa ?_
 rename_i b10
 refine zE (zA (zA (zB ?_)))
 refine Ed ?_
 refine SQ ?_
 refine wB 3 rfl rfl rfl ?_
 refine Au (X:=Nat) rfl rfl rfl rfl rfl rfl (by kernel_rfl) (fun W1 _=>Kb W1 _) ?_
 intro bp _
 refine Aa (zE (zH ?_))
 refine MU (X:=Nat×Vec×KR) (fun x=>[bxE b2 24 (slv p rs.length cap),F.bx 39 (frC (Az rs)),P.bx 37 (nS (CL (Az rs) z)),bxE b7 29 (.slice (some ⟨gF,0,none⟩) T cF),bxE b8 50 (.slice (some ⟨gP,0,none⟩) T cP),bxE b10 66 (x.2.1.val x.2.2.length),x.2.1.bx 58 (D6 x.2.2),prB x.2.2,bxE bp 29 (.slice (some ⟨gF,0,none⟩) T cF)])
  (fun j x=>x.1=j∧x.2.2.map (·.2)=Iq (Az rs) z x.1∧x.2.1.OK 1 x.2.2.length (D6 x.2.2)) (fun _ _=>False) (0,Vec.empty,[]) rfl (by kernel_rfl) (Mj (Az rs) bp gF cF (by omega)) (fun _=>rfl)
  ⟨rfl,rfl,Vec.OK.empty 1⟩ [] rfl (fun k x W1 _ hp=>⟨by rw[eF];exact Ag.of_bx hp 8 rfl rfl,fun m hm=>hFr hp 1 rfl m (by omega)⟩) ?_ ?_ (fun _ _ _ _ _ h=>h.elim)
 ·rintro j' ⟨j,V,mk⟩ d l rec L hj ⟨e1,hmk,hV⟩ hrec
  obtain rfl:j=j':=e1
  have hmk:mk.map (·.2)=Iq (Az rs) z j:=hmk
  have hV:V.OK 1 mk.length (D6 mk):=hV
  obtain⟨q,hq⟩: ∃q,q=(prs (Az rs)).getD j (0,0):=⟨_,rfl⟩
  have hqm:q∈prs (Az rs):=by rw[hq,List.getD_eq_getElem?_getD,List.getElem?_eq_getElem hj];exact List.getElem_mem hj
  obtain⟨q1,q2,q3⟩:=NQ.1 hqm
  have henc:Vq (Az rs) j=[.int .i64 (q.1:Nat), .int .i64 (q.2:Nat)]:=by rw[hq]
  rw[henc]
  have hsu:=SF (z:=z) hj
  rw[←hq] at hsu
  have hml:mk.length≤576:=by
   have:=congrArg List.length hmk
   rw[List.length_map] at this
   have:=hwl j
   omega
  refine zA (zB (wP rfl (Aa (zE (zB (wP rfl (Aa ?_)))))))
  refine Ct 11 hrec rfl ?_
  refine BI (zA ?_)
  refine zT Tryz.mixed (by kernel_rfl) ?_
  refine qB 5 rfl rfl rfl (qP rfl ?_)
  refine qJ ?_
  refine Ap rfl rfl rfl rfl (fun W hp=>Ag.load 0 tH rfl ((fun W1 hp=>hPr hp 3 rfl q.1 (by omega)) W hp) rfl) ?_
  refine qB 5 rfl rfl rfl (qP rfl ?_)
  refine qJ ?_
  refine Ap rfl rfl rfl rfl (fun W hp=>Ag.load 0 tH rfl ((fun W1 hp=>hPr hp 3 rfl q.2 (by omega)) W hp) rfl) ?_
  refine qP rfl ?_
  by_cases c1:(fr (Az rs) q.1).at z=(fr (Az rs) q.2).at z
  rotate_left
  ·have e:Od (Az rs) z q=false:=by unfold Od;rw[decide_eq_false c1];rfl
   rw[e] at hsu
   have hsu:Iq (Az rs) z (j+1)=Iq (Az rs) z j:=hsu
   refine A6 41 (.bool false) rfl (congrArg Value.bool ((AR _ _).trans (decide_eq_false fun h=>c1 (Cl.1 h)))) ?_
   refine qP rfl ?_
   iterate 10 refine BC rfl rfl ?_
   refine qP rfl (AE (Aa (zE (zS rfl (zI (zN ?_))))))
   exact Bw 11 (j+1,V,mk) hrec rfl ⟨rfl,hmk.trans hsu.symm,hV⟩ [] rfl
  refine A6 41 (.bool true) rfl (congrArg Value.bool ((AR _ _).trans (decide_eq_true (by rw[c1])))) ?_
  refine qP rfl (qB 4 rfl rfl rfl (qP rfl ?_))
  refine qJ ?_
  refine Ap rfl rfl rfl rfl (fun W hp=>Ag.load 0 tH rfl ((fun W1 hp=>hFr hp 2 rfl q.1 (by omega)) W hp) rfl) ?_
  refine qB 4 rfl rfl rfl (qP rfl ?_)
  refine qJ ?_
  refine Ap rfl rfl rfl rfl (fun W hp=>Ag.load 0 tH rfl ((fun W1 hp=>hFr hp 2 rfl q.2 (by omega)) W hp) rfl) ?_
  refine A9 rfl rfl rfl rfl rfl rfl (by kernel_rfl) (fun W1 _=>Of (fr (Az rs) q.1) (fr (Az rs) q.2) W1) ?_
  have e:Od (Az rs) z q= !Hu (fr (Az rs) q.1) (fr (Az rs) q.2):=by unfold Od;rw[decide_eq_true c1];rfl
  refine qP rfl (qP rfl (AE (Aa (zE ?_))))
  refine Ak rfl (fun hc=> ?_) (fun hc=> ?_)
  ·have hc:(!Hu (fr (Az rs) q.1) (fr (Az rs) q.2))=true:=hc
   rw[e,if_pos hc] at hsu
   refine zB (wB 6 rfl rfl rfl (wP rfl (wP rfl ?_)))
   refine A0 Tryz.hZ tH rfl rfl rfl rfl rfl rfl rfl rfl rfl rfl rfl fun bA=> ?_
   refine A0 Tryz.hZ tH rfl rfl rfl rfl rfl rfl rfl rfl rfl rfl rfl fun bB=> ?_
   refine AP (V:=V) (len:=mk.length) (xs:=D6 mk) 7 13 Tryz.vec66 (mk.length+1) (D6 (mk++[(bA,q)])) rfl rfl rfl rfl rfl rfl rfl rfl rfl rfl rfl hV rfl rfl rfl (by rw[Qx];rfl) (by simp only[maxLen];omega) (by omega) rfl ?_
   intro gV cV jV hV1
   refine wS 6 rfl rfl rfl (Aa (zN ?_))
   refine Vb 8 12 (prB (mk++[(bA,q)])) rfl rfl rfl (UC mk bA q) ?_
   have hl1:(mk++[(bA,q)]).length=mk.length+1:=by rw[List.length_append];rfl
   exact Bw 11 (j+1,⟨some gV,cV,jV⟩,mk++[(bA,q)]) hrec rfl ⟨rfl,by show(mk++[(bA,q)]).map _=Iq (Az rs) z (j+1);rw[hsu,List.map_append,hmk];rfl,by show(⟨some gV,cV,jV⟩:Vec).OK 1 (mk++[(bA,q)]).length _;rw[hl1];exact hV1⟩ [Du,_] (by show _=[_,_,_,_,_,_,bxE b10 66 (.slice (some ⟨gV,0,none⟩) (mk++[(bA,q)]).length cV),_,_,_,_,_,_,_];rw[hl1];rfl)
  ·have hc:(!Hu (fr (Az rs) q.1) (fr (Az rs) q.2))=false:=hc
   rw[e,if_neg (by rw[hc];decide)] at hsu
   refine zI (zN ?_)
   exact Bw 11 (j+1,V,mk) hrec rfl ⟨rfl,hmk.trans hsu.symm,hV⟩ [] rfl
 ·rintro⟨j,V,mk⟩ d l rec ⟨e1,hmk,hV⟩
  obtain rfl:j=(prs (Az rs)).length:=e1
  have hmk:mk.map (·.2)=Iq (Az rs) z (prs (Az rs)).length:=hmk
  rw[Uu] at hmk
  have hV:V.OK 1 mk.length (D6 mk):=hV
  refine zN (zE (zA (zB (wB 5 rfl rfl rfl (wP rfl (wP rfl (Aa (zE (zO ?_)))))))))
  refine CS 9 rfl ?_
  exact Ar tH rfl (.tmp rfl) (.tmp rfl) (V,mk) rfl ⟨hmk,hV⟩ fun W1 hp=>Ae.of_hp (hp.pick (l:=[V.bx 58 (D6 mk),prB mk]) [6,7] (by decide) rfl)
-- BOXES 6
-- CODE2
def G9 (W:World) (p:Option Addr) (l:List Nat):Prop:=l=[]∨ ∃b off,p=some ⟨b,off,none⟩∧ ∀k (_:k<l.length),Ag W b (off+k*1) [.int .i64 (l[k]:Nat)]
theorem G9.row {W:World} {p:Option Addr} {l:List Nat} (h:G9 W p l) {i:Nat} (hi:i<l.length): ∃b off,p=some ⟨b,off,none⟩∧ ∀k (_:k<l.length),Ag W b (off+k*1) [.int .i64 (l[k]:Nat)]:=by
 rcases h with rfl|h
 ·exact absurd hi (Nat.not_lt_zero _)
 ·exact h
theorem G9.hp {W0 W:World} {bxs:List Bx} {p:Option Addr} {l:List Nat} (h:G9 W0 p l) (hp:Hp W0 bxs W):G9 W p l:=by
 rcases h with h|⟨b,off,e,h⟩
 ·exact .inl h
 ·exact .inr ⟨b,off,e,fun k hk=>(h k hk).hp hp⟩
theorem Pj {W:World} {b:Nat} {l:List Nat} {junk:List Value} (h:Ag W b 0 (iC l++junk)):G9 W (some ⟨b,0,none⟩) l:= .inr ⟨b,0,rfl,fun k hk=>⟨h.lt,fun m u hu=>by
 have hm:m=0:=by have:=(List.getElem?_eq_some_iff.1 hu).1;simpa using this
 subst hm
 have:=h.get k u (by
  rw[List.getElem?_append_left (by rw[List.length_map];exact hk),List.getElem?_map,List.getElem?_eq_getElem hk]
  exact hu)
 rw[Nat.mul_one,Nat.add_zero];exact this⟩⟩
theorem PA {V:Vec} {l:List Nat} (hV:V.OK 1 l.length (iC l)): ∃p cap,V.val l.length= .slice p l.length cap∧
  ∀ {W0 W:World} {bxs:List Bx},Hp W0 bxs W→ ∀k,nth bxs k=some (V.bx 3 (iC l))→G9 W p l:=by
 obtain⟨p,cap,junk⟩:=V
 cases p with
 |none=>
  have h0:=hV.nil rfl
  exact⟨none,0,by rw[h0];rfl,fun _ _ _=> .inl (List.length_eq_zero_iff.1 h0)⟩
 |some g=>exact⟨some ⟨g,0,none⟩,cap,rfl,fun {W0 W bxs} hp k hk=>Pj (Ag.of_bx hp k hk rfl)⟩
theorem NL (W:World) (p q:Option Addr) (cap cap2:Nat) (xs ys:List Nat) (hA:G9 W p xs) (hB:G9 W q ys) (hn:xs.length<4611686018427387904) (hm:ys.length<4611686018427387904):
  Aj Tryz.prog 34 #[.slice p xs.length cap, .slice q ys.length cap2] W (fun _:Unit=> .bool (decide (xs=ys))) (fun _=>True) (fun _=>[]):=by
 refine Ad (args:=[.slice p xs.length cap, .slice q ys.length cap2]) Tryz.func34 rfl rfl rfl ?_
 refine zA (zB (wP rfl (Aa (zE (zA (zA (zB ?_)))))))
 iterate 5 refine wP rfl ?_
 by_cases hl:xs.length=ys.length
 ·refine Ab 10 (.bool false) rfl (congrArg Value.bool (by rw[hl];simp)) ?_
  refine Aa (zE (zS rfl (zI (zE (zA (zA (zB (wP rfl (wP rfl (wP rfl (Aa (AC ?_))))))))))))
  refine AK (X:=Unit) (fun _=>[(4, .bool false)]) (fun _=>[]) (fun _=>xs=ys) ?_ ?_
  ·refine BI ?_
   refine Av (X:=Nat) (fun i=>[(0, .slice p xs.length cap),(1, .slice q ys.length cap2),(4, .bool false),(12, .int .i64 (xs.length:Nat)),(13, .int .i64 (i:Nat))]) (fun _=>[]) (fun i=>i≤xs.length∧xs.take i=ys.take i) (fun i=>xs.length-i) 0 ⟨Nat.zero_le _,rfl⟩ ⟨rfl,rfl,rfl,rfl,rfl,trivial⟩ [] rfl ?_
   rintro i ⟨hi,he⟩
   refine zA (zB (wP rfl ?_))
   by_cases hlt:i<xs.length
   ·refine Ab 14 (.bool true) rfl (congrArg Value.bool (decide_eq_true (by omega))) ?_
    refine Aa (zE (zA (zR rfl (zI (zE (zA (zH (zA (zB ?_)))))))))
    obtain⟨pb,po,rfl,hr1⟩:=hA.row hlt
    obtain⟨qb,qo,rfl,hr2⟩:=hB.row (show i<ys.length by omega)
    refine wP rfl (wP rfl (Aa (zE (zA ?_))))
    refine zT Tryz.mixed (by kernel_rfl) ?_
    refine qP rfl (qP rfl ?_)
    refine qJ ?_
    refine Ap rfl rfl rfl rfl (fun W hp=>Ag.load 0 tH rfl ((fun W hp=>(hr1 i hlt).hp hp) W hp) rfl) ?_
    refine qP rfl (qP rfl ?_)
    refine qJ ?_
    refine Ap rfl rfl rfl rfl (fun W hp=>Ag.load 0 tH rfl ((fun W hp=>(hr2 i (by omega)).hp hp) W hp) rfl) ?_
    refine qP rfl ?_
    by_cases hx:xs[i]=ys[i]
    ·refine A6 24 (.bool false) rfl (congrArg Value.bool (by rw[hx];simp)) ?_
     refine AE (Aa (zE (zS rfl (zI (zN (zE (zB (wP rfl ?_))))))))
     refine Ab 25 (.int .i64 ((i+1:Nat):Int)) rfl (congrArg (Value.int .i64) (A5 (by omega))) ?_
     refine wP rfl (Aa ?_)
     exact As (i+1) ⟨hlt,by rw[List.take_add_one,List.take_add_one,he,List.getElem?_eq_getElem hlt,List.getElem?_eq_getElem (by omega),hx]⟩ (by show xs.length-(i+1)<xs.length-i;omega) ⟨rfl,rfl,rfl,rfl,rfl,trivial⟩ [] rfl
    ·refine A6 24 (.bool true) rfl (congrArg Value.bool (bne_iff_ne.2 (by omega))) ?_
     refine AE (Aa (zE (zR rfl (zA (zB (wP rfl (Aa (zE (zO (zQ (zP (zP (zQ ?_)))))))))))))
     refine zP ?_
     exact Af tH rfl (.tmp rfl) () (by rw[decide_eq_false fun e=>hx (by subst e;rfl)]) trivial fun W _=>Ae.nil _ _
   ·refine Ab 14 (.bool false) rfl (congrArg Value.bool (decide_eq_false (by omega))) ?_
    refine Aa (zE (zA (zS rfl (zJ (zK (zK (zL ?_)))))))
    exact At () (by rw[List.take_of_length_le (by omega),List.take_of_length_le (by omega)] at he;exact he) ⟨rfl,trivial⟩ [] rfl
  ·intro _ he
   have he:xs=ys:=he
   refine zA (zB (wP rfl (Aa (zE (zO ?_)))))
   exact Af tH rfl (.tmp rfl) () (by rw[decide_eq_true he]) trivial fun W _=>Ae.nil _ _
 ·refine Ab 10 (.bool true) rfl (congrArg Value.bool (by rw[bne_iff_ne];omega)) ?_
  refine Aa (zE (zR rfl (zA (zB (wP rfl (Aa (zE (zO (zP ?_)))))))))
  exact Af tH rfl (.tmp rfl) () (by rw[decide_eq_false fun e=>hl (by rw[e])]) trivial fun W _=>Ae.nil _ _
def sq1 (x y:Int):Sd:=⟨x,y,1,1,false,0,0⟩
def sqG:Sd:=⟨0,0,0,0,true,0,0⟩
def sqL (g:Bool):List Sd:=[if g then sqG else sq1 0 0,sq1 10 0,sq1 10 10,sq1 0 10]
theorem H7 (x y:Int) (W:World):Aj Tryz.prog 135 #[.int .i64 x, .int .i64 y] W (fun _:Unit=>(sq1 x y).val) (fun _=>True) (fun _=>[]):=by
 refine Ad (args:=[.int .i64 x, .int .i64 y]) Tryz.func135 rfl rfl rfl ?_
 refine zA (zB ?_)
 (refine Ao Tryz.hZ rfl rfl rfl rfl ?_;intro)
 refine Aa (zE (zA (zB (wP rfl (wP rfl ?_)))))
 refine AA Tryz.hZ tH rfl rfl rfl rfl rfl rfl rfl rfl ?_
 refine wS 0 rfl rfl rfl (Aa (zE (zO ?_)))
 exact Af tH rfl (.cell 0 rfl rfl rfl rfl rfl) () rfl trivial fun W _=>Ae.nil _ _
theorem E5 (g:Bool) (W:World):Aj Tryz.prog 60 #[.bool g] W (fun x:Nat×Nat=>B5 (some ⟨x.2,0,none⟩) 1 1) (fun _=>True)
  (fun x=>[⟨x.1,42,cellsOf (sqL g),true,none⟩,bxE x.2 32 (slv (some ⟨x.1,0,none⟩) 4 4)]):=by
 refine Ad (args:=[.bool g]) Tryz.func60 rfl rfl rfl ?_
 refine zA (zB ?_)
 (refine Ao Tryz.hZ rfl rfl rfl rfl ?_;intro)
 refine Aa (zE (zA (zB (wP rfl (Aa (zE (zA (zB (wP rfl ?_)))))))))
 refine Ac (capt:=[]) rfl rfl rfl rfl rfl rfl (by kernel_rfl) (fun W _=>H7 0 0 W) ?_
 refine wP rfl ?_
 refine Ac (capt:=[]) rfl rfl rfl rfl rfl rfl (by kernel_rfl) (fun W _=>H7 10 0 W) ?_
 refine wP rfl ?_
 refine Ac (capt:=[]) rfl rfl rfl rfl rfl rfl (by kernel_rfl) (fun W _=>H7 10 10 W) ?_
 refine wP rfl ?_
 refine Ac (capt:=[]) rfl rfl rfl rfl rfl rfl (by kernel_rfl) (fun W _=>H7 0 10 W) ?_
 refine A0 Tryz.hZ tH rfl rfl rfl rfl rfl rfl rfl rfl rfl rfl rfl fun bS=> ?_
 refine wP rfl (Aa (zE (zA (zA (zB (wP rfl (Aa ?_)))))))
 cases g with
 |false=>
  refine zE (zS rfl (zI (zE (zA (zB (wP rfl ?_))))))
  refine A0 Tryz.hZ tH rfl rfl rfl rfl rfl rfl rfl rfl rfl rfl rfl fun bR=> ?_
  refine AA Tryz.hZ tH rfl rfl rfl rfl rfl rfl rfl rfl ?_
  refine wS 0 rfl rfl rfl (Aa (zE (zO ?_)))
  exact Af tH rfl (.cell 0 rfl rfl rfl rfl rfl) (bS,bR) rfl trivial fun W hp=>Ae.of_hp (hp.pick (l:=[⟨bS,42,cellsOf (sqL false),true,none⟩,bxE bR 32 (slv (some ⟨bS,0,none⟩) 4 4)]) [1,2] (by decide) rfl)
 |true=>
  refine zE (zR rfl (zB (wP rfl ?_)))
  refine AA Tryz.hZ tH rfl rfl rfl rfl rfl rfl rfl rfl ?_
  refine wJ ?_
  refine wS 1 rfl rfl rfl (Aa (zE (zA (zB (wP rfl ?_)))))
  refine A0 Tryz.hZ tH rfl rfl rfl rfl rfl rfl rfl rfl rfl rfl rfl fun bR=> ?_
  refine AA Tryz.hZ tH rfl rfl rfl rfl rfl rfl rfl rfl ?_
  refine wS 0 rfl rfl rfl (Aa (zE (zO ?_)))
  exact Af tH rfl (.cell 0 rfl rfl rfl rfl rfl) (bS,bR) rfl trivial fun W hp=>Ae.of_hp (hp.pick (l:=[⟨bS,42,cellsOf (sqL true),true,none⟩,bxE bR 32 (slv (some ⟨bS,0,none⟩) 4 4)]) [1,2] (by decide) rfl)
theorem Oo {g:Bool} {bS bR:Nat} {W0 W:World} {bxs:List Bx} (hp:Hp W0 bxs W) (k i:Nat) (hk:nth bxs k=some ⟨bS,42,cellsOf (sqL g),true,none⟩) (hi:nth bxs i=some (bxE bR 32 (slv (some ⟨bS,0,none⟩) 4 4))):Bz W (some ⟨bR,0,none⟩) [sqL g]:=by
 refine .inr ⟨bR,0,rfl,⟨fun j l hl=> ?_⟩⟩
 have hj:j=0:=by have:=(List.getElem?_eq_some_iff.1 hl).1;simpa using this
 subst hj
 have hl:sqL g=l:=by simpa using hl
 subst hl
 have hrow:=Ag.of_bx hp k hk rfl
 exact⟨some ⟨bS,0,none⟩,4,Ag.of_bx hp i hi rfl, .inr ⟨bS,0,rfl,Fd.of_cells hrow.lt fun j u hj=>hrow.get j u hj⟩⟩
theorem Wt (g:Bool):chk [sqL g]=0:=by cases g<;>decide+kernel
theorem Xf:Bk [sqL false]=[q2 0 1,q2 5 1]:=by decide+kernel
theorem WZ:Bk [sqL true]=[q2 0 1,q2 5 1,q2 10 1]:=by decide+kernel
theorem WW:J4 (Az [sqL true]) (q2 5 1) true=[1,3]:=by decide+kernel
theorem Xa:prW (Az [sqL false]) (q2 5 1)=[(0,2),(1,3)]:=by decide+kernel
end
section
open Go Go.RowKit Go.Am
set_option maxRecDepth 10000
-- BOXES 1
theorem O5 (W:World) (p:Option Addr) (cap:Nat) (rs:List (List Sd)) (hn:rs.length<4611686018427387904) (hT:tot rs<1099511627776) (hR:Bz W p rs):
  Aj Tryz.prog 12 #[B5 p rs.length cap] W (fun _:Unit=> .int .i64 (chk rs)) (fun _=>True) (fun _=>[]):=
 (I9 W p cap rs hn hT hR).cast (by rw[RN])
theorem Ss (W:World) (p:Option Addr) (cap:Nat) (rs:List (List Sd)) (hn:rs.length<4611686018427387904) (hR:Bz W p rs) (hc:chk rs=0):
  Aj Tryz.prog 68 #[B5 p rs.length cap] W (fun V:Vec=> .tuple #[V.val rs.flatten.length, .int .i64 0]) (fun V=>V.OK 7 rs.flatten.length (cellsOf rs.flatten)) (fun V=>[V.bx 42 (cellsOf rs.flatten)]):=by
 obtain⟨hne,hT,_⟩:=Ea hc
 refine Ad (args:=[B5 p rs.length cap]) Tryz.func68 rfl rfl rfl ?_
 refine zA (zB ?_)
 (refine A8 rfl rfl rfl rfl ?_;intro)
 refine wP rfl (wP rfl (Aa ?_))
 rename_i b1
 refine zE (zA (zA (zB (wB 0 rfl rfl rfl ?_))))
 refine Ac rfl rfl rfl rfl rfl rfl (by kernel_rfl) (fun W hp=>(O5 W p cap rs hn (by omega) (hR.hp hp)).cast (by rw[hc])) ?_
 refine wP rfl (Aa (zE (zS rfl (zI (zE (zA (zB (wP rfl (Aa (zE (zA (zA (zB ?_)))))))))))))
 refine wP rfl (Aa (zE (zH ?_)))
 refine CM ?_
 refine Av (X:=Nat×Vec) (fun x=>[(1, .pointer (some ⟨b1,0,none⟩)),(4,x.2.val (tot (rs.take x.1))),(5, .int .i64 (x.1:Nat))]) (fun x=>[⟨b1,24,[slv p rs.length cap],true,none⟩,x.2.bx 42 (cellsOf (rs.take x.1).flatten)])
  (fun x=>x.1≤rs.length∧x.2.OK 7 (tot (rs.take x.1)) (cellsOf (rs.take x.1).flatten)) (fun x=>rs.length-x.1) (0,Vec.empty) ⟨Nat.zero_le _,Vec.OK.empty 7⟩ ⟨rfl,rfl,rfl,trivial⟩ [] rfl ?_
 rintro⟨k,V⟩ ⟨hk,hV⟩
 refine zA (zA (zB (wP rfl (wP rfl (wB 0 rfl rfl rfl (wP rfl (wP rfl (Aa (zE ?_)))))))))
 refine Ak rfl (fun h=> ?_) (fun h=> ?_)
 ·have hk:k<rs.length:=by simp at h;omega
  clear h
  obtain⟨b,off,rfl,hrow⟩:=hR.row hk
  obtain⟨q,cap2,hq1,hq2⟩:=hrow k hk
  refine zI (zE (zA (zH (zB (wP rfl (wP rfl (wB 0 rfl rfl rfl (wP rfl ?_))))))))
  refine wJ ?_
  refine Aw rfl rfl rfl rfl (fun W hp=>Ag.load 0 tH rfl ((fun W hp=>hq1.hp hp) W hp) rfl) ?_
  obtain⟨b2,off2,rfl,hRk⟩: ∃b off,q=some ⟨b,off,none⟩∧Fd W b off (rg rs k):=by
   rcases hq2 with h|h
   ·exact absurd h (hne _ (List.mem_of_getElem? (Bf hk)))
   ·exact h
  have h1:=Bm hk
  have h2:=Cn rs (k+1)
  refine EA (len:=tot (rs.take k)) 1 Tryz.vec32 rfl rfl rfl rfl rfl rfl rfl rfl rfl hV (DO (rg rs k)) (fun W hp j u hj=> ?_) (JT _) (by simp only[maxLen];omega) (by omega) ?_
  ·have hR':BT W (some ⟨b2,off2,none⟩) (rg rs k):=BT.hp (.inr ⟨b2,off2,rfl,hRk⟩) hp
   rcases hR' with h|⟨b3,off3,e,hR'⟩
   ·exact absurd h (hne _ (List.mem_of_getElem? (Bf hk)))
   ·cases e
    rw[Addr.add_none]
    exact hR'.cells j u hj
  intro V' hV' _
  have e3:cellsOf (rs.take k).flatten++cellsOf (rg rs k)=cellsOf (rs.take (k+1)).flatten:=by rw[J2 hk,GN]
  rw[e3, ←h1] at hV'
  rw[e3, ←h1]
  refine wP rfl (Aa (zN (zE (zB (wP rfl (wP rfl (wP rfl (Aa ?_))))))))
  exact As (k+1,V') ⟨hk,hV'⟩ (by show rs.length-(k+1)<rs.length-k;omega) ⟨rfl,rfl,congrArg (fun z=>some (Value.int .i64 z)) (AI (x:=(k:Int)+1) (by omega) (by omega)),trivial⟩ [] rfl
 ·have e:k=rs.length:=by simp at h;omega
  subst e
  rw[List.take_length] at hV
  rw[List.take_length]
  refine zJ (zK (zK (zL (zE (zA (zB (wP rfl (wP rfl (wP rfl (Aa (zE (zO ?_))))))))))))
  exact Ar tH rfl (.tmp rfl) (.tmp rfl) V (by rw[Fb]) (by rw[Fb];exact hV) fun W hp=>Ae.of_hp1 hp 1 rfl
end
section
open Go Go.RowKit Go.Am Go.Lib
set_option maxRecDepth 10000
-- BOXES 14
-- CODE2
theorem Ko (W:World) (p q:Option Addr) (cp cq:Nat) (L:List (Nat×Nat)) (hn:L.length<4611686018427387904) (hp0:Lr W p L) (hq0:Lr W q L):
  Aj Tryz.prog 61 #[.slice p L.length cp, .slice q L.length cq] W (fun _:Unit=> .bool true) (fun _=>True) (fun _=>[]):=by
 refine Ad (args:=[.slice p L.length cp, .slice q L.length cq]) Tryz.func61 rfl rfl rfl ?_
 refine zA (zB (wP rfl (Aa (zE (zA (zA (zB ?_)))))))
 iterate 5 refine wP rfl ?_
 refine Ab 11 (.bool false) rfl (congrArg Value.bool (by simp)) ?_
 refine Aa (zE (zS rfl (zI (zE (zA (zA (zB (wP rfl (Aa (zE (zH ?_)))))))))))
 refine Av (X:=Nat) (fun i=>[(0, .slice p L.length cp),(1, .slice q L.length cq),(5, .int .i64 (i:Nat))]) (fun _=>[]) (fun i=>i≤L.length) (fun i=>L.length-i) 0 (Nat.zero_le _) ⟨rfl,rfl,rfl,trivial⟩ [] rfl ?_
 intro i hi
 have hi:i≤L.length:=hi
 refine zA (zA (zB (wP rfl (wP rfl (wP rfl (wP rfl ?_))))))
 by_cases hlt:i<L.length
 ·refine Ab 15 (.bool true) rfl (congrArg Value.bool (decide_eq_true (by omega))) ?_
  refine Aa (zE (zR rfl (zI (zE (zA (zH (zA (zA ?_))))))))
  refine zT Tryz.mixed (by kernel_rfl) ?_
  obtain⟨g1,o1,rfl,h1⟩:=hp0.at_ hlt
  obtain⟨g2,o2,rfl,h2⟩:=hq0.at_ hlt
  obtain⟨c1,s1,r1⟩:=h1 i hlt
  obtain⟨c2,s2,r2⟩:=h2 i hlt
  obtain⟨⟨x,y⟩,hxy⟩: ∃xy,xy=L[i]:=⟨_,rfl⟩
  rw[←hxy] at r1 r2
  refine qP rfl (qP rfl ?_)
  refine qJ ?_
  refine Ap rfl rfl rfl rfl (fun W hp=>Ag.load 0 tH rfl ((fun W1 hp=>s1.hp hp) W hp) rfl) ?_
  refine qP rfl (qP rfl (qP rfl ?_))
  refine qJ ?_
  refine Ap rfl rfl rfl rfl (fun W hp=>Ag.load 0 tH rfl ((fun W1 hp=>s2.hp hp) W hp) rfl) ?_
  refine qP rfl (qP rfl (AE (Aa (zE (zS rfl (zI (zE (zA (zB (wP rfl (Aa (zE (zH ?_)))))))))))))
  refine Av (X:=Nat) (fun k=>[(0, .slice (some ⟨g1,o1,none⟩) L.length cp),(1, .slice (some ⟨g2,o2,none⟩) L.length cq),(5, .int .i64 (i:Nat)),(6, .int .i64 (k:Nat))]) (fun _=>[]) (fun k=>k≤2) (fun k=>2-k) 0 (by decide) ⟨rfl,rfl,rfl,rfl,trivial⟩ [] rfl ?_
  intro k hk
  have hk:k≤2:=hk
  refine zA (zA (zB (wP rfl (wP rfl (wP rfl ?_)))))
  refine wJ ?_
  refine Aw rfl rfl rfl rfl (fun W hp=>Ag.load 0 tH rfl ((fun W1 hp=>s1.hp hp) W hp) rfl) ?_
  refine wP rfl (wP rfl ?_)
  by_cases hk2:k<2
  ·refine Ab 35 (.bool true) rfl (congrArg Value.bool (decide_eq_true (by show(k:Int)<((2:Nat):Int);omega))) ?_
   refine Aa (zE (zR rfl (zI (zE (zA (zH (zA ?_)))))))
   refine zT Tryz.mixed (by kernel_rfl) ?_
   obtain⟨v,hv⟩: ∃v,v=if k=0 then x else y:=⟨_,rfl⟩
   have rr: ∀ {c:Nat},Ag W c 0 (prC (x,y))→Ag W c (0+k*1) [.int .i64 (v:Nat)]:=fun {c} h=>by
    have:k=0∨k=1:=by omega
    rcases this with rfl|rfl
    ·rw[if_pos rfl] at hv;subst hv
     exact⟨h.lt,fun m u hu=>by
      have hm:m=0:=by have:=(List.getElem?_eq_some_iff.1 hu).1;simpa using this
      subst hm
      exact h.get 0 u hu⟩
    ·rw[if_neg (by decide)] at hv;subst hv
     exact⟨h.lt,fun m u hu=>by
      have hm:m=0:=by have:=(List.getElem?_eq_some_iff.1 hu).1;simpa using this
      subst hm
      exact h.get 1 u hu⟩
   have q1:=rr r1
   have q2:=rr r2
   refine qP rfl (qP rfl ?_)
   refine qJ ?_
   refine Ap rfl rfl rfl rfl (fun W hp=>Ag.load 0 tH rfl ((fun W1 hp=>s1.hp hp) W hp) rfl) ?_
   refine qP rfl ?_
   refine qJ ?_
   refine Ap rfl rfl rfl rfl (fun W hp=>Ag.load 0 tH rfl ((fun W1 hp=>q1.hp hp) W hp) rfl) ?_
   refine qP rfl (qP rfl ?_)
   refine qJ ?_
   refine Ap rfl rfl rfl rfl (fun W hp=>Ag.load 0 tH rfl ((fun W1 hp=>s2.hp hp) W hp) rfl) ?_
   refine qP rfl ?_
   refine qJ ?_
   refine Ap rfl rfl rfl rfl (fun W hp=>Ag.load 0 tH rfl ((fun W1 hp=>q2.hp hp) W hp) rfl) ?_
   refine qP rfl ?_
   refine A6 52 (.bool false) rfl (congrArg Value.bool (by simp)) ?_
   refine AE (Aa (zE (zS rfl (zI (zN (zE (zB (wP rfl (wP rfl ?_)))))))))
   refine Ab 37 (.int .i64 ((k+1:Nat):Int)) rfl (congrArg (Value.int .i64) (A5 (by omega))) ?_
   refine wP rfl (Aa ?_)
   exact As (k+1) (by show k+1≤2;omega) (by show 2-(k+1)<2-k;omega) ⟨rfl,rfl,rfl,rfl,trivial⟩ [] rfl
  ·refine Ab 35 (.bool false) rfl (congrArg Value.bool (decide_eq_false (by show¬(k:Int)<((2:Nat):Int);omega))) ?_
   refine Aa (zE (zS rfl (zJ (zK (zK (zL (zN (zE (zB (wP rfl (wP rfl ?_)))))))))))
   refine Ab 17 (.int .i64 ((i+1:Nat):Int)) rfl (congrArg (Value.int .i64) (A5 (by omega))) ?_
   refine wP rfl (Aa ?_)
   exact As (i+1) hlt (by show L.length-(i+1)<L.length-i;omega) ⟨rfl,rfl,rfl,trivial⟩ [] rfl
 ·refine Ab 15 (.bool false) rfl (congrArg Value.bool (decide_eq_false (by omega))) ?_
  refine Aa (zE (zS rfl (zJ (zK (zK (zL (zE (zA (zB (wP rfl (Aa (zE (zO ?_)))))))))))))
  exact Af tH rfl (.tmp rfl) () rfl trivial fun W _=>Ae.nil _ _
theorem W6 (g:Bool):tot [sqL g]=4:=by cases g<;>rfl
theorem K2 {g:Bool} {bS bR:Nat} {W0 W:World} {bxs:List Bx} (hp:Hp W0 bxs W) (k i:Nat) (hk:nth bxs k=some ⟨bS,42,cellsOf (sqL g),true,none⟩) (hi:nth bxs i=some (bxE bR 32 (slv (some ⟨bS,0,none⟩) 4 4))) (hd:Ig W0) (hv:BJ W0) (ht:AV W0):DQ W (some ⟨bR,0,none⟩) [sqL g]:=
 ⟨by show 1<_;decide,Oo hp k i hk hi,Wt g,hd.hp hp,hv.hp hp,ht.hp hp⟩
theorem TX {g:Bool} {l:List Rat} (e:Bk [sqL g]=l) (W:World) (bR:Nat) (h:DQ W (some ⟨bR,0,none⟩) [sqL g]):
  Aj Tryz.prog 22 #[B5 (some ⟨bR,0,none⟩) 1 1] W (fun V:Vec=> .tuple #[V.val l.length, .int .i64 0]) (fun V=>V.OK 1 l.length (nS l)) (fun V=>[V.bx 37 (nS l)]):=by
 subst e
 exact KP W (some ⟨bR,0,none⟩) 1 [sqL g] h
theorem Wy (W:World) (bR:Nat) (h:DQ W (some ⟨bR,0,none⟩) [sqL true]):
  Aj Tryz.prog 32 #[B5 (some ⟨bR,0,none⟩) 1 1,str [53], .bool true] W (fun V:Vec=> .tuple #[V.val [1,3].length, .int .i64 0]) (fun V=>V.OK 1 [1,3].length (iC [1,3])) (fun V=>[V.bx 3 (iC [1,3])]):=by
 have h1:=O1 W (some ⟨bR,0,none⟩) 1 [sqL true] h (by rw[W6];decide) (q2 5 1) ⟨by decide,by decide⟩ true
 rw[ns5,WW] at h1
 exact h1
theorem W4 (W:World) (bR:Nat) (h:DQ W (some ⟨bR,0,none⟩) [sqL false]):
  Aj Tryz.prog 33 #[B5 (some ⟨bR,0,none⟩) 1 1,str [53]] W (fun x:Vec×KR=> .tuple #[x.1.val x.2.length, .int .i64 0]) (fun x=>x.2.map (·.2)=[(0,2),(1,3)]∧x.1.OK 1 x.2.length (D6 x.2)) (fun x=>[x.1.bx 58 (D6 x.2),prB x.2]):=by
 have h1:=NW W (some ⟨bR,0,none⟩) 1 [sqL false] h (q2 5 1) ⟨by decide,by decide⟩
 rw[ns5,Xa] at h1
 exact h1
theorem Lm {V:Vec} {l:List Rat} (hV:V.OK 1 l.length (nS l)): ∃p cap,V.val l.length=slv p (l.map Ai).length cap∧
  ∀ {W0 W:World} {bxs:List Bx},Hp W0 bxs W→ ∀k,nth bxs k=some (V.bx 37 (nS l))→Fz W p (l.map Ai):=by
 have e:(l.map Ai).map str=nS l:=by simp[nS]
 obtain⟨p,cap,junk⟩:=V
 cases p with
 |none=>
  have hl:=List.length_eq_zero_iff.1 (hV.nil rfl)
  subst hl
  exact⟨none,0,rfl,fun _ _ _=> .inl rfl⟩
 |some g=>
  refine⟨some ⟨g,0,none⟩,cap,by rw[List.length_map];rfl,fun {W0 W bxs} hp k hk=> .inr ⟨g,0,rfl, ?_⟩⟩
  rw[e]
  exact Dw hp k (A:=[]) (C:=junk) hk rfl rfl
theorem OF {W0 W:World} {bxs:List Bx} (hp:Hp W0 bxs W) (k:Nat) {b:Nat} {t:TypeId} {l:List (List UInt8)} (hk:nth bxs k=some ⟨b,t,l.map str,true,none⟩):Fz W (some ⟨b,0,none⟩) l:= .inr ⟨b,0,rfl,Ag.of_bx hp k hk rfl⟩
theorem UO {W0 W:World} {bxs:List Bx} (hp:Hp W0 bxs W) (k:Nat) {b:Nat} {t:TypeId} {l:List Nat} (hk:nth bxs k=some ⟨b,t,iC l,true,none⟩):G9 W (some ⟨b,0,none⟩) l:=Pj (junk:=[]) (by rw[List.append_nil];exact Ag.of_bx hp k hk rfl)
theorem e05:([q2 0 1,q2 5 1]:List Rat).map Ai=[[48],[53]]:=by rw[List.map_cons,List.map_cons,List.map_nil,ns0,ns5]
theorem Xn:([q2 0 1,q2 5 1,q2 10 1]:List Rat).map Ai=[[48],[53],[49,48]]:=by rw[List.map_cons,List.map_cons,List.map_cons,List.map_nil,ns0,ns5,XJ]
theorem Iz (W:World) (hd:Ig W) (hv:BJ W) (ht:AV W):Aj Tryz.prog 21 #[] W (fun _:Unit=> .bool true) (fun _=>True) (fun _=>[]):=by
 refine Ad (args:=[]) Tryz.func21 rfl rfl rfl ?_
 refine zA (zB (wP rfl (Aa (zE (zA (zB ?_))))))
 refine Au (X:=Nat×Nat) rfl rfl rfl rfl rfl rfl (by kernel_rfl) (fun W1 _=>E5 false W1) ?_
 rintro⟨s1,r1⟩ _
 refine Au (X:=Vec) rfl rfl rfl rfl rfl rfl (by kernel_rfl) (fun W1 hp=>TX Xf W1 r1 (K2 hp 0 1 rfl rfl hd hv ht)) ?_
 intro V1 hV1
 obtain⟨p1,c1,e1,m1⟩:=Lm hV1
 rw[e1]
 iterate 5 refine wP rfl ?_
 refine Aa (zE (zA (zB ?_)))
 refine Au (X:=Nat×Nat) rfl rfl rfl rfl rfl rfl (by kernel_rfl) (fun W1 _=>E5 true W1) ?_
 rintro⟨s2,r2⟩ _
 refine Au (X:=Vec) rfl rfl rfl rfl rfl rfl (by kernel_rfl) (fun W1 hp=>TX WZ W1 r2 (K2 hp 3 4 rfl rfl hd hv ht)) ?_
 intro V2 hV2
 obtain⟨p2,c2,e2,m2⟩:=Lm hV2
 rw[e2]
 iterate 5 refine wP rfl ?_
 refine Aa (zE (zA (zB ?_)))
 refine Au (X:=Nat×Nat) rfl rfl rfl rfl rfl rfl (by kernel_rfl) (fun W1 _=>E5 true W1) ?_
 rintro⟨s3,r3⟩ _
 refine Au (X:=Vec) rfl rfl rfl rfl rfl rfl (by kernel_rfl) (fun W1 hp=>Wy W1 r3 (K2 hp 6 7 rfl rfl hd hv ht)) ?_
 intro V3 hV3
 obtain⟨p3,c3,e3,m3⟩:=PA hV3
 rw[e3]
 iterate 5 refine wP rfl ?_
 refine Aa (zE (zA (zB ?_)))
 refine Au (X:=Nat×Nat) rfl rfl rfl rfl rfl rfl (by kernel_rfl) (fun W1 _=>E5 false W1) ?_
 rintro⟨s4,r4⟩ _
 refine Au (X:=Vec×KR) rfl rfl rfl rfl rfl rfl (by kernel_rfl) (fun W1 hp=>W4 W1 r4 (K2 hp 9 10 rfl rfl hd hv ht)) ?_
 rintro⟨V4,mk⟩ ⟨hmk,hV4⟩
 obtain⟨p4,c4,e4,m4⟩:=S7 hmk hV4
 dsimp only
 rw[e4]
 iterate 5 refine wP rfl ?_
 refine Aa (zE (zA (zB ?_)))
 iterate 6 refine wP rfl ?_
 refine Ab 34 (.bool true) rfl rfl ?_
 refine wP rfl (wP rfl ?_)
 refine A0 Tryz.hZ tH rfl rfl rfl rfl rfl rfl rfl rfl rfl rfl rfl fun bA=> ?_
 refine Ac rfl rfl rfl rfl rfl rfl (by kernel_rfl) (fun W1 hp=>(Jc W1 p1 (some ⟨bA,0,none⟩) c1 2 _ [[48],[53]] (m1 hp 2 rfl) (OF hp 13 rfl) (by decide) (by decide)).cast (v':= .bool true) (by rw[e05,decide_eq_true rfl])) ?_
 refine wP rfl (wP rfl (wP rfl ?_))
 refine A0 Tryz.hZ tH rfl rfl rfl rfl rfl rfl rfl rfl rfl rfl rfl fun bB=> ?_
 refine Ac rfl rfl rfl rfl rfl rfl (by kernel_rfl) (fun W1 hp=>(Jc W1 p2 (some ⟨bB,0,none⟩) c2 3 _ [[48],[53],[49,48]] (m2 hp 5 rfl) (OF hp 14 rfl) (by decide) (by decide)).cast (v':= .bool true) (by rw[Xn,decide_eq_true rfl])) ?_
 refine wP rfl (wP rfl (wP rfl ?_))
 refine A0 Tryz.hZ tH rfl rfl rfl rfl rfl rfl rfl rfl rfl rfl rfl fun bC=> ?_
 refine Ac rfl rfl rfl rfl rfl rfl (by kernel_rfl) (fun W1 hp=>(NL W1 p3 (some ⟨bC,0,none⟩) c3 2 [1,3] [1,3] (m3 hp 8 rfl) (UO hp 15 rfl) (by decide) (by decide)).cast (v':= .bool true) (by rw[decide_eq_true rfl])) ?_
 refine wP rfl (wP rfl (wP rfl ?_))
 refine A0 Tryz.hZ tH rfl rfl rfl rfl rfl rfl rfl rfl rfl rfl rfl fun bD=> ?_
 refine A0 Tryz.hZ tH rfl rfl rfl rfl rfl rfl rfl rfl rfl rfl rfl fun bE=> ?_
 refine A0 Tryz.hZ tH rfl rfl rfl rfl rfl rfl rfl rfl rfl rfl rfl fun bF=> ?_
 refine Ac rfl rfl rfl rfl rfl rfl (by kernel_rfl) (fun W1 hp=>Ko W1 p4 (some ⟨bF,0,none⟩) c4 2 [(0,2),(1,3)] (by decide) (m4 hp 11 12 rfl rfl) (.inr ⟨bF,0,rfl,fun i hi=> ?_⟩)) ?_
 ·have hF:=Ag.of_bx hp 18 rfl rfl
  have:i=0∨i=1:=by have:i<2:=hi;omega
  rcases this with rfl|rfl
  ·exact⟨bD,⟨hF.lt,fun m u hu=>by
    have hm:m=0:=by have:=(List.getElem?_eq_some_iff.1 hu).1;simpa using this
    subst hm
    exact hF.get 0 u hu⟩,Ag.of_bx hp 16 rfl rfl⟩
  ·exact⟨bE,⟨hF.lt,fun m u hu=>by
    have hm:m=0:=by have:=(List.getElem?_eq_some_iff.1 hu).1;simpa using this
    subst hm
    exact hF.get 1 u hu⟩,Ag.of_bx hp 17 rfl rfl⟩
 refine wP rfl (wP rfl (Aa (zE (zO ?_))))
 exact Af tH rfl (.tmp rfl) () rfl trivial fun W _=>Ae.nil _ _
theorem I8 (W:World) (p:Option Addr) (cap:Nat) (rs:List (List Sd)) (h:DQ W p rs):
  Aj Tryz.prog 26 #[B5 p rs.length cap] W (fun V:Vec=>V.val rs.flatten.length) (fun V=>V.OK 7 rs.flatten.length (cellsOf rs.flatten)) (fun V=>[V.bx 42 (cellsOf rs.flatten)]):=by
 refine Ad (args:=[B5 p rs.length cap]) Tryz.func26 rfl rfl rfl ?_
 refine zA (zB ?_)
 (refine A8 rfl rfl rfl rfl ?_;intro)
 refine wP rfl (Aa (zE (zA (zB (wB 0 rfl rfl rfl ?_)))))
 refine Au (X:=Vec) rfl rfl rfl rfl rfl rfl (by kernel_rfl) (fun W1 hp=>Ss W1 p cap rs (by have:=h.n;omega) (h.R.hp hp) h.c) ?_
 intro V hV
 iterate 5 refine wP rfl ?_
 refine Aa (zE (zA (zB (wP rfl (wP rfl (Aa (zE (zO ?_))))))))
 exact Af tH rfl (.tmp rfl) V rfl hV fun W1 hp=>Ae.of_hp (hp.pick (l:=[V.bx 42 (cellsOf rs.flatten)]) [1] (by decide) rfl)
def HI (rs:List (List Sd)):Bool:= !grt rs 12&&(decide (chk rs=0)&&decide (tot rs≤12))
theorem PV (W:World) (p:Option Addr) (cap:Nat) (rs:List (List Sd)) (hn:rs.length<1099511627776) (hT:tot rs<1099511627776) (hR:Bz W p rs) (hd:Ig W) (hv:BJ W) (ht:AV W):
  Aj Tryz.prog 20 #[B5 p rs.length cap] W (fun _:Unit=> .bool (HI rs)) (fun _=>True) (fun _=>[]):=by
 refine Ad (args:=[B5 p rs.length cap]) Tryz.func20 rfl rfl rfl ?_
 refine zA (zB ?_)
 (refine A8 rfl rfl rfl rfl ?_;intro)
 refine wP rfl (Aa (zE (zA (zB (wB 0 rfl rfl rfl ?_)))))
 refine Ac rfl rfl rfl rfl rfl rfl (by kernel_rfl) (fun W1 hp=>Qb W1 p cap rs 12 (by omega) (by omega) (hR.hp hp)) ?_
 by_cases hg:grt rs 12=true
 ·have e:HI rs=false:=by unfold HI;rw[hg];rfl
  refine Ab 4 (.bool true) rfl (congrArg Value.bool hg) ?_
  refine wP rfl (wP rfl ?_)
  iterate 3 refine Ah rfl rfl ?_
  refine wP rfl (wP rfl ?_)
  iterate 4 refine Ah rfl rfl ?_
  refine wP rfl (wP rfl (Aa (zE (zO ?_))))
  exact Af tH rfl (.tmp rfl) () (by rw[e]) trivial fun W _=>Ae.nil _ _
 have hg:grt rs 12=false:=by simpa using hg
 refine Ab 4 (.bool false) rfl (congrArg Value.bool hg) ?_
 refine wP rfl (wP rfl (wB 0 rfl rfl rfl ?_))
 refine Ac rfl rfl rfl rfl rfl rfl (by kernel_rfl) (fun W1 hp=>(I9 W1 p cap rs (by omega) (by omega) (hR.hp hp)).cast (by rw[RN])) ?_
 refine wP rfl ?_
 by_cases hc:chk rs=0
 rotate_left
 ·have e:HI rs=false:=by unfold HI;rw[decide_eq_false hc,Bool.false_and,Bool.and_false]
  refine Ab 9 (.bool false) rfl (congrArg Value.bool (beq_eq_false_iff_ne.2 hc)) ?_
  refine wP rfl (wP rfl ?_)
  iterate 4 refine Ah rfl rfl ?_
  refine wP rfl (wP rfl (Aa (zE (zO ?_))))
  exact Af tH rfl (.tmp rfl) () (by rw[e]) trivial fun W _=>Ae.nil _ _
 refine Ab 9 (.bool true) rfl (congrArg Value.bool (beq_iff_eq.2 hc)) ?_
 have e:HI rs=decide (tot rs≤12):=by unfold HI;rw[hg,decide_eq_true hc];rfl
 have eS:rs.flatten.length=tot rs:=List.length_flatten
 refine wP rfl (wP rfl (wB 0 rfl rfl rfl ?_))
 refine Au (X:=Vec) rfl rfl rfl rfl rfl rfl (by kernel_rfl) (fun W1 hp=>I8 W1 p cap rs ⟨hn,hR.hp hp,hc,hd.hp hp,hv.hp hp,ht.hp hp⟩) ?_
 intro V hV
 have hT0:=(Ea hc).2.2
 obtain⟨gS,cS,hSv,_⟩:=Vec.sds hV (by omega)
 rw[hSv,eS]
 refine wP rfl (wP rfl ?_)
 refine Ab 15 (.bool (decide (tot rs≤12))) rfl (congrArg Value.bool (decide_eq_decide.2 (by omega))) ?_
 refine wP rfl (wP rfl (Aa (zE (zO ?_))))
 exact Af tH rfl (.tmp rfl) () (by rw[e]) trivial fun W _=>Ae.nil _ _
theorem WY {W:World} {p:Option Addr} {rs:List (List Sd)} (hf:HI rs=true) (hn:rs.length<1099511627776) (hR:Bz W p rs) (hd:Ig W) (hv:BJ W) (ht:AV W):DQ W p rs∧tot rs≤12:=by
 unfold HI at hf
 simp only[Bool.and_eq_true,decide_eq_true_eq] at hf
 exact⟨⟨hn,hR,hf.2.1,hd,hv,ht⟩,hf.2.2⟩
end
end Go.Proofs.YtlagebbefnnnnaaGreatDoor
