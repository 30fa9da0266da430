/-
  Lemmas that the theorem levelStarts_upto_card needs (part 3 of 8).
-/
import Derived.Test.YtlagebbefnnnnaaGreatDoorSsb
import Derived.Sort.Grow
set_option maxHeartbeats 64000000
namespace Go.Proofs.YtlagebbefnnnnaaGreatDoor
section
open Go Go.RowKit Go.Am Go.Lib
set_option maxRecDepth 10000
-- BOXES 3
def BJ (W:World):Prop:= ∃m,W.cell? ⟨6,0,none⟩=some (.int .i64 m)
theorem PR {W0 W:World} {b:Nat} {v:Value} (h:W0.cell? ⟨b,0,none⟩=some v) (hb:Below W0.heap.size W0 W):W.cell? ⟨b,0,none⟩=some v:=by
 have hlt:b<W0.heap.size:=by
  obtain⟨c,e,fr,h1,_⟩:=Sort.cells_of_cell? h
  exact(Array.getElem?_eq_some_iff.1 h1).1
 have e:=hb.block b hlt
 unfold World.cell? at h⊢
 simp only at h⊢
 rw[e]
 exact h
theorem BJ.below {W0 W:World} (h:BJ W0) (hb:Below W0.heap.size W0 W):BJ W:=by
 obtain⟨m,h1⟩:=h
 exact⟨m,PR h1 hb⟩
theorem BJ.hp {W0 W:World} {bxs:List Bx} (h:BJ W0) (hp:Hp W0 bxs W):BJ W:=h.below hp.below
theorem Qk (W:World) (l:List UInt8) (hl:l.length≤4000000000) (hv:BJ W):
  Aj Tryz.prog 284 #[str l,str [47]] W (fun _:Unit=> .tuple #[str (cut l [47]).1,str (cut l [47]).2.1, .bool (cut l [47]).2.2]) (fun _=>True) (fun _=>[]):=by
 obtain⟨m,hm⟩:=hv
 have hsz:(⟨l.toArray⟩:ByteArray).size=l.length:=by show l.toArray.size=_;simp
 refine Aj.of1 ((Tryz.strings_Cut ⟨l.toArray⟩ ⟨#[47]⟩ m W (by rw[hsz];omega) hm).mono ?_)
 rintro e W' ⟨rfl,n,rfl⟩
 refine⟨rfl, ?_⟩
 have:=KV W n #[]
 rwa [Sort.grow_empty] at this
def okB (s:List UInt8):Prop:=ldn s=s.length∧s≠[]∧(1<s.length→s[0]? ≠some 48)
instance (s:List UInt8):Decidable (okB s):=by unfold okB;infer_instance
theorem Tw (s:List UInt8):(dgN s=0∨dgN s<s.length)↔ ¬okB s:=by
 have hle:=In s
 unfold dgN okB
 by_cases h:1<ldn s∧s[0]? =some 48
 ·rw[if_pos h]
  exact⟨fun _ hk=>hk.2.2 (by omega) h.2,fun _=> .inl rfl⟩
 ·rw[if_neg h]
  constructor
  ·rintro(h1|h1) ⟨h2,h3,_⟩
   ·exact h3 (List.length_eq_zero_iff.1 (by omega))
   ·omega
  ·intro hk
   by_cases h1:ldn s=0
   ·exact .inl h1
   ·by_cases h2:ldn s<s.length
    ·exact .inr h2
    ·exact absurd ⟨by omega,fun e=>h1 (by rw[e];rfl),fun h3 h4=>h ⟨by omega,h4⟩⟩ hk
theorem SO {x:List UInt8}:FE x=none↔ ¬(okB (trimPrefix x [45])∧ ¬(hasPrefix x [45]=true∧trimPrefix x [45]=[48])):=by
 unfold FE okB
 constructor
 ·intro h hc
  rw[if_pos ⟨hc.1.1,hc.1.2.1,hc.1.2.2,hc.2⟩] at h
  cases h
 ·intro h
  exact if_neg fun hc=>h ⟨⟨hc.1,hc.2.1,hc.2.2.1⟩,hc.2.2.2⟩
abbrev ID (a b:List UInt8):Value:= .agg #[str a,str b]
def KN (a:List UInt8):Value:=match frm a with
 |none=> .tuple #[ID [] [], .bool false]
 |some (z,d)=> .tuple #[ID (itoa z) (decDigits d), .bool true]
theorem XM {a:List UInt8} (h:FE (cut a [47]).1=none):KN a= .tuple #[ID [] [], .bool false]:=by
 have e:frm a=none:=by unfold frm;rw[h]
 rw[KN,e]
theorem XE {a:List UInt8} (h:FE (cut a [47]).1≠none) (hf:(cut a [47]).2.2=false):KN a= .tuple #[ID (cut a [47]).1 [49], .bool true]:=by
 cases hi:FE (cut a [47]).1 with
 |none=>exact absurd hi h
 |some z=>
  have e:frm a=some (z,1):=by unfold frm;rw[hi];exact if_pos hf
  rw[KN,e,FI.1 hi]
  show Value.tuple #[ID (itoa z) (decDigits 1), .bool true]=_
  rw[FD]
theorem XB {a:List UInt8} (h:FE (cut a [47]).1≠none) (hf: ¬(cut a [47]).2.2=false) (hk:okB (cut a [47]).2.1∧(cut a [47]).2.1≠[48]∧(cut a [47]).2.1≠[49]):KN a= .tuple #[ID (cut a [47]).1 (cut a [47]).2.1, .bool true]:=by
 cases hi:FE (cut a [47]).1 with
 |none=>exact absurd hi h
 |some z=>
  have e:frm a=some (z,AO (cut a [47]).2.1):=by unfold frm;rw[hi];exact(if_neg hf).trans (if_pos ⟨hk.1.1,hk.1.2.1,hk.1.2.2,hk.2.1,hk.2.2⟩)
  rw[KN,e]
  show Value.tuple #[ID (itoa z) (decDigits (AO _)), .bool true]=_
  rw[Fp _ rfl (IL hk.1), ←FI.1 hi]
theorem XA {a:List UInt8} (h:FE (cut a [47]).1≠none) (hf: ¬(cut a [47]).2.2=false) (hk: ¬(okB (cut a [47]).2.1∧(cut a [47]).2.1≠[48]∧(cut a [47]).2.1≠[49])):KN a= .tuple #[ID [] [], .bool false]:=by
 cases hi:FE (cut a [47]).1 with
 |none=>exact absurd hi h
 |some z=>
  have e:frm a=none:=by unfold frm;rw[hi];exact(if_neg hf).trans (if_neg fun hc=>hk ⟨⟨hc.1,hc.2.1,hc.2.2.1⟩,hc.2.2.2⟩)
  rw[KN,e]
theorem RH (a:List UInt8):(cut a [47]).1.length≤a.length∧(cut a [47]).2.1.length≤a.length:=by
 rcases FP 47 a with h|⟨x,y,rfl,hx⟩
 ·rw[Es h];exact⟨Nat.le_refl _,Nat.zero_le _⟩
 ·rw[F7 y hx,List.length_append,List.length_cons]
  constructor<;>simp<;>omega
theorem AR (a b:List UInt8):((⟨a.toArray⟩:ByteArray).toList==(⟨b.toArray⟩:ByteArray).toList)=decide (a=b):=by
 by_cases h:a=b
 ·subst h;simp
 ·rw[decide_eq_false h,beq_eq_false_iff_ne]
  intro e;exact h (by simpa using e)
theorem Li (a:List UInt8) (hl:a.length≤4000000000) (W:World) (hv:BJ W):
  Aj Tryz.prog 237 #[str a] W (fun _:Unit=>KN a) (fun _=>True) (fun _=>[]):=by
 obtain⟨hx1,hy1⟩:=RH a
 refine Ad (args:=[str a]) Tryz.func237 rfl rfl rfl ?_
 refine zA (zB ?_)
 (refine Ao Tryz.hZ rfl rfl rfl rfl ?_;intro)
 refine wP rfl (Aa ?_)
 rename_i b2
 refine zE (zA (zB (wP rfl ?_)))
 refine Ac rfl rfl rfl rfl rfl rfl (by kernel_rfl) (fun W hp=>Qk W a hl (hv.hp hp)) ?_
 iterate 7 refine wP rfl ?_
 refine Aa ?_
 have hA:= @XM a
 have hB:= @XE a
 have hC:= @XB a
 have hD:= @XA a
 obtain⟨x,hx⟩: ∃x,(cut a [47]).1=x:=⟨_,rfl⟩
 obtain⟨y,hy⟩: ∃y,(cut a [47]).2.1=y:=⟨_,rfl⟩
 obtain⟨f,hf⟩: ∃f,(cut a [47]).2.2=f:=⟨_,rfl⟩
 rw[hx] at hx1
 rw[hy] at hy1
 simp only[hx,hy,hf] at hA hB hC hD⊢
 obtain⟨o,ho⟩: ∃o,trimPrefix x [45]=o:=⟨_,rfl⟩
 obtain⟨p,hp⟩: ∃p,hasPrefix x [45]=p:=⟨_,rfl⟩
 have hol:o.length≤x.length:=by rw[←ho,AS];split;rw[List.length_drop];omega;exact Nat.le_refl _
 have hN:= @SO x
 rw[ho,hp] at hN
 refine zE (zA (zB (wP rfl ?_)))
 refine Ac rfl rfl rfl rfl rfl rfl (by kernel_rfl) (fun W _=>(Do x [45] W).cast (by rw[ho,hp])) ?_
 iterate 5 refine wP rfl ?_
 refine Aa (zE (zA (zA (zB (wP rfl ?_)))))
 refine Ac rfl rfl rfl rfl rfl rfl (by kernel_rfl) (fun W _=>HM o (by omega) W) ?_
 refine wP rfl (Aa ?_)
 have hdg:=Tw o
 have hdl:dgN o≤o.length:=by unfold dgN;split;exact Nat.zero_le _;exact In o
 obtain⟨n,hn⟩: ∃n,dgN o=n:=⟨_,rfl⟩
 rw[hn] at hdg hdl
 rw[hn]
 refine AC (A7 ?_)
 refine AK (X:=Bool) (fun c=>[(2,Ax b2),(4,str x),(5,str y),(6, .bool f),(38, .bool c)]) (fun _=>[⟨b2,201,[str [],str []],true,none⟩]) (fun c=>(c=true↔FE x=none)) ?_ ?_
 ·refine zB (wP rfl ?_)
  by_cases h0:n=0
  ·refine Ab 24 (.int .i64 0) rfl (by rw[h0];rfl) ?_
   refine wP rfl (wP rfl ?_)
   iterate 4 refine Ah rfl rfl ?_
   refine wP rfl (wP rfl ?_)
   iterate 5 refine Ah rfl rfl ?_
   refine wP rfl (Aa ?_)
   exact At true ⟨fun _=>hN.2 fun h=>hdg.1 (.inl h0) h.1,fun _=>rfl⟩ ⟨rfl,rfl,rfl,rfl,rfl,trivial⟩ [] rfl
  ·refine wP rfl ?_
   refine Ab 25 (.bool false) rfl (congrArg Value.bool (by rw[beq_eq_false_iff_ne];omega)) ?_
   refine wP rfl (wP rfl (wP rfl (wP rfl ?_)))
   refine Ab 29 (.int .i64 (o.length:Nat)) rfl (congrArg (fun n:Nat=>Value.int .i64 (n:Int)) (AF o)) ?_
   refine wP rfl ?_
   by_cases h1:n<o.length
   ·refine Ab 30 (.bool true) rfl (congrArg Value.bool (decide_eq_true (by omega))) ?_
    refine wP rfl (wP rfl ?_)
    iterate 5 refine Ah rfl rfl ?_
    refine wP rfl (Aa ?_)
    exact At true ⟨fun _=>hN.2 fun h=>hdg.1 (.inr h1) h.1,fun _=>rfl⟩ ⟨rfl,rfl,rfl,rfl,rfl,trivial⟩ [] rfl
   ·have hok:okB o:=Decidable.byContradiction fun h=>(hdg.2 h).elim h0 h1
    refine Ab 30 (.bool false) rfl (congrArg Value.bool (decide_eq_false (by omega))) ?_
    refine wP rfl (wP rfl (wP rfl (wP rfl ?_)))
    cases p with
    |false=>
     iterate 2 refine Ah rfl rfl ?_
     refine wP rfl (wP rfl (Aa ?_))
     exact At false ⟨fun h=>(by cases h),fun h=>absurd h fun h=>hN.1 h ⟨hok,fun h=>(by cases h.1)⟩⟩ ⟨rfl,rfl,rfl,rfl,rfl,trivial⟩ [] rfl
    |true=>
     refine wP rfl (wP rfl ?_)
     refine Ab 36 (.bool (decide (o=[48]))) rfl (congrArg Value.bool (AR o [48])) ?_
     refine wP rfl (wP rfl (Aa ?_))
     exact At (decide (o=[48])) (by
      rw[decide_eq_true_iff,hN]
      exact⟨fun h h2=>h2.2 ⟨rfl,h⟩,fun h=>Decidable.byContradiction fun h2=>h ⟨hok,fun h3=>h2 h3.2⟩⟩) ⟨rfl,rfl,rfl,rfl,rfl,trivial⟩ [] rfl
 ·intro c hc
  refine Ak rfl (fun hcc=> ?_) (fun hcc=> ?_)
  ·refine zA (zB ?_)
   refine AA Tryz.hZ tH rfl rfl rfl rfl rfl rfl rfl rfl ?_
   refine wS 0 rfl rfl rfl (wP rfl (Aa (zE (zO (zP ?_)))))
   exact Ar tH rfl (.cell 0 rfl rfl rfl rfl rfl) (.tmp rfl) () (hA (hc.1 hcc)).symm trivial fun W _=>Ae.nil _ _
  ·have hi:FE x≠none:=fun h=>by rw[hc.2 h] at hcc;cases hcc
   have hB:=hB hi
   have hC:=hC hi
   have hD:=hD hi
   refine zI (zE (zA (zA (zB (wP rfl (wP rfl ?_))))))
   cases f with
   |false=>
    refine Aa (zE (zR rfl (zA (zB (wP rfl ?_)))))
    refine AA Tryz.hZ tH rfl rfl rfl rfl rfl rfl rfl rfl ?_
    refine wS 0 rfl rfl rfl (wP rfl (Aa (zE (zO (zP ?_)))))
    exact Ar tH rfl (.cell 0 rfl rfl rfl rfl rfl) (.tmp rfl) () (hB rfl).symm trivial fun W _=>Ae.nil _ _
   |true=>
    have hC:=hC (by decide)
    have hD:=hD (by decide)
    refine Aa (zE (zS rfl (zI (zE (zA (zA (zB (wP rfl ?_))))))))
    refine Ac rfl rfl rfl rfl rfl rfl (by kernel_rfl) (fun W _=>HM y (by omega) W) ?_
    refine wP rfl (Aa ?_)
    have hdg:=Tw y
    have hdl:dgN y≤y.length:=by unfold dgN;split;exact Nat.zero_le _;exact In y
    obtain⟨n,hn⟩: ∃n,dgN y=n:=⟨_,rfl⟩
    rw[hn] at hdg hdl
    rw[hn]
    refine AC (A7 ?_)
    refine AK (X:=Bool) (fun c=>[(2,Ax b2),(4,str x),(5,str y),(61, .bool c)]) (fun _=>[⟨b2,201,[str [],str []],true,none⟩]) (fun c=>(c=false↔(okB y∧y≠[48]∧y≠[49]))) ?_ ?_
    ·refine zB (wP rfl ?_)
     by_cases h0:n=0
     ·refine Ab 46 (.int .i64 0) rfl (by rw[h0];rfl) ?_
      refine wP rfl (wP rfl ?_)
      iterate 4 refine Ah rfl rfl ?_
      refine wP rfl (wP rfl ?_)
      iterate 2 refine Ah rfl rfl ?_
      refine wP rfl (wP rfl ?_)
      iterate 2 refine Ah rfl rfl ?_
      refine wP rfl (Aa ?_)
      exact At true ⟨fun h=>(by cases h),fun h=>absurd h.1 (hdg.1 (.inl h0))⟩ ⟨rfl,rfl,rfl,rfl,trivial⟩ [] rfl
     ·refine wP rfl ?_
      refine Ab 47 (.bool false) rfl (congrArg Value.bool (by rw[beq_eq_false_iff_ne];omega)) ?_
      refine wP rfl (wP rfl (wP rfl (wP rfl ?_)))
      refine Ab 51 (.int .i64 (y.length:Nat)) rfl (congrArg (fun n:Nat=>Value.int .i64 (n:Int)) (AF y)) ?_
      refine wP rfl ?_
      by_cases h1:n<y.length
      ·refine Ab 52 (.bool true) rfl (congrArg Value.bool (decide_eq_true (by omega))) ?_
       refine wP rfl (wP rfl ?_)
       iterate 2 refine Ah rfl rfl ?_
       refine wP rfl (wP rfl ?_)
       iterate 2 refine Ah rfl rfl ?_
       refine wP rfl (Aa ?_)
       exact At true ⟨fun h=>(by cases h),fun h=>absurd h.1 (hdg.1 (.inr h1))⟩ ⟨rfl,rfl,rfl,rfl,trivial⟩ [] rfl
      ·have hok:okB y:=Decidable.byContradiction fun h=>(hdg.2 h).elim h0 h1
       refine Ab 52 (.bool false) rfl (congrArg Value.bool (decide_eq_false (by omega))) ?_
       refine wP rfl (wP rfl (wP rfl (wP rfl ?_)))
       by_cases h2:y=[48]
       ·refine Ab 56 (.bool true) rfl (congrArg Value.bool ((AR y [48]).trans (decide_eq_true h2))) ?_
        refine wP rfl (wP rfl ?_)
        iterate 2 refine Ah rfl rfl ?_
        refine wP rfl (Aa ?_)
        exact At true ⟨fun h=>(by cases h),fun h=>absurd h2 h.2.1⟩ ⟨rfl,rfl,rfl,rfl,trivial⟩ [] rfl
       ·refine Ab 56 (.bool false) rfl (congrArg Value.bool ((AR y [48]).trans (decide_eq_false h2))) ?_
        refine wP rfl (wP rfl (wP rfl (wP rfl ?_)))
        refine Ab 60 (.bool (decide (y=[49]))) rfl (congrArg Value.bool (AR y [49])) ?_
        refine wP rfl (Aa ?_)
        exact At (decide (y=[49])) (by
         rw[decide_eq_false_iff_not]
         exact⟨fun h=>⟨hok,h2,h⟩,fun h=>h.2.2⟩) ⟨rfl,rfl,rfl,rfl,trivial⟩ [] rfl
    ·intro c hc
     refine Ak rfl (fun hcc=> ?_) (fun hcc=> ?_)
     ·refine zA (zB ?_)
      refine AA Tryz.hZ tH rfl rfl rfl rfl rfl rfl rfl rfl ?_
      refine wS 0 rfl rfl rfl (wP rfl (Aa (zE (zO (zP ?_)))))
      exact Ar tH rfl (.cell 0 rfl rfl rfl rfl rfl) (.tmp rfl) () (hD fun h=>by rw[hc.2 h] at hcc;cases hcc).symm trivial fun W _=>Ae.nil _ _
     ·refine zI (zE (zA (zB (wP rfl (wP rfl ?_)))))
      refine AA Tryz.hZ tH rfl rfl rfl rfl rfl rfl rfl rfl ?_
      refine wS 0 rfl rfl rfl (wP rfl (Aa (zE (zO ?_))))
      exact Ar tH rfl (.cell 0 rfl rfl rfl rfl rfl) (.tmp rfl) () (hC (hc.1 hcc)).symm trivial fun W _=>Ae.nil _ _
-- BOXES 3
theorem Ud (z:Int) {d:Nat} (hd:d≠0):(mkRat z d).num=z/((Nat.gcd z.natAbs d:Nat):Int)∧(mkRat z d).den=d/Nat.gcd z.natAbs d:=by
 rw[mkRat,dif_neg hd,Rat.normalize_eq]
 exact⟨rfl,rfl⟩
theorem Lg {z:Int} {d:Nat} (hd:d≠0) (h:d/Nat.gcd z.natAbs d=1):Ai (mkRat z d)=itoa (z/((Nat.gcd z.natAbs d:Nat):Int)):=by
 obtain⟨h1,h2⟩:=Ud z hd
 rw[Ai,FW,h2,h1,if_pos h]
theorem PF {z:Int} {d:Nat} (hd:d≠0) (h: ¬d/Nat.gcd z.natAbs d=1):Ai (mkRat z d)=itoa (z/((Nat.gcd z.natAbs d:Nat):Int))++[47]++itoa ((d/Nat.gcd z.natAbs d:Nat):Int):=by
 obtain⟨h1,h2⟩:=Ud z hd
 rw[Ai,FW,h2,h1,if_neg h,Ca];simp
theorem O7 (n:Int) (h0: -1000000000000000000<n) (h1:n<1000000000000000000):(itoa n).length≤20:=by
 have h:=F2 18 n.natAbs (by decide) (by
  have:(10:Nat)^18=1000000000000000000:=by decide
  omega)
 unfold itoa
 split
 ·rw[List.length_cons];omega
 ·rw[show n.toNat=n.natAbs by omega];omega
theorem Oj (z d:Int) (hd:d≠0) (hz:z.natAbs<1000000000000000000) (hd2:d.natAbs<1000000000000000000) (W:World) (ht:AV W):
  Aj Tryz.prog 177 #[FZ z d] W (fun _:Unit=>str (Ai (mkRat (if d<0 then -z else z) d.natAbs))) (fun _=>True) (fun _=>[]):=by
 refine Ad (args:=[FZ z d]) Tryz.func177 rfl rfl rfl ?_
 refine zA (zB ?_)
 (refine A8 rfl rfl rfl rfl ?_;intro)
 refine wP rfl (Aa ?_)
 rename_i b1
 refine zE (zA (zA (zB (wP rfl (wB 0 rfl rfl rfl (wP rfl (Aa (AC ?_))))))))
 refine AK (X:=Unit) (fun _=>[(1,Ax b1)]) (fun _=>[⟨b1,138,[.int .i64 (if d<0 then -z else z), .int .i64 ((d.natAbs:Nat):Int)],true,none⟩]) (fun _=>True) ?_ ?_
 ·refine Ak rfl (fun hc=> ?_) (fun hc=> ?_)
  ·have hc:=of_decide_eq_true hc
   refine zB (wP rfl (wB 0 rfl rfl rfl (wP rfl ?_)))
   refine Ab 11 (.int .i64 (-z)) rfl (congrArg (Value.int .i64) (by show w64 (0-z)=_;rw[An (by omega) (by omega)];omega)) ?_
   refine wP rfl (wB 0 rfl rfl rfl (wP rfl ?_))
   refine Ab 14 (.int .i64 ((d.natAbs:Nat):Int)) rfl (congrArg (Value.int .i64) (by show w64 (0-d)=_;rw[An (by omega) (by omega)];omega)) ?_
   refine wP rfl (wS 0 rfl rfl rfl (wP rfl (wS 0 rfl rfl rfl (Aa ?_))))
   rw[if_pos hc]
   exact At () trivial ⟨rfl,trivial⟩ [] rfl
  ·have hc:=of_decide_eq_false hc
   refine zI ?_
   rw[if_neg hc,show((d.natAbs:Nat):Int)=d by omega]
   exact At () trivial ⟨rfl,trivial⟩ [] rfl
 ·intro _ _
  obtain⟨x,hx⟩: ∃x,(if d<0 then -z else z)=x:=⟨_,rfl⟩
  obtain⟨e,he⟩: ∃e,d.natAbs=e:=⟨_,rfl⟩
  rw[hx,he]
  have he0:e≠0:=by omega
  have hxa:x.natAbs<1000000000000000000:=by rw[←hx];split<;>omega
  obtain⟨g,hg⟩: ∃g,Nat.gcd x.natAbs e=g:=⟨_,rfl⟩
  have hg0:0<g:=by rw[←hg];exact Nat.gcd_pos_of_pos_right _ (by omega)
  obtain⟨k,hk⟩: ∃k,x=(g:Int)*k:=Int.natAbs_dvd_natAbs.1 (by rw[Int.natAbs_natCast, ←hg];exact Nat.gcd_dvd_left ..)
  obtain⟨m,hm⟩: ∃m,e=g*m:=by rw[←hg];exact Nat.gcd_dvd_right ..
  have hkx:k.natAbs≤x.natAbs:=by rw[hk,Int.natAbs_mul];exact Nat.le_mul_of_pos_left _ (by omega)
  have hme:m≤e:=by rw[hm];exact Nat.le_mul_of_pos_left _ hg0
  have hq1:x/(g:Int)=k:=by rw[hk];exact Int.mul_ediv_cancel_left _ (by omega)
  have hq2:e/g=m:=by rw[hm];exact Nat.mul_div_cancel_left _ hg0
  have ht1:x.tdiv (g:Int)=k:=by rw[hk];exact Int.mul_tdiv_cancel_left _ (by omega)
  have ht2:((e:Nat):Int).tdiv (g:Int)=(m:Nat):=by rw[hm,Int.natCast_mul];exact Int.mul_tdiv_cancel_left _ (by omega)
  refine A7 (zB (wP rfl (wB 0 rfl rfl rfl (wP rfl (wB 0 rfl rfl rfl (wP rfl ?_))))))
  refine Ab 21 (.int .i64 (-x)) rfl (congrArg (Value.int .i64) (by show w64 (0-x)=_;rw[An (by omega) (by omega)];omega)) ?_
  refine wP rfl ?_
  refine Ab 22 (.int .i64 ((x.natAbs:Nat):Int)) rfl (congrArg (Value.int .i64) (by show(if -x>x then -x else x)=_;split<;>omega)) ?_
  refine wP rfl (wB 0 rfl rfl rfl ?_)
  refine Ac rfl rfl rfl rfl rfl rfl (by kernel_rfl) (fun W _=>(Ma x.natAbs e (by omega) (by omega) W).cast (by rw[hg])) ?_
  refine wP rfl (Aa (zE (zA ?_)))
  refine zT Tryz.mixed (by kernel_rfl) ?_
  refine qP rfl (qB 0 rfl rfl rfl (qP rfl ?_))
  refine J7 rfl rfl rfl rfl rfl (by omega) ?_
  refine A6 29 (.int .i64 k) rfl (congrArg (Value.int .i64) (by rw[ht1];exact An (by omega) (by omega))) ?_
  refine qP rfl (qB 0 rfl rfl rfl (qP rfl ?_))
  refine J7 rfl rfl rfl rfl rfl (by omega) ?_
  refine A6 33 (.int .i64 ((m:Nat):Int)) rfl (congrArg (Value.int .i64) (by rw[ht2];exact An (by omega) (by omega))) ?_
  refine qP rfl (qP rfl (AE (Aa (zE (zA (zA (zB (wP rfl (wP rfl ?_)))))))))
  by_cases hm1:m=1
  ·refine Ab 35 (.bool true) rfl (congrArg Value.bool (by rw[hm1];rfl)) ?_
   refine Aa (zE (zR rfl (zA (zB (wP rfl ?_)))))
   refine Ac rfl rfl rfl rfl rfl rfl (by kernel_rfl) (fun W hp=>BA k (by omega) (by omega) W (ht.hp hp)) ?_
   refine wP rfl (Aa (zE (zO (zP ?_))))
   exact Af tH rfl (.tmp rfl) () (by rw[Lg he0 (by rw[hg,hq2,hm1]),hg,hq1]) trivial fun W _=>Ae.nil _ _
  ·refine Ab 35 (.bool false) rfl (congrArg Value.bool (by rw[beq_eq_false_iff_ne];omega)) ?_
   refine Aa (zE (zS rfl (zI (zE (zA (zB (wP rfl ?_)))))))
   refine Ac rfl rfl rfl rfl rfl rfl (by kernel_rfl) (fun W hp=>BA k (by omega) (by omega) W (ht.hp hp)) ?_
   refine Ef rfl rfl rfl rfl rfl (Nat.le_trans (O7 k (by omega) (by omega)) (by decide)) (by decide) ?_
   refine wP rfl ?_
   refine Ac rfl rfl rfl rfl rfl rfl (by kernel_rfl) (fun W hp=>BA (m:Nat) (by omega) (by omega) W (ht.hp hp)) ?_
   refine Ef rfl rfl rfl rfl rfl (by have:=O7 k (by omega) (by omega);rw[List.length_append];show _+1≤_;omega) (Nat.le_trans (O7 (m:Nat) (by omega) (by omega)) (by decide)) ?_
   refine wP rfl (Aa (zE (zO ?_)))
   exact Af tH rfl (.tmp rfl) () (by rw[PF he0 (by rw[hg,hq2];exact hm1),hg,hq1,hq2]) trivial fun W _=>Ae.nil _ _
structure BS where
 p:Value
 v:Value
 g:Option (Nat×Array Value×Nat×Nat)
def BS.zero:BS:=⟨.pointer none, .slice none 0 0,none⟩
def BS.b1 (x:BS) (b:Nat):Bx:=⟨b,309,[x.p,x.v],true,none⟩
def BS.b2 (x:BS):Bx:=match x.g with
 |none=>Du
 |some (g,cur,f1,f2)=>⟨g,0,[],true,some (.obj (.cells cur 5 (f1,f2)))⟩
structure BS.OK (x:BS) (b:Nat) (l:List UInt8):Prop where
 p:x.p= .pointer none∨x.p=Ax b
 row:(x.g=none∧x.v= .slice none 0 0∧l=[])∨ ∃g cap cur f1 f2,x.g=some (g,cur,f1,f2)∧x.v= .slice (some ⟨g,0,none⟩) l.length cap∧f2≤l.length∧l.length≤cap∧cap≤maxLen∧cur.size=cap∧cur.toList.take l.length=Lib.byteCells l∧g≠b
theorem BS.OK.zero (b:Nat):BS.zero.OK b []:=⟨.inl rfl, .inl ⟨rfl,rfl,rfl⟩⟩
theorem Uk {W0 W:World} {bxs:List Bx} {b:Nat} {x:BS} {l:List UInt8} (hp:Hp W0 bxs W) (i j:Nat) (hi:nth bxs i=some (x.b1 b)) (hj:nth bxs j=some x.b2) (hx:x.OK b l):Lib.IsBuilderF 309 5 W0.heap.size b (Lib.byteCells l) W:=by
 rw[AW] at hi hj
 have h1:=hp.at_ i _ hi rfl
 have hb1:W.heap[b]? =some (.cells #[x.p,x.v] 309 (0,0)):=h1.1
 have hat:Lib.BuilderAtF 309 5 W0.heap.size b x.p (Lib.byteCells l) W:=by
  refine⟨h1.2,x.v,hb1, ?_, ?_⟩
  ·rw[Lib.byteCells_length]
   refine⟨by rw[Lib.byteCells_length,Nat.mul_one], ?_⟩
   rcases hx.row with⟨_,hv,hl⟩|⟨g,cap,cur,f1,f2,hg,hv,h3,h4,h5,h6,h7,_⟩
   ·exact .inl ⟨hv,by rw[hl];rfl⟩
   ·obtain⟨p,v,gg⟩:=x
    simp only at hg hv
    subst hg
    have h2:=hp.at_ j _ hj rfl
    exact .inr ⟨g,cap,cur,(f1,f2),hv,h2.2,h2.1,by simpa using h3,h4,h5,by simpa using h6,by simpa using h7⟩
  ·rcases hx.row with⟨_,hv,_⟩|⟨g,cap,cur,f1,f2,hg,hv,_,_,_,_,_,h8⟩
   ·rw[hv];simp[Value.ownBlock]
   ·rw[hv];simpa[Value.ownBlock] using h8
 rcases hx.p with e|e
 ·rw[e] at hat;exact .inl hat
 ·rw[e] at hat;exact .inr hat
def Pk (B:Bx):Bool:=match B.raw with
 |none=> !B.on|| !(Nat.beq B.ty 5)
 |some (.obj (.cells ..))=> !B.on
 |some (.obj _)=>true
 |some (.grp l)=>l.all fun p=>match p.2 with| .cells .. =>false|_=>true
theorem SX {B:Bx} (h:Pk B=true) {q:Nat×Obj} (hq:q∈B.blk): ∀c fz,q.2≠ .cells c 5 fz:=by
 intro c fz e
 obtain⟨b,ty,cells,on,raw⟩:=B
 cases on with
 |false=>cases hq
 |true=>
  cases raw with
  |none=>
   obtain rfl:=List.mem_singleton.1 hq
   have e':(Obj.cells cells.toArray ty (0,0))= .cells c 5 fz:=e
   injection e' with _ e2 _
   subst e2
   exact absurd h (by simp[Pk])
  |some r=>
   cases r with
   |obj o=>
    obtain rfl:=List.mem_singleton.1 hq
    have e':o= .cells c 5 fz:=e
    subst e'
    exact absurd h (by simp[Pk])
   |grp l=>
    have hq':q∈l:=hq
    have:=List.all_eq_true.1 h q hq'
    rw[e] at this
    cases this
def GU (i j:Nat):Nat→List Bx→Bool
 |_,[]=>true
 |k,B::l=>(Nat.beq k i||Nat.beq k j||Pk B)&&GU i j (k+1) l
theorem KE {i j:Nat}: ∀ {l:List Bx} {k m:Nat} {B:Bx},GU i j k l=true→l[m]? =some B→k+m≠i→k+m≠j→Pk B=true
 |[],_,_,_,_,h,_,_=>by simp at h
 |C::l,k,0,B,h,hm,hi,hj=>by
  obtain rfl:C=B:=by simpa using hm
  simp only[GU,Bool.and_eq_true,Bool.or_eq_true] at h
  rcases h.1 with(h|h)|h
  ·exact absurd (Nat.eq_of_beq_eq_true h) (by simpa using hi)
  ·exact absurd (Nat.eq_of_beq_eq_true h) (by simpa using hj)
  ·exact h
 |C::l,k,m+1,B,h,hm,hi,hj=>by
  simp only[GU,Bool.and_eq_true] at h
  exact KE (k:=k+1) h.2 (by simpa using hm) (by omega) (by omega)
theorem K8 {W0 W W':World} {bxs:List Bx} {b:Nat} {x:BS} {l:List UInt8} {p:Value} (hp:Hp W0 bxs W) (i j:Nat) (hij:Nat.beq i j=false) (hi:nth bxs i=some (x.b1 b)) (hj:nth bxs j=some x.b2) (hr:GU i j 0 bxs=true) (hpp:p= .pointer none∨p=Ax b)
  (hat:Lib.BuilderAtF 309 5 W0.heap.size b p (Lib.byteCells l) W') (hb:Below W0.heap.size W W') (ho:Lib.OthersKept 5 (some b) W W'):
  ∃x':BS,x'.OK b l∧Below W0.heap.size W0 W'∧Ae W0 W' ((bxs.set i (x'.b1 b)).set j x'.b2):=by
 rw[AW] at hi hj
 have hij':i≠j:=fun e=>by rw[e,Nat.beq_refl] at hij;cases hij
 obtain⟨hB,v,hbk,hown,hne⟩:=hat
 rw[Lib.byteCells_length] at hown
 have hi2:i<bxs.length:=(List.getElem?_eq_some_iff.1 hi).1
 have hj2:j<bxs.length:=(List.getElem?_eq_some_iff.1 hj).1
 obtain⟨x',hx',hv1,h2⟩: ∃x':BS,x'.OK b l∧(x'.p=p∧x'.v=v)∧ ∀q∈x'.b2.blk,W'.heap[q.1]? =some q.2∧W0.heap.size≤q.1∧q.1≠b∧(∃c fz,q.2= .cells c 5 fz)∧(x'.b2.blk.map (·.1)).Nodup:=by
  rcases hown.2 with⟨rfl,hn⟩|⟨g,cap,cur,fz,rfl,hbg,hg,hf,hnc,hcm,hcs,htake⟩
  ·refine⟨⟨p, .slice none 0 0,none⟩,⟨hpp, .inl ⟨rfl,rfl,List.length_eq_zero_iff.1 hn⟩⟩,⟨rfl,rfl⟩,fun q hq=>by cases hq⟩
  ·have hgb:g≠b:=fun e=>hne (by rw[e];rfl)
   refine⟨⟨p, .slice (some ⟨g,0,none⟩) l.length cap,some (g,cur,fz.1,fz.2)⟩,⟨hpp, .inr ⟨g,cap,cur,fz.1,fz.2,rfl,rfl,by simpa using hf,hnc,hcm,by simpa using hcs,by simpa using htake,hgb⟩⟩,⟨rfl,rfl⟩,fun q hq=> ?_⟩
   obtain rfl:=List.mem_singleton.1 hq
   exact⟨hg,hbg,hgb,⟨cur,_,rfl⟩,List.nodup_cons.2 ⟨List.not_mem_nil,List.nodup_nil⟩⟩
 have hother: ∀(k:Nat) (C:Bx),k≠i→k≠j→bxs[k]? =some C→ ∀q∈C.blk,W'.heap[q.1]? =some q.2∧W0.heap.size≤q.1∧q.1≠b∧ ∀c fz,q.2≠ .cells c 5 fz:=fun k C h3 h4 hk q hq=>by
  have h5:=hp.own.cell k C hk q hq
  have h6:=SX (KE hr hk (by omega) (by omega)) hq
  have h7:q.1≠b:=fun e=>hp.own.apart k i C (x.b1 b) hk hi h3 q hq (b,_) (List.mem_cons_self ..) e
  exact⟨ho q.1 q.2 h5.1 (fun e=>h7 (Option.some.inj e)) h6,h5.2,h7,h6⟩
 have hget: ∀(k:Nat) (C:Bx),((bxs.set i (x'.b1 b)).set j x'.b2)[k]? =some C→(k=j∧C=x'.b2)∨(k=i∧k≠j∧C=x'.b1 b)∨(k≠i∧k≠j∧bxs[k]? =some C):=fun k C h=>by
  rcases D2 h with h|⟨h3,h⟩
  ·exact .inl h
  ·rcases D2 h with⟨h4,h5⟩|⟨h4,h⟩
   ·exact .inr (.inl ⟨h4,h3,h5⟩)
   ·exact .inr (.inr ⟨h4,h3,h⟩)
 have hb1: ∀q∈(x'.b1 b).blk,q=(b, .cells #[p,v] 309 (0,0)):=fun q hq=>by
  obtain rfl:=List.mem_singleton.1 hq
  show(b,Obj.cells #[x'.p,x'.v] _ _)=_
  rw[hv1.1,hv1.2];rfl
 refine⟨x',hx',hp.below.trans hb,fun k C hk q hq=> ?_,fun k C hk=> ?_,fun k m C E hk hm hne q hq q' hq'=> ?_⟩
 ·rcases hget k C hk with⟨rfl,rfl⟩|⟨rfl,_,rfl⟩|⟨h3,h4,hk⟩
  ·exact⟨(h2 q hq).1,(h2 q hq).2.1⟩
  ·rw[hb1 q hq];exact⟨hbk,hB⟩
  ·have:=hother k C h3 h4 hk q hq
   exact⟨this.1,this.2.1⟩
 ·rcases hget k C hk with⟨rfl,rfl⟩|⟨rfl,_,rfl⟩|⟨h3,h4,hk⟩
  ·cases hbl:x'.b2.blk with
   |nil=>exact List.nodup_nil
   |cons q r=>
    rw[←hbl]
    exact(h2 q (by rw[hbl];exact List.mem_cons_self ..)).2.2.2.2
  ·exact List.nodup_cons.2 ⟨List.not_mem_nil,List.nodup_nil⟩
  ·exact hp.own.nd k C hk
 ·have e2: ∀q∈x'.b2.blk, ∀(k:Nat) (C:Bx),k≠i→k≠j→bxs[k]? =some C→ ∀q'∈C.blk,q.1≠q'.1:=fun q hq k C h3 h4 hk q' hq' e=>by
   have ha:=h2 q hq
   have hb:=hother k C h3 h4 hk q' hq'
   obtain⟨c,fz,hc⟩:=ha.2.2.2.1
   have:some q.2=some q'.2:=by rw[←ha.1, ←hb.1,e]
   exact hb.2.2.2 c fz ((Option.some.inj this).symm.trans hc)
  rcases hget k C hk with⟨rfl,rfl⟩|⟨rfl,h5,rfl⟩|⟨h3,h4,hk'⟩<;>rcases hget m E hm with⟨rfl,rfl⟩|⟨rfl,h6,rfl⟩|⟨h7,h8,hm'⟩
  ·exact absurd rfl hne
  ·rw[hb1 q' hq'];exact(h2 q hq).2.2.1
  ·exact e2 q hq m E h7 h8 hm' q' hq'
  ·rw[hb1 q hq];exact fun e=>(h2 q' hq').2.2.1 e.symm
  ·exact absurd rfl hne
  ·rw[hb1 q hq];exact fun e=>(hother m E h7 h8 hm' q' hq').2.2.1 e.symm
  ·exact fun e=>e2 q' hq' k C h3 h4 hk' q hq e.symm
  ·rw[hb1 q' hq'];exact(hother k C h3 h4 hk' q hq).2.2.1
  ·exact hp.own.apart k m C E hk' hm' hne q hq q' hq'
section
variable {r:Option Nat} {n:Nat} {W0:World} {N:Nat} {D:List Deferred} {ops:List Oper} {Q:Exit→Act→World→Prop} {o:Oper} {rest:List Oper} {env:Env} {bxs:List Bx}
theorem O9 (i j:Nat) {x:BS} {b:Nat} {l:List UInt8} (s:List UInt8) {c:Call} {f:Operand} {d:Nat} (hij:Nat.beq i j=false) (hi:nth bxs i=some (x.b1 b)) (hj:nth bxs j=some x.b2) (hr:GU i j 0 bxs=true) (hx:x.OK b l) (hl:l.length+s.length≤1000000)
  (hg:AB ops N env o=some true) (hd:o.dst=some d) (ho:o.op= .call c) (hc:c.callee= .value f) (hf:evO N env f=some (.func (.func 290) #[] #[])) (ha:Cx (evO N env) c.args.toList=some [Ax b,str s])
  (h: ∀x':BS,x'.OK b (l++s)→WL r n Tryz.prog N D ops Q rest ((d, .tuple #[.int .i64 (s.length:Nat), .nilIface])::env) (Hp W0 ((bxs.set i (x'.b1 b)).set j x'.b2))):WL r n Tryz.prog N D ops Q (o::rest) env (Hp W0 bxs):=by
 refine KX (X:=BS) (val:=fun _=> .tuple #[.int .i64 (s.length:Nat), .nilIface]) (Φ:=fun x'=>x'.OK b (l++s)) (capt:=[]) (vs:=[Ax b,str s]) (fun x'=>(bxs.set i (x'.b1 b)).set j x'.b2) hg hd ho hc hf ha (by kernel_rfl) (fun W hp=> ?_) h
 refine(Tryz.Builder_WriteString_k W0.heap.size b (Lib.byteCells l) ⟨s.toArray⟩ W (Uk hp i j hi hj hx) (by rw[Lib.byteCells_length];show _+s.toArray.size≤_;rw[List.size_toArray];omega) hp.below.size).mono ?_
 rintro e W' ⟨rfl,hat,hb,hk⟩
 have e1:Lib.byteCells l++strCells ⟨s.toArray⟩=Lib.byteCells (l++s):=by simp[Lib.byteCells,strCells]
 rw[e1] at hat
 obtain⟨x',h1,h2,h3⟩:=K8 hp i j hij hi hj hr (.inr rfl) hat hb hk
 exact⟨x',congrArg (fun z:Nat=>Ending.returned (.tuple #[.int .i64 (z:Int), .nilIface])) (AF s),h1,h2,h3⟩
theorem Vu (i j:Nat) {x:BS} {b:Nat} {l:List UInt8} (ch:UInt8) {c:Call} {f:Operand} {d:Nat} (hij:Nat.beq i j=false) (hi:nth bxs i=some (x.b1 b)) (hj:nth bxs j=some x.b2) (hr:GU i j 0 bxs=true) (hx:x.OK b l) (hl:l.length+1≤1000000)
  (hg:AB ops N env o=some true) (hd:o.dst=some d) (ho:o.op= .call c) (hc:c.callee= .value f) (hf:evO N env f=some (.func (.func 289) #[] #[])) (ha:Cx (evO N env) c.args.toList=some [Ax b, .int .u8 (ch.toNat:Nat)])
  (h: ∀x':BS,x'.OK b (l++[ch])→WL r n Tryz.prog N D ops Q rest ((d, .nilIface)::env) (Hp W0 ((bxs.set i (x'.b1 b)).set j x'.b2))):WL r n Tryz.prog N D ops Q (o::rest) env (Hp W0 bxs):=by
 refine KX (X:=BS) (val:=fun _=> .nilIface) (Φ:=fun x'=>x'.OK b (l++[ch])) (capt:=[]) (vs:=[Ax b, .int .u8 (ch.toNat:Nat)]) (fun x'=>(bxs.set i (x'.b1 b)).set j x'.b2) hg hd ho hc hf ha (by kernel_rfl) (fun W hp=> ?_) h
 refine(Tryz.Builder_WriteByte_k W0.heap.size b (Lib.byteCells l) ch.toNat W (Uk hp i j hi hj hx) (by rw[Lib.byteCells_length];omega) hp.below.size).mono ?_
 rintro e W' ⟨rfl,hat,hb,hk⟩
 have e1:Lib.byteCells l++[.int .u8 (ch.toNat:Int)]=Lib.byteCells (l++[ch]):=by simp[Lib.byteCells]
 rw[e1] at hat
 obtain⟨x',h1,h2,h3⟩:=K8 hp i j hij hi hj hr (.inr rfl) hat hb hk
 exact⟨x',rfl,h1,h2,h3⟩
theorem Wf (i j:Nat) {x:BS} {b:Nat} {l:List UInt8} {c:Call} {f:Operand} {d:Nat} (hij:Nat.beq i j=false) (hi:nth bxs i=some (x.b1 b)) (hj:nth bxs j=some x.b2) (hr:GU i j 0 bxs=true) (hx:x.OK b l)
  (hg:AB ops N env o=some true) (hd:o.dst=some d) (ho:o.op= .call c) (hc:c.callee= .value f) (hf:evO N env f=some (.func (.func 292) #[] #[])) (ha:Cx (evO N env) c.args.toList=some [Ax b])
  (h: ∀x':BS,x'.OK b l→WL r n Tryz.prog N D ops Q rest ((d,str l)::env) (Hp W0 ((bxs.set i (x'.b1 b)).set j x'.b2))):WL r n Tryz.prog N D ops Q (o::rest) env (Hp W0 bxs):=by
 refine KX (X:=BS) (val:=fun _=>str l) (Φ:=fun x'=>x'.OK b l) (capt:=[]) (vs:=[Ax b]) (fun x'=>(bxs.set i (x'.b1 b)).set j x'.b2) hg hd ho hc hf ha (by kernel_rfl) (fun W hp=> ?_) h
 refine(Tryz.Builder_String_any_k W0.heap.size b l W (Uk hp i j hi hj hx) hp.below.size).mono ?_
 rintro e W' ⟨rfl,hat,hb,hk⟩
 rcases hat with hat|hat
 ·obtain⟨x',h1,h2,h3⟩:=K8 hp i j hij hi hj hr (.inl rfl) hat hb hk
  exact⟨x',rfl,h1,h2,h3⟩
 ·obtain⟨x',h1,h2,h3⟩:=K8 hp i j hij hi hj hr (.inr rfl) hat hb hk
  exact⟨x',rfl,h1,h2,h3⟩
end
-- BOXES 4
theorem DK (p:Option Addr) (n cap:Nat) (W:World):Aj Tryz.prog 274 #[slv p n cap] W (fun b:Nat=> .func (.func 306) #[] #[.pointer (some ⟨b,0,none⟩)]) (fun _=>True) (fun b=>[⟨b,58,[slv p n cap],true,none⟩]):=by
 refine Ad (args:=[slv p n cap]) Tryz.func274 rfl rfl rfl ?_
 refine zA (zB ?_)
 refine A8 rfl rfl rfl rfl ?_;intro b
 refine wP rfl (Aa (zE (zA (zB (wP rfl (wP rfl (Aa (zE (zO ?_)))))))))
 exact Af tH rfl (.tmp rfl) b rfl trivial fun W hp=>Ae.of_hp hp
structure TC (b:Nat) (p:Option Addr) (cap:Nat) (l:List Nat) (W:World):Prop where
 var:Ag W b 0 [slv p l.length cap]
 ints:A4 W p l
theorem F3 (b:Nat) (p:Option Addr) (cap:Nat) (l:List Nat) (hn:l.length<4611686018427387904):
  SU Tryz.prog 306 [.pointer (some ⟨b,0,none⟩)] l.length (fun k=>[.int .i64 ((l.length-1-k:Nat):Int), .int .i64 (lim l (l.length-1-k):Nat)]) (TC b p cap l):=by
 refine⟨fun y J Jx hNeed hdr hY W hJ=> ?_⟩
 refine DV (args:=[.func (.yield y) #[] #[], .pointer (some ⟨b,0,none⟩)]) (J0:=J 0) Tryz.func306 rfl rfl rfl hJ ?_
 refine zA (zB ?_)
 refine Aw rfl rfl rfl rfl (fun W hp=>Ag.load 0 tH rfl ((fun W hp=>(hNeed 0 W hp).var) W hp) rfl) ?_
 refine wP rfl (wP rfl ?_)
 refine Ab 6 (.int .i64 ((l.length:Int)-1-(0:Nat))) rfl (congrArg (Value.int .i64) (by show w64 ((l.length:Int)-1)=_;rw[An (by omega) (by omega)];omega)) ?_
 refine wP rfl (Aa (zE (zH ?_)))
 refine DG (X:=Nat) (fun k=>[(0, .func (.yield y) #[] #[]),(1, .pointer (some ⟨b,0,none⟩)),(3, .int .i64 ((l.length:Int)-1-(k:Nat)))]) J (fun k=>k≤l.length) (fun k=>l.length-k) 0 (Nat.zero_le _) ⟨rfl,rfl,rfl,trivial⟩ (fun W h=>h) ?_
 intro k hk
 refine zA (zA (zB (wP rfl (wP rfl (Aa (zE ?_))))))
 refine Ak rfl (fun hc=> ?_) (fun hc=> ?_)
 ·have hk':k<l.length:=by simp at hc;omega
  clear hc
  have hi:l.length-1-k<l.length:=by omega
  have e1:(l.length:Int)-1-(k:Nat)=((l.length-1-k:Nat):Int):=by omega
  obtain⟨b2,off,rfl,hrow⟩: ∃b2 off,p=some ⟨b2,off,none⟩∧ ∀W,J k W→Ag W b2 (off+(l.length-1-k)*1) [.int .i64 (lim l (l.length-1-k):Nat)]:=by
   obtain⟨b2,off,e,_⟩:=(hNeed 0 W hJ).ints.row hi
   refine⟨b2,off,e,fun W hW=> ?_⟩
   obtain⟨b3,off3,e',h⟩:=(hNeed k W hW).ints.row hi
   rw[e] at e'
   cases e'
   exact h _ hi
  refine zI (zE (zA (zH (zA (zB (wP rfl (wP rfl ?_)))))))
  refine Ab 12 (.int .i64 ((l.length-1-k:Nat):Int)) rfl (congrArg (Value.int .i64) e1) ?_
  refine Aw rfl rfl rfl rfl (fun W hp=>Ag.load 0 tH rfl ((fun W hp=>(hNeed k W hp).var) W hp) rfl) ?_
  refine wP rfl ?_
  refine Ab 14 (.int .i64 ((l.length-1-k:Nat):Int)) rfl (congrArg (Value.int .i64) e1) ?_
  refine wJ ?_
  refine Aw rfl rfl rfl rfl (fun W hp=>Ag.load 0 tH rfl ((fun W hp=>hrow W hp) W hp) rfl) ?_
  refine Dj (A1:=J (k+1)) (A2:=Jx) rfl rfl rfl rfl rfl rfl (fun W hp=>hY k W hk' hp) ?_ ?_
  ·refine wP rfl (Aa (zE (zS rfl (zI (zN (zE (zB (wP rfl (wP rfl (wP rfl (Aa ?_)))))))))))
   exact Dl (k+1) hk' (by omega) ⟨rfl,rfl,congrArg (fun z=>some (Value.int .i64 z)) (by show w64 ((l.length:Int)-1-(k:Nat)-1)=_;rw[An (by omega) (by omega)];omega),trivial⟩ (fun W h=>h)
  ·refine wP rfl (Aa (zE (zR rfl (zO (zQ (zP (zP (zQ ?_))))))))
   exact BZ rfl (fun W h=>h)
 ·have hk':k=l.length:=by simp at hc;omega
  subst hk'
  refine zJ (zK (zK (zL ?_)))
  exact Gw rfl fun W h=>h
def sg (mi:Bool) (m:Nat):Int:=if mi then -(m:Int) else m
def sgn (mi:Bool):List UInt8:=if mi then[45] else[]
theorem GT (m:Nat):itoa (m:Int)=decDigits m:=by
 unfold itoa
 rw[if_neg (by omega)];rfl
theorem Wd {mi:Bool} {m:Nat} (hm:m≠0):itoa (sg mi m)=sgn mi++decDigits m:=by
 cases mi with
 |false=>exact GT m
 |true=>
  unfold itoa sg
  rw[if_pos rfl,if_pos (by omega)]
  show 45::decDigits (-(m:Int)).natAbs=_
  rw[Int.natAbs_neg,Int.natAbs_natCast];rfl
theorem I3 (mi:Bool):sg mi 0=0:=by cases mi<;>rfl
theorem JV (c:UInt8): ∀n,repeatL [c] n=List.replicate n c
 |0=>rfl
 |n+1=>by
  have:=JV c n
  simp_all [repeatL,List.replicate_succ]
theorem Oa (n:Nat) (hn:n≤1000000):AX Tryz.prog 291 [str [48], .int .i64 (n:Nat)] (str (List.replicate n 48)):=by
 intro W
 refine Aj.of1 ((Tryz.strings_Repeat ⟨#[48]⟩ n W (by omega) (by show 1*n≤_;omega)).mono ?_)
 rintro e w' ⟨rfl,hb⟩
 refine⟨?_,hb⟩
 show Ending.returned (str (repeatL [48] n))=_
 rw[JV]
theorem KJ {m:Nat} (hm:m≠0):0<(lbs bs m).length:=by
 rcases Nat.eq_zero_or_pos (lbs bs m).length with h|h
 ·exact absurd ((Dr bs2).1 (List.length_eq_zero_iff.1 h)) hm
 ·exact h
def wrt (mi:Bool) (m K k:Nat):List UInt8:=if k=0 then sgn mi else sgn mi++decDigits (m/bs^(K-k))
theorem VU {mi:Bool} {m K:Nat} (hK:(lbs bs m).length=K) (hm:m≠0):wrt mi m K 0++decDigits (lim (lbs bs m) (K-1))=wrt mi m K 1:=by
 have h1:=AL bs2 m
 have h0:=KJ hm
 rw[hK] at h1 h0
 have h2:m/bs^(K-1)<bs:=Nat.div_lt_of_lt_mul (by rw[←Nat.pow_succ,show(K-1).succ=K by omega];exact h1)
 show sgn mi++_=sgn mi++_
 rw[Bd bs2,Nat.mod_eq_of_lt h2]
theorem Tx {mi:Bool} {m K k:Nat} (hK:(lbs bs m).length=K) (hm:m≠0) (h0:0<k) (hk:k<K):(wrt mi m K k++List.replicate (9-(decDigits (lim (lbs bs m) (K-1-k))).length) 48)++decDigits (lim (lbs bs m) (K-1-k))=wrt mi m K (k+1):=by
 have h1:=NC bs2 hm
 rw[hK] at h1
 unfold wrt
 rw[if_neg (by omega),if_neg (by omega),List.append_assoc,List.append_assoc]
 congr 1
 have hq:m/bs^(K-k)≠0:=by
  have h2:bs^(K-k)≤bs^(K-1):=Nat.pow_le_pow_right (by decide) (by omega)
  have h3:0<bs^(K-k):=Nat.pow_pos (by decide)
  have:=Nat.div_pos (Nat.le_trans h2 h1) h3
  omega
 have h9:bs=10^9:=by decide
 have hl:=Bb bs2 (Bh bs2 m) (K-1-k)
 have:=PL _ hq 9 (lim (lbs bs m) (K-1-k)) (by omega) (by rw[←h9];exact hl)
 unfold pad at this
 rw[←this, ←h9,Bd bs2]
 have h4:m/bs^(K-k)=m/bs^(K-1-k)/bs:=by
  rw[Nat.div_div_eq_div_mul, ←Nat.pow_succ,show(K-1-k).succ=K-k by omega]
 rw[h4,show K-(k+1)=K-1-k by omega]
 congr 1
 have:=Nat.mod_add_div (m/bs^(K-1-k)) bs
 omega
theorem Vw {mi:Bool} {m K k:Nat} (hK:(lbs bs m).length=K) (hK2:K≤10000):(wrt mi m K k).length≤100000:=by
 have hs:(sgn mi).length≤1:=by cases mi<;>decide
 unfold wrt
 split
 ·omega
 ·have h1:=AL bs2 m
  rw[hK] at h1
  have h9:bs^K=10^(9*K):=by rw[show bs=10^9 by decide, ←Nat.pow_mul]
  rw[h9] at h1
  have h2:m/bs^(K-k)<10^(9*K+1):=Nat.lt_of_le_of_lt (Nat.div_le_self ..) (Nat.lt_of_lt_of_le h1 (Nat.pow_le_pow_right (by decide) (by omega)))
  have:=F2 (9*K+1) _ (by omega) h2
  rw[List.length_append];omega
theorem Ql (W:World) (p:Option Addr) (cap:Nat) (mi:Bool) (m:Nat) (hA:A4 W p (lbs bs m)) (hK2:(lbs bs m).length≤10000) (ht:AV W):
  Aj Tryz.prog 241 #[.agg #[.bool mi,slv p (lbs bs m).length cap]] W (fun _:Unit=>str (itoa (sg mi m))) (fun _=>True) (fun _=>[]):=by
 obtain⟨K,hK⟩: ∃K,(lbs bs m).length=K:=⟨_,rfl⟩
 rw[hK] at hK2
 refine Ad (args:=[.agg #[.bool mi,slv p (lbs bs m).length cap]]) Tryz.func241 rfl rfl rfl ?_
 refine zA (zB ?_)
 (refine A8 rfl rfl rfl rfl ?_;intro)
 refine wP rfl (Aa ?_)
 rename_i b1
 refine zE (zA (zA (zB (wP rfl (wB 0 rfl rfl rfl (wP rfl (wP rfl (Aa (zE ?_)))))))))
 by_cases hm:m=0
 ·have h0:(lbs bs m).length=0:=by rw[hm,Bc];rfl
  refine AT 10 (.bool true) rfl (congrArg Value.bool (by rw[h0];rfl)) ?_
  refine zR rfl (zA (zB (wP rfl (Aa (zE (zO (zP ?_)))))))
  exact Af tH rfl (.tmp rfl) () (by rw[hm,I3,CT]) trivial fun W _=>Ae.nil _ _
 ·have h0:=KJ hm
  refine AT 10 (.bool false) rfl (congrArg Value.bool (by rw[beq_eq_false_iff_ne];omega)) ?_
  refine zS rfl (zI (zE (zA (zB ?_))))
  (refine Ao Tryz.hZ rfl rfl rfl rfl ?_;intro)
  refine Aa ?_
  rename_i b3
  refine zE (zA (zA (zB ?_)))
  refine Ed ?_
  refine wP rfl (wB 0 rfl rfl rfl (Aa (zE ?_)))
  refine AK (X:=BS) (fun _=>[(1,Ax b1),(3,Ax b3)]) (fun x=>[⟨b1,227,[.bool mi,slv p (lbs bs m).length cap],true,none⟩,x.b1 b3,x.b2]) (fun x=>x.OK b3 (sgn mi)) ?_ ?_
  ·refine Ak rfl (fun hc=> ?_) (fun hc=> ?_)
   ·refine zB ?_
    refine Vu (x:=BS.zero) (l:=[]) 1 2 45 rfl rfl rfl rfl (BS.OK.zero b3) (by decide) rfl rfl rfl rfl rfl rfl ?_
    intro x' hx'
    refine Aa ?_
    exact At x' (by rw[hc];exact hx') ⟨rfl,rfl,trivial⟩ [] rfl
   ·refine zI ?_
    exact At BS.zero (by rw[hc];exact BS.OK.zero b3) ⟨rfl,rfl,trivial⟩ [] rfl
  ·intro x0 hx0
   refine zA (zA (zB (wP rfl (wB 0 rfl rfl rfl ?_))))
   refine Au (X:=Nat) rfl rfl rfl rfl rfl rfl (by kernel_rfl) (fun W _=>DK p (lbs bs m).length cap W) ?_
   intro b16 _
   refine Aa (zE (zH ?_))
   refine DR (X:=BS) (fun x=>[⟨b1,227,[.bool mi,slv p (lbs bs m).length cap],true,none⟩,x.b1 b3,x.b2,⟨b16,58,[slv p (lbs bs m).length cap],true,none⟩])
    (fun k x=>x.OK b3 (wrt mi m K k)) (fun _ _=>False) x0 rfl (by kernel_rfl) (F3 b16 p cap (lbs bs m) (by omega)) (fun _=>rfl) hx0 [] rfl (fun k x W _ hp=>⟨Ag.of_bx hp 3 rfl rfl,hA.hp hp⟩) ?_ ?_ (fun _ _ _ _ _ h=>h.elim)
   ·rintro k x d Lo rec hk hx hrec
    rw[hK] at hk
    have hwl:=Vw (mi:=mi) (k:=k) hK hK2
    obtain⟨v,hv⟩: ∃v,lim (lbs bs m) (K-1-k)=v:=⟨_,rfl⟩
    have hvb:v<bs:=by rw[←hv];exact Bb bs2 (Bh bs2 m) _
    have hvb':v<1000000000:=hvb
    have hvl:(decDigits v).length≤9:=F2 9 v (by omega) hvb
    refine zA (zB (wP rfl (Aa (zE (zB (wP rfl (Aa ?_)))))))
    refine Ct 5 hrec rfl ?_
    refine AT 5 (.int .i64 (v:Nat)) rfl (by rw[hK,hv]) ?_
    refine AT 4 (.int .i64 ((K-1-k:Nat):Int)) rfl (by rw[hK]) ?_
    refine zH (zA (zB (wP rfl ?_)))
    refine Ac rfl rfl rfl rfl rfl rfl (by kernel_rfl) (fun W hp=>(BA (v:Nat) (by omega) (by omega) W (ht.hp hp)).cast (by rw[GT])) ?_
    refine wP rfl (Aa (zE (zA (zA (zB (wP rfl (wP rfl (wB 0 rfl rfl rfl (wP rfl ?_)))))))))
    refine Ab 24 (.int .i64 (K:Nat)) rfl (congrArg (fun n:Nat=>Value.int .i64 (n:Int)) hK) ?_
    refine wP rfl ?_
    refine Ab 25 (.int .i64 ((K-1:Nat):Int)) rfl (congrArg (Value.int .i64) (by show w64 ((K:Int)-1)=_;rw[An (by omega) (by omega)];omega)) ?_
    refine wP rfl (Aa (zE ?_))
    by_cases hk0:k=0
    ·subst hk0
     refine AT 26 (.bool false) rfl (congrArg Value.bool (by rw[decide_eq_false_iff_not];omega)) ?_
     refine zS rfl (zI (zE (zB (wP rfl ?_))))
     refine O9 (x:=x) (l:=wrt mi m K 0) 1 2 (decDigits v) rfl rfl rfl rfl hx (by omega) rfl rfl rfl rfl rfl rfl ?_
     intro x' hx'
     have e:=VU (mi:=mi) hK hm
     rw[show K-1-0=K-1 by omega] at hv
     rw[hv] at e
     rw[e] at hx'
     refine Aa (zN ?_)
     exact Bw 5 x' hrec rfl hx' [] rfl
    ·refine AT 26 (.bool true) rfl (congrArg Value.bool (by rw[decide_eq_true_iff];omega)) ?_
     refine zR rfl (zB (wP rfl (wP rfl ?_)))
     refine Ab 28 (.int .i64 ((decDigits v).length:Nat)) rfl (congrArg (Value.int .i64) (congrArg (fun n:Nat=>(n:Int)) (AF _))) ?_
     refine wP rfl ?_
     refine Ab 29 (.int .i64 ((9-(decDigits v).length:Nat):Int)) rfl (congrArg (Value.int .i64) (by show w64 (9-((decDigits v).length:Int))=_;rw[An (by omega) (by omega)];omega)) ?_
     refine Ac rfl rfl rfl rfl rfl rfl (by kernel_rfl) (fun W _=>Oa (9-(decDigits v).length) (by omega) W) ?_
     refine O9 (x:=x) (l:=wrt mi m K k) 1 2 (List.replicate (9-(decDigits v).length) 48) rfl rfl rfl rfl hx (by rw[List.length_replicate];omega) rfl rfl rfl rfl rfl rfl ?_
     intro x1 hx1
     refine Aa (zE (zB (wP rfl ?_)))
     refine O9 (x:=x1) (l:=wrt mi m K k++List.replicate (9-(decDigits v).length) 48) 1 2 (decDigits v) rfl rfl rfl rfl hx1 (by rw[List.length_append,List.length_replicate];omega) rfl rfl rfl rfl rfl rfl ?_
     intro x' hx'
     have e:=Tx (mi:=mi) hK hm (by omega) hk
     rw[hv] at e
     rw[e] at hx'
     refine Aa (zN ?_)
     exact Bw 5 x' hrec rfl hx' [] rfl
   ·rintro x d Lo rec hx
    rw[hK] at hx
    have e:wrt mi m K K=itoa (sg mi m):=by
     unfold wrt
     rw[if_neg (by omega),Nat.sub_self,Nat.pow_zero,Nat.div_one,Wd hm]
    rw[e] at hx
    refine zN (zE (zA (zB ?_)))
    refine Wf (x:=x) (l:=itoa (sg mi m)) 1 2 rfl rfl rfl rfl hx rfl rfl rfl rfl rfl rfl ?_
    intro x' hx'
    refine wP rfl (Aa (zE (zO ?_)))
    refine CS 4 rfl ?_
    exact Af tH rfl (.tmp rfl) () rfl trivial fun W _=>Ae.nil _ _
def mxd:Nat:=300
def Bp:Nat:=10^mxd
theorem GA {m:Nat}:(decDigits m).length≤300↔m<Bp:=by
 constructor
 ·intro h
  exact Nat.lt_of_lt_of_le (Hk m) (Nat.pow_le_pow_right (by decide) (show(decDigits m).length≤mxd from h))
 ·intro h
  exact(F2 mxd m (by decide) h:(decDigits m).length≤mxd)
theorem Rx (mi:Bool) (m:Nat):(sg mi m).natAbs=m:=by
 cases mi with
 |false=>rfl
 |true=>show(-(m:Int)).natAbs=m;rw[Int.natAbs_neg,Int.natAbs_natCast]
def KY (z:Int):Value:=if z.natAbs<Bp then .tuple #[str (itoa z), .int .i64 0] else .tuple #[str [], .int .i64 4]
theorem Cj (W:World) (p:Option Addr) (cap:Nat) (mi:Bool) (m:Nat) (hA:A4 W p (lbs bs m)) (hK2:(lbs bs m).length≤10000) (ht:AV W):
  Aj Tryz.prog 183 #[.agg #[.bool mi,slv p (lbs bs m).length cap]] W (fun _:Unit=>KY (sg mi m)) (fun _=>True) (fun _=>[]):=by
 refine Ad (args:=[.agg #[.bool mi,slv p (lbs bs m).length cap]]) Tryz.func183 rfl rfl rfl ?_
 refine zA (zB ?_)
 (refine A8 rfl rfl rfl rfl ?_;intro)
 refine wP rfl (wP rfl (Aa (zE (zA (zB (wB 0 rfl rfl rfl ?_))))))
 refine Ac rfl rfl rfl rfl rfl rfl (by kernel_rfl) (fun W hp=>Ql W p cap mi m (hA.hp hp) hK2 (ht.hp hp)) ?_
 refine wP rfl (Aa (zE (zA (zA (zB (wP rfl ?_))))))
 refine Ac rfl rfl rfl rfl rfl rfl (by kernel_rfl) (fun W _=>Cw (itoa (sg mi m)) [45] W) ?_
 refine Ab 8 (str (decDigits m)) rfl (by rw[Bn,Rx]) ?_
 refine wP rfl ?_
 refine Ab 9 (.int .i64 ((decDigits m).length:Nat)) rfl (congrArg (Value.int .i64) (congrArg (fun n:Nat=>(n:Int)) (AF _))) ?_
 refine wP rfl (Aa (zE ?_))
 by_cases h:m<Bp
 ·have h1:=GA.2 h
  refine AT 10 (.bool false) rfl (congrArg Value.bool (by rw[decide_eq_false_iff_not];omega)) ?_
  refine zS rfl (zI (zE (zA (zB (wP rfl (wP rfl (wP rfl (Aa (zE (zO ?_))))))))))
  exact Ar tH rfl (.tmp rfl) (.tmp rfl) () (by rw[KY,if_pos (by rw[Rx];exact h)]) trivial fun W _=>Ae.nil _ _
 ·have h1: ¬(decDigits m).length≤300:=fun e=>h (GA.1 e)
  refine AT 10 (.bool true) rfl (congrArg Value.bool (by rw[decide_eq_true_iff];omega)) ?_
  refine zR rfl (zA (zB (wP rfl (wP rfl (Aa (zE (zO (zP ?_))))))))
  exact Ar tH rfl (.tmp rfl) (.tmp rfl) () (by rw[KY,if_neg (by rw[Rx];exact h)]) trivial fun W _=>Ae.nil _ _
-- BOXES 5
theorem Dy {B n i:Nat}:n/B^i=n/B^(i+1)*B+n/B^i%B:=by
 have h1:n/B^(i+1)=n/B^i/B:=by rw[Nat.pow_succ,Nat.div_div_eq_div_mul]
 rw[h1]
 have:=Nat.mod_add_div (n/B^i) B
 rw[Nat.mul_comm];omega
theorem Nd {a b m:Nat} (h:a/m<b/m):a<b:=by
 rcases Nat.lt_or_ge a b with h1|h1
 ·exact h1
 ·exact absurd (Nat.div_le_div_right (c:=m) h1) (by omega)
theorem JS {a b:Nat} (h:(lbs bs a).length<(lbs bs b).length):a<b:=by
 rcases Nat.lt_or_ge a b with h1|h1
 ·exact h1
 ·have:=(BN bs2 (n:=b)).2 (Nat.lt_of_le_of_lt h1 (AL bs2 a))
  omega
def Uq (a b:Nat) (c:Int):Prop:=(c<0↔a<b)∧(c=0↔a=b)
theorem Ug {a b i:Nat} (h:a/bs^(i+1)=b/bs^(i+1)) (hne:lim (lbs bs a) i≠lim (lbs bs b) i):Uq a b ((lim (lbs bs a) i:Int)-lim (lbs bs b) i):=by
 rw[Bd bs2,Bd bs2] at hne⊢
 have e1:=Dy (B:=bs) (n:=a) (i:=i)
 have e2:=Dy (B:=bs) (n:=b) (i:=i)
 rw[h] at e1
 rcases Nat.lt_or_ge (a/bs^i%bs) (b/bs^i%bs) with h1|h1
 ·have h2:a<b:=Nd (m:=bs^i) (by omega)
  exact⟨⟨fun _=>h2,fun _=>by omega⟩,⟨fun _=>by omega,fun _=>by omega⟩⟩
 ·have h2:b<a:=Nd (m:=bs^i) (by omega)
  exact⟨⟨fun _=>by omega,fun _=>by omega⟩,⟨fun _=>by omega,fun _=>by omega⟩⟩
theorem HS (W:World) (p q:Option Addr) (cap cap2 a b:Nat) (hA:A4 W p (lbs bs a)) (hB:A4 W q (lbs bs b)) (hna:(lbs bs a).length≤1000000) (hnb:(lbs bs b).length≤1000000):
  Aj Tryz.prog 242 #[slv p (lbs bs a).length cap,slv q (lbs bs b).length cap2] W (fun c:Int=> .int .i64 c) (Uq a b) (fun _=>[]):=by
 refine Ad (args:=[slv p (lbs bs a).length cap,slv q (lbs bs b).length cap2]) Tryz.func242 rfl rfl rfl ?_
 refine zA (zB ?_)
 (refine A8 rfl rfl rfl rfl ?_;intro)
 (refine Ao Tryz.hZ rfl rfl rfl rfl ?_;intro)
 refine Aa ?_
 rename_i b3 b4
 refine zE (zA (zA (zB (wP rfl (wP rfl (wB 0 rfl rfl rfl (wP rfl (wP rfl (Aa (zE ?_))))))))))
 by_cases hlen:(lbs bs a).length=(lbs bs b).length
 ·refine AT 11 (.bool false) rfl (congrArg Value.bool (by rw[bne_eq_false_iff_eq];omega)) ?_
  refine zS rfl (zI (zE (zA (zA (zB (wP rfl ?_))))))
  refine Au (X:=Nat) rfl rfl rfl rfl rfl rfl (by kernel_rfl) (fun W _=>DK p (lbs bs a).length cap W) ?_
  intro b18 _
  refine Aa (zE (zH ?_))
  obtain⟨K,hK⟩: ∃K,(lbs bs a).length=K:=⟨_,rfl⟩
  have hKb:(lbs bs b).length=K:=by omega
  refine DR (X:=Int) (fun x=>[⟨b3,58,[slv q (lbs bs b).length cap2],true,none⟩,⟨b4,3,[.int .i64 x],true,none⟩,⟨b18,58,[slv p (lbs bs a).length cap],true,none⟩])
   (fun k _=>a/bs^(K-k)=b/bs^(K-k)) (fun c x=>c= .ret∧Uq a b x) 0 rfl (by kernel_rfl) (F3 b18 p cap (lbs bs a) (by omega)) (fun _=>rfl)
   (by have h1:=AL bs2 a;have h2:=AL bs2 b;rw[hK] at h1;rw[hKb] at h2;rw[Nat.sub_zero,Nat.div_eq_of_lt h1,Nat.div_eq_of_lt h2]) [] rfl (fun k x W _ hp=>⟨Ag.of_bx hp 2 rfl rfl,hA.hp hp⟩) ?_ ?_ ?_
  ·rintro k x d Lo rec hk hx hrec
   rw[hK] at hk
   have hi:K-1-k<(lbs bs b).length:=by omega
   have hup:a/bs^(K-1-k+1)=b/bs^(K-1-k+1):=by rw[show K-1-k+1=K-k by omega];exact hx
   obtain⟨qb,qo,rfl,hrow⟩:=hB.row hi
   refine zA (zB (wP rfl (Aa (zE (zB (wP rfl (Aa ?_)))))))
   refine Ct 4 hrec rfl ?_
   refine AT 5 (.int .i64 ((K-1-k:Nat):Int)) rfl (by rw[hK]) ?_
   refine AT 6 (.int .i64 (lim (lbs bs a) (K-1-k):Nat)) rfl (by rw[hK]) ?_
   refine zH (zA (zB (wP rfl (wB 0 rfl rfl rfl (wP rfl ?_)))))
   refine wJ ?_
   refine Aw rfl rfl rfl rfl (fun W hp=>Ag.load 0 tH rfl ((fun W' hp=>(hrow (K-1-k) hi).hp hp) W hp) rfl) ?_
   refine wP rfl (Aa (zE ?_))
   by_cases hne:lim (lbs bs a) (K-1-k)=lim (lbs bs b) (K-1-k)
   ·refine AT 26 (.bool false) rfl (congrArg Value.bool (by rw[bne_eq_false_iff_eq,hne])) ?_
    refine zS rfl (zI (zN ?_))
    refine Bw 4 x hrec rfl ?_ [] rfl
    show a/bs^(K-(k+1))=b/bs^(K-(k+1))
    rw[Bd bs2,Bd bs2] at hne
    rw[show K-(k+1)=K-1-k by omega,Dy (n:=a),Dy (n:=b),hup,hne]
   ·refine AT 26 (.bool true) rfl (congrArg Value.bool (by rw[bne_iff_ne];omega)) ?_
    refine zR rfl (zA (zB (wP rfl (wB 0 rfl rfl rfl (wP rfl ?_)))))
    refine wJ ?_
    refine Aw rfl rfl rfl rfl (fun W hp=>Ag.load 0 tH rfl ((fun W' hp=>(hrow (K-1-k) hi).hp hp) W hp) rfl) ?_
    have h1:=Bb bs2 (Bh bs2 a) (K-1-k)
    have h2:=Bb bs2 (Bh bs2 b) (K-1-k)
    have h1':lim (lbs bs a) (K-1-k)<1000000000:=h1
    have h2':lim (lbs bs b) (K-1-k)<1000000000:=h2
    refine wP rfl ?_
    refine Ab 32 (.int .i64 ((lim (lbs bs a) (K-1-k):Int)-lim (lbs bs b) (K-1-k))) rfl (congrArg (Value.int .i64) (An (by omega) (by omega))) ?_
    refine wS 1 rfl rfl rfl (Aa (zE (zO (zQ ?_))))
    exact Db 4 ((lim (lbs bs a) (K-1-k):Int)-lim (lbs bs b) (K-1-k)) hrec rfl ⟨rfl,Ug hup hne⟩ [] rfl
  ·rintro x d Lo rec hx
   rw[hK,Nat.sub_self,Nat.pow_zero,Nat.div_one,Nat.div_one] at hx
   refine zN (zE (zA (zB (wS 1 rfl rfl rfl (Aa (zE (zO ?_)))))))
   refine CS 3 rfl ?_
   exact Af tH rfl (.cell 1 rfl rfl rfl rfl rfl) (0:Int) rfl ⟨⟨fun h=>by omega,fun h=>by omega⟩,⟨fun _=>hx,fun _=>rfl⟩⟩ fun W _=>Ae.nil _ _
  ·rintro x d Lo rec c ⟨rfl,hx⟩
   refine zO (zQ (zP ?_))
   refine CS 3 rfl ?_
   exact Af tH rfl (.cell 1 rfl rfl rfl rfl rfl) x rfl hx fun W _=>Ae.nil _ _
 ·refine AT 11 (.bool true) rfl (congrArg Value.bool (by rw[bne_iff_ne];omega)) ?_
  refine zR rfl (zA (zB (wP rfl (wP rfl (wB 0 rfl rfl rfl (wP rfl (wP rfl ?_)))))))
  refine Ab 16 (.int .i64 (((lbs bs a).length:Int)-(lbs bs b).length)) rfl (congrArg (Value.int .i64) (An (by omega) (by omega))) ?_
  refine wS 1 rfl rfl rfl (Aa (zE (zO (zP ?_))))
  refine Af tH rfl (.cell 1 rfl rfl rfl rfl rfl) (((lbs bs a).length:Int)-(lbs bs b).length) rfl ?_ fun W _=>Ae.nil _ _
  rcases Nat.lt_or_ge (lbs bs a).length (lbs bs b).length with h|h
  ·have:=JS h
   exact⟨⟨fun _=>this,fun _=>by omega⟩,⟨fun _=>by omega,fun _=>by omega⟩⟩
  ·have:=JS (a:=b) (b:=a) (by omega)
   exact⟨⟨fun _=>by omega,fun _=>by omega⟩,⟨fun _=>by omega,fun _=>by omega⟩⟩
theorem T9 (r:Nat):lv bs [r]=r:=by show r+bs*0=r;rw[Nat.mul_zero,Nat.add_zero]
theorem Fl (W:World) (p:Option Addr) (cap a dv:Nat) (hA:A4 W p (lbs bs a)) (hna:(lbs bs a).length≤1000000) (hd0:0<dv) (hd1:dv<bs):
  Aj Tryz.prog 273 #[slv p (lbs bs a).length cap, .int .i64 (dv:Nat)] W (fun x:NV×NV=> .tuple #[BG x.1 (lbs bs (a/dv)).length,BG x.2 (lbs bs (a%dv)).length]) (fun x=>Ce x.1 (lbs bs (a/dv))∧Ce x.2 (lbs bs (a%dv))) (fun x=>[BH x.1 (lbs bs (a/dv)),BH x.2 (lbs bs (a%dv))]):=by
 obtain⟨K,hK⟩: ∃K,(lbs bs a).length=K:=⟨_,rfl⟩
 have hd1':dv<1000000000:=hd1
 have hal:=AL bs2 a
 rw[hK] at hna hal
 refine Ad (args:=[slv p (lbs bs a).length cap, .int .i64 (dv:Nat)]) Tryz.func273 rfl rfl rfl ?_
 refine zA (zB ?_)
 (refine A8 rfl rfl rfl rfl ?_;intro)
 (refine Ao Tryz.hZ rfl rfl rfl rfl ?_;intro)
 refine wP rfl (Aa ?_)
 rename_i b3 b4
 refine zE (zA (zB (wP rfl (wP rfl ?_))))
 refine Cm Tryz.vec58 K rfl rfl rfl rfl rfl (congrArg (fun n:Nat=>(n:Int)) hK) (congrArg (fun n:Nat=>(n:Int)) hK) (by simp only[maxLen];omega) (by omega) ?_
 intro g
 have ez:By (Value.cells (.int .i64 0)).toList K=nI (List.replicate K 0)++[]:=by rw[List.append_nil];exact EL K
 rw[ez]
 refine wS 1 rfl rfl rfl (Aa (zE (zA (zB ?_))))
 (refine Ao Tryz.hZ rfl rfl rfl rfl ?_;intro)
 refine wS 3 rfl rfl rfl (Aa ?_)
 rename_i b6
 refine zE (zA (zA (zB (wP rfl ?_))))
 refine Au (X:=Nat) rfl rfl rfl rfl rfl rfl (by kernel_rfl) (fun W _=>DK p (lbs bs a).length cap W) ?_
 intro b13 _
 refine Aa (zE (zH ?_))
 refine DR (X:=List Nat×Nat×Nat) (fun x=>[⟨b3,3,[.int .i64 (dv:Nat)],true,none⟩,⟨b4,58,[slv (some ⟨g,0,none⟩) K K],true,none⟩,⟨g,3,nI x.1++[],true,none⟩,⟨b6,3,[.int .i64 (x.2.2:Nat)],true,none⟩,⟨b13,58,[slv p (lbs bs a).length cap],true,none⟩])
  (fun k x=>x.1.length=K∧(∀y∈x.1,y<bs)∧lv bs x.1=bs^(K-k)*x.2.1∧a/bs^(K-k)=x.2.1*dv+x.2.2∧x.2.2<dv) (fun _ _=>False) (List.replicate K 0,0,0) rfl (by kernel_rfl) (F3 b13 p cap (lbs bs a) (by omega)) (fun _=>rfl)
  ⟨List.length_replicate,GK (by decide) K,by rw[Er];show 0=bs^(K-0)*0;rw[Nat.mul_zero],by show a/bs^(K-0)=0*dv+0;rw[Nat.sub_zero,Nat.div_eq_of_lt hal];omega,hd0⟩ [] rfl (fun k x W _ hp=>⟨Ag.of_bx hp 4 rfl rfl,hA.hp hp⟩) ?_ ?_ (fun _ _ _ _ _ h=>h.elim)
 ·rintro k ⟨l,qh,rs⟩ d Lo rec hk ⟨hl,hlb,hlv,hq,hr⟩ hrec
  have hl:l.length=K:=hl
  have hlv:lv bs l=bs^(K-k)*qh:=hlv
  have hq:a/bs^(K-k)=qh*dv+rs:=hq
  have hr:rs<dv:=hr
  rw[hK] at hk
  have hi:K-1-k<l.length:=by rw[hl];omega
  obtain⟨v,hv⟩: ∃v,lim (lbs bs a) (K-1-k)=v:=⟨_,rfl⟩
  have hvb:v<bs:=by rw[←hv];exact Bb bs2 (Bh bs2 a) _
  have hvb':v<1000000000:=hvb
  have hve:v=a/bs^(K-1-k)%bs:=by rw[←hv];exact Bd bs2 a _
  obtain⟨n,hn⟩: ∃n,n=v+rs*bs:=⟨_,rfl⟩
  have hrs:rs*1000000000≤999999999*1000000000:=Nat.mul_le_mul_right _ (by omega)
  have hn63:n<2000000000000000000:=by rw[hn];show v+rs*1000000000<_;omega
  have hnq:=OJ (B:=bs) (d:=dv) hvb hr hn
  have hnq':n/dv<1000000000:=hnq
  have hs:=Ih (B:=bs) (d:=dv) (q:=qh) (r:=rs) (i:=K-1-k) (by rw[show K-1-k+1=K-k by omega];exact hq) (n:=n) (by rw[hn,hve])
  have hzero:l[K-1-k]? =some 0:=by
   rw[De hi,Ci bs2 _ hlb,hlv,show K-k=K-1-k+1 by omega,Nat.pow_succ,Nat.mul_assoc,Nat.mul_div_cancel_left _ (Nat.pow_pos (by decide)),Nat.mul_mod_right]
  have hset:=Hg (B:=bs) (n/dv) hzero
  rw[Nat.mul_zero,Nat.add_zero,hlv,show K-k=K-1-k+1 by omega,Nat.pow_succ,Nat.mul_assoc, ←Nat.mul_add] at hset
  refine zA (zB (wP rfl (Aa (zE (zB (wP rfl (Aa ?_)))))))
  refine Ct 6 hrec rfl ?_
  refine AT 7 (.int .i64 ((K-1-k:Nat):Int)) rfl (by rw[hK]) ?_
  refine AT 8 (.int .i64 (v:Nat)) rfl (by rw[hK,hv]) ?_
  refine zH (zA (zB (wP rfl (wB 3 rfl rfl rfl (wP rfl (wP rfl ?_))))))
  refine Ab 19 (.int .i64 (n:Nat)) rfl (congrArg (Value.int .i64) (by show w64 ((v:Int)+w64 ((rs:Int)*((1000000000:Nat):Int)))=_;rw[Cc (by omega),AQ (by omega)];exact congrArg (fun n:Nat=>(n:Int)) hn.symm)) ?_
  refine wP rfl (Aa (AC ?_))
  refine Jd (X:=Unit) (fun _=>[]) (fun _=>[⟨b3,3,[.int .i64 (dv:Nat)],true,none⟩,⟨b4,58,[slv (some ⟨g,0,none⟩) K K],true,none⟩,⟨g,3,nI (l.set (K-1-k) (n/dv))++[],true,none⟩,⟨b6,3,[.int .i64 ((n%dv:Nat):Int)],true,none⟩,⟨b13,58,[slv p (lbs bs a).length cap],true,none⟩,BO d,Bj Lo rec .busy none])
   2 [⟨b3,3,[.int .i64 (dv:Nat)],true,none⟩,⟨b4,58,[slv (some ⟨g,0,none⟩) K K],true,none⟩,Du,Du,⟨b13,58,[slv p (lbs bs a).length cap],true,none⟩,BO d,Bj Lo rec .busy none] Tryz.mixed (by kernel_rfl) ?_ ?_
  ·refine qB 1 rfl rfl rfl (qP rfl (qP rfl (qB 0 rfl rfl rfl ?_)))
   refine J7 rfl rfl rfl rfl rfl (by omega) ?_
   refine A6 24 (.int .i64 ((n/dv:Nat):Int)) rfl (congrArg (Value.int .i64) (by rw[EV];exact BP (by omega))) ?_
   refine qP rfl (qB 0 rfl rfl rfl ?_)
   refine EN rfl rfl rfl rfl rfl (by omega) ?_
   refine qJ ?_
   refine Dd ?_
   refine wX ?_
   refine RS.cons ?_ (RS.nil)
   refine Ay 2 (nI (l.set (K-1-k) (n/dv))++[]) tH rfl rfl rfl rfl rfl rfl rfl rfl rfl rfl (by show 0+(K-1-k)*1+1≤(nI l++[]).length;rw[List.append_nil,BD];omega) (Cp hi _) ?_
   refine Aa (Al ?_)
   refine wX ?_
   refine RS.cons ?_ (RS.nil)
   refine wS 3 rfl rfl rfl (Aa (Al ?_))
   refine B8 rfl (by((repeat (first|refine Bu.same ?_|refine Bu.off rfl ?_));exact trivial)) ?_
   exact AD () trivial [0,1,2,3,4,5,6] (by decide) rfl
  intro _
  refine zN ?_
  refine Bw 6 (l.set (K-1-k) (n/dv),bs*qh+n/dv,n%dv) hrec rfl ⟨by rw[List.length_set];exact hl,CA hlb hnq, ?_, ?_,Nat.mod_lt _ hd0⟩ [] rfl
  ·show lv bs _=bs^(K-(k+1))*_
   rw[hset,show K-(k+1)=K-1-k by omega]
  ·show a/bs^(K-(k+1))=(bs*qh+n/dv)*dv+n%dv
   rw[show K-(k+1)=K-1-k by omega,hs,Nat.mul_comm qh]
 ·rintro⟨l,qh,rs⟩ d Lo rec ⟨hl,hlb,hlv,hq,hr⟩
  have hl:l.length=K:=hl
  have hr:rs<dv:=hr
  have hlv:lv bs l=bs^(K-(lbs bs a).length)*qh:=hlv
  have hq:a/bs^(K-(lbs bs a).length)=qh*dv+rs:=hq
  rw[hK,Nat.sub_self,Nat.pow_zero] at hlv hq
  rw[Nat.one_mul] at hlv
  rw[Nat.div_one] at hq
  have e1:a/dv=qh:=by rw[hq,Nat.mul_comm,Nat.mul_add_div hd0,Nat.div_eq_of_lt hr,Nat.add_zero]
  have e2:a%dv=rs:=by rw[hq,Nat.mul_comm,Nat.mul_add_mod,Nat.mod_eq_of_lt hr]
  have hV0:(⟨some g,K,[]⟩:Vec).OK 1 l.length (nI l):=⟨Eo _,(fun h=>by cases h),fun _=>⟨by show _≤K;omega,by show K≤maxLen;simp only[maxLen];omega,by show(nI l).length+0=K*1;rw[BD];omega⟩⟩
  obtain⟨j',hV2,he⟩:=FN hV0 hlb
  have hrb: ∀y∈[rs],y<bs:=fun y hy=>by obtain rfl:=List.mem_singleton.1 hy;exact Nat.lt_trans hr hd1
  refine zN (zE (A7 ?_))
  refine Jd (X:=Nat) (fun bR=>[(4,Ax b4),(5,slv (some ⟨bR,0,none⟩) (lbs bs (lv bs [rs])).length 1)]) (fun bR=>[⟨b3,3,[.int .i64 (dv:Nat)],true,none⟩,⟨b4,58,[slv (some ⟨g,0,none⟩) (lbs bs (lv bs l)).length K],true,none⟩,⟨g,3,nI l++[],true,none⟩,⟨b6,3,[.int .i64 (rs:Nat)],true,none⟩,⟨b13,58,[slv p (lbs bs a).length cap],true,none⟩,BO d,Bj Lo rec .exhausted none,⟨bR,3,nI [rs]++[],true,none⟩])
   4 [⟨b3,3,[.int .i64 (dv:Nat)],true,none⟩,⟨b4,58,[slv (some ⟨g,0,none⟩) K K],true,none⟩,⟨g,3,nI l++[],true,none⟩,⟨b6,3,[.int .i64 (rs:Nat)],true,none⟩,⟨b13,58,[slv p (lbs bs a).length cap],true,none⟩,BO d,Bj Lo rec .exhausted none] Tryz.mixed (by kernel_rfl) ?_ ?_
  ·refine qB 1 rfl rfl rfl ?_
   refine A6 29 (slv (some ⟨g,0,none⟩) l.length K) rfl (by rw[hl]) ?_
   refine A9 rfl rfl rfl rfl rfl rfl (by kernel_rfl) (fun W hp=>CJ W _ K _ (A4.of_bx hp 2 rfl) hlb (by omega) (by omega)) ?_
   refine qB 3 rfl rfl rfl (Dd ?_)
   refine wX ?_
   refine RS.cons ?_ (RS.nil)
   refine A0 Tryz.hZ tH rfl rfl rfl rfl rfl rfl rfl rfl rfl rfl rfl fun bR=> ?_
   refine Aa (Al ?_)
   refine wX ?_
   refine RS.cons ?_ (RS.nil)
   refine Ac rfl rfl rfl rfl rfl rfl (by kernel_rfl) (fun W hp=>CJ W _ 1 [rs] (A4.of_bx (junk:=[]) hp 7 rfl) hrb (Nat.le_refl _) (by show 1<_;omega)) ?_
   refine Aa (Al ?_)
   refine wX ?_
   refine RS.cons ?_ (RS.nil)
   refine wS 1 rfl rfl rfl (Aa (Al ?_))
   refine wY ?_
   refine RS.cons ?_ (RS.nil)
   refine wP rfl (Aa (Al ?_))
   refine AJ rfl (by kernel_rfl) ?_
   exact AD bR ⟨rfl,rfl,trivial⟩ [0,1,2,3,4,5,6,7] (by decide) rfl
  intro bR
  have hR0:(⟨some bR,1,[]⟩:Vec).OK 1 [rs].length (nI [rs]):=⟨rfl,(fun h=>by cases h),fun _=>⟨Nat.le_refl _,(show 1≤maxLen by decide),rfl⟩⟩
  obtain⟨j2,hR2,he2⟩:=FN hR0 hrb
  refine zE (zO ?_)
  rw[hlv] at hV2 he
  rw[T9] at hR2 he2
  rw[←e1] at hV2 he
  have he2':nI [rs]++[]=nI (lbs bs (a%dv))++j2:=by rw[e2];exact he2
  rw[←e2] at hR2
  refine CS 5 rfl ?_
  refine Ar tH rfl (.cell 1 rfl rfl rfl rfl rfl) (.tmp rfl) (((g,K,j'),(bR,1,j2)):NV×NV) (by rw[hlv,T9, ←e1, ←e2]) ⟨hV2,hR2⟩ fun W hp=> ?_
  refine(hp.pick (l:=[⟨g,3,nI l++[],true,none⟩,⟨bR,3,nI [rs]++[],true,none⟩]) [2,7] (by decide) rfl).own.sub id ?_ (fun _ _ _ _ _ _ h=>h)
  intro k B hk _
  rw[he,he2']
  exact hk
-- BOXES 2
theorem Vz {U B j n:Nat} (hn:2≤n) (h:U<B^(j+n+1)):U/B^(j+n)%B*B+U/B^(j+n-1)%B=U/B^(j+n-1)∧U/B^(j+n-2)=U/B^(j+n-1)*B+U/B^(j+n-2)%B:=by
 have e1:=Dy (B:=B) (n:=U) (i:=j+n-1)
 have e2:=Dy (B:=B) (n:=U) (i:=j+n-2)
 rw[show j+n-1+1=j+n by omega] at e1
 rw[show j+n-2+1=j+n-1 by omega] at e2
 have h3:U/B^(j+n)<B:=Nat.div_lt_of_lt_mul (by rw[←Nat.pow_succ];exact h)
 rw[Nat.mod_eq_of_lt h3]
 exact⟨e1.symm,e2⟩
theorem Tk {U V B j n q r v1 v2:Nat} (hn:2≤n) (hB:2≤B) (hv1:v1=V/B^(n-1)) (hv2:v2=V/B^(n-2)%B) (htop:U/B^(j+n-1)=q*v1+r)
  (hc:q*v2>r*B+U/B^(j+n-2)%B):U/B^j/V<q:=by
 have e2:=Dy (B:=B) (n:=U) (i:=j+n-2)
 rw[show j+n-2+1=j+n-1 by omega,htop] at e2
 have e3:=Dy (B:=B) (n:=V) (i:=n-2)
 rw[show n-2+1=n-1 by omega, ←hv1, ←hv2] at e3
 have hm:0<B^(n-2):=Nat.pow_pos (by omega)
 have hV:(v1*B+v2)*B^(n-2)≤V:=by rw[←e3];exact Nat.div_mul_le_self ..
 refine QU (Sc (m:=B^(n-2)) hV hm (top:=U/B^(j+n-2)) ?_ ?_)
 ·rw[Nat.div_div_eq_div_mul, ←Nat.pow_add,show j+(n-2)=j+n-2 by omega]
 ·rw[e2,Nat.mul_add,Nat.add_mul,Nat.mul_assoc]
  omega
theorem S2 {U V B j n v1:Nat} (hn:2≤n) (hB:2≤B) (hv1:v1=V/B^(n-1)) (h1:0<v1):U/B^j/V≤U/B^(j+n-1)/v1:=by
 rcases Nat.lt_or_ge (U/B^(j+n-1)/v1) (U/B^j/V) with h|h
 ·exfalso
  have hm:0<B^(n-1):=Nat.pow_pos (by omega)
  have hV:v1*B^(n-1)≤V:=by rw[hv1];exact Nat.div_mul_le_self ..
  have h2:U/B^(j+n-1)<U/B^j/V*v1:=Nat.lt_mul_of_div_lt h h1
  have h3:=QU (Sc hV hm (top:=U/B^(j+n-1)) (W:=U/B^j) (q:=U/B^j/V) (by rw[Nat.div_div_eq_div_mul, ←Nat.pow_add,show j+(n-1)=j+n-1 by omega]) h2)
  omega
 ·exact h
theorem LU (W:World) (p q:Option Addr) (cap cap2 j:Nat) (u v:List Nat) (hA:A4 W p u) (hB:A4 W q v) (hub: ∀y∈u,y<bs) (hvb: ∀y∈v,y<bs) (hn:2≤v.length) (hju:j+v.length<u.length) (hl:u.length≤1000000)
  (hU:lv bs u<lv bs v*bs^(j+1)) (hv1:499999999≤lv bs v/bs^(v.length-1)):
  Aj Tryz.prog 275 #[slv p u.length cap,slv q v.length cap2, .int .i64 (j:Nat)] W (fun x:Nat=> .int .i64 (x:Nat)) (fun x=>lv bs u/bs^j/lv bs v≤x∧x≤2100000000) (fun _=>[]):=by
 obtain⟨n,hn'⟩: ∃n,v.length=n:=⟨_,rfl⟩
 obtain⟨U,hU'⟩: ∃x,lv bs u=x:=⟨_,rfl⟩
 obtain⟨V,hV'⟩: ∃x,lv bs v=x:=⟨_,rfl⟩
 have hVlt:=EG bs2 hvb
 rw[hn',hV'] at hVlt
 rw[hn'] at hn hju hv1
 rw[hU',hV'] at hU
 rw[hV'] at hv1
 have hUlt:U<bs^(j+n+1):=by
  have h1:V*bs^(j+1)≤bs^n*bs^(j+1):=Nat.mul_le_mul_right _ (by omega)
  rw[←Nat.pow_add,show n+(j+1)=j+n+1 by omega] at h1
  omega
 obtain⟨hd1,hd2⟩:=Vz hn hUlt
 obtain⟨top,htop⟩: ∃t,U/bs^(j+n-1)=t:=⟨_,rfl⟩
 obtain⟨v1,hv1'⟩: ∃t,V/bs^(n-1)=t:=⟨_,rfl⟩
 obtain⟨v2,hv2'⟩: ∃t,V/bs^(n-2)%bs=t:=⟨_,rfl⟩
 obtain⟨u2,hu2'⟩: ∃t,U/bs^(j+n-2)%bs=t:=⟨_,rfl⟩
 obtain⟨u1,hu1'⟩: ∃t,U/bs^(j+n-1)%bs=t:=⟨_,rfl⟩
 obtain⟨u0,hu0'⟩: ∃t,U/bs^(j+n)%bs=t:=⟨_,rfl⟩
 have hu2b:u2<1000000000:=by rw[←hu2'];exact Nat.mod_lt _ (by decide)
 have hu1b:u1<1000000000:=by rw[←hu1'];exact Nat.mod_lt _ (by decide)
 have hu0b:u0<1000000000:=by rw[←hu0'];exact Nat.mod_lt _ (by decide)
 have hv2b:v2<1000000000:=by rw[←hv2'];exact Nat.mod_lt _ (by decide)
 have hv1b:v1<1000000000:=by rw[←hv1'];exact Nat.div_lt_of_lt_mul (by rw[←Nat.pow_succ,show(n-1).succ=n by omega];exact hVlt)
 rw[hv1'] at hv1
 rw[hu0',hu1',htop] at hd1
 have hd1:u0*1000000000+u1=top:=hd1
 have htop18:top<1000000000000000000:=by omega
 have lu: ∀i,i<u.length→lim u i=U/bs^i%bs:=fun i _=>by rw[Ci bs2 i hub,hU']
 have lvv: ∀i,lim v i=V/bs^i%bs:=fun i=>by rw[Ci bs2 i hvb,hV']
 have lv1:lim v (n-1)=v1:=by
  rw[lvv,hv1',Nat.mod_eq_of_lt hv1b]
 obtain⟨pb,po,rfl,hrow⟩:=hA.row (show j<u.length by omega)
 obtain⟨qb,qo,rfl,hrow2⟩:=hB.row (show 0<v.length by omega)
 have ru0: ∀W' bx,Hp W bx W'→Ag W' pb (po+(j+n)*1) [.int .i64 (u0:Nat)]:=fun W' bx hp=>by have:=(hrow (j+n) (by omega)).hp hp;rwa [lu _ (by omega),hu0'] at this
 have ru1: ∀W' bx,Hp W bx W'→Ag W' pb (po+(j+n-1)*1) [.int .i64 (u1:Nat)]:=fun W' bx hp=>by have:=(hrow (j+n-1) (by omega)).hp hp;rwa [lu _ (by omega),hu1'] at this
 have ru2: ∀W' bx,Hp W bx W'→Ag W' pb (po+(j+n-2)*1) [.int .i64 (u2:Nat)]:=fun W' bx hp=>by have:=(hrow (j+n-2) (by omega)).hp hp;rwa [lu _ (by omega),hu2'] at this
 have rv1: ∀W' bx,Hp W bx W'→Ag W' qb (qo+(n-1)*1) [.int .i64 (v1:Nat)]:=fun W' bx hp=>by have:=(hrow2 (n-1) (by omega)).hp hp;rwa [lv1] at this
 have rv2: ∀W' bx,Hp W bx W'→Ag W' qb (qo+(n-2)*1) [.int .i64 (v2:Nat)]:=fun W' bx hp=>by have:=(hrow2 (n-2) (by omega)).hp hp;rwa [lvv,hv2'] at this
 have hq0:=S2 (U:=U) (V:=V) (B:=bs) (j:=j) hn bs2 hv1'.symm (by omega)
 rw[htop] at hq0
 have hq2:top/v1≤2100000000:=by
  have:top/v1≤top/499999999:=Nat.div_le_div_left hv1 (by decide)
  omega
 have hqB:U/bs^j/V<1000000000:=by
  refine Nat.div_lt_of_lt_mul (Nat.div_lt_of_lt_mul ?_)
  have:bs^j*(V*1000000000)=V*bs^(j+1):=by rw[Nat.pow_succ];show _=V*(bs^j*1000000000);grind
  omega
 refine Ad (args:=[slv (some ⟨pb,po,none⟩) u.length cap,slv (some ⟨qb,qo,none⟩) v.length cap2, .int .i64 (j:Nat)]) Tryz.func275 rfl rfl rfl ?_
 rw[hn']
 refine zA (zB (wP rfl (Aa (zE (zA (zB (wP rfl (wP rfl (wP rfl (Aa (zE (zA ?_))))))))))))
 refine zT Tryz.mixed (by kernel_rfl) ?_
 refine qP rfl (qP rfl (qP rfl (qP rfl ?_)))
 refine A6 16 (.int .i64 ((j+n:Nat):Int)) rfl (congrArg (Value.int .i64) (AQ (by omega))) ?_
 refine qJ ?_
 refine Ap rfl rfl rfl rfl (fun W hp=>Ag.load 0 tH rfl ((fun W' hp=>ru0 W' _ hp) W hp) rfl) ?_
 iterate 6 refine qP rfl ?_
 refine A6 24 (.int .i64 ((j+n-1:Nat):Int)) rfl (congrArg (Value.int .i64) (by show w64 (w64 ((j:Int)+n)-1)=_;rw[AQ (by omega),An (by omega) (by omega)];omega)) ?_
 refine qJ ?_
 refine Ap rfl rfl rfl rfl (fun W hp=>Ag.load 0 tH rfl ((fun W' hp=>ru1 W' _ hp) W hp) rfl) ?_
 refine qP rfl ?_
 refine A6 27 (.int .i64 (top:Nat)) rfl (congrArg (Value.int .i64) (by show w64 (w64 ((u0:Int)*((1000000000:Nat):Int))+u1)=_;rw[Cc (by omega),AQ (by omega),hd1])) ?_
 refine qP rfl (AE (Aa (zE (zA ?_))))
 refine zT Tryz.mixed (by kernel_rfl) ?_
 refine qP rfl (qP rfl (qP rfl (qP rfl ?_)))
 refine A6 31 (.int .i64 ((n-1:Nat):Int)) rfl (congrArg (Value.int .i64) (by show w64 ((n:Int)-1)=_;rw[An (by omega) (by omega)];omega)) ?_
 refine qJ ?_
 refine Ap rfl rfl rfl rfl (fun W hp=>Ag.load 0 tH rfl ((fun W' hp=>rv1 W' _ hp) W hp) rfl) ?_
 refine J7 rfl rfl rfl rfl rfl (by omega) ?_
 refine A6 34 (.int .i64 ((top/v1:Nat):Int)) rfl (congrArg (Value.int .i64) (by rw[EV];exact BP (by omega))) ?_
 refine qP rfl (qP rfl (qP rfl (qP rfl ?_)))
 refine A6 38 (.int .i64 ((n-1:Nat):Int)) rfl (congrArg (Value.int .i64) (by show w64 ((n:Int)-1)=_;rw[An (by omega) (by omega)];omega)) ?_
 refine qJ ?_
 refine Ap rfl rfl rfl rfl (fun W hp=>Ag.load 0 tH rfl ((fun W' hp=>rv1 W' _ hp) W hp) rfl) ?_
 refine EN rfl rfl rfl rfl rfl (by omega) ?_
 refine qP rfl (qP rfl (AE (Aa (AC ?_))))
 refine Gp (X:=Nat) (fun x=>[(9, .int .i64 (x:Nat))]) (fun _=>[]) (fun x=>U/bs^j/V≤x∧x≤2100000000) ?_ ?_
 ·refine BI ?_
  refine Av (X:=Nat×Nat) (fun x=>[(0,slv (some ⟨pb,po,none⟩) u.length cap),(1,slv (some ⟨qb,qo,none⟩) n cap2),(2, .int .i64 (j:Nat)),(7, .int .i64 (n:Nat)),(9, .int .i64 (x.1:Nat)),(10, .int .i64 (x.2:Nat))]) (fun _=>[])
   (fun x=>U/bs^j/V≤x.1∧x.1≤2100000000∧top=x.1*v1+x.2∧x.2<1000000000) (fun x=>x.1) (top/v1,top%v1) ⟨hq0,hq2,by show top=top/v1*v1+top%v1;rw[Nat.mul_comm];exact(Nat.div_add_mod top v1).symm,by have:=Nat.mod_lt top (show v1>0 by omega);show top%v1<_;omega⟩ ⟨rfl,rfl,rfl,rfl,rfl,rfl,trivial⟩ [] rfl ?_
  rintro⟨x,rr⟩ ⟨hx1,hx2,hx3,hx4⟩
  have hx1:U/bs^j/V≤x:=hx1
  have hx2:x≤2100000000:=hx2
  have hx3:top=x*v1+rr:=hx3
  have hx4:rr<1000000000:=hx4
  refine zA (zA ?_)
  refine zT Tryz.mixed (by kernel_rfl) ?_
  refine qP rfl (qP rfl ?_)
  by_cases hc1:1000000000≤x
  ·refine A6 43 (.bool true) rfl (congrArg Value.bool (decide_eq_true (by omega))) ?_
   refine qP rfl ?_
   iterate 22 refine BC rfl rfl ?_
   refine qP rfl (AE (Aa (zE (zR rfl (zI (zE (zH (zA ?_))))))))
   refine zT Tryz.mixed (by kernel_rfl) ?_
   iterate 6 refine qP rfl ?_
   refine A6 73 (.int .i64 ((n-1:Nat):Int)) rfl (congrArg (Value.int .i64) (by show w64 ((n:Int)-1)=_;rw[An (by omega) (by omega)];omega)) ?_
   refine qJ ?_
   refine Ap rfl rfl rfl rfl (fun W hp=>Ag.load 0 tH rfl ((fun W' hp=>rv1 W' _ hp) W hp) rfl) ?_
   refine qP rfl (qP rfl (qP rfl ?_))
   refine A6 9 (.int .i64 ((x-1:Nat):Int)) rfl (congrArg (Value.int .i64) (by show w64 ((x:Int)-1)=_;rw[An (by omega) (by omega)];omega)) ?_
   refine A6 10 (.int .i64 ((rr+v1:Nat):Int)) rfl (congrArg (Value.int .i64) (AQ (by omega))) ?_
   refine AE (Aa (zE (zA (zB (wP rfl (wP rfl (Aa (zE ?_))))))))
   have hx5:x*v1=(x-1)*v1+v1:=by rw[←Nat.succ_mul];congr 1;omega
   refine Ak rfl (fun hc=> ?_) (fun hc=> ?_)
   ·refine zJ (zM rfl (zK (zL ?_)))
    exact At (x-1) ⟨by omega,by omega⟩ ⟨rfl,trivial⟩ [] rfl
   ·have hc':rr+v1<1000000000:=by
     have h':decide (((rr+v1:Nat):Int)≥1000000000)=false:=hc
     rw[decide_eq_false_iff_not] at h';omega
    refine zI (zN ?_)
    exact As (x-1,rr+v1) ⟨by show _≤x-1;omega,by show x-1≤_;omega,by show top=(x-1)*v1+(rr+v1);omega,hc'⟩ (by show x-1<x;omega) ⟨rfl,rfl,rfl,rfl,rfl,rfl,trivial⟩ [] rfl
  ·refine A6 43 (.bool false) rfl (congrArg Value.bool (decide_eq_false (by omega))) ?_
   have hxv:x*v2≤999999999*999999999:=Nat.mul_le_mul (by omega) (by omega)
   refine qP rfl (qP rfl (qP rfl ?_))
   refine A6 46 (.bool true) rfl (congrArg Value.bool (decide_eq_true (by omega))) ?_
   iterate 5 refine qP rfl ?_
   refine A6 51 (.int .i64 ((n-2:Nat):Int)) rfl (congrArg (Value.int .i64) (by show w64 ((n:Int)-2)=_;rw[An (by omega) (by omega)];omega)) ?_
   refine qJ ?_
   refine Ap rfl rfl rfl rfl (fun W hp=>Ag.load 0 tH rfl ((fun W' hp=>rv2 W' _ hp) W hp) rfl) ?_
   iterate 8 refine qP rfl ?_
   refine A6 61 (.int .i64 ((j+n-2:Nat):Int)) rfl (congrArg (Value.int .i64) (by show w64 (w64 ((j:Int)+n)-2)=_;rw[AQ (by omega),An (by omega) (by omega)];omega)) ?_
   refine qJ ?_
   refine Ap rfl rfl rfl rfl (fun W hp=>Ag.load 0 tH rfl ((fun W' hp=>ru2 W' _ hp) W hp) rfl) ?_
   refine qP rfl (qP rfl ?_)
   refine A6 65 (.bool (decide (x*v2>rr*1000000000+u2))) rfl (congrArg Value.bool (by
    show decide (w64 ((x:Int)*v2)>w64 (w64 ((rr:Int)*((1000000000:Nat):Int))+u2))=_
    rw[Cc (by omega),Cc (by omega),AQ (by omega)]
    exact decide_eq_decide.2 (by omega))) ?_
   refine qP rfl (qP rfl (AE (Aa (zE ?_))))
   refine Ak rfl (fun hc=> ?_) (fun hc=> ?_)
   ·have hc':x*v2>rr*1000000000+u2:=of_decide_eq_true hc
    have hlt:=Tk (U:=U) (V:=V) (B:=bs) (j:=j) (q:=x) (r:=rr) hn bs2 hv1'.symm hv2'.symm (by rw[htop,hx3]) (by rw[hu2'];exact hc')
    have hx0:0<x:=Nat.lt_of_le_of_lt (Nat.zero_le _) hlt
    refine zI (zE (zH (zA ?_)))
    refine zT Tryz.mixed (by kernel_rfl) ?_
    iterate 6 refine qP rfl ?_
    refine A6 73 (.int .i64 ((n-1:Nat):Int)) rfl (congrArg (Value.int .i64) (by show w64 ((n:Int)-1)=_;rw[An (by omega) (by omega)];omega)) ?_
    refine qJ ?_
    refine Ap rfl rfl rfl rfl (fun W hp=>Ag.load 0 tH rfl ((fun W' hp=>rv1 W' _ hp) W hp) rfl) ?_
    refine qP rfl (qP rfl (qP rfl ?_))
    refine A6 9 (.int .i64 ((x-1:Nat):Int)) rfl (congrArg (Value.int .i64) (by show w64 ((x:Int)-1)=_;rw[An (by omega) (by omega)];omega)) ?_
    refine A6 10 (.int .i64 ((rr+v1:Nat):Int)) rfl (congrArg (Value.int .i64) (AQ (by omega))) ?_
    refine AE (Aa (zE (zA (zB (wP rfl (wP rfl (Aa (zE ?_))))))))
    have hx5:x*v1=(x-1)*v1+v1:=by rw[←Nat.succ_mul];congr 1;omega
    refine Ak rfl (fun hc2=> ?_) (fun hc2=> ?_)
    ·refine zJ (zM rfl (zK (zL ?_)))
     exact At (x-1) ⟨by omega,by omega⟩ ⟨rfl,trivial⟩ [] rfl
    ·have hc':rr+v1<1000000000:=by
      have h':decide (((rr+v1:Nat):Int)≥1000000000)=false:=hc2
      rw[decide_eq_false_iff_not] at h';omega
     refine zI (zN ?_)
     exact As (x-1,rr+v1) ⟨by show _≤x-1;omega,by show x-1≤_;omega,by show top=(x-1)*v1+(rr+v1);omega,hc'⟩ (by show x-1<x;omega) ⟨rfl,rfl,rfl,rfl,rfl,rfl,trivial⟩ [] rfl
   ·refine zJ (zK (zK (zL ?_)))
    exact At x ⟨hx1,hx2⟩ ⟨rfl,trivial⟩ [] rfl
 ·rintro x hx
  refine zA (zB (wP rfl (wP rfl (Aa (zE (zO ?_))))))
  rw[hU',hV']
  exact Af tH rfl (.tmp rfl) x rfl hx fun W _=>Ae.nil _ _
-- BOXES 2
theorem NG {W W1:World} {g b off:Nat} {c:List Value} {l:List Bx} (h:Ag W b off c) (hne:b≠g) (hp:Hp (AZ W) (AU (A3 W g)::l) W1):Ag W1 b off c:=by
 have hm:(b,W.heap[b]'h.lt)∈A3 W g:=CB.2 ⟨hne,Array.getElem?_eq_getElem h.lt⟩
 have h1:=hp.own.cell 0 _ rfl (b,W.heap[b]'h.lt) hm
 have e:W1.heap[b]? =W.heap[b]? :=by rw[h1.1,Array.getElem?_eq_getElem h.lt]
 refine⟨(Array.getElem?_eq_some_iff.1 h1.1).1,fun j u hu=> ?_⟩
 have h2:=h.get j u hu
 unfold World.cell? at h2⊢
 simp only at h2⊢
 rw[e]
 exact h2
theorem A4.others {W W1:World} {g:Nat} {q:Option Addr} {v:List Nat} {l:List Bx} (h:A4 W q v) (hne: ∀b off,q=some ⟨b,off,none⟩→b≠g) (hp:Hp (AZ W) (AU (A3 W g)::l) W1):A4 W1 q v:=by
 rcases h with h|⟨b,off,h1,h2⟩
 ·exact .inl h
 ·exact .inr ⟨b,off,h1,NG h2 (hne b off h1) hp⟩
structure SE (u v:List Nat) (j x:Nat) (y:List Nat×Nat):Prop where
 len:y.1.length=u.length
 lt: ∀z∈y.1,z<bs
 val:lv bs y.1+bs^j*(x*lv bs v)=lv bs u+bs^(j+(v.length+1))*y.2
 drop:y.1.drop (j+(v.length+1))=u.drop (j+(v.length+1))
structure Vn (u v:List Nat) (j x:Nat) (y:List Nat×Nat):Prop where
 len:y.1.length=u.length
 lt: ∀z∈y.1,z<bs
 val:lv bs y.1+bs^(j+(v.length+1))*y.2=lv bs u+bs^j*(x*lv bs v)
 drop:y.1.drop (j+(v.length+1))=u.drop (j+(v.length+1))
theorem SY {u v:List Nat} {j x:Nat} {y z:List Nat×Nat} (hu: ∀a∈u,a<bs) (h1:SE u v j x y) (h2:Vn y.1 v j x z):z.1=u:=by
 have hv:lv bs z.1+bs^(j+(v.length+1))*z.2=lv bs u+bs^(j+(v.length+1))*y.2:=h2.val.trans h1.val
 have hm:=congrArg (· %bs^(j+(v.length+1))) hv
 simp only[Nat.add_mul_mod_self_left] at hm
 rw[←Ob bs2 h2.lt, ←Ob bs2 hu] at hm
 have ht:=WE bs2 (fun a ha=>h2.lt a (List.mem_of_mem_take ha)) (fun a ha=>hu a (List.mem_of_mem_take ha)) (by rw[List.length_take,List.length_take,h2.len,h1.len]) hm
 rw[←List.take_append_drop (j+(v.length+1)) z.1,ht,h2.drop,h1.drop,List.take_append_drop]
theorem Va {u v:List Nat} {j x:Nat} {y:List Nat×Nat} (h:SE u v j x y) (h0:y.2=0):lv bs y.1+bs^j*(x*lv bs v)=lv bs u:=by
 have:=h.val
 rw[h0,Nat.mul_zero] at this
 exact this
theorem Tz {u v:List Nat} {j x:Nat} {y:List Nat×Nat} (hu: ∀a∈u,a<bs) (h:SE u v j x y) (h0:0<y.2) (hU:lv bs u<bs^(j+(v.length+1))):lv bs u/bs^j/lv bs v<x:=by
 obtain⟨m,hm⟩: ∃m,m=j+(v.length+1):=⟨_,rfl⟩
 have hval:=h.val
 have hdrop:=h.drop
 rw[←hm] at hval hdrop hU
 have e1:lv bs y.1=lv bs (y.1.take m)+bs^(y.1.take m).length*lv bs (y.1.drop m):=by rw[←E9,List.take_append_drop]
 have e2:lv bs u=lv bs (u.take m)+bs^(u.take m).length*lv bs (u.drop m):=by rw[←E9,List.take_append_drop]
 have el:(y.1.take m).length=(u.take m).length:=by rw[List.length_take,List.length_take,h.len]
 rw[hdrop,el] at e1
 have hy:=EG bs2 (l:=y.1.take m) fun a ha=>h.lt a (List.mem_of_mem_take ha)
 have hlm:bs^(y.1.take m).length≤bs^m:=Nat.pow_le_pow_right (by decide) (by rw[List.length_take];omega)
 have hc:bs^m*1≤bs^m*y.2:=Nat.mul_le_mul_left _ h0
 refine QU (Nat.div_lt_of_lt_mul ?_)
 obtain⟨A,hA⟩: ∃A,bs^(u.take m).length*lv bs (u.drop m)=A:=⟨_,rfl⟩
 have e3:lv bs (u.take m)=lv bs u:=by rw[Ob bs2 hu,Nat.mod_eq_of_lt hU]
 rw[hA] at e1 e2
 omega
theorem Qt (W:World) (g cap cap2 j x:Nat) (junk:List Value) (q:Option Addr) (u v:List Nat) (hg:W.heap[g]? =some (.cells (nI u++junk).toArray 3 (0,0))) (hB:A4 W q v) (hne: ∀b off,q=some ⟨b,off,none⟩→b≠g)
  (hub: ∀a∈u,a<bs) (hvb: ∀a∈v,a<bs) (hju:j+v.length<u.length) (hl:u.length≤1000000) (hx:x≤2100000000):
  Calls Tryz.prog 276 #[slv (some ⟨g,0,none⟩) u.length cap,slv q v.length cap2, .int .i64 (j:Nat), .int .i64 (x:Nat)] W fun e W'=> ∃y:List Nat×Nat,e= .returned ((fun y:List Nat×Nat=> .bool (decide ((y.2:Int)>0))) y)∧SE u v j x y∧HE W W' g ((fun _=>g) y) ((fun y:List Nat×Nat=> .cells (nI y.1++junk).toArray 3 (0,0)) y):=by
 have key:Calls Tryz.prog 276 [slv (some ⟨g,0,none⟩) u.length cap,slv q v.length cap2, .int .i64 (j:Nat), .int .i64 (x:Nat)].toArray W fun e W'=> ∃y:List Nat×Nat,e= .returned ((fun y:List Nat×Nat=> .bool (decide ((y.2:Int)>0))) y)∧SE u v j x y∧Below (AZ W).heap.size (AZ W) W'∧Ae (AZ W) W' ((fun y:List Nat×Nat=>[AU (A3 W g),⟨g,3,nI y.1++junk,true,none⟩]) y):=by
  refine BM (X:=List Nat×Nat) (val:=fun y=> .bool (decide ((y.2:Int)>0))) (Φ:=SE u v j x) (nb:=fun y=>[AU (A3 W g),⟨g,3,nI y.1++junk,true,none⟩]) (Hp.enterT (B:=⟨g,3,nI u++junk,true,none⟩) rfl hg) Tryz.func276 rfl rfl rfl ?_
  obtain⟨n,hn⟩: ∃n,v.length=n:=⟨_,rfl⟩
  rw[hn] at hju⊢
  have hVn:lv bs v<bs^(n+1):=by
   have h1:=EG bs2 hvb
   rw[hn] at h1
   exact Nat.lt_of_lt_of_le h1 (Nat.pow_le_pow_right (by decide) (by omega))
  refine zA (zB (wP rfl (Aa (zE (zA (zB (wP rfl (Aa (zE (zA (zA (zB (wP rfl (wP rfl (wP rfl ?_)))))))))))))))
  refine Ab 14 (.int .i64 ((n+1:Nat):Int)) rfl (congrArg (Value.int .i64) (A5 (by omega))) ?_
  refine wP rfl (Aa (zE (zH ?_)))
  refine Av (X:=Nat×List Nat×Nat) (fun y=>[(0,slv (some ⟨g,0,none⟩) u.length cap),(1,slv q n cap2),(2, .int .i64 (j:Nat)),(3, .int .i64 (x:Nat)),(9, .int .i64 (y.2.2:Nat)),(14, .int .i64 ((n+1:Nat):Int)),(15, .int .i64 (y.1:Nat))]) (fun y=>[AU (A3 W g),⟨g,3,nI y.2.1++junk,true,none⟩])
   (fun y=>y.1≤n+1∧y.2.1.length=u.length∧(∀a∈y.2.1,a<bs)∧y.2.2≤3000000000∧lv bs y.2.1+bs^j*(x*(lv bs v%bs^y.1))=lv bs u+bs^(j+y.1)*y.2.2∧y.2.1.drop (j+(n+1))=u.drop (j+(n+1))) (fun y=>n+1-y.1) (0,u,0) ⟨Nat.zero_le _,rfl,hub,Nat.zero_le _,by show lv bs u+bs^j*(x*(lv bs v%bs^0))=lv bs u+bs^(j+0)*0;rw[Nat.pow_zero,Nat.mod_one];simp,rfl⟩ ⟨rfl,rfl,rfl,rfl,rfl,rfl,rfl,trivial⟩ [] rfl ?_
  rintro⟨i,l,c⟩ ⟨hi,hll,hlb,hcb,hval,hdr⟩
  have hi:i≤n+1:=hi
  have hll:l.length=u.length:=hll
  have hcb:c≤3000000000:=hcb
  refine zA (zB (wP rfl (Aa (zE (zA ?_)))))
  refine Ak rfl (fun hc=> ?_) (fun hc=> ?_)
  ·have hi':i<n+1:=by simp at hc;omega
   clear hc
   have hji:j+i<l.length:=by omega
   obtain⟨o,ho⟩: ∃o,lim l (j+i)=o:=⟨_,rfl⟩
   obtain⟨y,hy⟩: ∃y,lim v i=y:=⟨_,rfl⟩
   have hob:o<1000000000:=by rw[←ho];exact Bb bs2 hlb _
   have hyb:y<1000000000:=by rw[←hy];exact Bb bs2 hvb _
   have hlo:l[j+i]? =some o:=by rw[De hji,ho]
   have hyy:y=lv bs v/bs^i%bs:=by rw[←hy];exact Ci bs2 i hvb
   have hxy:x*y≤2100000000*999999999:=Nat.mul_le_mul hx (by omega)
   have exy:(x:Int)*y=((x*y:Nat):Int):=(Int.natCast_mul x y).symm
   obtain⟨xy,hxyv⟩: ∃t,x*y=t:=⟨_,rfl⟩
   rw[hxyv] at hxy exy
   refine zI (zE (zA (zH (zA (zB (wP rfl (wP rfl (Aa (zE (zA ?_))))))))))
   refine zT Tryz.mixed (by kernel_rfl) ?_
   refine qP rfl (qP rfl (qP rfl (qP rfl ?_)))
   refine A6 21 (.int .i64 ((j+i:Nat):Int)) rfl (congrArg (Value.int .i64) (AQ (by omega))) ?_
   refine qJ ?_
   refine Ap rfl rfl rfl rfl (fun W hp=>Ag.load 0 tH rfl ((fun W' hp=>Ag.of_intsX hp 1 rfl hji ho) W hp) rfl) ?_
   iterate 5 refine qP rfl ?_
   refine A9 rfl rfl rfl rfl rfl rfl (by kernel_rfl) (fun W' hp=>Hc W' q cap2 n v i y (hB.others hne hp) hn (by omega) hy) ?_
   refine qP rfl (qP rfl ?_)
   refine A6 31 (.int .i64 ((o:Int)-c-xy)) rfl (congrArg (Value.int .i64) (by show w64 (w64 ((o:Int)-c)-w64 ((x:Int)*y))=_;rw[exy,BP (by omega),An (x:=(o:Int)-c) (by omega) (by omega),An (by omega) (by omega)])) ?_
   refine qP rfl (AE (Aa (zE (zA (zB (wP rfl (Aa (zE (zA (zA (zB (wP rfl (wP rfl ?_)))))))))))))
   refine Aa (zE ?_)
   refine AK (X:=Nat×Nat) (fun z=>[(0,slv (some ⟨g,0,none⟩) u.length cap),(1,slv q n cap2),(2, .int .i64 (j:Nat)),(3, .int .i64 (x:Nat)),(9, .int .i64 (z.1:Nat)),(10, .int .i64 (i:Nat)),(11, .int .i64 ((o:Int)-c-xy)),(14, .int .i64 ((n+1:Nat):Int)),(15, .int .i64 (i:Nat))]) (fun _=>[AU (A3 W g),⟨g,3,nI l++junk,true,none⟩])
    (fun z=>z.2<1000000000∧z.2+c+xy=o+1000000000*z.1∧z.1≤3000000000) ?_ ?_
   ·refine Ak rfl (fun hc=> ?_) (fun hc=> ?_)
    ·have hc':o<c+xy:=by
      have h':decide ((o:Int)-c-xy<0)=true:=hc
      rw[decide_eq_true_iff] at h';omega
     obtain⟨dd,hdd⟩: ∃t,c+xy-o=t:=⟨_,rfl⟩
     refine zB (wP rfl (wP rfl (wP rfl (wP rfl ?_))))
     refine Ab 37 (.int .i64 ((dd+999999999:Nat):Int)) rfl (congrArg (Value.int .i64) (by
      show w64 (w64 (w64 (0-((o:Int)-c-xy))+1000000000)-1)=_
      rw[An (x:=0-((o:Int)-c-xy)) (by omega) (by omega),An (x:=0-((o:Int)-c-xy)+1000000000) (by omega) (by omega),An (by omega) (by omega)]
      omega)) ?_
     refine EK rfl rfl rfl rfl rfl (by decide) ?_
     refine Ab 38 (.int .i64 (((dd+999999999)/1000000000:Nat):Int)) rfl (congrArg (Value.int .i64) (by show w64 (((dd+999999999:Nat):Int).tdiv ((1000000000:Nat):Int))=_;rw[EV];exact BP (by omega))) ?_
     refine wP rfl (Aa ?_)
     exact At ((dd+999999999)/1000000000,(dd+999999999)/1000000000*1000000000-dd) ⟨by show(dd+999999999)/1000000000*1000000000-dd<_;omega,by show(dd+999999999)/1000000000*1000000000-dd+c+xy=o+1000000000*((dd+999999999)/1000000000);omega,by show(dd+999999999)/1000000000≤_;omega⟩ ⟨rfl,rfl,rfl,rfl,rfl,rfl,rfl,rfl,rfl,trivial⟩ [] rfl
    ·have hc':c+xy≤o:=by
      have h':decide ((o:Int)-c-xy<0)=false:=hc
      rw[decide_eq_false_iff_not] at h';omega
     refine zI ?_
     exact At (0,o-c-xy) ⟨by show o-c-xy<_;omega,by show o-c-xy+c+xy=o+1000000000*0;omega,Nat.zero_le _⟩ ⟨rfl,rfl,rfl,rfl,rfl,rfl,rfl,rfl,rfl,trivial⟩ [] rfl
   ·rintro⟨c',nn⟩ ⟨hn1,hn2,hn3⟩
    have hn1:nn<1000000000:=hn1
    have hn2:nn+c+xy=o+1000000000*c':=hn2
    have hn3:c'≤3000000000:=hn3
    have hstep:=Sz (B:=bs) (n:=nn) (c':=c') hlo hval (by rw[←hyy,hxyv];exact hn2)
    refine zB (wP rfl (wP rfl (wP rfl (wP rfl ?_))))
    refine Ab 42 (.int .i64 ((j+i:Nat):Int)) rfl (congrArg (Value.int .i64) (AQ (by omega))) ?_
    refine wP rfl (wP rfl (wP rfl (wP rfl ?_)))
    refine Ab 46 (.int .i64 (nn:Nat)) rfl (congrArg (Value.int .i64) (by
     show w64 (((o:Int)-c-xy)+w64 ((c':Int)*((1000000000:Nat):Int)))=_
     rw[Cc (by omega),An (by omega) (by omega)]
     omega)) ?_
    refine wJ ?_
    refine Ay 1 (nI (l.set (j+i) nn)++junk) tH rfl rfl rfl rfl rfl rfl rfl rfl rfl rfl (by show 0+(j+i)*1+1≤(nI l++junk).length;rw[List.length_append,BD];omega) (Cp hji nn) ?_
    refine Aa (zN (zE (zB (wP rfl (wP rfl (Aa ?_))))))
    exact As (i+1,l.set (j+i) nn,c') ⟨hi',by rw[List.length_set];exact hll,CA hlb hn1,hn3,hstep,by rw[List.drop_set_of_lt (by omega)];exact hdr⟩ (by show n+1-(i+1)<n+1-i;omega) ⟨rfl,rfl,rfl,rfl,rfl,rfl,congrArg (fun z=>some (Value.int .i64 z)) (A5 (by omega)),trivial⟩ [] rfl
  ·have hi':i=n+1:=by simp at hc;omega
   subst hi'
   have hval:lv bs l+bs^j*(x*(lv bs v%bs^(n+1)))=lv bs u+bs^(j+(n+1))*c:=hval
   rw[Nat.mod_eq_of_lt hVn] at hval
   refine zJ (zK (zK (zL (zE (zA (zB (wP rfl (wP rfl (wP rfl (Aa (zE (zO ?_))))))))))))
   refine Af tH rfl (.tmp rfl) (l,c) rfl ⟨hll,hlb,by rw[hn];exact hval,by rw[hn];exact hdr⟩ fun W1 hp=> ?_
   exact(hp.pick (l:=[AU (A3 W g),⟨g,3,nI l++junk,true,none⟩]) [0,1] (by decide) rfl).own
 refine key.mono ?_
 rintro e W' ⟨y,he,hy,hb,hn'⟩
 exact⟨y,he,hy,El hg rfl hb hn'⟩
theorem Mz (W:World) (g cap cap2 j x:Nat) (junk:List Value) (q:Option Addr) (u v:List Nat) (hg:W.heap[g]? =some (.cells (nI u++junk).toArray 3 (0,0))) (hB:A4 W q v) (hne: ∀b off,q=some ⟨b,off,none⟩→b≠g)
  (hub: ∀a∈u,a<bs) (hvb: ∀a∈v,a<bs) (hju:j+v.length<u.length) (hl:u.length≤1000000) (hx:x≤2100000000):
  Calls Tryz.prog 277 #[slv (some ⟨g,0,none⟩) u.length cap,slv q v.length cap2, .int .i64 (j:Nat), .int .i64 (x:Nat)] W fun e W'=> ∃y:List Nat×Nat,e= .returned ((fun _:List Nat×Nat=>slv (some ⟨g,0,none⟩) u.length cap) y)∧Vn u v j x y∧HE W W' g ((fun _=>g) y) ((fun y:List Nat×Nat=> .cells (nI y.1++junk).toArray 3 (0,0)) y):=by
 have key:Calls Tryz.prog 277 [slv (some ⟨g,0,none⟩) u.length cap,slv q v.length cap2, .int .i64 (j:Nat), .int .i64 (x:Nat)].toArray W fun e W'=> ∃y:List Nat×Nat,e= .returned ((fun _:List Nat×Nat=>slv (some ⟨g,0,none⟩) u.length cap) y)∧Vn u v j x y∧Below (AZ W).heap.size (AZ W) W'∧Ae (AZ W) W' ((fun y:List Nat×Nat=>[AU (A3 W g),⟨g,3,nI y.1++junk,true,none⟩]) y):=by
  refine BM (X:=List Nat×Nat) (val:=fun _=>slv (some ⟨g,0,none⟩) u.length cap) (Φ:=Vn u v j x) (nb:=fun y=>[AU (A3 W g),⟨g,3,nI y.1++junk,true,none⟩]) (Hp.enterT (B:=⟨g,3,nI u++junk,true,none⟩) rfl hg) Tryz.func277 rfl rfl rfl ?_
  obtain⟨n,hn⟩: ∃n,v.length=n:=⟨_,rfl⟩
  rw[hn] at hju⊢
  have hVn:lv bs v<bs^(n+1):=by
   have h1:=EG bs2 hvb
   rw[hn] at h1
   exact Nat.lt_of_lt_of_le h1 (Nat.pow_le_pow_right (by decide) (by omega))
  refine zA (zB (wP rfl (Aa (zE (zA (zB (wP rfl (Aa (zE (zA (zA (zB (wP rfl (wP rfl (wP rfl ?_)))))))))))))))
  refine Ab 14 (.int .i64 ((n+1:Nat):Int)) rfl (congrArg (Value.int .i64) (A5 (by omega))) ?_
  refine wP rfl (Aa (zE (zH ?_)))
  refine Av (X:=Nat×List Nat×Nat) (fun y=>[(0,slv (some ⟨g,0,none⟩) u.length cap),(1,slv q n cap2),(2, .int .i64 (j:Nat)),(3, .int .i64 (x:Nat)),(9, .int .i64 (y.2.2:Nat)),(14, .int .i64 ((n+1:Nat):Int)),(15, .int .i64 (y.1:Nat))]) (fun y=>[AU (A3 W g),⟨g,3,nI y.2.1++junk,true,none⟩])
   (fun y=>y.1≤n+1∧y.2.1.length=u.length∧(∀a∈y.2.1,a<bs)∧y.2.2≤3000000000∧lv bs y.2.1+bs^(j+y.1)*y.2.2=lv bs u+bs^j*(x*(lv bs v%bs^y.1))∧y.2.1.drop (j+(n+1))=u.drop (j+(n+1))) (fun y=>n+1-y.1) (0,u,0) ⟨Nat.zero_le _,rfl,hub,Nat.zero_le _,by show lv bs u+bs^(j+0)*0=lv bs u+bs^j*(x*(lv bs v%bs^0));rw[Nat.pow_zero,Nat.mod_one];simp,rfl⟩ ⟨rfl,rfl,rfl,rfl,rfl,rfl,rfl,trivial⟩ [] rfl ?_
  rintro⟨i,l,c⟩ ⟨hi,hll,hlb,hcb,hval,hdr⟩
  have hi:i≤n+1:=hi
  have hll:l.length=u.length:=hll
  have hcb:c≤3000000000:=hcb
  refine zA (zB (wP rfl (Aa (zE (zA ?_)))))
  refine Ak rfl (fun hc=> ?_) (fun hc=> ?_)
  ·have hi':i<n+1:=by simp at hc;omega
   clear hc
   have hji:j+i<l.length:=by omega
   obtain⟨o,ho⟩: ∃o,lim l (j+i)=o:=⟨_,rfl⟩
   obtain⟨y,hy⟩: ∃y,lim v i=y:=⟨_,rfl⟩
   have hob:o<1000000000:=by rw[←ho];exact Bb bs2 hlb _
   have hyb:y<1000000000:=by rw[←hy];exact Bb bs2 hvb _
   have hlo:l[j+i]? =some o:=by rw[De hji,ho]
   have hyy:y=lv bs v/bs^i%bs:=by rw[←hy];exact Ci bs2 i hvb
   have hxy:x*y≤2100000000*999999999:=Nat.mul_le_mul hx (by omega)
   obtain⟨nn,hnn⟩: ∃t,t=o+x*y+c:=⟨_,rfl⟩
   have hstep:=Ib (B:=bs) (n:=nn) hlo hval (by rw[←hyy];exact hnn)
   have hn3:nn/1000000000≤3000000000:=by omega
   refine zI (zE (zA (zH (zA (zB (wP rfl (wP rfl (Aa (zE (zA ?_))))))))))
   refine zT Tryz.mixed (by kernel_rfl) ?_
   refine qP rfl (qP rfl (qP rfl (qP rfl ?_)))
   refine A6 21 (.int .i64 ((j+i:Nat):Int)) rfl (congrArg (Value.int .i64) (AQ (by omega))) ?_
   refine qJ ?_
   refine Ap rfl rfl rfl rfl (fun W hp=>Ag.load 0 tH rfl ((fun W' hp=>Ag.of_intsX hp 1 rfl hji ho) W hp) rfl) ?_
   refine qP rfl (qP rfl (qP rfl ?_))
   refine A9 rfl rfl rfl rfl rfl rfl (by kernel_rfl) (fun W' hp=>Hc W' q cap2 n v i y (hB.others hne hp) hn (by omega) hy) ?_
   refine qP rfl (qP rfl (qP rfl (qP rfl ?_)))
   refine A6 31 (.int .i64 (nn:Nat)) rfl (congrArg (Value.int .i64) (by show w64 (w64 ((o:Int)+w64 ((x:Int)*y))+c)=_;rw[Cc (by omega),AQ (by omega),AQ (by omega),hnn])) ?_
   refine qP rfl (AE (Aa (zE (zB (wP rfl (wP rfl (wP rfl (wP rfl ?_))))))))
   refine Ab 35 (.int .i64 ((j+i:Nat):Int)) rfl (congrArg (Value.int .i64) (AQ (by omega))) ?_
   refine wP rfl ?_
   refine F4 rfl rfl rfl rfl rfl (by decide) ?_
   refine wP rfl ?_
   refine EK rfl rfl rfl rfl rfl (by decide) ?_
   refine Ab 39 (.int .i64 ((nn/bs:Nat):Int)) rfl (congrArg (Value.int .i64) (by show w64 ((nn:Int).tdiv ((bs:Nat):Int))=_;rw[EV];exact BP (Nat.lt_of_le_of_lt hn3 (by decide)))) ?_
   refine wJ ?_
   refine Ay 1 (nI (l.set (j+i) (nn%bs))++junk) tH rfl rfl rfl rfl rfl rfl rfl rfl rfl rfl (by show 0+(j+i)*1+1≤(nI l++junk).length;rw[List.length_append,BD];omega) (Cp hji (nn%bs)) ?_
   refine wP rfl (Aa (zN (zE (zB (wP rfl (wP rfl (Aa ?_)))))))
   exact As (i+1,l.set (j+i) (nn%bs),nn/bs) ⟨hi',by rw[List.length_set];exact hll,CA hlb (Nat.mod_lt _ (by decide)),hn3,hstep,by rw[List.drop_set_of_lt (by omega)];exact hdr⟩ (by show n+1-(i+1)<n+1-i;omega) ⟨rfl,rfl,rfl,rfl,rfl,rfl,congrArg (fun z=>some (Value.int .i64 z)) (A5 (by omega)),trivial⟩ [] rfl
  ·have hi':i=n+1:=by simp at hc;omega
   subst hi'
   have hval:lv bs l+bs^(j+(n+1))*c=lv bs u+bs^j*(x*(lv bs v%bs^(n+1))):=hval
   rw[Nat.mod_eq_of_lt hVn] at hval
   refine zJ (zK (zK (zL (zE (zA (zB (wP rfl (wP rfl (Aa (zE (zO ?_)))))))))))
   refine Af tH rfl (.tmp rfl) (l,c) rfl ⟨hll,hlb,by rw[hn];exact hval,by rw[hn];exact hdr⟩ fun W1 hp=> ?_
   exact(hp.pick (l:=[AU (A3 W g),⟨g,3,nI l++junk,true,none⟩]) [0,1] (by decide) rfl).own
 refine key.mono ?_
 rintro e W' ⟨y,he,hy,hb,hn'⟩
 exact⟨y,he,hy,El hg rfl hb hn'⟩
-- BOXES 9
theorem Vr {f:Nat} (h0:0<f) (h1:f<bs):lbs bs f=[f]:=by
 rw[Ga bs2 (by omega),Nat.mod_eq_of_lt h1,Nat.div_eq_of_lt h1,Bc]
theorem Is {a b:Nat} (h:a≤b):(lbs bs a).length≤(lbs bs b).length:=(BN bs2).2 (Nat.lt_of_le_of_lt h (AL bs2 b))
theorem Tf {t f:Nat} (ht:2≤t) (hf:1≤f) (h:1000000000<f*t+t):499999999≤(t-1)*f:=by
 obtain⟨t',rfl⟩: ∃t',t=t'+2:=⟨t-2,by omega⟩
 obtain⟨f',rfl⟩: ∃f',f=f'+1:=⟨f-1,by omega⟩
 rw[show t'+2-1=t'+1 by omega]
 have e1:(f'+1)*(t'+2)=f'*t'+2*f'+t'+2:=by grind
 have e2:(t'+1)*(f'+1)=f'*t'+f'+t'+1:=by grind
 rw[e1] at h
 rw[e2]
 omega
theorem VE {b n f:Nat} (hn:(lbs bs b).length=n) (hn1:1≤n) (hf:f=bs/(lim (lbs bs b) (n-1)+1)):1≤f∧f<bs∧(lbs bs (b*f)).length=n∧499999999≤b*f/bs^(n-1):=by
 have hb0:b≠0:=fun e=>by rw[e,Bc] at hn;simp at hn;omega
 have h1:=NC bs2 hb0
 have h2:=AL bs2 b
 rw[hn] at h1 h2
 have hlt:b/bs^(n-1)<bs:=Nat.div_lt_of_lt_mul (by rw[←Nat.pow_succ,show(n-1).succ=n by omega];exact h2)
 rw[Bd bs2,Nat.mod_eq_of_lt hlt] at hf
 obtain⟨m,hm⟩: ∃m,bs^(n-1)=m:=⟨_,rfl⟩
 have hm0:0<m:=by rw[←hm];exact Nat.pow_pos (by decide)
 rw[hm] at h1 hlt hf
 obtain⟨t,ht⟩: ∃t,b/m=t:=⟨_,rfl⟩
 rw[ht] at hlt hf
 have ht1:1≤t:=by rw[←ht];exact Nat.div_pos h1 hm0
 have hbt:b<(t+1)*m:=by rw[←ht];exact Nat.lt_mul_of_div_lt (Nat.lt_succ_self _) hm0
 have hbt2:t*m≤b:=by rw[←ht];exact Nat.div_mul_le_self ..
 have hft:f*(t+1)≤bs:=by rw[hf];exact Nat.div_mul_le_self ..
 have hf1:1≤f:=by rw[hf];exact Nat.div_pos (by omega) (by omega)
 have hfb:f<bs:=by
  have:f*2≤f*(t+1):=Nat.mul_le_mul_left _ (by omega)
  omega
 have hpn:bs^n=bs*m:=by rw[←hm,Nat.mul_comm, ←Nat.pow_succ,show(n-1).succ=n by omega]
 have hu:b*f<bs^n:=by
  have h3:b*f<(t+1)*m*f:=Nat.mul_lt_mul_of_pos_right hbt (by omega)
  have h4:(t+1)*m*f=f*(t+1)*m:=by grind
  have h5:=Nat.mul_le_mul_right m hft
  rw[hpn];omega
 refine⟨hf1,hfb, ?_, ?_⟩
 ·have h3:=(BN bs2).2 hu
  have h4:=Is (Nat.le_mul_of_pos_right b hf1)
  omega
 ·rw[hm,Nat.le_div_iff_mul_le hm0]
  have h3:=Nat.lt_succ_of_le (Nat.le_refl (bs/(t+1)))
  have h4:bs<(f+1)*(t+1):=by rw[hf];exact Nat.lt_mul_of_div_lt h3 (by omega)
  have h5:=Tf (t:=t+1) (f:=f) (by omega) hf1 (by
   have:(f+1)*(t+1)=f*(t+1)+(t+1):=by rw[Nat.add_mul,Nat.one_mul]
   have h9:bs=1000000000:=rfl
   omega)
  rw[Nat.add_sub_cancel] at h5
  have h6:t*m*f≤b*f:=Nat.mul_le_mul_right _ hbt2
  have h7:=Nat.mul_le_mul_right m h5
  have h8:t*f*m=t*m*f:=by grind
  omega
theorem W8 {a b f Q R:Nat} (hf:0<f) (h:a*f=Q*(b*f)+R) (hR:R<b*f):a/b=Q∧R/f=a%b:=by
 have h1:Q*b*f≤a*f:=by rw[h,Nat.mul_assoc];omega
 have h2:Q*b≤a:=Nat.le_of_mul_le_mul_right h1 hf
 obtain⟨r,rfl⟩: ∃r,a=Q*b+r:=⟨a-Q*b,by omega⟩
 have h3:R=r*f:=by
  rw[Nat.add_mul,Nat.mul_assoc] at h
  omega
 subst h3
 have h4:r<b:=Nat.lt_of_mul_lt_mul_right hR
 rw[Nat.mul_div_cancel _ hf]
 have e:Q*b+r=b*Q+r:=by rw[Nat.mul_comm]
 rw[e]
 exact⟨by rw[Nat.mul_add_div (by omega),Nat.div_eq_of_lt h4,Nat.add_zero],by rw[Nat.mul_add_mod,Nat.mod_eq_of_lt h4]⟩
theorem T2 {U V L L' Q x j:Nat} (h:U=Q*V*bs^(j+1)+L) (hx:L/bs^j/V≤x) (hV:0<V) (hL:L'+bs^j*(x*V)=L):U=(bs*Q+x)*V*bs^j+L'∧L'<V*bs^j:=by
 have hp:0<bs^j:=Nat.pow_pos (by decide)
 constructor
 ·rw[h, ←hL,Nat.pow_succ];grind
 ·have h1:L/bs^j<(x+1)*V:=Nat.lt_mul_of_div_lt (Nat.lt_succ_of_le hx) hV
  have h2:L<(x+1)*V*bs^j:=Nat.lt_mul_of_div_lt h1 hp
  have h3:(x+1)*V*bs^j=bs^j*(x*V)+V*bs^j:=by grind
  omega
theorem TL {V L L' x j:Nat} (hL:L'+bs^j*(x*V)=L) (h:L<V*bs^(j+1)):x<bs:=by
 rcases Nat.lt_or_ge x bs with h1|h1
 ·exact h1
 ·have h2:bs^j*(bs*V)≤bs^j*(x*V):=Nat.mul_le_mul_left _ (Nat.mul_le_mul_right _ h1)
  have h3:V*bs^(j+1)=bs^j*(bs*V):=by rw[Nat.pow_succ];grind
  omega
theorem IK (W:World) (p q:Option Addr) (cap a f:Nat) (hA:A4 W p (lbs bs a)) (hF:A4 W q [f]) (hna:(lbs bs a).length≤1000000) (h0:0<f) (h1:f<bs):
  Aj Tryz.prog 238 #[slv p (lbs bs a).length cap,slv q 1 1] W (fun x:NV=>BG x (lbs bs (a*f)).length) (fun x=>Ce x (lbs bs (a*f))) (fun x=>[BH x (lbs bs (a*f))]):=by
 have e:=Vr h0 h1
 have:=Kf W p q cap 1 a f hA (by rw[e];exact hF) hna (by rw[e];show 1≤1000000;decide)
 rwa [e] at this
structure Sx (b:Nat) (p:Option Addr) (cap n k:Nat) (W:World):Prop where
 var:Ag W b 0 [slv p n cap]
 int: ∀b2 off,p=some ⟨b2,off,none⟩→k<n→Ag W b2 (off+(n-1-k)*1) [.int .i64 0]
theorem Ls (b b2 off:Nat) (cap n:Nat) (hn:n<4611686018427387904):
  Pw Tryz.prog 306 [.pointer (some ⟨b,0,none⟩)] n (fun k=>[.int .i64 ((n-1-k:Nat):Int), .int .i64 0]) (Sx b (some ⟨b2,off,none⟩) cap n):=by
 refine⟨fun y J Jx hNeed hdr hY W hJ=> ?_⟩
 refine DV (args:=[.func (.yield y) #[] #[], .pointer (some ⟨b,0,none⟩)]) (J0:=J 0) Tryz.func306 rfl rfl rfl hJ ?_
 refine zA (zB ?_)
 refine Aw rfl rfl rfl rfl (fun W hp=>Ag.load 0 tH rfl ((fun W hp=>(hNeed 0 W hp).var) W hp) rfl) ?_
 refine wP rfl (wP rfl ?_)
 refine Ab 6 (.int .i64 ((n:Int)-1-(0:Nat))) rfl (congrArg (Value.int .i64) (by show w64 ((n:Int)-1)=_;rw[An (by omega) (by omega)];omega)) ?_
 refine wP rfl (Aa (zE (zH ?_)))
 refine DG (X:=Nat) (fun k=>[(0, .func (.yield y) #[] #[]),(1, .pointer (some ⟨b,0,none⟩)),(3, .int .i64 ((n:Int)-1-(k:Nat)))]) J (fun k=>k≤n) (fun k=>n-k) 0 (Nat.zero_le _) ⟨rfl,rfl,rfl,trivial⟩ (fun W h=>h) ?_
 intro k hk
 refine zA (zA (zB (wP rfl (wP rfl (Aa (zE ?_))))))
 refine Ak rfl (fun hc=> ?_) (fun hc=> ?_)
 ·have hk':k<n:=by simp at hc;omega
  clear hc
  have e1:(n:Int)-1-(k:Nat)=((n-1-k:Nat):Int):=by omega
  refine zI (zE (zA (zH (zA (zB (wP rfl (wP rfl ?_)))))))
  refine Ab 12 (.int .i64 ((n-1-k:Nat):Int)) rfl (congrArg (Value.int .i64) e1) ?_
  refine Aw rfl rfl rfl rfl (fun W hp=>Ag.load 0 tH rfl ((fun W hp=>(hNeed k W hp).var) W hp) rfl) ?_
  refine wP rfl ?_
  refine Ab 14 (.int .i64 ((n-1-k:Nat):Int)) rfl (congrArg (Value.int .i64) e1) ?_
  refine wJ ?_
  refine Aw rfl rfl rfl rfl (fun W hp=>Ag.load 0 tH rfl ((fun W hp=>(hNeed k W hp).int b2 off rfl hk') W hp) rfl) ?_
  refine Dj (A1:=J (k+1)) (A2:=Jx) rfl rfl rfl rfl rfl rfl (fun W hp=>hY k W hk' hp) ?_ ?_
  ·refine wP rfl (Aa (zE (zS rfl (zI (zN (zE (zB (wP rfl (wP rfl (wP rfl (Aa ?_)))))))))))
   exact Dl (k+1) hk' (by omega) ⟨rfl,rfl,congrArg (fun z=>some (Value.int .i64 z)) (by show w64 ((n:Int)-1-(k:Nat)-1)=_;rw[An (by omega) (by omega)];omega),trivial⟩ (fun W h=>h)
  ·refine wP rfl (Aa (zE (zR rfl (zO (zQ (zP (zP (zQ ?_))))))))
   exact BZ rfl (fun W h=>h)
 ·have hk':k=n:=by simp at hc;omega
  subst hk'
  refine zJ (zK (zK (zL ?_)))
  exact Gw rfl fun W h=>h
def dvV (p:Option Addr) (cap a b:Nat) (x:Vec×Option NV):Value:= .tuple #[x.1.val (lbs bs (a/b)).length,match x.2 with
 |none=>slv p (lbs bs a).length cap
 |some R=>BG R (lbs bs (a%b)).length]
def XL (a b:Nat) (x:Vec×Option NV):Prop:=x.1.OK 1 (lbs bs (a/b)).length (nI (lbs bs (a/b)))∧match x.2 with
 |none=>a<b
 |some R=>Ce R (lbs bs (a%b))
def dvB (a b:Nat) (x:Vec×Option NV):List Bx:=x.1.bx 3 (nI (lbs bs (a/b)))::match x.2 with
 |none=>[]
 |some R=>[BH R (lbs bs (a%b))]
-- BOXES 9
theorem Wa {l:List Nat} (h: ∀x∈l,x<bs): ∀x∈l++[0],x<bs:=fun x hx=>by
 rcases List.mem_append.1 hx with hx|hx
 ·exact h x hx
 ·rw[List.mem_singleton.1 hx];decide
theorem VP (l:List Nat):lv bs (l++[0])=lv bs l:=by
 rw[E9]
 show lv bs l+bs^l.length*(0+bs*0)=_
 simp
theorem IQ (W:World) (p q:Option Addr) (cap cap2 a b:Nat) (hA:A4 W p (lbs bs a)) (hB:A4 W q (lbs bs b)) (hb:b≠0) (hna:(lbs bs a).length≤100000) (hnb:(lbs bs b).length≤100000):
  Aj Tryz.prog 218 #[slv p (lbs bs a).length cap,slv q (lbs bs b).length cap2] W (dvV p cap a b) (XL a b) (dvB a b):=by
 refine Ad (args:=[slv p (lbs bs a).length cap,slv q (lbs bs b).length cap2]) Tryz.func218 rfl rfl rfl ?_
 refine zA (zB ?_)
 (refine Ao Tryz.hZ rfl rfl rfl rfl ?_;intro)
 refine wP rfl (Aa ?_)
 rename_i b4
 refine zE (zA (zA (zB (wP rfl (wP rfl ?_)))))
 refine Au (X:=Int) rfl rfl rfl rfl rfl rfl (by kernel_rfl) (fun W' hp=>HS W' p q cap cap2 a b (hA.hp hp) (hB.hp hp) (by omega) (by omega)) ?_
 intro c hc
 refine wP rfl (Aa (zE ?_))
 by_cases hab:a<b
 ·refine AT 14 (.bool true) rfl (congrArg Value.bool (decide_eq_true (hc.1.2 hab))) ?_
  refine zR rfl (zA (zB (wP rfl (wS 0 rfl rfl rfl (wP rfl (Aa (zE (zO (zP ?_)))))))))
  refine Ar tH rfl (.cell 0 rfl rfl rfl rfl rfl) (.tmp rfl) (Vec.empty,none) rfl ⟨?_,hab⟩ fun W' hp=> ?_
  ·rw[Nat.div_eq_of_lt hab,Bc];exact Vec.OK.empty 1
  ·exact Own.one (fun p hp=>by cases hp) List.nodup_nil
 have hba:b≤a:=by omega
 refine AT 14 (.bool false) rfl (congrArg Value.bool (decide_eq_false (fun h=>hab (hc.1.1 h)))) ?_
 refine zS rfl (zI (zE (zA (zA (zB (wP rfl (wP rfl (wP rfl (Aa (zE ?_))))))))))
 by_cases hone:(lbs bs b).length=1
 ·refine AT 18 (.bool true) rfl (congrArg Value.bool (by rw[hone];rfl)) ?_
  have hblt:=AL bs2 b
  rw[hone,Nat.pow_one] at hblt
  obtain⟨qb,qo,rfl,hrow⟩:=hB.row (show 0<(lbs bs b).length by omega)
  have hb0:lim (lbs bs b) 0=b:=by rw[Bd bs2,Nat.pow_zero,Nat.div_one,Nat.mod_eq_of_lt hblt]
  have hrb: ∀W' bx,Hp W bx W'→Ag W' qb (qo+0*1) [.int .i64 (b:Nat)]:=fun W' bx hp=>by
   have:=(hrow 0 (by omega)).hp hp
   rwa [hb0] at this
  refine zR rfl (zA (zB (wP rfl (wP rfl ?_))))
  refine wJ ?_
  refine Aw rfl rfl rfl rfl (fun W hp=>Ag.load 0 tH rfl ((fun W' hp=>hrb W' _ hp) W hp) rfl) ?_
  refine Au (X:=NV×NV) rfl rfl rfl rfl rfl rfl (by kernel_rfl) (fun W' hp=>Fl W' p cap a b (hA.hp hp) (by omega) (by omega) hblt) ?_
  rintro⟨V1,V2⟩ ⟨hV1,hV2⟩
  refine wP rfl (wP rfl (wS 0 rfl rfl rfl (wP rfl (Aa (zE (zO (zP ?_)))))))
  refine Ar tH rfl (.cell 0 rfl rfl rfl rfl rfl) (.tmp rfl) (nvV V1,some V2) rfl ⟨hV1,hV2⟩ fun W' hp=> ?_
  exact(hp.pick (l:=[BH V1 (lbs bs (a/b)),BH V2 (lbs bs (a%b))]) [1,2] (by decide) rfl).own
 obtain⟨n,hn⟩: ∃n,(lbs bs b).length=n:=⟨_,rfl⟩
 have hn0:=KJ hb
 rw[hn] at hone hn0
 refine AT 18 (.bool false) rfl (congrArg Value.bool (by rw[hn,beq_eq_false_iff_ne];omega)) ?_
 obtain⟨qb,qo,rfl,hrow⟩:=hB.row (show n-1<(lbs bs b).length by omega)
 obtain⟨f,hf⟩: ∃f,f=bs/(lim (lbs bs b) (n-1)+1):=⟨_,rfl⟩
 obtain⟨hf1,hf2,hvn,hnorm⟩:=VE hn (by omega) hf
 have hbtl:lim (lbs bs b) (n-1)<1000000000:=Bb bs2 (Bh bs2 b) _
 refine zS rfl (zI (zE (zA (zB (wP rfl (wP rfl (wP rfl ?_)))))))
 refine Ab 28 (.int .i64 (n:Nat)) rfl (congrArg (fun n:Nat=>Value.int .i64 (n:Int)) hn) ?_
 refine wP rfl ?_
 refine Ab 29 (.int .i64 ((n-1:Nat):Int)) rfl (congrArg (Value.int .i64) (by show w64 ((n:Int)-1)=_;rw[An (by omega) (by omega)];omega)) ?_
 refine wJ ?_
 refine Aw rfl rfl rfl rfl (fun W hp=>Ag.load 0 tH rfl ((fun W' hp=>(hrow (n-1) (by omega)).hp hp) W hp) rfl) ?_
 refine wP rfl ?_
 refine Ab 32 (.int .i64 ((lim (lbs bs b) (n-1)+1:Nat):Int)) rfl (congrArg (Value.int .i64) (A5 (by omega))) ?_
 refine EK rfl rfl rfl rfl rfl (by omega) ?_
 refine Ab 33 (.int .i64 (f:Nat)) rfl (congrArg (Value.int .i64) (by show w64 (((bs:Nat):Int).tdiv ((lim (lbs bs b) (n-1)+1:Nat):Int))=_;rw[EV, ←hf];exact BP (Nat.lt_trans hf2 (by decide)))) ?_
 refine wP rfl (Aa ?_)
 have hF1:a*f≠0:=Nat.mul_ne_zero (by omega) (by omega)
 have hF2:b*f≠0:=Nat.mul_ne_zero hb (by omega)
 refine zE (zA (zB (wP rfl (wP rfl ?_))))
 refine A0 Tryz.hZ tH rfl rfl rfl rfl rfl rfl rfl rfl rfl rfl rfl fun bF=> ?_
 refine Au (X:=NV) rfl rfl rfl rfl rfl rfl (by kernel_rfl) (fun W' hp=>IK W' p _ cap a f (hA.hp hp) (A4.of_bx (l:=[f]) (junk:=[]) hp 1 rfl) (by omega) hf1 hf2) ?_
 intro V1 hV1
 refine A0 Tryz.hZ tH rfl rfl rfl rfl rfl rfl rfl rfl rfl rfl rfl fun bZ=> ?_
 have hua:(lbs bs a).length≤(lbs bs (a*f)).length:=Is (Nat.le_mul_of_pos_right a hf1)
 have hua2:(lbs bs (a*f)).length≤(lbs bs a).length+1:=(BN bs2).2 (by
  rw[Nat.pow_succ]
  have h1:=AL bs2 a
  exact Nat.mul_lt_mul'' h1 hf2)
 obtain⟨M,hM⟩: ∃M,(lbs bs (a*f)).length=M:=⟨_,rfl⟩
 rw[hM] at hua hua2
 refine AP (V:=nvV V1) (len:=(lbs bs (a*f)).length) (xs:=nI (lbs bs (a*f))) 2 3 Tryz.vec58 (M+1) (nI (lbs bs (a*f)++[0])) rfl rfl rfl rfl rfl rfl rfl rfl rfl rfl rfl hV1 rfl rfl (by rw[hM]) (Ic (lbs bs (a*f)) [0]).symm (by simp only[maxLen];omega) (by omega) rfl ?_
 intro gu cu ju hVu
 refine wP rfl (wP rfl ?_)
 refine A0 Tryz.hZ tH rfl rfl rfl rfl rfl rfl rfl rfl rfl rfl rfl fun bG=> ?_
 refine Au (X:=NV) rfl rfl rfl rfl rfl rfl (by kernel_rfl) (fun W' hp=>IK W' (some ⟨qb,qo,none⟩) _ cap2 b f (hB.hp hp) (A4.of_bx (l:=[f]) (junk:=[]) hp 4 rfl) (by omega) hf1 hf2) ?_
 rintro⟨gv,cv,jv⟩ hVv
 (refine Ao Tryz.hZ rfl rfl rfl rfl ?_;intro)
 (refine Ao Tryz.hZ rfl rfl rfl rfl ?_;intro)
 refine wS 6 rfl rfl rfl (wS 7 rfl rfl rfl (Aa ?_))
 rename_i b7 b8
 obtain⟨u0,hu0⟩: ∃l,lbs bs (a*f)++[0]=l:=⟨_,rfl⟩
 obtain⟨v,hv⟩: ∃l,lbs bs (b*f)=l:=⟨_,rfl⟩
 have hul:u0.length=M+1:=by rw[←hu0,List.length_append,hM];rfl
 have hvl:v.length=n:=by rw[←hv];exact hvn
 have hub: ∀x∈u0,x<bs:=by rw[←hu0];exact Wa (Bh bs2 _)
 have hvb: ∀x∈v,x<bs:=by rw[←hv];exact Bh bs2 _
 have huv:lv bs u0=a*f:=by rw[←hu0,VP,Jw bs2]
 have hvv:lv bs v=b*f:=by rw[←hv];exact Jw bs2 _
 have hnM:n≤M:=by
  have:=Is hba
  omega
 have hcv:v.length≤cv:=by have:=(hVv.cap (by simp)).1;rw[hv] at this;exact this
 rw[hu0,hv]
 rw[hu0] at hVu
 refine zE (zA (zH ?_))
 refine Av (X:=Unit) (fun _=>[(0,slv p (lbs bs a).length cap),(4,Ax b4),(6, .int .i64 (f:Nat)),(7,Ax b7),(8,Ax b8)]) (fun _=>[⟨b4,58,[.slice none 0 0],true,none⟩,⟨bF,3,[.int .i64 (f:Nat)],true,none⟩,⟨gu,3,nI u0++ju,true,none⟩,⟨bZ,3,[.int .i64 0],true,none⟩,⟨bG,3,[.int .i64 (f:Nat)],true,none⟩,⟨gv,3,nI v++jv,true,none⟩,⟨b7,58,[slv (some ⟨gu,0,none⟩) (M+1) cu],true,none⟩,⟨b8,58,[slv (some ⟨gv,0,none⟩) v.length cv],true,none⟩])
  (fun _=>True) (fun _=>0) () trivial ⟨rfl,rfl,rfl,rfl,rfl,trivial⟩ [] rfl ?_
 intro _ _
 refine zA (zA (zB (wB 6 rfl rfl rfl (wP rfl (wP rfl (wP rfl (wP rfl ?_)))))))
 refine Ab 48 (.int .i64 (((lbs bs a).length+1:Nat):Int)) rfl (congrArg (Value.int .i64) (A5 (by omega))) ?_
 refine wP rfl (Aa (zE ?_))
 refine AT 49 (.bool false) rfl (congrArg Value.bool (decide_eq_false (by omega))) ?_
 refine zS rfl (zJ (zK (zK (zL (zE (zA (zB ?_)))))))
 obtain⟨K,hK⟩: ∃K,K=M+1-n:=⟨_,rfl⟩
 refine wB 6 rfl rfl rfl (wP rfl (wB 7 rfl rfl rfl (wP rfl (wP rfl ?_))))
 refine Ab 57 (.int .i64 (K:Nat)) rfl (congrArg (Value.int .i64) (by show w64 (((M+1:Nat):Int)-(v.length:Nat))=_;rw[hvl,An (by omega) (by omega)];omega)) ?_
 refine Cm Tryz.vec58 K rfl rfl rfl rfl rfl rfl rfl (by simp only[maxLen];omega) (by omega) ?_
 intro gq
 have ez:By (Value.cells (.int .i64 0)).toList K=nI (List.replicate K 0)++[]:=by rw[List.append_nil];exact EL K
 rw[ez]
 refine wS 0 rfl rfl rfl (Aa (zE (zA (zA (zB (wB 0 rfl rfl rfl ?_))))))
 refine Au (X:=Nat) rfl rfl rfl rfl rfl rfl (by kernel_rfl) (fun W _=>DK _ K K W) ?_
 intro bI _
 refine Aa (zE (zH ?_))
 refine ML (X:=List Nat×List Nat×Nat) (fun x=>[⟨b4,58,[slv (some ⟨gq,0,none⟩) K K],true,none⟩,⟨bF,3,[.int .i64 (f:Nat)],true,none⟩,⟨gu,3,nI x.2.1++ju,true,none⟩,⟨bZ,3,[.int .i64 0],true,none⟩,⟨bG,3,[.int .i64 (f:Nat)],true,none⟩,⟨gv,3,nI v++jv,true,none⟩,⟨b7,58,[slv (some ⟨gu,0,none⟩) (M+1) cu],true,none⟩,⟨b8,58,[slv (some ⟨gv,0,none⟩) v.length cv],true,none⟩,⟨gq,3,nI x.1++[],true,none⟩,⟨bI,58,[slv (some ⟨gq,0,none⟩) K K],true,none⟩])
  (fun k x=>(x.1.length=K∧(∀y∈x.1,y<bs)∧lv bs x.1=bs^(K-k)*x.2.2)∧x.2.1.length=M+1∧(∀y∈x.2.1,y<bs)∧a*f=x.2.2*(b*f)*bs^(K-k)+lv bs x.2.1∧lv bs x.2.1<b*f*bs^(K-k)) (fun _ _=>False) (List.replicate K 0,u0,0) rfl (by kernel_rfl) (Ls bI gq 0 K K (by omega)) (fun _=>rfl)
  ⟨⟨List.length_replicate,GK (by decide) K,by rw[Er];show 0=bs^(K-0)*0;rw[Nat.mul_zero]⟩,hul,hub,by show a*f=0*(b*f)*bs^(K-0)+lv bs u0;rw[huv];omega, ?_⟩ [] rfl ?_ ?_ ?_ (fun _ _ _ _ _ h=>h.elim)
 ·show lv bs u0<b*f*bs^(K-0)
  have h1:=AL bs2 (a*f)
  have h2:=NC bs2 hF2
  rw[hM] at h1
  rw[hvn] at h2
  have h3:bs^(n-1)*bs^K≤b*f*bs^K:=Nat.mul_le_mul_right _ h2
  rw[←Nat.pow_add,show n-1+K=M by omega] at h3
  rw[huv,Nat.sub_zero];omega
 ·rintro k ⟨ql,ul,Q⟩ W' ⟨⟨hql,hqb,hqv⟩,_⟩ hp
  have hql:ql.length=K:=hql
  have hqv:lv bs ql=bs^(K-k)*Q:=hqv
  refine⟨Ag.of_bx hp 9 rfl rfl,fun b2 off e hk=> ?_⟩
  cases e
  refine Ag.of_intsX hp 8 rfl (by omega) ?_
  rw[Ci bs2 _ hqb,hqv,show K-k=K-1-k+1 by omega,Nat.pow_succ,Nat.mul_assoc,Nat.mul_div_cancel_left _ (Nat.pow_pos (by decide)),Nat.mul_mod_right]
 ·rintro k ⟨ql,ul,Q⟩ d Lo rec hk ⟨⟨hql,hqb,hqv⟩,hull,hulb,hU,hUs⟩ hrec
  have hql:ql.length=K:=hql
  have hqv:lv bs ql=bs^(K-k)*Q:=hqv
  have hull:ul.length=M+1:=hull
  have hU:a*f=Q*(b*f)*bs^(K-k)+lv bs ul:=hU
  have hUs:lv bs ul<b*f*bs^(K-k):=hUs
  have hulb: ∀y∈ul,y<bs:=hulb
  have hqb: ∀y∈ql,y<bs:=hqb
  obtain⟨j,hj⟩: ∃j,K-1-k=j:=⟨_,rfl⟩
  have hjK:j<ql.length:=by omega
  rw[show K-k=j+1 by omega] at hqv hU hUs
  have hju:j+v.length<ul.length:=by omega
  have hUm:lv bs ul<bs^(j+(v.length+1)):=by
   have h1:=EG bs2 hvb
   rw[hvv] at h1
   have h2:b*f*bs^(j+1)≤bs^v.length*bs^(j+1):=Nat.mul_le_mul_right _ (by omega)
   rw[←Nat.pow_add,show v.length+(j+1)=j+(v.length+1) by omega] at h2
   omega
  refine zB (wP rfl (Aa ?_))
  refine Ct 11 hrec rfl ?_
  refine AT 9 (.int .i64 (j:Nat)) rfl (by rw[hj]) ?_
  refine zH (zA (zB (wB 6 rfl rfl rfl (wB 7 rfl rfl rfl (wP rfl ?_)))))
  refine Ab 63 (slv (some ⟨gu,0,none⟩) ul.length cu) rfl (by rw[hull]) ?_
  refine Au (X:=Nat) rfl rfl rfl rfl rfl rfl (by kernel_rfl) (fun W' hp=>LU W' _ _ cu cv j ul v (A4.of_bx hp 2 rfl) (A4.of_bx hp 5 rfl) hulb hvb (by omega) hju (by omega) (by rw[hvv];exact hUs) (by rw[hvv,hvl];exact hnorm)) ?_
  rintro x0 ⟨hx0,hx0b⟩
  rw[List.append_nil]
  refine wP rfl (Aa (zE (zA (zH ?_))))
  refine Av (X:=Nat) (fun x=>[(7,Ax b7),(8,Ax b8),(4,Ax b4),(9, .int .i64 (j:Nat)),(10, .int .i64 (x:Nat))]) (fun _=>[⟨b4,58,[slv (some ⟨gq,0,none⟩) K K],true,none⟩,⟨bF,3,[.int .i64 (f:Nat)],true,none⟩,⟨gu,3,nI ul++ju,true,none⟩,⟨bZ,3,[.int .i64 0],true,none⟩,⟨bG,3,[.int .i64 (f:Nat)],true,none⟩,⟨gv,3,nI v++jv,true,none⟩,⟨b7,58,[slv (some ⟨gu,0,none⟩) (M+1) cu],true,none⟩,⟨b8,58,[slv (some ⟨gv,0,none⟩) v.length cv],true,none⟩,⟨gq,3,nI ql++[],true,none⟩,⟨bI,58,[slv (some ⟨gq,0,none⟩) K K],true,none⟩,BO d,Bj Lo rec .busy none])
   (fun x=>lv bs ul/bs^j/lv bs v≤x∧x≤2100000000) (fun x=>x) x0 ⟨hx0,hx0b⟩ ⟨rfl,rfl,rfl,rfl,rfl,trivial⟩ [] rfl ?_
  rintro x ⟨hx1,hx2⟩
  have hgv: ∀W' bx,Hp W bx W'→nth bx 2=some (⟨gu,3,nI ul++ju,true,none⟩:Bx)→nth bx 5=some (⟨gv,3,nI v++jv,true,none⟩:Bx)→gv≠gu:=fun W' bx hp h2 h5=>by
   rw[AW] at h2 h5
   exact hp.own.apart 5 2 _ _ h5 h2 (by decide) (gv,_) (List.mem_cons_self ..) (gu,_) (List.mem_cons_self ..)
  refine zA (zA (zB (wB 6 rfl rfl rfl (wB 7 rfl rfl rfl (wP rfl (wP rfl ?_))))))
  refine Ab 67 (slv (some ⟨gu,0,none⟩) ul.length cu) rfl (by rw[hull]) ?_
  refine CE (X:=List Nat×Nat) (L1:=[]) (L2:=[]) (capt:=[]) 2 (fun y=>⟨gu,3,nI y.1++ju,true,none⟩) rfl rfl rfl rfl rfl rfl (by kernel_rfl) rfl rfl (fun _ _=>rfl) (fun W' hp=>Qt W' gu cu cv j x ju (some ⟨gv,0,none⟩) ul v (hp.at_ 2 _ rfl rfl).1 (A4.of_bx hp 5 rfl) (fun b off e=>by cases e;exact hgv W' _ hp rfl rfl) hulb hvb hju (by omega) hx2) ?_
  rintro⟨ul1,c1⟩ hT1
  refine Aa (zE ?_)
  refine Ak rfl (fun hc1=> ?_) (fun hc1=> ?_)
  ·have hc1':0<c1:=by
    have h':decide ((c1:Int)>0)=true:=hc1
    rw[decide_eq_true_iff] at h';omega
   have hfar:=Tz hulb hT1 hc1' hUm
   have hl1:ul1.length=ul.length:=hT1.len
   refine zI (zE (zH (zA (zB (wB 6 rfl rfl rfl (wB 7 rfl rfl rfl (wP rfl (wP rfl ?_))))))))
   refine Ab 72 (slv (some ⟨gu,0,none⟩) ul1.length cu) rfl (by rw[hl1,hull]) ?_
   refine CE (X:=List Nat×Nat) (L1:=[]) (L2:=[]) (capt:=[]) 2 (fun y=>⟨gu,3,nI y.1++ju,true,none⟩) rfl rfl rfl rfl rfl rfl (by kernel_rfl) rfl rfl (fun _ _=>rfl) (fun W' hp=>Mz W' gu cu cv j x ju (some ⟨gv,0,none⟩) ul1 v (hp.at_ 2 _ rfl rfl).1 (A4.of_bx hp 5 rfl) (fun b off e=>by
    cases e
    exact hp.own.apart 5 2 _ _ rfl rfl (by decide) (gv,_) (List.mem_cons_self ..) (gu,_) (List.mem_cons_self ..)) hT1.lt hvb (by omega) (by omega) hx2) ?_
   rintro⟨ul2,c2⟩ hT2
   have e2:=SY hulb hT1 hT2
   have e2':ul2=ul:=e2
   subst e2'
   refine Ab 76 (slv (some ⟨gu,0,none⟩) (M+1) cu) rfl (by rw[hl1,hull]) ?_
   refine wS 6 rfl rfl rfl (Aa (zE (zB (wP rfl (wP rfl ?_)))))
   refine Ab 78 (.int .i64 ((x-1:Nat):Int)) rfl (congrArg (Value.int .i64) (by show w64 ((x:Int)-1)=_;rw[An (by omega) (by omega)];have:=Nat.lt_of_le_of_lt (Nat.zero_le _) hfar;omega)) ?_
   refine wP rfl (Aa (zN ?_))
   exact As (x-1) ⟨Nat.le_sub_one_of_lt hfar,by omega⟩ (by have:=Nat.lt_of_le_of_lt (Nat.zero_le _) hfar;omega) ⟨rfl,rfl,rfl,rfl,rfl,trivial⟩ [] rfl
  ·have hc1':c1=0:=by
    have h':decide ((c1:Int)>0)=false:=hc1
    rw[decide_eq_false_iff_not] at h';omega
   have hok:=Va hT1 hc1'
   have hok':lv bs ul1+bs^j*(x*(b*f))=lv bs ul:=by rw[←hvv];exact hok
   rw[hvv] at hx1
   have hxb:=TL hok' hUs
   have hxb':x<1000000000:=hxb
   obtain⟨hr1,hr2⟩:=T2 hU hx1 (by omega) hok'
   have hzero:ql[j]? =some 0:=by
    rw[De hjK,Ci bs2 _ hqb,hqv,Nat.pow_succ,Nat.mul_assoc,Nat.mul_div_cancel_left _ (Nat.pow_pos (by decide)),Nat.mul_mod_right]
   have hset:=Hg (B:=bs) x hzero
   rw[Nat.mul_zero,Nat.add_zero,hqv,Nat.pow_succ,Nat.mul_assoc, ←Nat.mul_add] at hset
   refine zJ (zK (zK (zL (zE (zB (wB 0 rfl rfl rfl (wP rfl (wP rfl ?_))))))))
   refine wJ ?_
   refine Ay 8 (nI (ql.set j x)++[]) tH rfl rfl rfl rfl rfl rfl rfl rfl rfl rfl (by show 0+j*1+1≤(nI ql++[]).length;rw[List.append_nil,BD];omega) (Cp hjK x) ?_
   refine Aa (zN ?_)
   refine Bw 11 (ql.set j x,ul1,bs*Q+x) hrec rfl ⟨⟨by rw[List.length_set];exact hql,CA hqb hxb, ?_⟩,by rw[hT1.len];exact hull,hT1.lt, ?_, ?_⟩ [] rfl
   ·show lv bs (ql.set j x)=bs^(K-(k+1))*(bs*Q+x)
    rw[hset,show K-(k+1)=j by omega]
   ·show a*f=(bs*Q+x)*(b*f)*bs^(K-(k+1))+lv bs ul1
    rw[show K-(k+1)=j by omega];exact hr1
   ·show lv bs ul1<b*f*bs^(K-(k+1))
    rw[show K-(k+1)=j by omega];exact hr2
 ·rintro⟨ql,ul,Q⟩ d Lo rec ⟨⟨hql,hqb,hqv⟩,hull,hulb,hU,hUs⟩
  have hql:ql.length=K:=hql
  have hqv:lv bs ql=bs^(K-K)*Q:=hqv
  have hull:ul.length=M+1:=hull
  have hU:a*f=Q*(b*f)*bs^(K-K)+lv bs ul:=hU
  have hUs:lv bs ul<b*f*bs^(K-K):=hUs
  have hulb: ∀y∈ul,y<bs:=hulb
  have hqb: ∀y∈ql,y<bs:=hqb
  rw[Nat.sub_self,Nat.pow_zero] at hqv hU hUs
  rw[Nat.one_mul] at hqv
  rw[Nat.mul_one] at hU hUs
  obtain⟨e1,e2⟩:=W8 (show 0<f by omega) hU hUs
  have hul2:(lbs bs (lv bs ul)).length≤M+1:=by
   have:=(BN bs2).2 (EG bs2 hulb)
   omega
  have hV0:(⟨some gq,K,[]⟩:Vec).OK 1 ql.length (nI ql):=⟨Eo _,(fun h=>by cases h),fun _=>⟨by show _≤K;omega,by show K≤maxLen;simp only[maxLen];omega,by show(nI ql).length+0=K*1;rw[BD];omega⟩⟩
  obtain⟨j',hV2,he⟩:=FN hV0 hqb
  rw[hqv, ←e1] at hV2 he
  refine zN (zE (zA (zB (wB 6 rfl rfl rfl ?_))))
  refine Ab 84 (slv (some ⟨gu,0,none⟩) ul.length cu) rfl (by rw[hull]) ?_
  refine Ac rfl rfl rfl rfl rfl rfl (by kernel_rfl) (fun W' hp=>CJ W' _ cu _ (A4.of_bx hp 2 rfl) hulb (by have:=(hVu.cap (by simp)).1;have h9:M+1≤cu:=this;omega) (by omega)) ?_
  refine wP rfl ?_
  refine Au (X:=NV×NV) rfl rfl rfl rfl rfl rfl (by kernel_rfl) (fun W' hp=>Fl W' _ cu (lv bs ul) f ((A4.of_bx hp 2 rfl).trim hulb) (by omega) (by omega) hf2) ?_
  rintro⟨R1,R2⟩ ⟨hR1, -⟩
  refine wP rfl (wP rfl (wP rfl (wP rfl (Aa (zE (zA (zB (wB 0 rfl rfl rfl ?_))))))))
  refine Ab 90 (slv (some ⟨gq,0,none⟩) ql.length K) rfl (by rw[hql]) ?_
  refine Ac rfl rfl rfl rfl rfl rfl (by kernel_rfl) (fun W' hp=>CJ W' _ K _ (A4.of_bx hp 8 rfl) hqb (by omega) (by omega)) ?_
  refine wP rfl (wS 0 rfl rfl rfl (wP rfl (Aa (zE (zO ?_)))))
  rw[e2] at hR1
  refine CS 10 rfl ?_
  refine Ar tH rfl (.cell 0 rfl rfl rfl rfl rfl) (.tmp rfl) ((⟨some gq,K,j'⟩:Vec),some R1) ?_ ⟨hV2,hR1⟩ fun W' hp=> ?_
  ·show Value.tuple #[slv (some ⟨gq,0,none⟩) (lbs bs (lv bs ql)).length K,BG R1 (lbs bs (lv bs ul/f)).length]= .tuple #[slv (some ⟨gq,0,none⟩) (lbs bs (a/b)).length K,BG R1 (lbs bs (a%b)).length]
   rw[hqv, ←e1,e2]
  ·have h:=(hp.pick (l:=[⟨gq,3,nI ql++[],true,none⟩,BH R1 (lbs bs (lv bs ul/f))]) [8,12] (by decide) rfl).own
   rw[he,e2] at h
   exact h
-- BOXES 2
def mns (x y c:Nat):Nat×Nat:=if y+c≤x then(x-y-c,0) else(x+bs-y-c,1)
def pls (x y c:Nat):Nat×Nat:=((x+y+c)%bs,(x+y+c)/bs)
theorem OX (x y c:Nat) (hx:x<bs) (hy:y<bs) (hc:c≤1):AX Tryz.prog 221 [.int .i64 (x:Nat), .int .i64 (y:Nat), .int .i64 (c:Nat)] (.tuple #[.int .i64 ((mns x y c).1:Nat), .int .i64 ((mns x y c).2:Nat)]):=by
 intro W
 have hxb:x<1000000000:=hx
 have hyb:y<1000000000:=hy
 have e0:w64 (w64 ((x:Int)-y)-c)=(x:Int)-y-c:=by
  rw[An (x:=(x:Int)-y) (by omega) (by omega),An (by omega) (by omega)]
 refine Ad Tryz.func221 rfl rfl rfl ?_
 refine zA (zB (wP rfl (wP rfl (Aa (zE (zA (zA (zB ?_))))))))
 iterate 5 refine wP rfl ?_
 refine Ab 13 (.int .i64 ((x:Int)-y-c)) rfl (congrArg (Value.int .i64) e0) ?_
 refine wP rfl (Aa (zE (zA (zB (wP rfl (wP rfl (Aa (zE ?_))))))))
 refine Ak rfl (fun h=> ?_) (fun h=> ?_)
 ·have h:y+c≤x:=by simp at h;omega
  refine zA (zB (wP rfl (wP rfl (wP rfl (Aa (zE (zO (zP ?_))))))))
  refine Ar tH rfl (.tmp rfl) (.tmp rfl) () ?_ trivial fun W _=>Ae.nil _ _
  unfold mns
  rw[if_pos h]
  show Value.tuple #[.int .i64 ((x:Int)-y-c), .int .i64 0]= .tuple #[.int .i64 ((x-y-c:Nat):Int), .int .i64 0]
  rw[show(x:Int)-y-c=((x-y-c:Nat):Int) by omega]
 ·have h: ¬y+c≤x:=by simp at h;omega
  refine zI (zE (zA (zB ?_)))
  iterate 5 refine wP rfl ?_
  refine Ab 21 (.int .i64 ((x:Int)-y-c)) rfl (congrArg (Value.int .i64) e0) ?_
  refine wP rfl (wP rfl (wP rfl (Aa (zE (zO ?_)))))
  refine Ar tH rfl (.tmp rfl) (.tmp rfl) () ?_ trivial fun W _=>Ae.nil _ _
  unfold mns
  rw[if_neg h]
  show Value.tuple #[.int .i64 (w64 ((x:Int)-y-c+1000000000)), .int .i64 1]= .tuple #[.int .i64 ((x+bs-y-c:Nat):Int), .int .i64 1]
  rw[An (by omega) (by omega),show(x:Int)-y-c+1000000000=((x+bs-y-c:Nat):Int) by show _=((x+1000000000-y-c:Nat):Int);omega]
theorem LE {x y c:Nat} (hx:x<bs) (hy:y<bs) (hc:c≤1):(mns x y c).1<bs∧(mns x y c).2≤1∧(mns x y c).1+y+c=x+bs*(mns x y c).2:=by
 unfold mns
 split
 ·exact⟨by show x-y-c<bs;omega,Nat.zero_le _,by show x-y-c+y+c=x+bs*0;omega⟩
 ·exact⟨by show x+bs-y-c<bs;omega,Nat.le_refl _,by show x+bs-y-c+y+c=x+bs*1;omega⟩
theorem WJ {x y c:Nat} (hx:x<bs) (hy:y<bs) (hc:c≤1):(pls x y c).1<bs∧(pls x y c).2≤1:=by
 refine⟨Nat.mod_lt _ (by decide), ?_⟩
 show(x+y+c)/bs≤1
 have:(x+y+c)/bs<2:=Nat.div_lt_of_lt_mul (by omega)
 omega
def Cv (pf:Nat→Nat→Nat→Nat×Nat) (la lb:List Nat):Nat→List Nat×Nat
 |0=>([],0)
 |i+1=>((Cv pf la lb i).1++[(pf (lim la i) (lim lb i) (Cv pf la lb i).2).1],(pf (lim la i) (lim lb i) (Cv pf la lb i).2).2)
theorem FK (pf:Nat→Nat→Nat→Nat×Nat) (la lb:List Nat): ∀i,(Cv pf la lb i).1.length=i
 |0=>rfl
 |i+1=>by show(_++[_]).length=_;rw[List.length_append,FK pf la lb i];rfl
theorem LR {pf:Nat→Nat→Nat→Nat×Nat} {la lb:List Nat} (hpf: ∀x y c,x<bs→y<bs→c≤1→(pf x y c).1<bs∧(pf x y c).2≤1) (ha: ∀x∈la,x<bs) (hb: ∀x∈lb,x<bs): ∀i,(∀x∈(Cv pf la lb i).1,x<bs)∧(Cv pf la lb i).2≤1
 |0=>⟨fun x hx=>(by cases hx),Nat.zero_le _⟩
 |i+1=>by
  obtain⟨h1,h2⟩:=LR hpf ha hb i
  obtain⟨h3,h4⟩:=hpf (lim la i) (lim lb i) (Cv pf la lb i).2 (Bb bs2 ha i) (Bb bs2 hb i) h2
  refine⟨fun x hx=> ?_,h4⟩
  rcases List.mem_append.1 hx with hx|hx
  ·exact h1 x hx
  ·obtain rfl:=List.mem_singleton.1 hx;exact h3
theorem SL {a b m:Nat} (ha:a<bs^m) (hb:b<bs^m):lv bs (Cv pls (lbs bs a) (lbs bs b) (m+1)).1=a+b:=by
 have h: ∀i,lv bs (Cv pls (lbs bs a) (lbs bs b) i).1+bs^i*(Cv pls (lbs bs a) (lbs bs b) i).2=a%bs^i+b%bs^i:=by
  intro i
  induction i with
  |zero=>show 0+bs^0*0=a%bs^0+b%bs^0;rw[Nat.pow_zero];omega
  |succ i ih=>exact MM (FK _ _ _ i) ih (by rw[Bd bs2,Bd bs2])
 exact U4 bs2 (h (m+1)) ha hb
theorem Rh {a b m:Nat} (ha:a<bs^m) (hb:b≤a):lv bs (Cv mns (lbs bs a) (lbs bs b) (m+1)).1=a-b:=by
 have hok:=fun i=>LR (pf:=mns) (fun x y c h1 h2 h3=>⟨(LE h1 h2 h3).1,(LE h1 h2 h3).2.1⟩) (Bh bs2 a) (Bh bs2 b) i
 have h: ∀i,lv bs (Cv mns (lbs bs a) (lbs bs b) i).1+b%bs^i=a%bs^i+bs^i*(Cv mns (lbs bs a) (lbs bs b) i).2:=by
  intro i
  induction i with
  |zero=>show 0+b%bs^0=a%bs^0+bs^0*0;rw[Nat.pow_zero];omega
  |succ i ih=>
   refine KU (FK _ _ _ i) ih ?_
   have:=(LE (Bb bs2 (Bh bs2 a) i) (Bb bs2 (Bh bs2 b) i) (hok i).2).2.2
   rw[←Bd bs2 b i, ←Bd bs2 a i]
   exact this
 refine MH bs2 (FK _ _ _ _) (hok (m+1)).1 (h (m+1)) (Nat.lt_of_lt_of_le ha (Nat.pow_le_pow_right (by decide) (by omega))) hb
theorem HR (W:World) (p q:Option Addr) (cap cap2:Nat) (la lb:List Nat) (g:Nat) (pf:Nat→Nat→Nat→Nat×Nat) (hE:Bq Tryz.prog g=true)
  (hg: ∀x y c,x<bs→y<bs→c≤1→AX Tryz.prog g [.int .i64 (x:Nat), .int .i64 (y:Nat), .int .i64 (c:Nat)] (.tuple #[.int .i64 ((pf x y c).1:Nat), .int .i64 ((pf x y c).2:Nat)]))
  (hpf: ∀x y c,x<bs→y<bs→c≤1→(pf x y c).1<bs∧(pf x y c).2≤1)
  (hA:A4 W p la) (hB:A4 W q lb) (hla: ∀x∈la,x<bs) (hlb: ∀x∈lb,x<bs) (hna:la.length≤1000000) (hnb:lb.length≤1000000) (o:List Nat) (ho:o=(Cv pf la lb (max la.length lb.length+1)).1):
  Aj Tryz.prog 219 #[slv p la.length cap,slv q lb.length cap2, .func (.func g) #[] #[]] W (fun x:NV=>BG x (lbs bs (lv bs o)).length) (fun x=>Ce x (lbs bs (lv bs o))) (fun x=>[BH x (lbs bs (lv bs o))]):=by
 obtain⟨m,hm⟩: ∃m,m=max la.length lb.length:=⟨_,rfl⟩
 have hmx:(if (lb.length:Int)>(la.length:Int) then(lb.length:Int) else(la.length:Int))=(m:Int):=by
  rw[hm];split<;>omega
 have hm6:m≤1000000:=by omega
 refine Ad (args:=[slv p la.length cap,slv q lb.length cap2, .func (.func g) #[] #[]]) Tryz.func219 rfl rfl rfl ?_
 refine zA (zB (wP rfl (Aa (zE (zA (zB (wP rfl (Aa (zE (zA (zB (wP rfl (Aa ?_)))))))))))))
 refine zE (zA (zA (zB ?_)))
 iterate 5 refine wP rfl ?_
 refine Ab 16 (.int .i64 (m:Nat)) rfl (congrArg (Value.int .i64) hmx) ?_
 refine wP rfl ?_
 refine Ab 17 (.int .i64 ((m+1:Nat):Int)) rfl (congrArg (Value.int .i64) (by show w64 ((m:Int)+1)=_;rw[An (by omega) (by omega)];omega)) ?_
 refine Ed ?_
 refine wP rfl (Aa (zE (zH ?_)))
 refine Av (X:=Nat×Vec) (fun x=>[(0,slv p la.length cap),(1,slv q lb.length cap2),(2, .func (.func g) #[] #[]),(7,x.2.val x.1),(8, .int .i64 ((Cv pf la lb x.1).2:Nat)),(17, .int .i64 ((m+1:Nat):Int)),(18, .int .i64 (x.1:Nat))]) (fun x=>[x.2.bx 3 (nI (Cv pf la lb x.1).1)])
  (fun x=>x.1≤m+1∧x.2.OK 1 x.1 (nI (Cv pf la lb x.1).1)) (fun x=>m+1-x.1) (0,Vec.empty) ⟨Nat.zero_le _,Vec.OK.empty 1⟩ ⟨rfl,rfl,rfl,rfl,rfl,rfl,rfl,trivial⟩ [] rfl ?_
 rintro⟨i,V⟩ ⟨hi,hV⟩
 obtain⟨h1,h2⟩:=LR hpf hla hlb i
 have h3:=Bb bs2 hla i
 have h4:=Bb bs2 hlb i
 refine zA (zB (wP rfl (Aa (zE (zA ?_)))))
 refine Ak rfl (fun hc=> ?_) (fun hc=> ?_)
 ·have hi':i<m+1:=by simp at hc;omega
  clear hc
  refine zI (zE (zA (zH (zA (zB (wP rfl (wP rfl (Aa (zE (zA (zB (wP rfl (wP rfl (wP rfl ?_))))))))))))))
  refine Ac rfl rfl rfl rfl rfl rfl (by kernel_rfl) (fun W hp=>HW W p cap la i (hA.hp hp) (by omega)) ?_
  refine wP rfl (wP rfl ?_)
  refine Ac rfl rfl rfl rfl rfl rfl (by kernel_rfl) (fun W hp=>HW W q cap2 lb i (hB.hp hp) (by omega)) ?_
  refine wP rfl ?_
  refine Ac (capt:=[]) rfl rfl rfl rfl rfl rfl hE (fun W _=>hg _ _ _ h3 h4 h2 W) ?_
  iterate 5 refine wP rfl ?_
  refine Aa (zE (zB (wP rfl (wP rfl ?_))))
  (refine A0 Tryz.hZ tH rfl rfl rfl rfl rfl rfl rfl rfl rfl rfl rfl ?_;intro)
  refine AP (V:=V) (len:=i) (xs:=nI (Cv pf la lb i).1) 0 1 Tryz.vec58 (i+1) (nI (Cv pf la lb (i+1)).1) rfl rfl rfl rfl rfl rfl rfl rfl rfl rfl rfl hV rfl rfl rfl (Ic (Cv pf la lb i).1 [(pf (lim la i) (lim lb i) (Cv pf la lb i).2).1]).symm (by simp only[maxLen];omega) (by omega) rfl ?_
  intro g' cap' junk hV'
  refine wP rfl (wP rfl (wP rfl (Aa (zN (zE (zB (wP rfl (wP rfl (Aa ?_)))))))))
  exact As (i+1,(⟨some g',cap',junk⟩:Vec)) ⟨hi',hV'⟩ (by show m+1-(i+1)<m+1-i;omega) ⟨rfl,rfl,rfl,rfl,rfl,rfl,congrArg (fun z=>some (Value.int .i64 z)) (AI (x:=(i:Int)+1) (by omega) (by omega)),trivial⟩ [_] rfl
 ·have hi':i=m+1:=by simp at hc;omega
  subst hi'
  rw[←hm] at ho
  subst ho
  have hl:(Cv pf la lb (m+1)).1.length=m+1:=FK _ _ _ _
  refine zJ (zK (zK (zL (zE (zA (zB ?_))))))
  obtain⟨pV,cV,jV⟩:=V
  cases pV with
  |none=>exact absurd (hV.nil rfl) (by omega)
  |some gV=>
  have hV0:(⟨some gV,cV,jV⟩:Vec).OK 1 (Cv pf la lb (m+1)).1.length (nI (Cv pf la lb (m+1)).1):=by rw[hl];exact hV
  obtain⟨j',hV2,he⟩:=FN hV0 h1
  refine wP rfl ?_
  refine Ab 39 (slv (some ⟨gV,0,none⟩) (Cv pf la lb (m+1)).1.length cV) rfl (by rw[hl];rfl) ?_
  refine Ac rfl rfl rfl rfl rfl rfl (by kernel_rfl) (fun W hp=>CJ W _ cV _ (A4.of_bx hp 0 rfl) h1 (by rw[hl];exact(hV.cap (by simp)).1) (by rw[hl];omega)) ?_
  refine wP rfl (Aa (zE (zO ?_)))
  exact Af tH rfl (.tmp rfl) ((gV,cV,j'):NV) rfl hV2 fun W hp=>Ae.of_hp1 hp 0 (by show some (⟨gV,3,nI (Cv pf la lb (m+1)).1++jV,true,none⟩:Bx)=some ⟨gV,3,nI (lbs bs (lv bs (Cv pf la lb (m+1)).1))++j',true,none⟩;rw[he])
-- BOXES 5
theorem OB (n:Int) (hlen:(decDigits n.natAbs).length≤300):AX Tryz.prog 239 [str (itoa n)] (.int .i64 0):=by
 intro W
 refine Ad Tryz.func239 rfl rfl rfl ?_
 refine zA (zB (wP rfl (Aa (zE (zA (zB (wP rfl ?_)))))))
 refine Ac rfl rfl rfl rfl rfl rfl (by kernel_rfl) (fun W _=>Cw (itoa n) [45] W) ?_
 refine Ab 5 (str (decDigits n.natAbs)) rfl (by rw[Bn]) ?_
 refine wP rfl (Aa (zE (zA (zA (zB (wP rfl (wP rfl ?_)))))))
 obtain⟨b,rest,hd,hb1,hb2⟩:=Cz n.natAbs
 have hne:((⟨(decDigits n.natAbs).toArray⟩:ByteArray).toList==(⟨#[]⟩:ByteArray).toList)=false:=by
  rw[G7,G7 []];simp[G8]
 refine Ab 7 (.bool false) rfl (congrArg Value.bool hne) ?_
 refine wP rfl (wP rfl ?_)
 refine Br 0 tH rfl rfl rfl rfl rfl rfl rfl rfl (by rw[hd];rfl) ?_
 refine wP rfl ?_
 have hlen63:(decDigits n.natAbs).length≤9223372036854775807:=by omega
 by_cases hn:n=0
 ·have hb:b.toNat=48:=by
   rw[hn,show Int.natAbs 0=0 from rfl,G1] at hd
   injection hd with hd _
   rw[←hd];rfl
  refine Ab 11 (.bool true) rfl (congrArg Value.bool (by rw[hb];rfl)) ?_
  refine wP rfl (wP rfl (wP rfl ?_))
  refine Ab 14 (.bool false) rfl (congrArg Value.bool (by rw[hn,CT];simp)) ?_
  refine wP rfl (wP rfl (wP rfl (wP rfl ?_)))
  refine Ac rfl rfl rfl rfl rfl rfl (by kernel_rfl) (fun W _=>LI (decDigits n.natAbs) hlen63 W) ?_
  refine Ab 19 (str []) rfl (by rw[RJ]) ?_
  refine wP rfl ?_
  refine Ab 20 (.bool false) rfl (congrArg Value.bool (by simp)) ?_
  refine wP rfl (Aa (zE (zS rfl (zI (zE (zA (zA (zB (wP rfl (wP rfl (wP rfl (Aa (AC ?_)))))))))))))
  refine AT 24 (.bool false) rfl (congrArg Value.bool (by
   show decide (((⟨(decDigits n.natAbs).toArray⟩:ByteArray).size:Int)>300)=false
   have e:(⟨(decDigits n.natAbs).toArray⟩:ByteArray).size=(decDigits n.natAbs).length:=by show(decDigits n.natAbs).toArray.size=_;simp
   rw[e,decide_eq_false_iff_not];omega)) ?_
  refine zS rfl (zI (zE (zA (zB (wP rfl (Aa (zE (zO ?_))))))))
  exact Af tH rfl (.tmp rfl) () rfl trivial fun W _=>Ae.nil _ _
 ·have hb:b.toNat≠48:=by
   obtain⟨b',r',e1,e2⟩:=K7 n.natAbs (by omega)
   rw[hd] at e1
   injection e1 with e1 _
   rw[e1];exact e2
  refine Ab 11 (.bool false) rfl (congrArg Value.bool (by rw[beq_eq_false_iff_ne];omega)) ?_
  refine wP rfl ?_
  iterate 2 refine Ah rfl rfl ?_
  refine wP rfl (wP rfl (wP rfl (wP rfl ?_)))
  refine Ac rfl rfl rfl rfl rfl rfl (by kernel_rfl) (fun W _=>LI (decDigits n.natAbs) hlen63 W) ?_
  refine Ab 19 (str []) rfl (by rw[RJ]) ?_
  refine wP rfl ?_
  refine Ab 20 (.bool false) rfl (congrArg Value.bool (by simp)) ?_
  refine wP rfl (Aa (zE (zS rfl (zI (zE (zA (zA (zB (wP rfl (wP rfl (wP rfl (Aa (AC ?_)))))))))))))
  refine AT 24 (.bool false) rfl (congrArg Value.bool (by
   show decide (((⟨(decDigits n.natAbs).toArray⟩:ByteArray).size:Int)>300)=false
   have e:(⟨(decDigits n.natAbs).toArray⟩:ByteArray).size=(decDigits n.natAbs).length:=by show(decDigits n.natAbs).toArray.size=_;simp
   rw[e,decide_eq_false_iff_not];omega)) ?_
  refine zS rfl (zI (zE (zA (zB (wP rfl (Aa (zE (zO ?_))))))))
  exact Af tH rfl (.tmp rfl) () rfl trivial fun W _=>Ae.nil _ _
def okN (z:Int):Prop:=z.natAbs<Bp
theorem okN.dd {z:Int} (h:okN z):(decDigits z.natAbs).length≤300:=GA.2 h
theorem okN.check {z:Int} (h:okN z):AX Tryz.prog 239 [str (itoa z)] (.int .i64 0):=OB z h.dd
theorem D7 (a b:Int) (ha:okN a) (hb:okN b):AX Tryz.prog 181 [str (itoa a),str (itoa b)] (.int .i64 0):=by
 intro W
 refine Ad Tryz.func181 rfl rfl rfl ?_
 refine zA (zB (wP rfl (Aa (zE (zA (zA (zB (wP rfl ?_))))))))
 refine Ac rfl rfl rfl rfl rfl rfl (by kernel_rfl) (fun W _=>ha.check W) ?_
 refine wP rfl (Aa (zE (zA (zB (wP rfl (wP rfl (Aa (zE (zS rfl (zI (zE (zA (zB ?_)))))))))))))
 refine wP rfl ?_
 refine Ac rfl rfl rfl rfl rfl rfl (by kernel_rfl) (fun W _=>hb.check W) ?_
 refine wP rfl (Aa (zE (zO ?_)))
 exact Af tH rfl (.tmp rfl) () rfl trivial fun W _=>Ae.nil _ _
theorem L5 (n:Int):n.natAbs<10^(itoa n).length:=by
 unfold itoa
 split
 ·have:=Hk n.natAbs
  rw[List.length_cons,Nat.pow_succ]
  omega
 ·have:=Hk n.toNat
  rw[show n.natAbs=n.toNat by omega];exact this
theorem QT {n:Int} {k:Nat} (h:(itoa n).length≤k):n.natAbs<10^k:=Nat.lt_of_lt_of_le (L5 n) (Nat.pow_le_pow_right (by decide) h)
theorem Eg {n:Int} (h:(itoa n).length≤18): -1000000000000000000<n∧n<1000000000000000000:=by
 have:=QT h
 have h2:n.natAbs<1000000000000000000:=this
 omega
theorem Qa (n:Int):0<(itoa n).length:=by
 unfold itoa
 split
 ·simp
 ·have:=G8 n.toNat
  exact List.length_pos_iff.2 this
theorem DX (a b:Int) (ha:(itoa a).length≤18) (hb:(itoa b).length≤18):AX Tryz.prog 182 [str (itoa a),str (itoa b), .int .i64 18] (.tuple #[.int .i64 a, .int .i64 b, .bool true]):=by
 intro W
 obtain⟨a1,a2⟩:=Eg ha
 obtain⟨b1,b2⟩:=Eg hb
 refine Ad Tryz.func182 rfl rfl rfl ?_
 refine zA (zB (wP rfl (wP rfl (wP rfl (Aa (zE (zA (zA (zB (wP rfl (wP rfl (wP rfl (wP rfl ?_)))))))))))))
 refine Ab 16 (.bool false) rfl (congrArg Value.bool (by show decide (((⟨(itoa a).toArray⟩:ByteArray).size:Int)>18)=false;rw[AF,decide_eq_false_iff_not];omega)) ?_
 iterate 5 refine wP rfl ?_
 refine Ab 21 (.bool false) rfl (congrArg Value.bool (by show decide (((⟨(itoa b).toArray⟩:ByteArray).size:Int)>18)=false;rw[AF,decide_eq_false_iff_not];omega)) ?_
 refine wP rfl (Aa (zE (zS rfl (zI (zE (zA (zB (wP rfl ?_))))))))
 refine Ac rfl rfl rfl rfl rfl rfl (by kernel_rfl) (fun W _=>La a (by omega) (by omega) W) ?_
 iterate 5 refine wP rfl ?_
 refine Aa (zE (zA (zB (wP rfl ?_))))
 refine Ac rfl rfl rfl rfl rfl rfl (by kernel_rfl) (fun W _=>La b (by omega) (by omega) W) ?_
 iterate 5 refine wP rfl ?_
 refine Aa (zE (zA ?_))
 refine zT Tryz.mixed (by kernel_rfl) ?_
 refine qP rfl (qP rfl (qP rfl ?_))
 refine MS rfl rfl rfl rfl rfl ?_
 refine qP rfl (qP rfl ?_)
 refine MS rfl rfl rfl rfl rfl ?_
 refine qP rfl (qP rfl (qP rfl (qP rfl (AE (Aa (zE (zO ?_)))))))
 exact BW tH rfl (.tmp rfl) (.tmp rfl) (.tmp rfl) () rfl trivial fun W _=>Ae.nil _ _
theorem FH (a b:Int) (h: ¬((itoa a).length≤18∧(itoa b).length≤18)):AX Tryz.prog 182 [str (itoa a),str (itoa b), .int .i64 18] (.tuple #[.int .i64 0, .int .i64 0, .bool false]):=by
 intro W
 refine Ad Tryz.func182 rfl rfl rfl ?_
 refine zA (zB (wP rfl (wP rfl (wP rfl (Aa (zE (zA (zA (zB (wP rfl (wP rfl (wP rfl (wP rfl ?_)))))))))))))
 by_cases ha:(itoa a).length≤18
 ·have hb: ¬(itoa b).length≤18:=fun hb=>h ⟨ha,hb⟩
  refine Ab 16 (.bool false) rfl (congrArg Value.bool (by show decide (((⟨(itoa a).toArray⟩:ByteArray).size:Int)>18)=false;rw[AF,decide_eq_false_iff_not];omega)) ?_
  iterate 5 refine wP rfl ?_
  refine Ab 21 (.bool true) rfl (congrArg Value.bool (by show decide (((⟨(itoa b).toArray⟩:ByteArray).size:Int)>18)=true;rw[AF,decide_eq_true_iff];omega)) ?_
  refine wP rfl (Aa (zE (zR rfl (zA (zB (wP rfl (wP rfl (wP rfl (Aa (zE (zO (zP ?_))))))))))))
  exact BW tH rfl (.tmp rfl) (.tmp rfl) (.tmp rfl) () rfl trivial fun W _=>Ae.nil _ _
 ·refine Ab 16 (.bool true) rfl (congrArg Value.bool (by show decide (((⟨(itoa a).toArray⟩:ByteArray).size:Int)>18)=true;rw[AF,decide_eq_true_iff];omega)) ?_
  refine wP rfl ?_
  iterate 4 refine Ah rfl rfl ?_
  refine wP rfl (Aa (zE (zR rfl (zA (zB (wP rfl (wP rfl (wP rfl (Aa (zE (zO (zP ?_))))))))))))
  exact BW tH rfl (.tmp rfl) (.tmp rfl) (.tmp rfl) () rfl trivial fun W _=>Ae.nil _ _
theorem SP: ∀k,mxd≤9*k→Bp≤bs^k:=fun k hk=>by
 have h:bs^k=10^(9*k):=by rw[show bs=10^9 by decide, ←Nat.pow_mul]
 rw[h]
 unfold Bp
 exact Nat.pow_le_pow_right (by decide) hk
theorem DN {m:Nat} (h:m<Bp):(lbs bs m).length≤34:=(BN bs2).2 (Nat.lt_of_lt_of_le h (SP 34 (by decide)))
theorem JG (z:Int): ∃s e,KY z= .tuple #[str s, .int .i64 e]:=by
 unfold KY
 split
 ·exact⟨_,_,rfl⟩
 ·exact⟨_,_,rfl⟩
theorem Fu {z:Int} (h:okN z):KY z= .tuple #[str (itoa z), .int .i64 0]:=if_pos h
theorem Oq {z:Int} (h:z.natAbs<10^20):okN z:=Nat.lt_of_lt_of_le h (Nat.pow_le_pow_right (by decide) (show 20≤mxd by decide))
theorem E1 (a:Int):sg (decide (a<0)) a.natAbs=a:=by
 unfold sg
 by_cases h:a<0
 ·rw[decide_eq_true h,if_pos rfl];omega
 ·rw[decide_eq_false h,if_neg (by decide)];omega
theorem WH (a b:Int):sg (decide (a<0) !=decide (b<0)) (a.natAbs*b.natAbs)=a*b:=by
 have e1:=E1 a
 have e2:=E1 b
 conv=>rhs;rw[←e1, ←e2]
 unfold sg
 by_cases ha:a<0<;>by_cases hb:b<0<;>simp[ha,hb,Int.neg_mul,Int.mul_neg]
theorem OR (W:World) (p q:Option Addr) (cap cap2 a b:Nat) (hA:A4 W p (lbs bs a)) (hB:A4 W q (lbs bs b)) (hna:(lbs bs a).length≤1000000) (hnb:(lbs bs b).length≤1000000):
  Aj Tryz.prog 219 #[slv p (lbs bs a).length cap,slv q (lbs bs b).length cap2, .func (.func 220) #[] #[]] W (fun x:NV=>BG x (lbs bs (a+b)).length) (fun x=>Ce x (lbs bs (a+b))) (fun x=>[BH x (lbs bs (a+b))]):=by
 have h:=HR W p q cap cap2 (lbs bs a) (lbs bs b) 220 pls (by kernel_rfl) (fun x y c h1 h2 h3=>Rq x y c h1 h2 h3) (fun x y c h1 h2 h3=>WJ h1 h2 h3) hA hB (Bh bs2 a) (Bh bs2 b) hna hnb _ rfl
 rw[SL (m:=max (lbs bs a).length (lbs bs b).length) (Nat.lt_of_lt_of_le (AL bs2 a) (Nat.pow_le_pow_right (by decide) (Nat.le_max_left ..))) (Nat.lt_of_lt_of_le (AL bs2 b) (Nat.pow_le_pow_right (by decide) (Nat.le_max_right ..)))] at h
 exact h
theorem IH (W:World) (p q:Option Addr) (cap cap2 a b:Nat) (hA:A4 W p (lbs bs a)) (hB:A4 W q (lbs bs b)) (hna:(lbs bs a).length≤1000000) (hnb:(lbs bs b).length≤1000000) (hab:b≤a):
  Aj Tryz.prog 219 #[slv p (lbs bs a).length cap,slv q (lbs bs b).length cap2, .func (.func 221) #[] #[]] W (fun x:NV=>BG x (lbs bs (a-b)).length) (fun x=>Ce x (lbs bs (a-b))) (fun x=>[BH x (lbs bs (a-b))]):=by
 have h:=HR W p q cap cap2 (lbs bs a) (lbs bs b) 221 mns (by kernel_rfl) (fun x y c h1 h2 h3=>OX x y c h1 h2 h3) (fun x y c h1 h2 h3=>⟨(LE h1 h2 h3).1,(LE h1 h2 h3).2.1⟩) hA hB (Bh bs2 a) (Bh bs2 b) hna hnb _ rfl
 rw[Rh (m:=max (lbs bs a).length (lbs bs b).length) (Nat.lt_of_lt_of_le (AL bs2 a) (Nat.pow_le_pow_right (by decide) (Nat.le_max_left ..))) hab] at h
 exact h
abbrev GF (b:Nat) (mi:Bool) (p:Option Addr) (n cap:Nat):Bx:=⟨b,227,[.bool mi,slv p n cap],true,none⟩
theorem Ij (W:World) (p q:Option Addr) (cap cap2 a b:Nat) (mi mj:Bool) (hA:A4 W p (lbs bs a)) (hB:A4 W q (lbs bs b)) (hna:(lbs bs a).length≤1000000) (hnb:(lbs bs b).length≤1000000):
  Aj Tryz.prog 184 #[.agg #[.bool mi,slv p (lbs bs a).length cap], .agg #[.bool mj,slv q (lbs bs b).length cap2]] W (fun x:Bool×Nat×NV=> .agg #[.bool x.1,BG x.2.2 (lbs bs x.2.1).length]) (fun x=>sg x.1 x.2.1=sg mi a+sg mj b∧Ce x.2.2 (lbs bs x.2.1)∧x.2.1≤a+b) (fun x=>[BH x.2.2 (lbs bs x.2.1)]):=by
 refine Ad (args:=[.agg #[.bool mi,slv p (lbs bs a).length cap], .agg #[.bool mj,slv q (lbs bs b).length cap2]]) Tryz.func184 rfl rfl rfl ?_
 refine zA (zB ?_)
 (refine A8 rfl rfl rfl rfl ?_;intro)
 (refine A8 rfl rfl rfl rfl ?_;intro)
 (refine Ao Tryz.hZ rfl rfl rfl rfl ?_;intro)
 refine Aa ?_
 rename_i b2 b3 b4
 refine zE (zA (zH (zA (zB (wP rfl (wB 0 rfl rfl rfl (wP rfl (wB 1 rfl rfl rfl ?_))))))))
 refine DZ Tryz.underlying4 rfl rfl rfl rfl rfl rfl ?_
 refine wP rfl (Aa (zE ?_))
 by_cases hm:mi=mj
 ·refine AT 5 (.bool true) rfl (congrArg Value.bool (by rw[hm];simp)) ?_
  refine zR rfl (A7 ?_)
  refine BU (X:= { x:NV//Ce x (lbs bs (a+b)) }) [true,true,true,true,true,true,false,false,false] (fun _=>[(4,Ax b4)]) (fun x=>[GF b2 mi p (lbs bs a).length cap,GF b3 mj q (lbs bs b).length cap2,GF b4 mi (some ⟨x.1.1,0,none⟩) (lbs bs (a+b)).length x.1.2.1,BH x.1 (lbs bs (a+b))])
   3 [GF b2 mi p (lbs bs a).length cap,GF b3 mj q (lbs bs b).length cap2,Du] Tryz.mixed (by kernel_rfl) ?_ ?_
  ·refine qP rfl (qB 0 rfl rfl rfl (qP rfl (qB 0 rfl rfl rfl (qP rfl (qB 1 rfl rfl rfl (Dd ?_))))))
   refine wX ?_
   refine RS.cons ?_ (RS.nil)
   refine Au (X:=NV) rfl rfl rfl rfl rfl rfl (by kernel_rfl) (fun W' hp=>OR W' p q cap cap2 a b (hA.hp hp) (hB.hp hp) hna hnb) (fun x hx=> ?_)
   refine Aa (Al ?_)
   refine wX ?_
   refine RS.cons ?_ (RS.nil)
   refine AA Tryz.hZ tH rfl rfl rfl rfl rfl rfl rfl rfl ?_
   refine Aa (Al ?_)
   refine wX ?_
   refine RS.cons ?_ (RS.nil)
   refine wS 2 rfl rfl rfl (Aa (Al ?_))
   refine B8 rfl (by((repeat (first|refine Bu.same ?_|refine Bu.off rfl ?_));exact trivial)) ?_
   exact AD (⟨x,hx⟩: { x:NV//Ce x (lbs bs (a+b)) }) ⟨rfl,trivial⟩ [0,1,2,3] (by decide) rfl
  rintro⟨x,hx⟩
  refine zE (zO (zQ (zP ?_)))
  exact Af tH rfl (.cell 2 rfl rfl rfl rfl rfl) (mi,a+b,x) rfl ⟨by subst hm;cases mi<;>simp[sg]<;>omega,hx,Nat.le_refl _⟩ fun W' hp=>Ae.of_hp1 hp 3 rfl
 ·refine AT 5 (.bool false) rfl (congrArg Value.bool (by simp[hm])) ?_
  refine zS rfl (zA (zB (wP rfl (wB 0 rfl rfl rfl (wP rfl (wB 1 rfl rfl rfl ?_))))))
  refine Au (X:=Int) rfl rfl rfl rfl rfl rfl (by kernel_rfl) (fun W' hp=>HS W' p q cap cap2 a b (hA.hp hp) (hB.hp hp) hna hnb) ?_
  intro c hc
  refine wP rfl (wP rfl (Aa (zE ?_)))
  by_cases hab:b≤a
  ·refine AT 19 (.bool true) rfl (congrArg Value.bool (decide_eq_true (by
    rcases Nat.lt_or_ge b a with h|h
    ·have h1:=hc.1;have h2:=hc.2;omega
    ·have h2:=hc.2.2 (by omega);omega))) ?_
   refine zR rfl (A7 ?_)
   refine BU (X:= { x:NV//Ce x (lbs bs (a-b)) }) [true,true,true,true,true,true,false,false,false] (fun _=>[(4,Ax b4)]) (fun x=>[GF b2 mi p (lbs bs a).length cap,GF b3 mj q (lbs bs b).length cap2,GF b4 mi (some ⟨x.1.1,0,none⟩) (lbs bs (a-b)).length x.1.2.1,BH x.1 (lbs bs (a-b))])
    3 [GF b2 mi p (lbs bs a).length cap,GF b3 mj q (lbs bs b).length cap2,Du] Tryz.mixed (by kernel_rfl) ?_ ?_
   ·refine qP rfl (qB 0 rfl rfl rfl (qP rfl (qB 0 rfl rfl rfl (qP rfl (qB 1 rfl rfl rfl (Dd ?_))))))
    refine wX ?_
    refine RS.cons ?_ (RS.nil)
    refine Au (X:=NV) rfl rfl rfl rfl rfl rfl (by kernel_rfl) (fun W' hp=>IH W' p q cap cap2 a b (hA.hp hp) (hB.hp hp) hna hnb hab) (fun x hx=> ?_)
    refine Aa (Al ?_)
    refine wX ?_
    refine RS.cons ?_ (RS.nil)
    refine AA Tryz.hZ tH rfl rfl rfl rfl rfl rfl rfl rfl ?_
    refine Aa (Al ?_)
    refine wX ?_
    refine RS.cons ?_ (RS.nil)
    refine wS 2 rfl rfl rfl (Aa (Al ?_))
    refine B8 rfl (by((repeat (first|refine Bu.same ?_|refine Bu.off rfl ?_));exact trivial)) ?_
    exact AD (⟨x,hx⟩: { x:NV//Ce x (lbs bs (a-b)) }) ⟨rfl,trivial⟩ [0,1,2,3] (by decide) rfl
   rintro⟨x,hx⟩
   refine zE (zO (zQ (zP ?_)))
   exact Af tH rfl (.cell 2 rfl rfl rfl rfl rfl) (mi,a-b,x) rfl ⟨by cases mi<;>cases mj<;>simp_all [sg]<;>omega,hx,by show a-b≤a+b;omega⟩ fun W' hp=>Ae.of_hp1 hp 3 rfl
  ·refine AT 19 (.bool false) rfl (congrArg Value.bool (decide_eq_false (by have h1:=hc.1.2 (by omega);omega))) ?_
   refine zS rfl (zI (zN (zE (A7 ?_))))
   refine BU (X:= { x:NV//Ce x (lbs bs (b-a)) }) [true,true,true,true,true,true,false,false,false] (fun _=>[(4,Ax b4)]) (fun x=>[GF b2 mi p (lbs bs a).length cap,GF b3 mj q (lbs bs b).length cap2,GF b4 mj (some ⟨x.1.1,0,none⟩) (lbs bs (b-a)).length x.1.2.1,BH x.1 (lbs bs (b-a))])
    3 [GF b2 mi p (lbs bs a).length cap,GF b3 mj q (lbs bs b).length cap2,Du] Tryz.mixed (by kernel_rfl) ?_ ?_
   ·refine qP rfl (qB 1 rfl rfl rfl (qP rfl (qB 1 rfl rfl rfl (qP rfl (qB 0 rfl rfl rfl (Dd ?_))))))
    refine wX ?_
    refine RS.cons ?_ (RS.nil)
    refine Au (X:=NV) rfl rfl rfl rfl rfl rfl (by kernel_rfl) (fun W' hp=>IH W' q p cap2 cap b a (hB.hp hp) (hA.hp hp) hnb hna (by omega)) (fun x hx=> ?_)
    refine Aa (Al ?_)
    refine wX ?_
    refine RS.cons ?_ (RS.nil)
    refine AA Tryz.hZ tH rfl rfl rfl rfl rfl rfl rfl rfl ?_
    refine Aa (Al ?_)
    refine wX ?_
    refine RS.cons ?_ (RS.nil)
    refine wS 2 rfl rfl rfl (Aa (Al ?_))
    refine B8 rfl (by((repeat (first|refine Bu.same ?_|refine Bu.off rfl ?_));exact trivial)) ?_
    exact AD (⟨x,hx⟩: { x:NV//Ce x (lbs bs (b-a)) }) ⟨rfl,trivial⟩ [0,1,2,3] (by decide) rfl
   rintro⟨x,hx⟩
   refine zE (zO ?_)
   exact Af tH rfl (.cell 2 rfl rfl rfl rfl rfl) (mj,b-a,x) rfl ⟨by cases mi<;>cases mj<;>simp_all [sg]<;>omega,hx,by show b-a≤a+b;omega⟩ fun W' hp=>Ae.of_hp1 hp 3 rfl
-- BOXES 5
theorem US (a b:Nat):(lbs bs (a*b)).length≤(lbs bs a).length+(lbs bs b).length:=(BN bs2).2 (by
 rw[Nat.pow_add]
 exact Nat.mul_lt_mul'' (AL bs2 a) (AL bs2 b))
theorem NX {a b k:Nat} (h:a≤b) (hb:(lbs bs b).length≤k):(lbs bs a).length≤k:=Nat.le_trans (Is h) hb
theorem R4 {a b:Nat} (ha:(lbs bs a).length≤34) (hb:(lbs bs b).length≤34):(lbs bs (a+b)).length≤35:=(BN bs2).2 (by
 have h1:=(BN bs2).1 ha
 have h2:=(BN bs2).1 hb
 have h3:bs^35=bs^34*bs:=Nat.pow_succ ..
 have h4:bs^34*2≤bs^34*bs:=Nat.mul_le_mul_left _ (by decide)
 rw[h3];omega)
theorem RP {a b i j k:Nat} (ha:a<10^i) (hb:b<10^j) (h:i+j≤k):a*b<10^k:=by
 have h1:a*b<10^i*10^j:=Nat.mul_lt_mul'' ha hb
 rw[←Nat.pow_add] at h1
 exact Nat.lt_of_lt_of_le h1 (Nat.pow_le_pow_right (by decide) h)
theorem ET (a b:Int) (ha:okN a) (hb:okN b) (W:World) (ht:AV W):
  Aj Tryz.prog 180 #[str (itoa a),str (itoa b)] W (fun _:Unit=>KY (a*b)) (fun _=>True) (fun _=>[]):=by
 have hla:=DN ha
 have hlb:=DN hb
 refine Ad (args:=[str (itoa a),str (itoa b)]) Tryz.func180 rfl rfl rfl ?_
 refine zA (zB (wP rfl (wP rfl (Aa (zE (zA (zA (zB (wP rfl (wP rfl ?_))))))))))
 refine Ac rfl rfl rfl rfl rfl rfl (by kernel_rfl) (fun W _=>D7 a b ha hb W) ?_
 refine wP rfl (Aa (zE (zA (zB (wP rfl (wP rfl (Aa (zE (zS rfl (zI (zE (zA (zA ?_)))))))))))))
 refine zB (wP rfl (wP rfl ?_))
 refine Ab 19 (.int .i64 ((itoa a).length:Nat)) rfl (congrArg (fun n:Nat=>Value.int .i64 (n:Int)) (AF _)) ?_
 refine wP rfl (wP rfl ?_)
 refine Ab 21 (.int .i64 ((itoa b).length:Nat)) rfl (congrArg (fun n:Nat=>Value.int .i64 (n:Int)) (AF _)) ?_
 have hia:(itoa a).length≤301:=by
  have:=ha.dd
  unfold itoa
  split
  ·rw[List.length_cons];omega
  ·rw[show a.toNat=a.natAbs by omega];omega
 have hib:(itoa b).length≤301:=by
  have:=hb.dd
  unfold itoa
  split
  ·rw[List.length_cons];omega
  ·rw[show b.toNat=b.natAbs by omega];omega
 refine wP rfl ?_
 refine Ab 22 (.int .i64 (((itoa a).length+(itoa b).length:Nat):Int)) rfl (congrArg (Value.int .i64) (AQ (by omega))) ?_
 refine wP rfl (Aa (zE ?_))
 by_cases hs:(itoa a).length+(itoa b).length≤18
 ·have hpa:=Qa a
  have hpb:=Qa b
  have hm:(a*b).natAbs<10^18:=by
   rw[Int.natAbs_mul]
   exact RP (L5 a) (L5 b) hs
  have hm':(a*b).natAbs<1000000000000000000:=hm
  refine AT 23 (.bool true) rfl (congrArg Value.bool (decide_eq_true (by omega))) ?_
  refine zR rfl (zA (zB (wP rfl (wP rfl ?_))))
  refine Ac rfl rfl rfl rfl rfl rfl (by kernel_rfl) (fun W _=>DX a b (by omega) (by omega) W) ?_
  iterate 7 refine wP rfl ?_
  refine Aa (zE (zA (zB (wP rfl (Aa (zE (zR rfl (zA (zB (wP rfl (wP rfl (wP rfl ?_))))))))))))
  refine Ab 34 (.int .i64 (a*b)) rfl (congrArg (Value.int .i64) (An (by omega) (by omega))) ?_
  refine Ac rfl rfl rfl rfl rfl rfl (by kernel_rfl) (fun W hp=>BA (a*b) (by omega) (by omega) W (ht.hp hp)) ?_
  refine wP rfl (wP rfl (Aa (zE (zO (zP ?_)))))
  exact Ar tH rfl (.tmp rfl) (.tmp rfl) () (Fu (Oq (Nat.lt_trans hm (by decide)))).symm trivial fun W _=>Ae.nil _ _
 ·refine AT 23 (.bool false) rfl (congrArg Value.bool (decide_eq_false (by omega))) ?_
  refine zS rfl (zI (zE (zA (zB ?_))))
  obtain⟨s,e,hres⟩:=JG (a*b)
  refine wP rfl ?_
  refine Au (X:=NV) rfl rfl rfl rfl rfl rfl (by kernel_rfl) (fun W _=>BX W a (by have:=ha.dd;omega)) ?_
  rintro⟨g1,c1,j1⟩ hV1
  refine wP rfl ?_
  refine Au (X:=NV) rfl rfl rfl rfl rfl rfl (by kernel_rfl) (fun W _=>BX W b (by have:=hb.dd;omega)) ?_
  rintro⟨g2,c2,j2⟩ hV2
  (refine Ao Tryz.hZ rfl rfl rfl rfl ?_;intro)
  (refine Ao Tryz.hZ rfl rfl rfl rfl ?_;intro)
  refine wS 2 rfl rfl rfl (wS 3 rfl rfl rfl (Aa ?_))
  rename_i b10 b11
  refine zE (A7 ?_)
  refine BU (X:=Unit) [true,true,true,true,true,true,true,true,true,false,false,false,false,false,false,false] (fun _=>[(4,str s),(5, .int .i64 e)]) (fun _=>[])
   7 [BH (g1,c1,j1) (lbs bs a.natAbs),BH (g2,c2,j2) (lbs bs b.natAbs),GF b10 (decide (a<0)) (some ⟨g1,0,none⟩) (lbs bs a.natAbs).length c1,GF b11 (decide (b<0)) (some ⟨g2,0,none⟩) (lbs bs b.natAbs).length c2] Tryz.mixed (by kernel_rfl) ?_ ?_
  ·refine qP rfl (qB 2 rfl rfl rfl (qP rfl (qB 3 rfl rfl rfl ?_)))
   refine J8 Tryz.underlying4 rfl rfl rfl rfl rfl rfl ?_
   refine qP rfl (qB 2 rfl rfl rfl (qP rfl (qB 3 rfl rfl rfl (Dd ?_))))
   refine wX ?_
   refine RS.cons ?_ (RS.nil)
   refine Au (X:=NV) rfl rfl rfl rfl rfl rfl (by kernel_rfl) (fun W' hp=>Kf W' _ _ c1 c2 a.natAbs b.natAbs (A4.of_bx hp 0 rfl) (A4.of_bx hp 1 rfl) (by omega) (by omega)) (fun x hx=> ?_)
   refine Aa (Al ?_)
   refine wX ?_
   refine RS.cons ?_ (RS.nil)
   refine AA Tryz.hZ tH rfl rfl rfl rfl rfl rfl rfl rfl ?_
   refine Aa (Al ?_)
   refine wX ?_
   refine RS.cons ?_ (RS.nil)
   refine Ac rfl rfl rfl rfl rfl rfl (by kernel_rfl) (fun W' hp=>(Cj W' (some ⟨x.1,0,none⟩) x.2.1 (decide (a<0) !=decide (b<0)) (a.natAbs*b.natAbs) (A4.of_bx hp 4 rfl) (by have:=US a.natAbs b.natAbs;omega) (ht.hp hp)).cast (by rw[WH,hres])) ?_
   refine Aa (Al ?_)
   refine wX ?_
   refine RS.cons ?_ (RS.cons ?_ (RS.nil))
   ·refine wP rfl (Aa (Al ?_))
    refine wX ?_
    refine RS.cons ?_ (RS.nil)
    refine wP rfl (Aa (Al ?_))
    refine wX ?_
    refine RS.cons ?_ (RS.nil)
    refine wP rfl (Aa (Al ?_))
    refine wX ?_
    refine RS.cons ?_ (RS.nil)
    refine wP rfl (Aa (Al ?_))
    refine B8 rfl (by((repeat (first|refine Bu.same ?_|refine Bu.off rfl ?_));exact trivial)) ?_
    exact AD () ⟨rfl,rfl,trivial⟩ [] (by decide) rfl
   ·refine wP rfl (Aa (Al ?_))
    refine wX ?_
    refine RS.cons ?_ (RS.nil)
    refine wP rfl (Aa (Al ?_))
    refine wX ?_
    refine RS.cons ?_ (RS.nil)
    refine wP rfl (Aa (Al ?_))
    refine wX ?_
    refine RS.cons ?_ (RS.nil)
    refine wP rfl (Aa (Al ?_))
    refine B8 rfl (by((repeat (first|refine Bu.same ?_|refine Bu.off rfl ?_));exact trivial)) ?_
    exact AD () ⟨rfl,rfl,trivial⟩ [] (by decide) rfl
  intro _
  refine zE (zO ?_)
  exact Ar tH rfl (.tmp rfl) (.tmp rfl) () hres.symm trivial fun W _=>Ae.nil _ _
-- BOXES 6
theorem Uy (mi:Bool) (m:Nat):sg (!mi) m= -sg mi m:=by cases mi<;>simp[sg]
theorem Ph (a b:Int) (ha:okN a) (hb:okN b) (W:World) (ht:AV W):
  Aj Tryz.prog 102 #[str (itoa a),str (itoa b)] W (fun _:Unit=>KY (a+b)) (fun _=>True) (fun _=>[]):=by
 have hla:=DN ha
 have hlb:=DN hb
 refine Ad (args:=[str (itoa a),str (itoa b)]) Tryz.func102 rfl rfl rfl ?_
 refine zA (zB (wP rfl (wP rfl (Aa (zE (zA (zA (zB (wP rfl (wP rfl ?_))))))))))
 refine Ac rfl rfl rfl rfl rfl rfl (by kernel_rfl) (fun W _=>D7 a b ha hb W) ?_
 refine wP rfl (Aa (zE (zA (zB (wP rfl (wP rfl (Aa (zE (zS rfl (zI (zE (zA (zA ?_)))))))))))))
 refine zB (wP rfl (wP rfl ?_))
 by_cases hs:(itoa a).length≤18∧(itoa b).length≤18
 ·obtain⟨a1,a2⟩:=Eg hs.1
  obtain⟨b1,b2⟩:=Eg hs.2
  have hm:(a+b).natAbs<10^20:=by
   have:(a+b).natAbs<100000000000000000000:=by omega
   exact this
  refine Ac rfl rfl rfl rfl rfl rfl (by kernel_rfl) (fun W _=>DX a b hs.1 hs.2 W) ?_
  iterate 7 refine wP rfl ?_
  refine Aa (zE (zA (zB (wP rfl (Aa (zE (zR rfl (zA (zB (wP rfl (wP rfl (wP rfl ?_))))))))))))
  refine Ab 26 (.int .i64 (a+b)) rfl (congrArg (Value.int .i64) (An (by omega) (by omega))) ?_
  refine Ac rfl rfl rfl rfl rfl rfl (by kernel_rfl) (fun W hp=>BA (a+b) (by omega) (by omega) W (ht.hp hp)) ?_
  refine wP rfl (wP rfl (Aa (zE (zO (zP ?_)))))
  exact Ar tH rfl (.tmp rfl) (.tmp rfl) () (Fu (Oq hm)).symm trivial fun W _=>Ae.nil _ _
 ·obtain⟨s,e,hres⟩:=JG (a+b)
  refine Ac rfl rfl rfl rfl rfl rfl (by kernel_rfl) (fun W _=>FH a b hs W) ?_
  iterate 7 refine wP rfl ?_
  refine Aa (zE (zA (zB (wP rfl (Aa (zE (zS rfl (zI (zE (zA (zB (wP rfl ?_))))))))))))
  refine Au (X:=NV) rfl rfl rfl rfl rfl rfl (by kernel_rfl) (fun W _=>BX W a (by have:=ha.dd;omega)) ?_
  rintro⟨g1,c1,j1⟩ hV1
  refine wP rfl ?_
  refine Au (X:=NV) rfl rfl rfl rfl rfl rfl (by kernel_rfl) (fun W _=>BX W b (by have:=hb.dd;omega)) ?_
  rintro⟨g2,c2,j2⟩ hV2
  refine Au (X:=Bool×Nat×NV) rfl rfl rfl rfl rfl rfl (by kernel_rfl) (fun W' hp=>Ij W' _ _ c1 c2 a.natAbs b.natAbs (decide (a<0)) (decide (b<0)) (A4.of_bx hp 0 rfl) (A4.of_bx hp 1 rfl) (by omega) (by omega)) ?_
  rintro⟨mk,k,x⟩ ⟨hk1,hk2,hk3⟩
  have hk1:sg mk k=sg (decide (a<0)) a.natAbs+sg (decide (b<0)) b.natAbs:=hk1
  rw[E1,E1] at hk1
  have hk3:k≤a.natAbs+b.natAbs:=hk3
  refine Ac rfl rfl rfl rfl rfl rfl (by kernel_rfl) (fun W' hp=>(Cj W' (some ⟨x.1,0,none⟩) x.2.1 mk k (A4.of_bx hp 2 rfl) (by have:=NX hk3 (R4 hla hlb);omega) (ht.hp hp)).cast (by rw[hk1,hres])) ?_
  refine wP rfl (wP rfl (wP rfl (wP rfl (Aa (zE (zO ?_))))))
  exact Ar tH rfl (.tmp rfl) (.tmp rfl) () hres.symm trivial fun W _=>Ae.nil _ _
theorem QC (a b:Int) (ha:okN a) (hb:okN b) (W:World) (ht:AV W):
  Aj Tryz.prog 159 #[str (itoa a),str (itoa b)] W (fun _:Unit=>KY (a-b)) (fun _=>True) (fun _=>[]):=by
 have hla:=DN ha
 have hlb:=DN hb
 refine Ad (args:=[str (itoa a),str (itoa b)]) Tryz.func159 rfl rfl rfl ?_
 refine zA (zB (wP rfl (wP rfl (Aa (zE (zA (zA (zB (wP rfl (wP rfl ?_))))))))))
 refine Ac rfl rfl rfl rfl rfl rfl (by kernel_rfl) (fun W _=>D7 a b ha hb W) ?_
 refine wP rfl (Aa (zE (zA (zB (wP rfl (wP rfl (Aa (zE (zS rfl (zI (zE (zA (zA ?_)))))))))))))
 refine zB (wP rfl (wP rfl ?_))
 by_cases hs:(itoa a).length≤18∧(itoa b).length≤18
 ·obtain⟨a1,a2⟩:=Eg hs.1
  obtain⟨b1,b2⟩:=Eg hs.2
  have hm:(a-b).natAbs<10^20:=by
   have:(a-b).natAbs<100000000000000000000:=by omega
   exact this
  refine Ac rfl rfl rfl rfl rfl rfl (by kernel_rfl) (fun W _=>DX a b hs.1 hs.2 W) ?_
  iterate 7 refine wP rfl ?_
  refine Aa (zE (zA (zB (wP rfl (Aa (zE (zR rfl (zA (zB (wP rfl (wP rfl (wP rfl ?_))))))))))))
  refine Ab 27 (.int .i64 (a-b)) rfl (congrArg (Value.int .i64) (An (by omega) (by omega))) ?_
  refine Ac rfl rfl rfl rfl rfl rfl (by kernel_rfl) (fun W hp=>BA (a-b) (by omega) (by omega) W (ht.hp hp)) ?_
  refine wP rfl (wP rfl (Aa (zE (zO (zP ?_)))))
  exact Ar tH rfl (.tmp rfl) (.tmp rfl) () (Fu (Oq hm)).symm trivial fun W _=>Ae.nil _ _
 ·obtain⟨s,e,hres⟩:=JG (a-b)
  refine Ac rfl rfl rfl rfl rfl rfl (by kernel_rfl) (fun W _=>FH a b hs W) ?_
  iterate 7 refine wP rfl ?_
  refine Aa (zE (zA (zB (wP rfl (Aa (zE (zS rfl (zI (zE (zA (zB (wP rfl ?_))))))))))))
  refine Au (X:=NV) rfl rfl rfl rfl rfl rfl (by kernel_rfl) (fun W _=>BX W b (by have:=hb.dd;omega)) ?_
  rintro⟨g2,c2,j2⟩ hV2
  (refine Ao Tryz.hZ rfl rfl rfl rfl ?_;intro)
  refine wS 1 rfl rfl rfl (Aa ?_)
  rename_i b10
  refine zE (zA (zB (wP rfl (wB 1 rfl rfl rfl (wP rfl (wP rfl (wS 1 rfl rfl rfl (Aa (zE (A7 ?_))))))))))
  refine BU (X:=Unit) [true,false,true,false,false,false,false,false,false] (fun _=>[(4,str s),(5, .int .i64 e)]) (fun _=>[])
   7 [BH (g2,c2,j2) (lbs bs b.natAbs),GF b10 (!(decide (b<0))) (some ⟨g2,0,none⟩) (lbs bs b.natAbs).length c2] Tryz.mixed (by kernel_rfl) ?_ ?_
  ·refine qP rfl (qB 1 rfl rfl rfl (Dd ?_))
   refine wX ?_
   refine RS.cons ?_ (RS.nil)
   refine Au (X:=NV) rfl rfl rfl rfl rfl rfl (by kernel_rfl) (fun W _=>BX W a (by have:=ha.dd;omega)) (fun y hy=> ?_)
   refine Aa (Al ?_)
   refine wX ?_
   refine RS.cons ?_ (RS.nil)
   refine Au (X:=Bool×Nat×NV) rfl rfl rfl rfl rfl rfl (by kernel_rfl) (fun W' hp=>Ij W' _ _ y.2.1 c2 a.natAbs b.natAbs (decide (a<0)) (!(decide (b<0))) (A4.of_bx hp 2 rfl) (A4.of_bx hp 0 rfl) (by omega) (by omega)) (fun x hx=> ?_)
   refine Aa (Al ?_)
   refine wX ?_
   refine RS.cons ?_ (RS.nil)
   refine Ac rfl rfl rfl rfl rfl rfl (by kernel_rfl) (fun W' hp=>(Cj W' (some ⟨x.2.2.1,0,none⟩) x.2.2.2.1 x.1 x.2.1 (A4.of_bx hp 3 rfl) (by have:=NX hx.2.2 (R4 hla hlb);omega) (ht.hp hp)).cast (by rw[hx.1,E1,Uy,E1, ←Int.sub_eq_add_neg,hres])) ?_
   refine Aa (Al ?_)
   refine wX ?_
   refine RS.cons ?_ (RS.cons ?_ (RS.nil))
   ·refine wP rfl (Aa (Al ?_))
    refine wX ?_
    refine RS.cons ?_ (RS.nil)
    refine wP rfl (Aa (Al ?_))
    refine wX ?_
    refine RS.cons ?_ (RS.nil)
    refine wP rfl (Aa (Al ?_))
    refine wX ?_
    refine RS.cons ?_ (RS.nil)
    refine wP rfl (Aa (Al ?_))
    refine B8 rfl (by((repeat (first|refine Bu.same ?_|refine Bu.off rfl ?_));exact trivial)) ?_
    exact AD () ⟨rfl,rfl,trivial⟩ [] (by decide) rfl
   ·refine wP rfl (Aa (Al ?_))
    refine wX ?_
    refine RS.cons ?_ (RS.nil)
    refine wP rfl (Aa (Al ?_))
    refine wX ?_
    refine RS.cons ?_ (RS.nil)
    refine wP rfl (Aa (Al ?_))
    refine wX ?_
    refine RS.cons ?_ (RS.nil)
    refine wP rfl (Aa (Al ?_))
    refine B8 rfl (by((repeat (first|refine Bu.same ?_|refine Bu.off rfl ?_));exact trivial)) ?_
    exact AD () ⟨rfl,rfl,trivial⟩ [] (by decide) rfl
  intro _
  refine zE (zO ?_)
  exact Ar tH rfl (.tmp rfl) (.tmp rfl) () hres.symm trivial fun W _=>Ae.nil _ _
def FV (a b:Int):Int:=if a<b then -1 else if a=b then 0 else 1
theorem Mx (a b:Int):compareInt a b=FV a b:=by
 unfold compareInt FV
 repeat split
 all_goals first|rfl|omega
theorem Le (a b:Int):AX Tryz.prog 188 [.int .i64 a, .int .i64 b] (.int .i64 (FV a b)):=by
 intro W
 refine Aj.of1 ((Tryz.cmp_Compare_int a b W).mono ?_)
 rintro e w' ⟨rfl,rfl⟩
 exact⟨by rw[Mx],Below.refl _ _⟩
theorem KG (a b:Int) (ha:okN a) (hb:okN b) (W:World):
  Aj Tryz.prog 233 #[str (itoa a),str (itoa b)] W (fun _:Unit=> .tuple #[.int .i64 (FV a b), .int .i64 0]) (fun _=>True) (fun _=>[]):=by
 have hla:=DN ha
 have hlb:=DN hb
 refine Ad (args:=[str (itoa a),str (itoa b)]) Tryz.func233 rfl rfl rfl ?_
 refine zA (zB (wP rfl (wP rfl (Aa (zE (zA (zA (zB (wP rfl (wP rfl ?_))))))))))
 refine Ac rfl rfl rfl rfl rfl rfl (by kernel_rfl) (fun W _=>D7 a b ha hb W) ?_
 refine wP rfl (Aa (zE (zA (zB (wP rfl (wP rfl (Aa (zE (zS rfl (zI (zE (zA (zA ?_)))))))))))))
 refine zB (wP rfl (wP rfl ?_))
 by_cases hs:(itoa a).length≤18∧(itoa b).length≤18
 ·refine Ac rfl rfl rfl rfl rfl rfl (by kernel_rfl) (fun W _=>DX a b hs.1 hs.2 W) ?_
  iterate 7 refine wP rfl ?_
  refine Aa (zE (zA (zB (wP rfl (Aa (zE (zR rfl (zA (zB (wP rfl (wP rfl ?_)))))))))))
  refine Ac rfl rfl rfl rfl rfl rfl (by kernel_rfl) (fun W _=>Le a b W) ?_
  refine wP rfl (wP rfl (Aa (zE (zO (zP ?_)))))
  exact Ar tH rfl (.tmp rfl) (.tmp rfl) () rfl trivial fun W _=>Ae.nil _ _
 ·refine Ac rfl rfl rfl rfl rfl rfl (by kernel_rfl) (fun W _=>FH a b hs W) ?_
  iterate 7 refine wP rfl ?_
  refine Aa (zE (zA (zB (wP rfl (Aa (zE (zS rfl (zI (zE (zA (zB (wP rfl ?_))))))))))))
  refine Au (X:=NV) rfl rfl rfl rfl rfl rfl (by kernel_rfl) (fun W _=>BX W a (by have:=ha.dd;omega)) ?_
  rintro⟨g1,c1,j1⟩ hV1
  refine wP rfl ?_
  refine Au (X:=NV) rfl rfl rfl rfl rfl rfl (by kernel_rfl) (fun W _=>BX W b (by have:=hb.dd;omega)) ?_
  rintro⟨g2,c2,j2⟩ hV2
  (refine Ao Tryz.hZ rfl rfl rfl rfl ?_;intro)
  (refine Ao Tryz.hZ rfl rfl rfl rfl ?_;intro)
  refine wS 2 rfl rfl rfl (wS 3 rfl rfl rfl (Aa ?_))
  rename_i b10 b11
  refine zE (zA (zB (wP rfl (wB 3 rfl rfl rfl (wP rfl (wP rfl (wS 3 rfl rfl rfl (Aa (zE (zA (zA (zB (wB 2 rfl rfl rfl ?_)))))))))))))
  refine wB 3 rfl rfl rfl ?_
  refine Au (X:=Bool×Nat×NV) rfl rfl rfl rfl rfl rfl (by kernel_rfl) (fun W' hp=>Ij W' _ _ c1 c2 a.natAbs b.natAbs (decide (a<0)) (!(decide (b<0))) (A4.of_bx hp 0 rfl) (A4.of_bx hp 1 rfl) (by omega) (by omega)) ?_
  rintro⟨mk,k,x⟩ ⟨hk1,hk2,hk3⟩
  have hk1:sg mk k=sg (decide (a<0)) a.natAbs+sg (!(decide (b<0))) b.natAbs:=hk1
  rw[E1,Uy,E1] at hk1
  (refine Ao Tryz.hZ rfl rfl rfl rfl ?_;intro)
  refine wS 5 rfl rfl rfl (Aa ?_)
  rename_i b12
  refine zE (zH (zA (zB (wP rfl (wB 5 rfl rfl rfl (wP rfl (wP rfl (wP rfl (Aa (zE ?_))))))))))
  by_cases hz:k=0
  ·have hab:a=b:=by subst hz;rw[I3] at hk1;omega
   refine AT 41 (.bool true) rfl (congrArg Value.bool (by rw[hz,Bc];rfl)) ?_
   refine zR rfl (zA (zB (wP rfl (wP rfl (Aa (zE (zO (zQ (zP ?_)))))))))
   exact Ar tH rfl (.tmp rfl) (.tmp rfl) () (by unfold FV;rw[if_neg (by omega),if_pos hab]) trivial fun W _=>Ae.nil _ _
  ·have h0:=KJ hz
   refine AT 41 (.bool false) rfl (congrArg Value.bool (by rw[beq_eq_false_iff_ne];show((lbs bs k).length:Int)≠0;omega)) ?_
   refine zS rfl (zA (zB (wP rfl (wB 5 rfl rfl rfl (wP rfl (Aa (zE ?_)))))))
   cases mk with
   |true=>
    have hab:a<b:=by
     have:sg true k= -(k:Int):=rfl
     omega
    refine zR rfl (zA (zB (wP rfl (wP rfl (Aa (zE (zO (zQ (zP ?_)))))))))
    exact Ar tH rfl (.tmp rfl) (.tmp rfl) () (by unfold FV;rw[if_pos hab]) trivial fun W _=>Ae.nil _ _
   |false=>
    have hab:b<a:=by
     have:sg false k=(k:Int):=rfl
     omega
    refine zS rfl (zI (zN (zE (zA (zB (wP rfl (wP rfl (Aa (zE (zO ?_))))))))))
    exact Ar tH rfl (.tmp rfl) (.tmp rfl) () (by unfold FV;rw[if_neg (by omega),if_neg (by omega)]) trivial fun W _=>Ae.nil _ _
-- BOXES 6
theorem T1 (x y:Int):Int.gcd y (x.tmod y)=Int.gcd x y:=by
 unfold Int.gcd
 rw[Int.natAbs_tmod,Nat.gcd_comm x.natAbs,Nat.gcd_rec y.natAbs x.natAbs,Nat.gcd_comm]
theorem Wv {a b:Int} {n:Nat} (ha:a.natAbs<n) (hb:b.natAbs<n):Int.gcd a b<n:=by
 unfold Int.gcd
 by_cases h:a.natAbs=0
 ·rw[h,Nat.gcd_zero_left];exact hb
 ·exact Nat.lt_of_le_of_lt (Nat.gcd_le_left _ (by omega)) ha
theorem QQ (a b:Int) (ha:okN a) (hb:okN b) (W:World) (ht:AV W):
  Aj Tryz.prog 151 #[str (itoa a),str (itoa b)] W (fun _:Unit=> .tuple #[str (decDigits (Int.gcd a b)), .int .i64 0]) (fun _=>True) (fun _=>[]):=by
 have hla:=DN ha
 have hlb:=DN hb
 refine Ad (args:=[str (itoa a),str (itoa b)]) Tryz.func151 rfl rfl rfl ?_
 refine zA (zB (wP rfl (wP rfl (Aa (zE (zA (zA (zB (wP rfl (wP rfl ?_))))))))))
 refine Ac rfl rfl rfl rfl rfl rfl (by kernel_rfl) (fun W _=>D7 a b ha hb W) ?_
 refine wP rfl (Aa (zE (zA (zB (wP rfl (wP rfl (Aa (zE (zS rfl (zI (zE (zA (zA ?_)))))))))))))
 refine zB (wP rfl (wP rfl ?_))
 by_cases hs:(itoa a).length≤18∧(itoa b).length≤18
 ·obtain⟨a1,a2⟩:=Eg hs.1
  obtain⟨b1,b2⟩:=Eg hs.2
  refine Ac rfl rfl rfl rfl rfl rfl (by kernel_rfl) (fun W _=>DX a b hs.1 hs.2 W) ?_
  iterate 7 refine wP rfl ?_
  refine Aa (zE (zA (zB (wP rfl (Aa (zE (zR rfl (zA (zH ?_)))))))))
  refine Av (X:=Int×Int) (fun x=>[(7, .int .i64 x.1),(8, .int .i64 x.2)]) (fun _=>[]) (fun x=>(-1000000000000000000<x.1∧x.1<1000000000000000000)∧(-1000000000000000000<x.2∧x.2<1000000000000000000)∧Int.gcd x.1 x.2=Int.gcd a b) (fun x=>x.2.natAbs) (a,b) ⟨⟨a1,a2⟩,⟨b1,b2⟩,rfl⟩ ⟨rfl,rfl,trivial⟩ [] rfl ?_
  rintro⟨x,y⟩ ⟨⟨hx1,hx2⟩,⟨hy1,hy2⟩,hg⟩
  have hx1: -1000000000000000000<x:=hx1
  have hx2:x<1000000000000000000:=hx2
  have hy1: -1000000000000000000<y:=hy1
  have hy2:y<1000000000000000000:=hy2
  have hg:Int.gcd x y=Int.gcd a b:=hg
  refine zA (zA (zB (wP rfl (wP rfl (Aa (zE ?_))))))
  by_cases hy:y=0
  ·refine AT 29 (.bool false) rfl (congrArg Value.bool (by rw[hy];rfl)) ?_
   refine zS rfl (zJ (zK (zK (zL (zE (zA (zB ?_)))))))
   have hgx:(if w64 (0-x)>x then w64 (0-x) else x)=((Int.gcd a b:Nat):Int):=by
    rw[←hg,hy,Int.gcd_zero_right,An (by omega) (by omega)]
    split<;>omega
   have hgb:Int.gcd a b<1000000000000000000:=Wv (by omega) (by omega)
   refine wP rfl (wP rfl (wP rfl (wP rfl ?_)))
   refine Ab 37 (.int .i64 ((Int.gcd a b:Nat):Int)) rfl (congrArg (Value.int .i64) hgx) ?_
   refine Ac rfl rfl rfl rfl rfl rfl (by kernel_rfl) (fun W hp=>(BA ((Int.gcd a b:Nat):Int) (by omega) (by omega) W (ht.hp hp)).cast (by rw[GT])) ?_
   refine wP rfl (wP rfl (Aa (zE (zO (zP ?_)))))
   exact Ar tH rfl (.tmp rfl) (.tmp rfl) () rfl trivial fun W _=>Ae.nil _ _
  ·refine AT 29 (.bool true) rfl (congrArg Value.bool (by rw[bne_iff_ne];exact hy)) ?_
   refine zR rfl (zI (zE (zH ?_)))
   refine zT Tryz.mixed (by kernel_rfl) ?_
   refine qP rfl (qP rfl (qP rfl ?_))
   refine EN rfl rfl rfl rfl rfl hy ?_
   refine qP rfl (qP rfl (AE (Aa (zN ?_))))
   have hr:(x.tmod y).natAbs=x.natAbs%y.natAbs:=Int.natAbs_tmod ..
   have hr2:x.natAbs%y.natAbs<y.natAbs:=Nat.mod_lt _ (by omega)
   exact As (y,x.tmod y) ⟨⟨hy1,hy2⟩,⟨by show _<x.tmod y;omega,by show x.tmod y<_;omega⟩,by show Int.gcd y (x.tmod y)=_;rw[T1];exact hg⟩ (by show(x.tmod y).natAbs<y.natAbs;omega) ⟨rfl,rfl,trivial⟩ [] rfl
 ·refine Ac rfl rfl rfl rfl rfl rfl (by kernel_rfl) (fun W _=>FH a b hs W) ?_
  iterate 7 refine wP rfl ?_
  refine Aa (zE (zA (zB (wP rfl (Aa (zE (zS rfl (zI (zE (zA (zB (wP rfl ?_))))))))))))
  refine Au (X:=NV) rfl rfl rfl rfl rfl rfl (by kernel_rfl) (fun W _=>BX W a (by have:=ha.dd;omega)) ?_
  rintro⟨g1,c1,j1⟩ hV1
  refine wP rfl (wP rfl ?_)
  refine Au (X:=NV) rfl rfl rfl rfl rfl rfl (by kernel_rfl) (fun W _=>BX W b (by have:=hb.dd;omega)) ?_
  rintro⟨g2,c2,j2⟩ hV2
  refine wP rfl (wP rfl (wP rfl (Aa (zE (zA (zH ?_))))))
  refine KW (X:=(Nat×NV)×Nat×NV) (fun _=>[]) (fun x=>[(10,BG x.1.2 (lbs bs x.1.1).length),(11,BG x.2.2 (lbs bs x.2.1).length)]) (fun x=>[BH x.1.2 (lbs bs x.1.1),BH x.2.2 (lbs bs x.2.1)])
   (fun x=>x.1.1<Bp∧x.2.1<Bp∧Nat.gcd x.1.1 x.2.1=Int.gcd a b) (fun x=>x.2.1) ((a.natAbs,g1,c1,j1),b.natAbs,g2,c2,j2) ⟨ha,hb,rfl⟩ rfl ⟨rfl,rfl,trivial⟩ [] rfl ?_
  rintro⟨⟨m,A⟩,n,B⟩ ⟨hm,hn,hg⟩
  have hm:m<Bp:=hm
  have hn:n<Bp:=hn
  have hg:Nat.gcd m n=Int.gcd a b:=hg
  have hlm:=DN hm
  have hln:=DN hn
  refine zA (zA (zB (wP rfl (wP rfl (wP rfl (Aa (zE ?_)))))))
  by_cases h0:n=0
  ·refine AT 47 (.bool false) rfl (congrArg Value.bool (by rw[h0,Bc];rfl)) ?_
   refine zS rfl (zJ (zK (zK (zL (zE (zA (zB ?_)))))))
   have hgm:m=Int.gcd a b:=by rw[←hg,h0,Nat.gcd_zero_right]
   have hz:KY (sg false m)= .tuple #[str (decDigits (Int.gcd a b)), .int .i64 0]:=by
    have e:sg false m=((m:Nat):Int):=rfl
    rw[e,Fu (show okN ((m:Nat):Int) from hm),GT,hgm]
   refine wP rfl ?_
   refine AA Tryz.hZ tH rfl rfl rfl rfl rfl rfl rfl rfl ?_
   refine Ac rfl rfl rfl rfl rfl rfl (by kernel_rfl) (fun W' hp=>(Cj W' _ A.2.1 false m (A4.of_bx hp 0 rfl) (by omega) (ht.hp hp)).cast hz) ?_
   refine wP rfl (wP rfl (wP rfl (wP rfl (Aa (zE (zO ?_))))))
   exact Ar tH rfl (.tmp rfl) (.tmp rfl) () rfl trivial fun W _=>Ae.nil _ _
  ·have hk:=KJ h0
   refine AT 47 (.bool true) rfl (congrArg Value.bool (decide_eq_true (by show((lbs bs n).length:Int)>0;omega))) ?_
   refine zR rfl (zI (zE (zH (zA (zB (wP rfl (wP rfl ?_)))))))
   refine Au (X:=Vec×Option NV) rfl rfl rfl rfl rfl rfl (by kernel_rfl) (fun W' hp=>IQ W' _ _ A.2.1 B.2.1 m n (A4.of_bx hp 0 rfl) (A4.of_bx hp 1 rfl) h0 (by omega) (by omega)) ?_
   rintro⟨V,R⟩ ⟨hV,hR⟩
   cases R with
   |none=>
    have hR:m<n:=hR
    iterate 5 refine wP rfl ?_
    refine Aa (zE (zB (wP rfl (wP rfl (wP rfl (wP rfl (Aa (zN ?_))))))))
    exact I1 ((n,B),m,A) ⟨hn,hm,by show Nat.gcd n m=_;rw[Nat.gcd_comm];exact hg⟩ hR rfl ⟨rfl,rfl,trivial⟩ [1,0] (by decide) rfl
   |some R=>
    iterate 5 refine wP rfl ?_
    refine Aa (zE (zB (wP rfl (wP rfl (wP rfl (wP rfl (Aa (zN ?_))))))))
    have hmn:m%n<n:=Nat.mod_lt _ (by omega)
    exact I1 ((n,B),m%n,R) ⟨hn,Nat.lt_trans hmn hn,by show Nat.gcd n (m%n)=_;rw[Nat.gcd_comm, ←Nat.gcd_rec,Nat.gcd_comm];exact hg⟩ hmn rfl ⟨rfl,rfl,trivial⟩ [1,3] (by decide) rfl
-- BOXES 6
theorem Uw {g:Int} (hg:0<g):itoa g≠[48]:=by
 intro e
 have h:=GT g.toNat
 rw[show((g.toNat:Nat):Int)=g by omega,e] at h
 obtain⟨b,r,h1,h2⟩:=K7 g.toNat (by omega)
 rw[h1] at h
 injection h with h3 _
 rw[←h3] at h2
 exact h2 rfl
theorem LA (g k:Int) (hg:0<g) (ha:okN (g*k)) (hb:okN g) (W:World) (ht:AV W):
  Aj Tryz.prog 152 #[str (itoa (g*k)),str (itoa g)] W (fun _:Unit=> .tuple #[str (itoa k),str [48], .int .i64 0]) (fun _=>True) (fun _=>[]):=by
 obtain⟨a,hav⟩: ∃a,g*k=a:=⟨_,rfl⟩
 have hka:k.natAbs≤a.natAbs:=by
  rw[←hav,Int.natAbs_mul]
  exact Nat.le_mul_of_pos_left _ (by omega)
 have hk:okN k:=by rw[hav] at ha;exact Nat.lt_of_le_of_lt hka ha
 have hna:a.natAbs=g.natAbs*k.natAbs:=by rw[←hav,Int.natAbs_mul]
 have hq:a.tdiv g=k:=by rw[←hav];exact Int.mul_tdiv_cancel_left _ (by omega)
 have hr:a.tmod g=0:=by rw[←hav,Int.mul_comm];exact Int.mul_tmod_left ..
 rw[hav] at ha⊢
 have hla:=DN ha
 have hlb:=DN hb
 refine Ad (args:=[str (itoa a),str (itoa g)]) Tryz.func152 rfl rfl rfl ?_
 refine zA (zB (wP rfl (wP rfl (wP rfl (Aa (zE (zA (zA (zB (wP rfl (wP rfl ?_)))))))))))
 refine Ac rfl rfl rfl rfl rfl rfl (by kernel_rfl) (fun W _=>D7 a g ha hb W) ?_
 refine wP rfl (Aa (zE (zA (zB (wP rfl (wP rfl (Aa (zE (zS rfl (zI (zE (zA (zA ?_)))))))))))))
 refine zB (wP rfl (wP rfl ?_))
 refine Ab 28 (.bool false) rfl (congrArg Value.bool (by
  rw[G7,G7 [48],beq_eq_false_iff_ne]
  exact Uw hg)) ?_
 refine Aa (zE (zS rfl (zI (zE (zA (zA (zB (wP rfl (wP rfl ?_)))))))))
 by_cases hs:(itoa a).length≤18∧(itoa g).length≤18
 ·obtain⟨a1,a2⟩:=Eg hs.1
  obtain⟨b1,b2⟩:=Eg hs.2
  refine Ac rfl rfl rfl rfl rfl rfl (by kernel_rfl) (fun W _=>DX a g hs.1 hs.2 W) ?_
  iterate 7 refine wP rfl ?_
  refine Aa (zE (zA (zB (wP rfl (Aa (zE (zR rfl (zA ?_))))))))
  refine zT Tryz.mixed (by kernel_rfl) ?_
  refine qP rfl (qP rfl ?_)
  refine J7 rfl rfl rfl rfl rfl (by omega) ?_
  refine A6 39 (.int .i64 k) rfl (congrArg (Value.int .i64) (by rw[hq];exact An (by omega) (by omega))) ?_
  refine qP rfl (qP rfl ?_)
  refine EN rfl rfl rfl rfl rfl (by omega) ?_
  refine A6 42 (.int .i64 0) rfl (congrArg (Value.int .i64) hr) ?_
  refine qP rfl (qP rfl (AE (Aa (zE (zA (zA (zB (wP rfl (wP rfl (wP rfl ?_))))))))))
  iterate 5 refine Ah rfl rfl ?_
  refine wP rfl (Aa (zE (zS rfl (zI (zE (zA (zB (wP rfl ?_))))))))
  refine Ac rfl rfl rfl rfl rfl rfl (by kernel_rfl) (fun W hp=>BA k (by omega) (by omega) W (ht.hp hp)) ?_
  refine wP rfl ?_
  refine Ac rfl rfl rfl rfl rfl rfl (by kernel_rfl) (fun W hp=>(BA 0 (by decide) (by decide) W (ht.hp hp)).cast (by rw[CT])) ?_
  refine wP rfl (wP rfl (wP rfl (Aa (zE (zO (zP ?_))))))
  exact BW tH rfl (.tmp rfl) (.tmp rfl) (.tmp rfl) () rfl trivial fun W _=>Ae.nil _ _
 ·refine Ac rfl rfl rfl rfl rfl rfl (by kernel_rfl) (fun W _=>FH a g hs W) ?_
  have hg0:g.natAbs≠0:=by omega
  have eq:a.natAbs/g.natAbs=k.natAbs:=by rw[hna];exact Nat.mul_div_cancel_left _ (by omega)
  have er:a.natAbs%g.natAbs=0:=by rw[hna];exact Nat.mul_mod_right ..
  have hgf:decide (g<0)=false:=decide_eq_false (by omega)
  have esg:sg (decide (a<0) !=decide (g<0)) k.natAbs=k:=by
   rw[hgf,Bool.bne_false]
   have h1:=E1 k
   by_cases h0:k=0
   ·subst h0;exact I3 _
   ·have:decide (a<0)=decide (k<0):=by
     rw[←hav]
     apply decide_eq_decide.2
     constructor
     ·intro h
      by_cases h2:k<0
      ·exact h2
      ·have:=Int.mul_nonneg (Int.le_of_lt hg) (show 0≤k by omega);omega
     ·intro h
      exact Int.mul_neg_of_pos_of_neg hg h
    rw[this];exact h1
  iterate 7 refine wP rfl ?_
  refine Aa (zE (zA (zB (wP rfl (Aa (zE (zS rfl (zI (zE (zA (zB (wP rfl ?_))))))))))))
  refine Au (X:=NV) rfl rfl rfl rfl rfl rfl (by kernel_rfl) (fun W _=>BX W a (by have:=ha.dd;omega)) ?_
  rintro⟨g1,c1,j1⟩ hV1
  refine wP rfl ?_
  refine Au (X:=NV) rfl rfl rfl rfl rfl rfl (by kernel_rfl) (fun W _=>BX W g (by have:=hb.dd;omega)) ?_
  rintro⟨g2,c2,j2⟩ hV2
  (refine Ao Tryz.hZ rfl rfl rfl rfl ?_;intro)
  (refine Ao Tryz.hZ rfl rfl rfl rfl ?_;intro)
  refine wS 2 rfl rfl rfl (wS 3 rfl rfl rfl (Aa ?_))
  rename_i b13 b14
  refine zE (zA (zB (wP rfl (wB 2 rfl rfl rfl (wP rfl (wB 3 rfl rfl rfl ?_))))))
  refine Au (X:=Vec×Option NV) rfl rfl rfl rfl rfl rfl (by kernel_rfl) (fun W' hp=>IQ W' _ _ c1 c2 a.natAbs g.natAbs (A4.of_bx hp 0 rfl) (A4.of_bx hp 1 rfl) hg0 (by omega) (by omega)) ?_
  rintro⟨V,R⟩ ⟨hV,hR⟩
  obtain⟨p1,cp1,hv1, -,hI1⟩:=Ut hV
  obtain⟨p2,cp2,hv2,hI2⟩: ∃p2 cp2,dvV (some ⟨g1,0,none⟩) c1 a.natAbs g.natAbs (V,R)= .tuple #[slv p1 (lbs bs (a.natAbs/g.natAbs)).length cp1,slv p2 0 cp2]∧ ∀W',A4 W' p2 (lbs bs 0):=by
   cases R with
   |none=>
    have hR:a.natAbs<g.natAbs:=hR
    have h0:a.natAbs=0:=by rw[←er,Nat.mod_eq_of_lt hR]
    refine⟨some ⟨g1,0,none⟩,c1, ?_,fun W'=> .inl Bc⟩
    show Value.tuple #[V.val _,slv (some ⟨g1,0,none⟩) (lbs bs a.natAbs).length c1]=_
    rw[hv1,h0,Bc];rfl
   |some R=>
    refine⟨some ⟨R.1,0,none⟩,R.2.1, ?_,fun W'=> .inl Bc⟩
    show Value.tuple #[V.val _,BG R (lbs bs (a.natAbs%g.natAbs)).length]=_
    rw[hv1,er,Bc];rfl
  refine Ab 70 (.tuple #[slv p1 (lbs bs (a.natAbs/g.natAbs)).length cp1,slv p2 0 cp2]) rfl hv2 ?_
  iterate 5 refine wP rfl ?_
  refine Aa (zE (zA (zA (zB (wP rfl (wB 2 rfl rfl rfl (wP rfl (wB 3 rfl rfl rfl ?_))))))))
  refine DZ Tryz.underlying4 rfl rfl rfl rfl rfl rfl ?_
  have hbx: ∃bxr,dvB a.natAbs g.natAbs (V,R)=V.bx 3 (nI (lbs bs (a.natAbs/g.natAbs)))::bxr:=⟨_,rfl⟩
  obtain⟨bxr,hbxr⟩:=hbx
  rw[hbxr]
  refine AM 77 rfl (fun h77=> ?_) (fun h77=> ?_)
  ·refine wP rfl (wP rfl (wP rfl (wP rfl (wP rfl (Aa (zE (zS rfl (zI (zE (zA (zB (wP rfl (wB 2 rfl rfl rfl ?_)))))))))))))
   refine wP rfl (wB 3 rfl rfl rfl ?_)
   refine DZ Tryz.underlying4 rfl rfl rfl rfl rfl rfl ?_
   refine wP rfl ?_
   refine AA Tryz.hZ tH rfl rfl rfl rfl rfl rfl rfl rfl ?_
   refine Ac rfl rfl rfl rfl rfl rfl (by kernel_rfl) (fun W' hp=>(Cj W' p1 cp1 (decide (a<0) !=decide (g<0)) (a.natAbs/g.natAbs) (hI1 hp 4 rfl) (by rw[eq];have:=NX hka hla;omega) (ht.hp hp)).cast (by rw[eq,esg,Fu hk])) ?_
   iterate 5 refine wP rfl ?_
   refine Aa (zE (zA (zB (wP rfl (wB 3 rfl rfl rfl (wP rfl ?_))))))
   refine AA Tryz.hZ tH rfl rfl rfl rfl rfl rfl rfl rfl ?_
   refine Ac (v:= .tuple #[str [48], .int .i64 0]) rfl rfl rfl rfl rfl rfl (by kernel_rfl) (fun W' hp=>by
    have h:=Cj W' p2 cp2 (decide (g<0)) 0 (hI2 W') (by rw[Bc];decide) (ht.hp hp)
    rw[Bc,I3,Fu (show okN 0 from Nat.pow_pos (by decide)),CT] at h
    exact h) ?_
   iterate 5 refine wP rfl ?_
   refine Aa (zE (zA (zA (zB ?_))))
   iterate 6 refine wP rfl ?_
   refine Aa (zE (zS rfl (zI (zE (zA (zB ?_))))))
   iterate 5 refine wP rfl ?_
   refine Aa (zE (zO ?_))
   exact BW tH rfl (.tmp rfl) (.tmp rfl) (.tmp rfl) () rfl trivial fun W _=>Ae.nil _ _
  ·refine wP rfl ?_
   iterate 3 refine Ah rfl rfl ?_
   refine wP rfl (Aa (zE (zS rfl (zI (zE (zA (zB (wP rfl (wB 2 rfl rfl rfl (wP rfl (wB 3 rfl rfl rfl ?_)))))))))))
   refine DZ Tryz.underlying4 rfl rfl rfl rfl rfl rfl ?_
   refine wP rfl ?_
   refine AA Tryz.hZ tH rfl rfl rfl rfl rfl rfl rfl rfl ?_
   refine Ac rfl rfl rfl rfl rfl rfl (by kernel_rfl) (fun W' hp=>(Cj W' p1 cp1 (decide (a<0) !=decide (g<0)) (a.natAbs/g.natAbs) (hI1 hp 4 rfl) (by rw[eq];have:=NX hka hla;omega) (ht.hp hp)).cast (by rw[eq,esg,Fu hk])) ?_
   iterate 5 refine wP rfl ?_
   refine Aa (zE (zA (zB (wP rfl (wB 3 rfl rfl rfl (wP rfl ?_))))))
   refine AA Tryz.hZ tH rfl rfl rfl rfl rfl rfl rfl rfl ?_
   refine Ac (v:= .tuple #[str [48], .int .i64 0]) rfl rfl rfl rfl rfl rfl (by kernel_rfl) (fun W' hp=>by
    have h:=Cj W' p2 cp2 (decide (g<0)) 0 (hI2 W') (by rw[Bc];decide) (ht.hp hp)
    rw[Bc,I3,Fu (show okN 0 from Nat.pow_pos (by decide)),CT] at h
    exact h) ?_
   iterate 5 refine wP rfl ?_
   refine Aa (zE (zA (zA (zB ?_))))
   iterate 6 refine wP rfl ?_
   refine Aa (zE (zS rfl (zI (zE (zA (zB ?_))))))
   iterate 5 refine wP rfl ?_
   refine Aa (zE (zO ?_))
   exact BW tH rfl (.tmp rfl) (.tmp rfl) (.tmp rfl) () rfl trivial fun W _=>Ae.nil _ _
-- BOXES 3
def rdR (a:List UInt8):(List UInt8×List UInt8)×Int:=match frm a with
 |none=>(([],[]),11)
 |some (z,d)=>if z.natAbs<Bp∧d<Bp then(if Nat.gcd z.natAbs d=1 then((itoa z,decDigits d),0) else(([],[]),11)) else(([],[]),4)
def rdV (a:List UInt8):Value:= .tuple #[ID (rdR a).1.1 (rdR a).1.2, .int .i64 (rdR a).2]
theorem UT {a:List UInt8} (h:frm a=none):rdV a= .tuple #[ID [] [], .int .i64 11]:=by
 have e:rdR a=(([],[]),11):=by unfold rdR;rw[h]
 rw[rdV,e]
theorem RR {a:List UInt8} {z:Int} {d:Nat} (h:frm a=some (z,d)) (hl: ¬(z.natAbs<Bp∧d<Bp)):rdV a= .tuple #[ID [] [], .int .i64 4]:=by
 have e:rdR a=(([],[]),4):=by unfold rdR;rw[h];exact if_neg hl
 rw[rdV,e]
theorem WM {a:List UInt8} {z:Int} {d:Nat} (h:frm a=some (z,d)) (hl:z.natAbs<Bp∧d<Bp) (hg:Nat.gcd z.natAbs d≠1):rdV a= .tuple #[ID [] [], .int .i64 11]:=by
 have e:rdR a=(([],[]),11):=by unfold rdR;rw[h];exact(if_pos hl).trans (if_neg hg)
 rw[rdV,e]
theorem RD {a:List UInt8} {z:Int} {d:Nat} (h:frm a=some (z,d)) (hl:z.natAbs<Bp∧d<Bp) (hg:Nat.gcd z.natAbs d=1):rdV a= .tuple #[ID (itoa z) (decDigits d), .int .i64 0]:=by
 have e:rdR a=((itoa z,decDigits d),0):=by unfold rdR;rw[h];exact(if_pos hl).trans (if_pos hg)
 rw[rdV,e]
theorem R6 {a:List UInt8} {z:Int} {d:Nat} (h:frm a=some (z,d)):(decDigits z.natAbs).length≤a.length∧(decDigits d).length≤a.length+1:=by
 obtain⟨h1,h2⟩:=OQ h
 have h3:(decDigits z.natAbs).length≤(itoa z).length:=by
  unfold itoa
  split
  ·rw[List.length_cons];omega
  ·rename_i hz;rw[show z.toNat=z.natAbs by omega];exact Nat.le_refl _
 rw[h2]
 unfold FW
 split
 ·rename_i e;rw[e,FD];exact⟨h3,by simp⟩
 ·rw[List.length_append,List.length_cons];omega
theorem LV (z:Int) (d:Nat) (hz:z.natAbs<Bp) (hd:d<Bp) (W:World) (ht:AV W):
  Aj Tryz.prog 151 #[str (itoa z),str (decDigits d)] W (fun _:Unit=> .tuple #[str (decDigits (Nat.gcd z.natAbs d)), .int .i64 0]) (fun _=>True) (fun _=>[]):=by
 have h:=QQ z (d:Nat) hz (by show Int.natAbs _<_;rw[Int.natAbs_natCast];exact hd) W ht
 rw[Ca,show Int.gcd z (d:Nat)=Nat.gcd z.natAbs d by rw[Int.gcd,Int.natAbs_natCast]] at h
 exact h
theorem D9 (a:List UInt8) (hl:a.length≤4000000000) (W:World) (hv:BJ W) (ht:AV W):
  Aj Tryz.prog 178 #[str a] W (fun _:Unit=>rdV a) (fun _=>True) (fun _=>[]):=by
 refine Ad (args:=[str a]) Tryz.func178 rfl rfl rfl ?_
 refine zA (zB ?_)
 (refine Ao Tryz.hZ rfl rfl rfl rfl ?_;intro)
 refine wP rfl (Aa ?_)
 rename_i b2
 refine zE (zA (zB (wP rfl ?_)))
 cases hf:frm a with
 |none=>
  refine Ac rfl rfl rfl rfl rfl rfl (by kernel_rfl) (fun W hp=>(Li a hl W (hv.hp hp)).cast (by rw[KN,hf])) ?_
  refine wP rfl (wP rfl (wP rfl ?_))
  (refine Ao Tryz.hZ rfl rfl rfl rfl ?_;intro)
  refine wS 1 rfl rfl rfl (wP rfl (Aa (zE (zA (zA (zB (wP rfl (wP rfl (Aa (zE (zR rfl (zA (zB ?_)))))))))))))
  refine AA Tryz.hZ tH rfl rfl rfl rfl rfl rfl rfl rfl ?_
  refine wS 0 rfl rfl rfl (wP rfl (Aa (zE (zO (zP ?_)))))
  exact Ar tH rfl (.cell 0 rfl rfl rfl rfl rfl) (.tmp rfl) () (UT hf).symm trivial fun W _=>Ae.nil _ _
 |some x=>
  obtain⟨z,d⟩:=x
  obtain⟨hd1,hap⟩:=OQ hf
  obtain⟨hz2,hd2⟩:=R6 hf
  refine Ac rfl rfl rfl rfl rfl rfl (by kernel_rfl) (fun W hp=>(Li a hl W (hv.hp hp)).cast (by rw[KN,hf])) ?_
  refine wP rfl (wP rfl (wP rfl ?_))
  (refine Ao Tryz.hZ rfl rfl rfl rfl ?_;intro)
  refine wS 1 rfl rfl rfl (wP rfl (Aa ?_))
  rename_i b4
  refine zE (zA (zA (zB (wP rfl (wP rfl (Aa (zE (zS rfl (zI (zE (zA (zA (zB ?_)))))))))))))
  refine wP rfl ?_
  cases hn:Eu a with
  |some y=>
   obtain⟨z',d'⟩:=y
   obtain⟨e1,e2,e3,e4⟩:=Jv.1 hn
   rw[hf] at e1
   injection e1 with e1
   injection e1 with ez ed
   subst ez;subst ed
   have hlt: ∀n,n<100000000→n<Bp:=fun n h=>Nat.lt_of_lt_of_le (Nat.lt_of_lt_of_le h (show 100000000≤10^8 by decide)) (Nat.pow_le_pow_right (by decide) (show 8≤mxd by decide))
   refine Ac rfl rfl rfl rfl rfl rfl (by kernel_rfl) (fun W _=>(Bv a (by omega) W).cast (by rw[Dx,hn])) ?_
   refine wP rfl (wP rfl (wP rfl ?_))
   (refine Ao Tryz.hZ rfl rfl rfl rfl ?_;intro)
   refine wS 2 rfl rfl rfl (wP rfl (Aa (zE (zA (zB (wP rfl (Aa (zE (zR rfl (zA (zB (wB 1 rfl rfl rfl (wS 0 rfl rfl rfl ?_)))))))))))))
   refine wP rfl (Aa (zE (zO (zP ?_))))
   exact Ar tH rfl (.cell 0 rfl rfl rfl rfl rfl) (.tmp rfl) () (RD hf ⟨hlt _ e2,hlt _ e3⟩ e4).symm trivial fun W _=>Ae.nil _ _
  |none=>
   refine Ac rfl rfl rfl rfl rfl rfl (by kernel_rfl) (fun W _=>(Bv a (by omega) W).cast (by rw[Dx,hn])) ?_
   refine wP rfl (wP rfl (wP rfl ?_))
   (refine Ao Tryz.hZ rfl rfl rfl rfl ?_;intro)
   refine wS 2 rfl rfl rfl (wP rfl (Aa ?_))
   rename_i b6
   refine zE (zA (zB (wP rfl (Aa (zE (zS rfl (zI (zE (zA (zA (zB (wP rfl (wB 1 rfl rfl rfl ?_)))))))))))))
   refine Ac rfl rfl rfl rfl rfl rfl (by kernel_rfl) (fun W _=>(Cw (itoa z) [45] W).cast (by rw[Bn])) ?_
   refine wP rfl ?_
   refine Ab 28 (.int .i64 ((decDigits z.natAbs).length:Nat)) rfl (congrArg (fun n:Nat=>Value.int .i64 (n:Int)) (AF _)) ?_
   refine wP rfl ?_
   by_cases hzl:z.natAbs<Bp
   ·have hz3:=GA.2 hzl
    refine Ab 29 (.bool false) rfl (congrArg Value.bool (decide_eq_false (by omega))) ?_
    refine wP rfl (wP rfl (wB 1 rfl rfl rfl (wP rfl ?_)))
    refine Ab 33 (.int .i64 ((decDigits d).length:Nat)) rfl (congrArg (fun n:Nat=>Value.int .i64 (n:Int)) (AF _)) ?_
    refine wP rfl ?_
    by_cases hdl:d<Bp
    ·have hd3:=GA.2 hdl
     refine Ab 34 (.bool false) rfl (congrArg Value.bool (decide_eq_false (by omega))) ?_
     refine wP rfl (Aa (zE (zS rfl (zI (zE (zA (zA (zB (wP rfl (wB 1 rfl rfl rfl (wP rfl ?_)))))))))))
     by_cases h1:d=1
     ·refine Ab 39 (.bool true) rfl (congrArg Value.bool ((AR _ [49]).trans (decide_eq_true (by rw[h1,FD])))) ?_
      refine Aa (zE (zR rfl (zA (zB (wB 1 rfl rfl rfl (wS 0 rfl rfl rfl (wP rfl (Aa (zE (zO (zP ?_)))))))))))
      exact Ar tH rfl (.cell 0 rfl rfl rfl rfl rfl) (.tmp rfl) () (RD hf ⟨hzl,hdl⟩ (by rw[h1,Nat.gcd_one_right])).symm trivial fun W _=>Ae.nil _ _
     ·refine Ab 39 (.bool false) rfl (congrArg Value.bool ((AR _ [49]).trans (decide_eq_false (fun e=>h1 (by have:=congrArg AO e;rw[Cs] at this;exact this))))) ?_
      refine Aa (zE (zS rfl (zI (zE (zA (zA (zB (wP rfl (wB 1 rfl rfl rfl (wP rfl (wB 1 rfl rfl rfl ?_)))))))))))
      refine Ac rfl rfl rfl rfl rfl rfl (by kernel_rfl) (fun W hp=>LV z d hzl hdl W (ht.hp hp)) ?_
      iterate 5 refine wP rfl ?_
      refine Aa (zE (zA (zB ?_)))
      iterate 5 refine wP rfl ?_
      by_cases hg:Nat.gcd z.natAbs d=1
      ·refine Ab 53 (.bool false) rfl (congrArg Value.bool (by show(!_)=false;rw[AR,hg,FD];rfl)) ?_
       refine wP rfl (Aa (zE (zS rfl (zI (zE (zA (zB (wB 1 rfl rfl rfl (wS 0 rfl rfl rfl (wP rfl (Aa (zE (zO ?_)))))))))))))
       exact Ar tH rfl (.cell 0 rfl rfl rfl rfl rfl) (.tmp rfl) () (RD hf ⟨hzl,hdl⟩ hg).symm trivial fun W _=>Ae.nil _ _
      ·refine Ab 53 (.bool true) rfl (congrArg Value.bool (by show(!_)=true;rw[AR,decide_eq_false (fun e=>hg (by have:=congrArg AO e;rw[Cs] at this;exact this))];rfl)) ?_
       refine wP rfl (Aa (zE (zR rfl (zA (zB ?_)))))
       refine AA Tryz.hZ tH rfl rfl rfl rfl rfl rfl rfl rfl ?_
       refine wS 0 rfl rfl rfl (wP rfl (Aa (zE (zO (zP ?_)))))
       exact Ar tH rfl (.cell 0 rfl rfl rfl rfl rfl) (.tmp rfl) () (WM hf ⟨hzl,hdl⟩ hg).symm trivial fun W _=>Ae.nil _ _
    ·have hd3: ¬(decDigits d).length≤300:=fun h=>hdl (GA.1 h)
     refine Ab 34 (.bool true) rfl (congrArg Value.bool (decide_eq_true (by omega))) ?_
     refine wP rfl (Aa (zE (zR rfl (zA (zB ?_)))))
     refine AA Tryz.hZ tH rfl rfl rfl rfl rfl rfl rfl rfl ?_
     refine wS 0 rfl rfl rfl (wP rfl (Aa (zE (zO (zP ?_)))))
     exact Ar tH rfl (.cell 0 rfl rfl rfl rfl rfl) (.tmp rfl) () (RR hf fun h=>hdl h.2).symm trivial fun W _=>Ae.nil _ _
   ·have hz3: ¬(decDigits z.natAbs).length≤300:=fun h=>hzl (GA.1 h)
    refine Ab 29 (.bool true) rfl (congrArg Value.bool (decide_eq_true (by omega))) ?_
    refine wP rfl ?_
    iterate 4 refine Ah rfl rfl ?_
    refine wP rfl (Aa (zE (zR rfl (zA (zB ?_)))))
    refine AA Tryz.hZ tH rfl rfl rfl rfl rfl rfl rfl rfl ?_
    refine wS 0 rfl rfl rfl (wP rfl (Aa (zE (zO (zP ?_)))))
    exact Ar tH rfl (.cell 0 rfl rfl rfl rfl rfl) (.tmp rfl) () (RR hf fun h=>hzl h.1).symm trivial fun W _=>Ae.nil _ _
-- BOXES 3
theorem DH (z:Int):hasPrefix (itoa z) [45]=decide (z<0):=by
 rw[Bt]
 refine decide_eq_decide.2 ?_
 unfold itoa
 split
 ·rename_i h;exact⟨fun _=>h,fun _=>rfl⟩
 ·rename_i h
  obtain⟨b,r,hb,h3,h4⟩:=Cz z.toNat
  rw[hb]
  constructor
  ·intro e
   have e:b=45:=by simpa using e
   rw[e] at h3;exact absurd h3 (by decide)
  ·intro h5;exact absurd h5 h
theorem Lh {z:Int}:itoa z=[48]↔z=0:=by
 constructor
 ·intro h
  have h2:=Bn z
  rw[h] at h2
  have h3:=congrArg AO h2
  rw[Cs] at h3
  have h4:AO (trimPrefix [48] [45])=0:=by decide
  rw[h4] at h3;omega
 ·rintro rfl;exact CT
theorem Ew {z:Int} (h:okN z):(itoa z).length≤301:=by
 have h2:=GA.2 h
 unfold itoa
 split
 ·rw[List.length_cons];omega
 ·rename_i hz;rw[show z.toNat=z.natAbs by omega];omega
theorem GZ (z:Int) (hz:okN z):AX Tryz.prog 150 [str (itoa z)] (str (itoa (-z))):=by
 intro W
 refine Ad Tryz.func150 rfl rfl rfl ?_
 refine zA (zB (wP rfl (Aa (zE (zA (zA (zB (wP rfl (wP rfl ?_)))))))))
 by_cases h0:z=0
 ·refine Ab 6 (.bool true) rfl (congrArg Value.bool ((AR _ [48]).trans (decide_eq_true (Lh.2 h0)))) ?_
  refine Aa (zE (zR rfl (zA (zB (wP rfl (wP rfl (Aa (zE (zO (zP ?_))))))))))
  exact Af tH rfl (.tmp rfl) () (by rw[h0];rfl) trivial fun W _=>Ae.nil _ _
 ·refine Ab 6 (.bool false) rfl (congrArg Value.bool ((AR _ [48]).trans (decide_eq_false fun e=>h0 (Lh.1 e)))) ?_
  refine Aa (zE (zS rfl (zI (zE (zA (zA (zB (wP rfl ?_))))))))
  by_cases hn:z<0
  ·refine Ac rfl rfl rfl rfl rfl rfl (by kernel_rfl) (fun W _=>(Do (itoa z) [45] W).cast (by rw[Bn,DH,decide_eq_true hn])) ?_
   iterate 5 refine wP rfl ?_
   refine Aa (zE (zA (zB (wP rfl (Aa (zE (zR rfl (zA (zB (wP rfl (wP rfl (Aa (zE ?_)))))))))))))
   refine zO (zP ?_)
   exact Af tH rfl (.tmp rfl) () (by rw[itoa,if_neg (by omega),show(-z).toNat=z.natAbs by omega]) trivial fun W _=>Ae.nil _ _
  ·refine Ac rfl rfl rfl rfl rfl rfl (by kernel_rfl) (fun W _=>(Do (itoa z) [45] W).cast (by rw[Bn,DH,decide_eq_false hn])) ?_
   iterate 5 refine wP rfl ?_
   refine Aa (zE (zA (zB (wP rfl (Aa (zE (zS rfl (zI (zE (zA (zB (wP rfl ?_))))))))))))
   refine Ef rfl rfl rfl rfl rfl (by decide) (Nat.le_trans (Ew hz) (by decide)) ?_
   refine wP rfl (Aa (zE (zO ?_)))
   exact Af tH rfl (.tmp rfl) () (by
    rw[show itoa (-z)=45::decDigits (-z).natAbs by rw[itoa,if_pos (by omega)],Int.natAbs_neg]
    rw[show itoa z=decDigits z.natAbs by rw[itoa,if_neg hn,show z.toNat=z.natAbs by omega]];rfl) trivial fun W _=>Ae.nil _ _
theorem VG {z:Int} (h:okN z):okN (-z):=by unfold okN;rw[Int.natAbs_neg];exact h
theorem Dq (z d:Int) (hd:d≠0) (hz:okN z) (hd2:okN d) (W:World) (ht:AV W):
  Aj Tryz.prog 70 #[str (itoa z),str (itoa d)] W (fun _:Unit=> .tuple #[str (Ai (mkRat (if d<0 then -z else z) d.natAbs)), .int .i64 0]) (fun _=>True) (fun _=>[]):=by
 refine Ad (args:=[str (itoa z),str (itoa d)]) Tryz.func70 rfl rfl rfl ?_
 refine zA (zB (wP rfl (wP rfl (Aa (zE (zA (zA (zB (wP rfl ?_)))))))))
 refine Ac rfl rfl rfl rfl rfl rfl (by kernel_rfl) (fun W _=>(IX (itoa d) [45] W).cast (by rw[DH])) ?_
 refine Aa (AC ?_)
 refine AK (X:=Unit) (fun _=>[(0,str (itoa (if d<0 then -z else z))),(1,str (decDigits d.natAbs)),(4,str []),(5, .int .i64 0)]) (fun _=>[]) (fun _=>True) ?_ ?_
 ·refine Ak rfl (fun hc=> ?_) (fun hc=> ?_)
  ·have hc:=of_decide_eq_true hc
   refine zB (wP rfl ?_)
   refine Ac rfl rfl rfl rfl rfl rfl (by kernel_rfl) (fun W _=>GZ z hz W) ?_
   refine wP rfl ?_
   refine Ac rfl rfl rfl rfl rfl rfl (by kernel_rfl) (fun W _=>GZ d hd2 W) ?_
   refine wP rfl (wP rfl (Aa ?_))
   rw[if_pos hc]
   exact At () trivial ⟨rfl,by rw[show itoa (-d)=decDigits d.natAbs by rw[itoa,if_neg (by omega),show(-d).toNat=d.natAbs by omega]];rfl,rfl,rfl,trivial⟩ [] rfl
  ·have hc:=of_decide_eq_false hc
   refine zI ?_
   rw[if_neg hc]
   exact At () trivial ⟨rfl,by rw[show decDigits d.natAbs=itoa d by rw[itoa,if_neg hc,show d.toNat=d.natAbs by omega]];rfl,rfl,rfl,trivial⟩ [] rfl
 ·intro _ _
  obtain⟨x,hx⟩: ∃x,(if d<0 then -z else z)=x:=⟨_,rfl⟩
  obtain⟨e,he⟩: ∃e,d.natAbs=e:=⟨_,rfl⟩
  have hxo:okN x:=by rw[←hx];split;exact VG hz;exact hz
  have heo:e<Bp:=by rw[←he];exact hd2
  rw[hx,he]
  have he0:e≠0:=by omega
  obtain⟨g,hg⟩: ∃g,Nat.gcd x.natAbs e=g:=⟨_,rfl⟩
  have hg0:0<g:=by rw[←hg];exact Nat.gcd_pos_of_pos_right _ (by omega)
  obtain⟨k,hk⟩: ∃k,x=(g:Int)*k:=Int.natAbs_dvd_natAbs.1 (by rw[Int.natAbs_natCast, ←hg];exact Nat.gcd_dvd_left ..)
  obtain⟨m,hm⟩: ∃m,e=g*m:=by rw[←hg];exact Nat.gcd_dvd_right ..
  have hge:g≤e:=by rw[hm];exact Nat.le_mul_of_pos_right _ (Nat.pos_of_ne_zero fun h=>he0 (by rw[hm,h,Nat.mul_zero]))
  have hgo:okN (g:Int):=by unfold okN;rw[Int.natAbs_natCast];omega
  have hkx:k.natAbs≤x.natAbs:=by rw[hk,Int.natAbs_mul];exact Nat.le_mul_of_pos_left _ (by omega)
  have hme:m≤e:=by rw[hm];exact Nat.le_mul_of_pos_left _ hg0
  have hko:okN k:=Nat.lt_of_le_of_lt hkx hxo
  have hmo:m<Bp:=by omega
  have hq1:x/(g:Int)=k:=by rw[hk];exact Int.mul_ediv_cancel_left _ (by omega)
  have hq2:e/g=m:=by rw[hm];exact Nat.mul_div_cancel_left _ hg0
  have hone:m=1→Ai (mkRat x e)=itoa k:=fun h=>by rw[Lg he0 (by rw[hg,hq2,h]),hg,hq1]
  have htwo:m≠1→Ai (mkRat x e)=itoa k++[47]++decDigits m:=fun h=>by rw[PF he0 (by rw[hg,hq2];exact h),hg,hq1,hq2,Ca]
  refine A7 (zB (wP rfl (wP rfl ?_)))
  refine Ac rfl rfl rfl rfl rfl rfl (by kernel_rfl) (fun W hp=>(LV x e hxo heo W (ht.hp hp)).cast (by rw[hg])) ?_
  iterate 5 refine wP rfl ?_
  refine Aa (zE (zA (zA (zB (wP rfl (wP rfl (Aa (zE (zS rfl (zI (zE (zA (zA ?_)))))))))))))
  refine zB (wP rfl (wP rfl ?_))
  refine Ab 24 (.bool (decide (g≠1))) rfl (congrArg Value.bool (by show(!_)=_;rw[AR,decide_not];exact congrArg not (decide_eq_decide.2 ⟨fun h=>by have:=congrArg AO h;rw[Cs] at this;exact this,fun h=>by rw[h,FD]⟩))) ?_
  refine Aa (AC ?_)
  refine AK (X:=Unit) (fun _=>[(0,str (itoa k)),(1,str (decDigits m)),(4,str []),(5, .int .i64 0)]) (fun _=>[]) (fun _=>True) ?_ ?_
  ·refine Ak rfl (fun hc=> ?_) (fun hc=> ?_)
   ·refine zA (zB (wP rfl (wP rfl ?_)))
    refine Ac rfl rfl rfl rfl rfl rfl (by kernel_rfl) (fun W hp=>by have h:=LA (g:Int) k (by omega) (by rw[←hk];exact hxo) hgo W (ht.hp hp);rw[←hk,Ca] at h;exact h) ?_
    iterate 5 refine wP rfl ?_
    refine Aa (zE (zB (wP rfl (wP rfl ?_))))
    refine Ac rfl rfl rfl rfl rfl rfl (by kernel_rfl) (fun W hp=>by have h:=LA (g:Int) (m:Nat) (by omega) (by rw[←Int.natCast_mul, ←hm];unfold okN;rw[Int.natAbs_natCast];exact heo) hgo W (ht.hp hp);rw[←Int.natCast_mul, ←hm,Ca,Ca,Ca] at h;exact h) ?_
    iterate 5 refine wP rfl ?_
    refine Aa ?_
    exact At () trivial ⟨rfl,rfl,rfl,rfl,trivial⟩ [] rfl
   ·have hc:=of_decide_eq_false hc
    have h1:g=1:=Decidable.byContradiction hc
    have hkx:k=x:=by rw[hk,h1];omega
    have hme:m=e:=by rw[hm,h1];omega
    refine zI ?_
    rw[hkx,hme]
    exact At () trivial ⟨rfl,rfl,rfl,rfl,trivial⟩ [] rfl
  ·intro _ _
   refine zA (zA (zB (wP rfl (wP rfl ?_))))
   by_cases h1:m=1
   ·refine Ab 40 (.bool true) rfl (congrArg Value.bool ((AR _ [49]).trans (decide_eq_true (by rw[h1,FD])))) ?_
    refine Aa (zE (zR rfl (zA (zB (wP rfl (wP rfl (wP rfl (Aa (zE (zO (zP ?_)))))))))))
    exact Ar tH rfl (.tmp rfl) (.tmp rfl) () (by rw[hone h1]) trivial fun W _=>Ae.nil _ _
   ·refine Ab 40 (.bool false) rfl (congrArg Value.bool ((AR _ [49]).trans (decide_eq_false (fun e=>h1 (by have:=congrArg AO e;rw[Cs] at this;exact this))))) ?_
    refine Aa (zE (zS rfl (zI (zE (zA (zB (wP rfl ?_)))))))
    refine Ef rfl rfl rfl rfl rfl (Nat.le_trans (Ew hko) (by decide)) (by decide) ?_
    refine wP rfl ?_
    refine Ef rfl rfl rfl rfl rfl (by have:=Ew hko;rw[List.length_append];show _+1≤_;omega) (Nat.le_trans (GA.2 hmo) (by decide)) ?_
    refine wP rfl (wP rfl (Aa (zE (zO ?_))))
    exact Ar tH rfl (.tmp rfl) (.tmp rfl) () (by rw[htwo h1]) trivial fun W _=>Ae.nil _ _
-- BOXES 4
theorem EX {x y:Int} (hx:x.natAbs<100000000) (hy:y.natAbs<100000000):(x*y).natAbs<10000000000000000:=by
 rw[Int.natAbs_mul]
 exact Nat.lt_of_le_of_lt (Nat.mul_le_mul (Nat.le_of_lt_succ (Nat.lt_succ_of_lt hx)) (Nat.le_of_lt_succ (Nat.lt_succ_of_lt hy))|>fun h=>Nat.le_trans (Nat.mul_le_mul (show x.natAbs≤99999999 by omega) (show y.natAbs≤99999999 by omega)) (Nat.le_refl _)) (by decide)
theorem CD {x y:Int} (hx:x.natAbs<100000000) (hy:y.natAbs<100000000):w64 (x*y)=x*y:=by
 have:=EX hx hy
 exact An (by omega) (by omega)
theorem Q4 (z d z' d':Int) (h1:z.natAbs<100000000) (h2:d.natAbs<100000000) (h3:z'.natAbs<100000000) (h4:d'.natAbs<100000000):AX Tryz.prog 99 [FZ z d,FZ z' d'] (FZ (z*d'+z'*d) (d*d')):=by
 intro W
 have a1:=EX h1 h4
 have a2:=EX h3 h2
 refine Ad Tryz.func99 rfl rfl rfl ?_
 refine zA (zB ?_)
 (refine A8 rfl rfl rfl rfl ?_;intro)
 (refine A8 rfl rfl rfl rfl ?_;intro)
 (refine Ao Tryz.hZ rfl rfl rfl rfl ?_;intro)
 refine Aa (zE (zA (zB (wP rfl (wB 0 rfl rfl rfl (wP rfl (wB 1 rfl rfl rfl (wP rfl ?_))))))))
 refine Ab 9 (.int .i64 (z*d')) rfl (congrArg (Value.int .i64) (CD h1 h4)) ?_
 refine wP rfl (wB 1 rfl rfl rfl (wP rfl (wB 0 rfl rfl rfl (wP rfl ?_))))
 refine Ab 14 (.int .i64 (z'*d)) rfl (congrArg (Value.int .i64) (CD h3 h2)) ?_
 refine wP rfl ?_
 refine Ab 15 (.int .i64 (z*d'+z'*d)) rfl (congrArg (Value.int .i64) (An (by omega) (by omega))) ?_
 refine wP rfl (wB 0 rfl rfl rfl (wP rfl (wB 1 rfl rfl rfl (wP rfl ?_))))
 refine Ab 20 (.int .i64 (d*d')) rfl (congrArg (Value.int .i64) (CD h2 h4)) ?_
 refine AA Tryz.hZ tH rfl rfl rfl rfl rfl rfl rfl rfl ?_
 refine wS 2 rfl rfl rfl (Aa (zE (zO ?_)))
 exact Af tH rfl (.cell 2 rfl rfl rfl rfl rfl) () rfl trivial fun W _=>Ae.nil _ _
theorem Ri (z d z' d':Int) (h1:z.natAbs<100000000) (h2:d.natAbs<100000000) (h3:z'.natAbs<100000000) (h4:d'.natAbs<100000000):AX Tryz.prog 158 [FZ z d,FZ z' d'] (FZ (z*d'-z'*d) (d*d')):=by
 intro W
 have a1:=EX h1 h4
 have a2:=EX h3 h2
 refine Ad Tryz.func158 rfl rfl rfl ?_
 refine zA (zB ?_)
 (refine A8 rfl rfl rfl rfl ?_;intro)
 (refine A8 rfl rfl rfl rfl ?_;intro)
 (refine Ao Tryz.hZ rfl rfl rfl rfl ?_;intro)
 refine Aa (zE (zA (zB (wP rfl (wB 0 rfl rfl rfl (wP rfl (wB 1 rfl rfl rfl (wP rfl ?_))))))))
 refine Ab 9 (.int .i64 (z*d')) rfl (congrArg (Value.int .i64) (CD h1 h4)) ?_
 refine wP rfl (wB 1 rfl rfl rfl (wP rfl (wB 0 rfl rfl rfl (wP rfl ?_))))
 refine Ab 14 (.int .i64 (z'*d)) rfl (congrArg (Value.int .i64) (CD h3 h2)) ?_
 refine wP rfl ?_
 refine Ab 15 (.int .i64 (z*d'-z'*d)) rfl (congrArg (Value.int .i64) (An (by omega) (by omega))) ?_
 refine wP rfl (wB 0 rfl rfl rfl (wP rfl (wB 1 rfl rfl rfl (wP rfl ?_))))
 refine Ab 20 (.int .i64 (d*d')) rfl (congrArg (Value.int .i64) (CD h2 h4)) ?_
 refine AA Tryz.hZ tH rfl rfl rfl rfl rfl rfl rfl rfl ?_
 refine wS 2 rfl rfl rfl (Aa (zE (zO ?_)))
 exact Af tH rfl (.cell 2 rfl rfl rfl rfl rfl) () rfl trivial fun W _=>Ae.nil _ _
theorem Rz (z d z' d':Int) (h1:z.natAbs<100000000) (h2:d.natAbs<100000000) (h3:z'.natAbs<100000000) (h4:d'.natAbs<100000000):AX Tryz.prog 200 [FZ z d,FZ z' d'] (FZ (z*z') (d*d')):=by
 intro W
 refine Ad Tryz.func200 rfl rfl rfl ?_
 refine zA (zB ?_)
 (refine A8 rfl rfl rfl rfl ?_;intro)
 (refine A8 rfl rfl rfl rfl ?_;intro)
 (refine Ao Tryz.hZ rfl rfl rfl rfl ?_;intro)
 refine Aa (zE (zA (zB (wP rfl (wB 0 rfl rfl rfl (wP rfl (wB 1 rfl rfl rfl (wP rfl ?_))))))))
 refine Ab 9 (.int .i64 (z*z')) rfl (congrArg (Value.int .i64) (CD h1 h3)) ?_
 refine wP rfl (wB 0 rfl rfl rfl (wP rfl (wB 1 rfl rfl rfl (wP rfl ?_))))
 refine Ab 14 (.int .i64 (d*d')) rfl (congrArg (Value.int .i64) (CD h2 h4)) ?_
 refine AA Tryz.hZ tH rfl rfl rfl rfl rfl rfl rfl rfl ?_
 refine wS 2 rfl rfl rfl (Aa (zE (zO ?_)))
 exact Af tH rfl (.cell 2 rfl rfl rfl rfl rfl) () rfl trivial fun W _=>Ae.nil _ _
theorem QI (z d z' d':Int) (h1:z.natAbs<100000000) (h2:d.natAbs<100000000) (h3:z'.natAbs<100000000) (h4:d'.natAbs<100000000):AX Tryz.prog 155 [FZ z d,FZ z' d'] (FZ (z*d') (d*z')):=by
 intro W
 refine Ad Tryz.func155 rfl rfl rfl ?_
 refine zA (zB ?_)
 (refine A8 rfl rfl rfl rfl ?_;intro)
 (refine A8 rfl rfl rfl rfl ?_;intro)
 (refine Ao Tryz.hZ rfl rfl rfl rfl ?_;intro)
 refine Aa (zE (zA (zB (wP rfl (wB 0 rfl rfl rfl (wP rfl (wB 1 rfl rfl rfl (wP rfl ?_))))))))
 refine Ab 9 (.int .i64 (z*d')) rfl (congrArg (Value.int .i64) (CD h1 h4)) ?_
 refine wP rfl (wB 0 rfl rfl rfl (wP rfl (wB 1 rfl rfl rfl (wP rfl ?_))))
 refine Ab 14 (.int .i64 (d*z')) rfl (congrArg (Value.int .i64) (CD h2 h3)) ?_
 refine AA Tryz.hZ tH rfl rfl rfl rfl rfl rfl rfl rfl ?_
 refine wS 2 rfl rfl rfl (Aa (zE (zO ?_)))
 exact Af tH rfl (.cell 2 rfl rfl rfl rfl rfl) () rfl trivial fun W _=>Ae.nil _ _
def smQ (p:Rat):Prop:=p.num.natAbs<100000000∧p.den<100000000
instance (p:Rat):Decidable (smQ p):=by unfold smQ;infer_instance
theorem D8 (p:Rat):Dx (Ai p)=if smQ p then .tuple #[FZ p.num (p.den:Nat), .bool true] else Ln:=by
 have hf:frm (Ai p)=some (p.num,p.den):=FR _ p.den_pos
 by_cases h:smQ p
 ·have e:Eu (Ai p)=some (p.num,p.den):=Jv.2 ⟨hf,h.1,h.2,p.reduced⟩
  rw[if_pos h,Dx,e]
 ·have e:Eu (Ai p)=none:=by
   cases hn:Eu (Ai p) with
   |none=>rfl
   |some x=>
    obtain⟨x1,x2⟩:=x
    obtain⟨e1,e2,e3,_⟩:=Jv.1 hn
    rw[hf] at e1
    injection e1 with e1
    injection e1 with ea eb
    subst ea;subst eb
    exact absurd ⟨e2,e3⟩ h
  rw[if_neg h,Dx,e]
theorem Fm (p q r:Rat) (z d:Int) (g:Nat) (hE:Bq Tryz.prog g=true) (hlp:(Ai p).length<4611686018427387904) (hlq:(Ai q).length<4611686018427387904)
  (hg:smQ p→smQ q→AX Tryz.prog g [FZ p.num (p.den:Nat),FZ q.num (q.den:Nat)] (FZ z d)∧d≠0∧z.natAbs<1000000000000000000∧d.natAbs<1000000000000000000∧mkRat (if d<0 then -z else z) d.natAbs=r) (W:World) (ht:AV W):
  Aj Tryz.prog 98 #[str (Ai p),str (Ai q), .func (.func g) #[] #[]] W (fun _:Unit=>if smQ p∧smQ q then .tuple #[str (Ai r), .bool true] else .tuple #[str [], .bool false]) (fun _=>True) (fun _=>[]):=by
 refine Ad (args:=[str (Ai p),str (Ai q), .func (.func g) #[] #[]]) Tryz.func98 rfl rfl rfl ?_
 refine zA (zB (wP rfl (wP rfl (Aa (zE (zA (zB (wP rfl ?_))))))))
 by_cases hp:smQ p
 ·refine Ac rfl rfl rfl rfl rfl rfl (by kernel_rfl) (fun W _=>(Bv (Ai p) hlp W).cast ((D8 p).trans (if_pos hp))) ?_
  refine wP rfl (wP rfl (wP rfl ?_))
  (refine Ao Tryz.hZ rfl rfl rfl rfl ?_;intro)
  refine wS 0 rfl rfl rfl (wP rfl (Aa ?_))
  rename_i b8
  refine zE (zA (zA (zB (wP rfl (wP rfl (Aa (zE (zS rfl (zI (zE (zA (zB (wP rfl ?_)))))))))))))
  by_cases hq:smQ q
  ·obtain⟨hg1,hd,hz1,hd1,hr⟩:=hg hp hq
   refine Ac rfl rfl rfl rfl rfl rfl (by kernel_rfl) (fun W _=>(Bv (Ai q) hlq W).cast ((D8 q).trans (if_pos hq))) ?_
   refine wP rfl (wP rfl (wP rfl ?_))
   (refine Ao Tryz.hZ rfl rfl rfl rfl ?_;intro)
   refine wS 1 rfl rfl rfl (wP rfl (Aa ?_))
   rename_i b10
   refine zE (zA (zA (zB (wP rfl (wP rfl (Aa (zE (zS rfl (zI (zE (zA (zB (wP rfl ?_)))))))))))))
   refine wB 0 rfl rfl rfl (wB 1 rfl rfl rfl ?_)
   refine Ac (capt:=[]) rfl rfl rfl rfl rfl rfl hE (fun W _=>hg1 W) ?_
   refine Ac rfl rfl rfl rfl rfl rfl (by kernel_rfl) (fun W hp=>(Oj z d hd hz1 hd1 W (ht.hp hp)).cast (by rw[hr])) ?_
   refine wP rfl (wP rfl (Aa (zE (zO ?_))))
   exact Ar tH rfl (.tmp rfl) (.tmp rfl) () (if_pos ⟨hp,hq⟩).symm trivial fun W _=>Ae.nil _ _
  ·refine Ac rfl rfl rfl rfl rfl rfl (by kernel_rfl) (fun W _=>(Bv (Ai q) hlq W).cast ((D8 q).trans (if_neg hq))) ?_
   refine wP rfl (wP rfl (wP rfl ?_))
   (refine Ao Tryz.hZ rfl rfl rfl rfl ?_;intro)
   refine wS 1 rfl rfl rfl (wP rfl (Aa (zE (zA (zA (zB (wP rfl (wP rfl (Aa (zE (zR rfl (zA (zB ?_)))))))))))))
   refine wP rfl (wP rfl (Aa (zE (zO (zP ?_)))))
   exact Ar tH rfl (.tmp rfl) (.tmp rfl) () (if_neg fun h=>hq h.2).symm trivial fun W _=>Ae.nil _ _
 ·refine Ac rfl rfl rfl rfl rfl rfl (by kernel_rfl) (fun W _=>(Bv (Ai p) hlp W).cast ((D8 p).trans (if_neg hp))) ?_
  refine wP rfl (wP rfl (wP rfl ?_))
  (refine Ao Tryz.hZ rfl rfl rfl rfl ?_;intro)
  refine wS 0 rfl rfl rfl (wP rfl (Aa (zE (zA (zA (zB (wP rfl (wP rfl (Aa (zE (zR rfl (zA (zB ?_)))))))))))))
  refine wP rfl (wP rfl (Aa (zE (zO (zP ?_)))))
  exact Ar tH rfl (.tmp rfl) (.tmp rfl) () (if_neg fun h=>hp h.1).symm trivial fun W _=>Ae.nil _ _
-- BOXES 4
abbrev Gn (q:Rat):Value:=ID (itoa q.num) (itoa (q.den:Nat))
def okQ (q:Rat):Prop:=okN q.num∧okN (q.den:Nat)
theorem Ia {z:Int} (h:okN z):KY z= .tuple #[str (itoa z), .int .i64 0]:=if_pos h
theorem Mg {q:Rat} (h:okQ q):rdV (Ai q)= .tuple #[Gn q, .int .i64 0]:=by
 have hd:q.den<Bp:=by have:=h.2;unfold okN at this;rwa [Int.natAbs_natCast] at this
 have hf:frm (Ai q)=some (q.num,q.den):=FR q.num q.den_pos
 rw[RD hf ⟨h.1,hd⟩ q.reduced, ←Ca]
theorem BR {q:Rat} (h:okQ q):(Ai q).length≤1000:=by
 have h1:=Ew h.1
 have h2:=Ew h.2
 rw[Ca] at h2
 unfold Ai FW
 split
 ·omega
 ·rw[List.length_append,List.length_cons];omega
theorem F0 (p q:Rat) (hp:okQ p) (hq:okQ q) (h1:okN (p.num*(q.den:Nat))) (h2:okN (q.num*(p.den:Nat))) (W:World) (ht:AV W):
  Aj Tryz.prog 157 #[Gn p,Gn q] W (fun _:Unit=> .tuple #[str (itoa (p.num*(q.den:Nat))),str (itoa (q.num*(p.den:Nat))), .int .i64 0]) (fun _=>True) (fun _=>[]):=by
 refine Ad (args:=[Gn p,Gn q]) Tryz.func157 rfl rfl rfl ?_
 refine zA (zB ?_)
 (refine A8 rfl rfl rfl rfl ?_;intro)
 (refine A8 rfl rfl rfl rfl ?_;intro)
 refine wP rfl (wP rfl (wP rfl (Aa (zE (zA (zB (wP rfl (wB 0 rfl rfl rfl (wP rfl (wB 1 rfl rfl rfl ?_))))))))))
 refine Ac rfl rfl rfl rfl rfl rfl (by kernel_rfl) (fun W h=>(ET p.num (q.den:Nat) hp.1 hq.2 W (ht.hp h)).cast (Ia h1)) ?_
 iterate 5 refine wP rfl ?_
 refine Aa (zE (zA (zA (zB (wP rfl (wP rfl (Aa (zE (zS rfl (zI (zE (zA (zB ?_)))))))))))))
 refine wP rfl (wB 1 rfl rfl rfl (wP rfl (wB 0 rfl rfl rfl ?_)))
 refine Ac rfl rfl rfl rfl rfl rfl (by kernel_rfl) (fun W h=>(ET q.num (p.den:Nat) hq.1 hp.2 W (ht.hp h)).cast (Ia h2)) ?_
 iterate 5 refine wP rfl ?_
 refine Aa (zE (zA (zB ?_)))
 iterate 6 refine wP rfl ?_
 refine Aa (zE (zO ?_))
 exact BW tH rfl (.tmp rfl) (.tmp rfl) (.tmp rfl) () rfl trivial fun W _=>Ae.nil _ _
theorem Fi (p q:Rat) (v:List UInt8) (e:Int) (g:Nat) (capt:List Value) (hp:okQ p) (hq:okQ q) (W0:World) (hv:BJ W0) (ht:AV W0) (hE:Bq Tryz.prog g=true)
  (hg: ∀W,Below W0.heap.size W0 W→Aj Tryz.prog g ([Gn p,Gn q]++capt).toArray W (fun _:Unit=> .tuple #[str v, .int .i64 e]) (fun _=>True) (fun _=>[])):
  Aj Tryz.prog 100 #[str (Ai p),str (Ai q), .func (.func g) #[] capt.toArray] W0 (fun _:Unit=> .tuple #[str v, .int .i64 e]) (fun _=>True) (fun _=>[]):=by
 have hlp:=BR hp
 have hlq:=BR hq
 refine Ad (args:=[str (Ai p),str (Ai q), .func (.func g) #[] capt.toArray]) Tryz.func100 rfl rfl rfl ?_
 refine zA (zB (wP rfl (wP rfl (Aa (zE (zA (zB (wP rfl ?_))))))))
 refine Ac rfl rfl rfl rfl rfl rfl (by kernel_rfl) (fun W h=>(D9 (Ai p) (by omega) W (hv.hp h) (ht.hp h)).cast (Mg hp)) ?_
 refine wP rfl (wP rfl (wP rfl ?_))
 (refine Ao Tryz.hZ rfl rfl rfl rfl ?_;intro)
 refine wS 0 rfl rfl rfl (wP rfl (Aa ?_))
 rename_i b8
 refine zE (zA (zA (zB (wP rfl (wP rfl (Aa (zE (zS rfl (zI (zE (zA (zB (wP rfl ?_)))))))))))))
 refine Ac rfl rfl rfl rfl rfl rfl (by kernel_rfl) (fun W h=>(D9 (Ai q) (by omega) W (hv.hp h) (ht.hp h)).cast (Mg hq)) ?_
 refine wP rfl (wP rfl (wP rfl ?_))
 (refine Ao Tryz.hZ rfl rfl rfl rfl ?_;intro)
 refine wS 1 rfl rfl rfl (wP rfl (Aa ?_))
 rename_i b10
 refine zE (zA (zA (zB (wP rfl (wP rfl (Aa (zE (zS rfl (zI (zE (zA (zB (wP rfl ?_)))))))))))))
 refine wB 0 rfl rfl rfl (wB 1 rfl rfl rfl ?_)
 refine Ac (capt:=capt) rfl rfl rfl rfl rfl rfl hE (fun W h=>hg W h.below) ?_
 refine wP rfl (wP rfl (wP rfl (wP rfl (Aa (zE (zO ?_))))))
 exact Ar tH rfl (.tmp rfl) (.tmp rfl) () rfl trivial fun W _=>Ae.nil _ _
end
section
open Go Go.Lib
abbrev nrm (z d:Int):Rat:=mkRat (if d<0 then -z else z) d.natAbs
theorem H8 (z:Int) {d:Int} (hd:d≠0):nrm z d=Rat.divInt z d:=by
 unfold nrm
 cases d with
 |ofNat n=>
  rw[if_neg (by intro h;exact absurd h (by simp))]
  rfl
 |negSucc n=>
  rw[if_pos (Int.negSucc_lt_zero n)]
  show mkRat (-z) (n+1)=_
  rw[Rat.divInt]
  rw[Rat.normalize_eq_mkRat]
theorem Ol (p q:Rat):nrm (p.num*(q.den:Nat)+q.num*(p.den:Nat)) ((p.den:Nat)*(q.den:Nat))=p+q:=by
 have h1:((p.den:Nat):Int)≠0:=by have:=p.den_nz;omega
 have h2:((q.den:Nat):Int)≠0:=by have:=q.den_nz;omega
 rw[H8 _ (Int.mul_ne_zero h1 h2)]
 rw[←Rat.divInt_add_divInt _ _ h1 h2,Rat.num_divInt_den,Rat.num_divInt_den]
theorem Nv (p q:Rat):nrm (p.num*(q.den:Nat)-q.num*(p.den:Nat)) ((p.den:Nat)*(q.den:Nat))=p-q:=by
 have h1:((p.den:Nat):Int)≠0:=by have:=p.den_nz;omega
 have h2:((q.den:Nat):Int)≠0:=by have:=q.den_nz;omega
 rw[H8 _ (Int.mul_ne_zero h1 h2)]
 rw[←Rat.divInt_sub_divInt _ _ h1 h2,Rat.num_divInt_den,Rat.num_divInt_den]
theorem Nx (p q:Rat):nrm (p.num*q.num) ((p.den:Nat)*(q.den:Nat))=p*q:=by
 have h1:((p.den:Nat):Int)≠0:=by have:=p.den_nz;omega
 have h2:((q.den:Nat):Int)≠0:=by have:=q.den_nz;omega
 rw[H8 _ (Int.mul_ne_zero h1 h2)]
 rw[←Rat.divInt_mul_divInt,Rat.num_divInt_den,Rat.num_divInt_den]
theorem NF (p q:Rat) (hq:q.num≠0):nrm (p.num*(q.den:Nat)) ((p.den:Nat)*q.num)=p/q:=by
 have h1:((p.den:Nat):Int)≠0:=by have:=p.den_nz;omega
 rw[H8 _ (Int.mul_ne_zero h1 hq)]
 rw[←Rat.divInt_mul_divInt,Rat.num_divInt_den,Rat.div_def,Rat.inv_def]
def szQ (q:Rat) (k:Nat):Prop:=q.num.natAbs<10^k∧q.den<10^k
theorem H9 (z:Int) {d:Int} (hd:d≠0) {k:Nat} (hz:z.natAbs<10^k) (hd2:d.natAbs<10^k):szQ (nrm z d) k:=by
 have h0:d.natAbs≠0:=by omega
 have hx:(if d<0 then -z else z).natAbs=z.natAbs:=by split;rw[Int.natAbs_neg];rfl
 unfold nrm
 rw[mkRat,dif_neg h0,Rat.normalize_eq]
 constructor
 ·show((if d<0 then -z else z)/_).natAbs<_
  refine Nat.lt_of_le_of_lt ?_ hz
  rw[←hx]
  exact Int.natAbs_ediv_le_natAbs ..
 ·exact Nat.lt_of_le_of_lt (Nat.div_le_self ..) hd2
end
section
open Go Go.RowKit Go.Am Go.Lib
set_option maxRecDepth 10000
-- BOXES 4
theorem GR (h:Nat) (W:World):Aj Tryz.prog 101 #[.func (.func h) #[] #[]] W (fun b:Nat=> .func (.func 179) #[] #[Ax b]) (fun _=>True) (fun b=>[⟨b,143,[.func (.func h) #[] #[]],true,none⟩]):=by
 refine Ad (args:=[.func (.func h) #[] #[]]) Tryz.func101 rfl rfl rfl ?_
 refine zA (zB ?_)
 refine A8 rfl rfl rfl rfl ?_;intro b
 refine wP rfl (Aa (zE (zA (zB (wP rfl (wP rfl (Aa (zE (zO ?_)))))))))
 exact Af tH rfl (.tmp rfl) b rfl trivial fun W hp=>Ae.of_hp hp
theorem Fq {p q:Rat}:((p.den:Nat):Int)*(q.den:Nat)≠0:=Int.mul_ne_zero (by have:=p.den_nz;omega) (by have:=q.den_nz;omega)
theorem JZ (p q:Rat) (b h:Nat) (z:Int) (hp:okQ p) (hq:okQ q) (h1:okN (p.num*(q.den:Nat))) (h2:okN (q.num*(p.den:Nat))) (hz:okN z) (hd:okN ((p.den:Nat)*(q.den:Nat))) (hE:Bq Tryz.prog h=true)
  (hop: ∀W,AV W→Aj Tryz.prog h #[str (itoa (p.num*(q.den:Nat))),str (itoa (q.num*(p.den:Nat)))] W (fun _:Unit=> .tuple #[str (itoa z), .int .i64 0]) (fun _=>True) (fun _=>[])) (W:World) (ht:AV W) (hrow:Ag W b 0 [.func (.func h) #[] #[]]):
  Aj Tryz.prog 179 #[Gn p,Gn q,Ax b] W (fun _:Unit=> .tuple #[str (Ai (nrm z ((p.den:Nat)*(q.den:Nat)))), .int .i64 0]) (fun _=>True) (fun _=>[]):=by
 refine Ad (args:=[Gn p,Gn q,Ax b]) Tryz.func179 rfl rfl rfl ?_
 refine zA (zB ?_)
 (refine A8 rfl rfl rfl rfl ?_;intro)
 (refine A8 rfl rfl rfl rfl ?_;intro)
 refine wP rfl (wP rfl (Aa (zE (zA (zB (wB 0 rfl rfl rfl (wB 1 rfl rfl rfl ?_)))))))
 refine Ac rfl rfl rfl rfl rfl rfl (by kernel_rfl) (fun W h=>F0 p q hp hq h1 h2 W (ht.hp h)) ?_
 iterate 7 refine wP rfl ?_
 refine Aa (zE (zA (zA (zB (wP rfl (wP rfl (Aa (zE (zS rfl (zI (zE (zA (zB ?_)))))))))))))
 refine Aw rfl rfl rfl rfl (fun W hp=>Ag.load 0 tH rfl ((fun W h=>hrow.hp h) W hp) rfl) ?_
 refine wP rfl (wP rfl ?_)
 refine Ac (capt:=[]) rfl rfl rfl rfl rfl rfl hE (fun W h=>hop W (ht.hp h)) ?_
 iterate 5 refine wP rfl ?_
 refine Aa (zE (zA (zA (zB (wP rfl (wP rfl (Aa (zE (zS rfl (zI (zE (zA (zB ?_)))))))))))))
 refine wP rfl (wB 0 rfl rfl rfl (wP rfl (wB 1 rfl rfl rfl ?_)))
 refine Ac rfl rfl rfl rfl rfl rfl (by kernel_rfl) (fun W h=>(ET (p.den:Nat) (q.den:Nat) hp.2 hq.2 W (ht.hp h)).cast (Ia hd)) ?_
 iterate 5 refine wP rfl ?_
 refine Aa (zE (zA (zA (zB (wP rfl (wP rfl (Aa (zE (zS rfl (zI (zE (zA (zB ?_)))))))))))))
 refine wP rfl (wP rfl ?_)
 refine Ac rfl rfl rfl rfl rfl rfl (by kernel_rfl) (fun W h=>Dq z ((p.den:Nat)*(q.den:Nat)) Fq hz hd W (ht.hp h)) ?_
 refine wP rfl (wP rfl (wP rfl (wP rfl (Aa (zE (zO ?_))))))
 exact Ar tH rfl (.tmp rfl) (.tmp rfl) () rfl trivial fun W _=>Ae.nil _ _
theorem QD (p q:Rat) (hp:okQ p) (hq:okQ q) (hz:okN (p.num*q.num)) (hd:okN ((p.den:Nat)*(q.den:Nat))) (W:World) (ht:AV W):
  Aj Tryz.prog 201 #[Gn p,Gn q] W (fun _:Unit=> .tuple #[str (Ai (p*q)), .int .i64 0]) (fun _=>True) (fun _=>[]):=by
 refine Ad (args:=[Gn p,Gn q]) Tryz.func201 rfl rfl rfl ?_
 refine zA (zB ?_)
 (refine A8 rfl rfl rfl rfl ?_;intro)
 (refine A8 rfl rfl rfl rfl ?_;intro)
 refine wP rfl (wP rfl (Aa (zE (zA (zB (wP rfl (wB 0 rfl rfl rfl (wP rfl (wB 1 rfl rfl rfl ?_)))))))))
 refine Ac rfl rfl rfl rfl rfl rfl (by kernel_rfl) (fun W h=>(ET p.num q.num hp.1 hq.1 W (ht.hp h)).cast (Ia hz)) ?_
 iterate 5 refine wP rfl ?_
 refine Aa (zE (zA (zA (zB (wP rfl (wP rfl (Aa (zE (zS rfl (zI (zE (zA (zB ?_)))))))))))))
 refine wP rfl (wB 0 rfl rfl rfl (wP rfl (wB 1 rfl rfl rfl ?_)))
 refine Ac rfl rfl rfl rfl rfl rfl (by kernel_rfl) (fun W h=>(ET (p.den:Nat) (q.den:Nat) hp.2 hq.2 W (ht.hp h)).cast (Ia hd)) ?_
 iterate 5 refine wP rfl ?_
 refine Aa (zE (zA (zA (zB (wP rfl (wP rfl (Aa (zE (zS rfl (zI (zE (zA (zB ?_)))))))))))))
 refine wP rfl (wP rfl ?_)
 refine Ac rfl rfl rfl rfl rfl rfl (by kernel_rfl) (fun W h=>(Dq (p.num*q.num) ((p.den:Nat)*(q.den:Nat)) Fq hz hd W (ht.hp h)).cast (congrArg (fun r=>Value.tuple #[str (Ai r), .int .i64 0]) (Nx p q))) ?_
 refine wP rfl (wP rfl (wP rfl (wP rfl (Aa (zE (zO ?_))))))
 exact Ar tH rfl (.tmp rfl) (.tmp rfl) () rfl trivial fun W _=>Ae.nil _ _
def MA (p q:Rat):List UInt8×Int:=if q.num=0 then([],12) else(Ai (p/q),0)
theorem Tl (p q:Rat) (hq:q.num≠0):nrm (p.num*(q.den:Nat)) (q.num*(p.den:Nat))=p/q:=by rw[Int.mul_comm q.num,NF p q hq]
theorem Rc (p q:Rat) (hp:okQ p) (hq:okQ q) (h1:okN (p.num*(q.den:Nat))) (h2:okN (q.num*(p.den:Nat))) (W:World) (ht:AV W):
  Aj Tryz.prog 156 #[Gn p,Gn q] W (fun _:Unit=> .tuple #[str (MA p q).1, .int .i64 (MA p q).2]) (fun _=>True) (fun _=>[]):=by
 refine Ad (args:=[Gn p,Gn q]) Tryz.func156 rfl rfl rfl ?_
 refine zA (zB ?_)
 (refine A8 rfl rfl rfl rfl ?_;intro)
 (refine A8 rfl rfl rfl rfl ?_;intro)
 refine wP rfl (wP rfl (Aa (zE (zA (zA (zB (wP rfl (wB 1 rfl rfl rfl (wP rfl ?_)))))))))
 by_cases h0:q.num=0
 ·refine Ab 11 (.bool true) rfl (congrArg Value.bool ((AR _ [48]).trans (decide_eq_true (Lh.2 h0)))) ?_
  refine Aa (zE (zR rfl (zA (zB (wP rfl (wP rfl (Aa (zE (zO (zP ?_))))))))))
  exact Ar tH rfl (.tmp rfl) (.tmp rfl) () (by rw[MA,if_pos h0]) trivial fun W _=>Ae.nil _ _
 ·refine Ab 11 (.bool false) rfl (congrArg Value.bool ((AR _ [48]).trans (decide_eq_false fun e=>h0 (Lh.1 e)))) ?_
  refine Aa (zE (zS rfl (zI (zE (zA (zB (wB 0 rfl rfl rfl (wB 1 rfl rfl rfl ?_))))))))
  refine Ac rfl rfl rfl rfl rfl rfl (by kernel_rfl) (fun W h=>F0 p q hp hq h1 h2 W (ht.hp h)) ?_
  iterate 7 refine wP rfl ?_
  refine Aa (zE (zA (zA (zB (wP rfl (wP rfl (Aa (zE (zS rfl (zI (zE (zA (zB ?_)))))))))))))
  refine wP rfl (wP rfl ?_)
  refine Ac rfl rfl rfl rfl rfl rfl (by kernel_rfl) (fun W h=>(Dq (p.num*(q.den:Nat)) (q.num*(p.den:Nat)) (Int.mul_ne_zero h0 (by have:=p.den_nz;omega)) h1 h2 W (ht.hp h)).cast (congrArg (fun r=>Value.tuple #[str (Ai r), .int .i64 0]) (Tl p q h0))) ?_
  refine wP rfl (wP rfl (wP rfl (wP rfl (Aa (zE (zO ?_))))))
  exact Ar tH rfl (.tmp rfl) (.tmp rfl) () (by rw[MA,if_neg h0]) trivial fun W _=>Ae.nil _ _
end
end Go.Proofs.YtlagebbefnnnnaaGreatDoor
