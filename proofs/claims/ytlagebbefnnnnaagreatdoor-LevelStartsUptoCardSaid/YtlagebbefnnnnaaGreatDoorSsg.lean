/-
  Lemmas that the theorem levelStarts_upto_card needs (part 7 of 8).
-/
import Derived.Test.YtlagebbefnnnnaaGreatDoorSsf
set_option maxHeartbeats 64000000
namespace Go.Proofs.YtlagebbefnnnnaaGreatDoor
section
open Go Go.RowKit Go.Am Go.Lib
set_option maxRecDepth 10000
-- BOXES 3
-- CODE2
theorem U6 (b:UInt8):decide (((b.toNat:Nat):Int)<48)=decide (b.toNat<48):=decide_eq_decide.2 (by omega)
theorem Ui (b:UInt8):decide (((b.toNat:Nat):Int)>57)=decide (57<b.toNat):=decide_eq_decide.2 (by omega)
def dgB (s:List UInt8):Bool:=decide (s=decDigits (AO s))
theorem Gv {s:List UInt8}:dgB s=true↔MC s:=by unfold dgB;rw[decide_eq_true_iff];exact Px.symm
theorem QG {s:List UInt8} (h: ¬MC s):dgB s=false:=by
 cases e:dgB s
 ·rfl
 ·exact absurd (Gv.1 e) h
theorem Hf (s:List UInt8) (hs:s.length<4611686018427387904):AX Tryz.prog 204 [str s] (.bool (dgB s)):=by
 intro W
 refine Ad Tryz.func204 rfl rfl rfl ?_
 refine zA (zB (wP rfl (Aa (AC (A7 (A7 ?_))))))
 refine AK (X:=Unit) (fun _=>[(0,str s),(16, .bool (decide (s=[]∨(1<s.length∧s[0]? =some 48))))]) (fun _=>[]) (fun _=>True) ?_ ?_
 ·refine zB (wP rfl (wP rfl ?_))
  refine Ab 5 (.int .i64 (s.length:Nat)) rfl (congrArg (fun n:Nat=>Value.int .i64 (n:Int)) (AF s)) ?_
  refine wP rfl ?_
  by_cases h0:s=[]
  ·refine Ab 6 (.bool true) rfl (congrArg Value.bool (by rw[h0];rfl)) ?_
   refine wP rfl ?_
   iterate 8 refine Ah rfl rfl ?_
   refine wP rfl (Aa ?_)
   exact At () trivial ⟨rfl,by rw[decide_eq_true (Or.inl h0)];rfl,trivial⟩ [] rfl
  ·have hpos:0<s.length:=List.length_pos_iff.2 h0
   refine Ab 6 (.bool false) rfl (congrArg Value.bool (by rw[beq_eq_false_iff_ne];omega)) ?_
   refine wP rfl (wP rfl (wP rfl ?_))
   refine Ab 9 (.int .i64 (s.length:Nat)) rfl (congrArg (fun n:Nat=>Value.int .i64 (n:Int)) (AF s)) ?_
   refine wP rfl ?_
   by_cases h1:1<s.length
   ·refine Ab 10 (.bool true) rfl (congrArg Value.bool (decide_eq_true (by omega))) ?_
    obtain⟨b,hb⟩: ∃b,s[0]? =some b:=⟨s[0],List.getElem?_eq_getElem hpos⟩
    refine wP rfl (wP rfl ?_)
    refine Br 0 tH rfl rfl rfl rfl rfl rfl rfl rfl hb ?_
    refine wP rfl ?_
    refine Ab 14 (.bool (decide (b=48))) rfl (congrArg Value.bool (FY b 48)) ?_
    refine wP rfl (wP rfl (Aa ?_))
    refine At () trivial ⟨rfl, ?_,trivial⟩ [] rfl
    have e:decide (s=[]∨(1<s.length∧s[0]? =some 48))=decide (b=48):=by
     rw[decide_eq_decide,hb]
     constructor
     ·rintro(h|⟨_,h⟩)
      ·exact absurd h h0
      ·exact Option.some.inj h
     ·intro h;exact .inr ⟨h1,by rw[h]⟩
    rw[e];rfl
   ·refine Ab 10 (.bool false) rfl (congrArg Value.bool (decide_eq_false (by omega))) ?_
    refine wP rfl ?_
    iterate 3 refine Ah rfl rfl ?_
    refine wP rfl (wP rfl (Aa ?_))
    exact At () trivial ⟨rfl,by rw[show decide (s=[]∨1<s.length∧s[0]? =some 48)=false from decide_eq_false (fun h=>h.elim h0 (fun h=>h1 h.1))];rfl,trivial⟩ [] rfl
 intro _ _
 refine Ak rfl (fun hc=> ?_) (fun hc=> ?_)
 ·have hc:=of_decide_eq_true hc
  refine zA (zB (wP rfl (Aa (zE (zO (zP ?_))))))
  refine Af tH rfl (.tmp rfl) () ?_ trivial fun W _=>Ae.nil _ _
  rw[QG fun h=> ?_]
  rcases hc with hc|⟨h1,h2⟩
  ·exact h.ne hc
  ·exact h.lead h1 h2
 have hc:=of_decide_eq_false hc
 have hne:s≠[]:=fun h=>hc (.inl h)
 have hlead:1<s.length→s[0]? ≠some 48:=fun h1 h2=>hc (.inr ⟨h1,h2⟩)
 refine zI (zE (zA (zA (zB (wP rfl (Aa (zE (zH ?_))))))))
 refine Av (X:=Nat) (fun i=>[(0,str s),(3, .int .i64 (i:Nat))]) (fun _=>[]) (fun i=>i≤s.length∧ ∀b∈s.take i,DE b=true) (fun i=>s.length-i) 0 ⟨Nat.zero_le _,fun b hb=>by simp at hb⟩ ⟨rfl,rfl,trivial⟩ [] rfl ?_
 rintro i ⟨hi,hdg⟩
 have hi:i≤s.length:=hi
 have hdg: ∀b∈s.take i,DE b=true:=hdg
 refine zA (zA (zB (wP rfl (wP rfl (wP rfl ?_)))))
 refine Ab 19 (.int .i64 (s.length:Nat)) rfl (congrArg (fun n:Nat=>Value.int .i64 (n:Int)) (AF s)) ?_
 refine wP rfl ?_
 by_cases hlt:i<s.length
 ·refine Ab 20 (.bool true) rfl (congrArg Value.bool (decide_eq_true (by omega))) ?_
  refine Aa (zE (zR rfl (zI (zE (zA (zH (zA (zB ?_))))))))
  obtain⟨b,hb⟩: ∃b,s[i]? =some b:=⟨s[i],List.getElem?_eq_getElem hlt⟩
  have hbm:b∈s:=List.mem_of_getElem? hb
  refine wP rfl (wP rfl ?_)
  refine Br i tH rfl rfl rfl rfl rfl rfl rfl rfl hb ?_
  refine wP rfl ?_
  by_cases h48:b.toNat<48
  ·refine Ab 26 (.bool true) rfl (congrArg Value.bool ((U6 b).trans (decide_eq_true h48))) ?_
   refine wP rfl ?_
   iterate 4 refine Ah rfl rfl ?_
   refine wP rfl (Aa (zE (zR rfl (zA (zB (wP rfl (Aa (zE (zO (zQ (zP (zP (zQ ?_)))))))))))))
   refine zP ?_
   refine Af tH rfl (.tmp rfl) () ?_ trivial fun W _=>Ae.nil _ _
   rw[QG fun h=>by have:=Cy.1 (h.all b hbm);omega]
  ·refine Ab 26 (.bool false) rfl (congrArg Value.bool ((U6 b).trans (decide_eq_false h48))) ?_
   refine wP rfl (wP rfl (wP rfl ?_))
   refine Br i tH rfl rfl rfl rfl rfl rfl rfl rfl hb ?_
   refine wP rfl ?_
   by_cases h57:57<b.toNat
   ·refine Ab 31 (.bool true) rfl (congrArg Value.bool ((Ui b).trans (decide_eq_true h57))) ?_
    refine wP rfl (Aa (zE (zR rfl (zA (zB (wP rfl (Aa (zE (zO (zQ (zP (zP (zQ ?_)))))))))))))
    refine zP ?_
    refine Af tH rfl (.tmp rfl) () ?_ trivial fun W _=>Ae.nil _ _
    rw[QG fun h=>by have:=Cy.1 (h.all b hbm);omega]
   ·refine Ab 31 (.bool false) rfl (congrArg Value.bool ((Ui b).trans (decide_eq_false h57))) ?_
    refine wP rfl (Aa (zE (zS rfl (zI (zN (zE (zB (wP rfl (wP rfl ?_)))))))))
    refine Ab 22 (.int .i64 ((i+1:Nat):Int)) rfl (congrArg (Value.int .i64) (A5 (by omega))) ?_
    refine wP rfl (Aa ?_)
    refine As (i+1) ⟨hlt,fun c hc=> ?_⟩ (by show s.length-(i+1)<s.length-i;omega) ⟨rfl,rfl,trivial⟩ [] rfl
    rw[List.take_add_one,hb,List.mem_append] at hc
    rcases hc with hc|hc
    ·exact hdg c hc
    ·obtain rfl:c=b:=by simpa using hc
     exact Cy.2 ⟨by omega,by omega⟩
 ·refine Ab 20 (.bool false) rfl (congrArg Value.bool (decide_eq_false (by omega))) ?_
  refine Aa (zE (zS rfl (zJ (zK (zK (zL (zE (zA (zB (wP rfl (Aa (zE (zO ?_)))))))))))))
  refine Af tH rfl (.tmp rfl) () ?_ trivial fun W _=>Ae.nil _ _
  rw[List.take_of_length_le (by omega)] at hdg
  rw[Gv.2 ⟨hne,hdg,hlead⟩]
theorem Qm (a b:Nat) (ha:a<9223372036854775808) (hb:b<9223372036854775808):AX Tryz.prog 205 [.int .i64 (a:Nat), .int .i64 (b:Nat)] (.int .i64 (Nat.gcd a b:Nat)):=by
 intro W
 refine Ad Tryz.func205 rfl rfl rfl ?_
 refine zA (zB (wP rfl (Aa (zE (zA (zH ?_))))))
 refine Av (X:=Nat×Nat) (fun x=>[(0, .int .i64 (x.1:Nat)),(1, .int .i64 (x.2:Nat))]) (fun _=>[]) (fun x=>x.1<9223372036854775808∧x.2<9223372036854775808∧Nat.gcd x.1 x.2=Nat.gcd a b) (fun x=>x.2) (a,b) ⟨ha,hb,rfl⟩ ⟨rfl,rfl,trivial⟩ [] rfl ?_
 rintro⟨x,y⟩ ⟨hx,hy,hg⟩
 have hx:x<9223372036854775808:=hx
 have hy:y<9223372036854775808:=hy
 have hg:Nat.gcd x y=Nat.gcd a b:=hg
 refine zA (zA (zB (wP rfl (wP rfl (Aa (zE ?_))))))
 by_cases h0:y=0
 ·refine AT 6 (.bool false) rfl (congrArg Value.bool (by rw[bne_eq_false_iff_eq];omega)) ?_
  refine zS rfl (zJ (zK (zK (zL (zE (zA (zB (wP rfl (wP rfl (Aa (zE (zO ?_))))))))))))
  exact Af tH rfl (.tmp rfl) () (by rw[←hg,h0,Nat.gcd_zero_right]) trivial fun W _=>Ae.nil _ _
 ·refine AT 6 (.bool true) rfl (congrArg Value.bool (by rw[bne_iff_ne];omega)) ?_
  refine zR rfl (zI (zE (zH ?_)))
  refine zT Tryz.mixed (by kernel_rfl) ?_
  refine qP rfl (qP rfl (qP rfl ?_))
  refine EN rfl rfl rfl rfl rfl (by omega) ?_
  refine qP rfl (qP rfl (AE (Aa (zN ?_))))
  have hr:x%y<y:=Nat.mod_lt _ (by omega)
  exact As (y,x%y) ⟨hy,Nat.lt_trans hr hy,by show Nat.gcd y (x%y)=_;rw[Nat.gcd_comm, ←Nat.gcd_rec,Nat.gcd_comm];exact hg⟩ hr ⟨rfl,rfl,trivial⟩ [] rfl
theorem Eh (s:List UInt8) (hs:s.length≤18) (hd: ∀b∈s,DE b=true):AX Tryz.prog 141 [str s] (.int .i64 (AO s:Nat)):=by
 intro W
 have hlt: ∀i,AO (s.take i)<1000000000000000000:=fun i=>by
  have h1:=Fs (s.take i).length (s:=s.take i) rfl fun b hb=>hd b (List.mem_of_mem_take hb)
  have h2:(s.take i).length≤18:=by rw[List.length_take];omega
  exact Nat.lt_of_lt_of_le h1 (Nat.pow_le_pow_right (by decide) h2)
 refine Ad Tryz.func141 rfl rfl rfl ?_
 refine zA (zB (wP rfl (Aa (zE (zA (zB (wP rfl (Aa (zE (zA (zA (zB (wP rfl ?_)))))))))))))
 refine Aa (zE (zH ?_))
 refine Av (X:=Nat) (fun i=>[(0,str s),(3, .int .i64 (AO (s.take i):Nat)),(4, .int .i64 (i:Nat))]) (fun _=>[]) (fun i=>i≤s.length) (fun i=>s.length-i) 0 (Nat.zero_le _) ⟨rfl,rfl,rfl,trivial⟩ [] rfl ?_
 intro i hi
 have hi:i≤s.length:=hi
 refine zA (zA (zB (wP rfl (wP rfl (wP rfl ?_)))))
 refine Ab 7 (.int .i64 (s.length:Nat)) rfl (congrArg (fun n:Nat=>Value.int .i64 (n:Int)) (AF s)) ?_
 refine wP rfl ?_
 by_cases h:i<s.length
 ·refine Ab 8 (.bool true) rfl (congrArg Value.bool (decide_eq_true (by omega))) ?_
  refine Aa (zE (zR rfl (zI (zE (zA (zH (zB ?_)))))))
  obtain⟨b,hb⟩: ∃b,s[i]? =some b:=⟨s[i],List.getElem?_eq_getElem h⟩
  have hdb:=Cy.1 (hd b (List.mem_of_getElem? hb))
  have e1:AO (s.take (i+1))=10*AO (s.take i)+(b.toNat-48):=by
   rw[List.take_add_one,hb];exact CY _ _
  have l1:=hlt i
  have l2:=hlt (i+1)
  refine wP rfl (wP rfl ?_)
  refine Ab 12 (.int .i64 ((10*AO (s.take i):Nat):Int)) rfl (congrArg (Value.int .i64) (show w64 (10*(AO (s.take i):Nat))=_ by rw[An (by omega) (by omega)];omega)) ?_
  refine wP rfl (wP rfl ?_)
  refine Br i tH rfl rfl rfl rfl rfl rfl rfl rfl hb ?_
  refine wP rfl ?_
  refine Ab 16 (.int .u8 ((b.toNat-48:Nat):Int)) rfl (congrArg (Value.int .u8) (show IntKind.u8.wrap ((b.toNat:Nat)-48)=_ by
   simp only[IntKind.wrap,IntKind.signed,IntKind.bits];simp;omega)) ?_
  refine EM Tryz.underlying5 Tryz.underlying3 rfl rfl rfl rfl ?_
  refine Ab 17 (.int .i64 ((b.toNat-48:Nat):Int)) rfl (congrArg (Value.int .i64) (BP (by omega))) ?_
  refine wP rfl ?_
  refine Ab 18 (.int .i64 ((AO (s.take (i+1)):Nat):Int)) rfl (congrArg (Value.int .i64) (show w64 (((10*AO (s.take i):Nat):Int)+((b.toNat-48:Nat):Int))=_ by rw[An (by omega) (by omega),e1];omega)) ?_
  refine wP rfl (Aa (zN (zE (zB (wP rfl (wP rfl ?_))))))
  refine Ab 10 (.int .i64 ((i+1:Nat):Int)) rfl (congrArg (Value.int .i64) (A5 (by omega))) ?_
  refine wP rfl (Aa ?_)
  exact As (i+1) h (by show s.length-(i+1)<s.length-i;omega) ⟨rfl,rfl,rfl,trivial⟩ [] rfl
 ·refine Ab 8 (.bool false) rfl (congrArg Value.bool (decide_eq_false (by omega))) ?_
  refine Aa (zE (zS rfl (zJ (zK (zK (zL (zE (zA (zB (wP rfl (wP rfl (Aa (zE ?_)))))))))))))
  refine zO ?_
  exact Af tH rfl (.tmp rfl) () (by rw[List.take_of_length_le (by omega)]) trivial fun W _=>Ae.nil _ _
-- BOXES 3
-- CODE2
section
variable {r:Option Nat} {n:Nat} {P:Program} {N:Nat} {D:List Deferred} {ops:List Oper} {Q:Exit→Act→World→Prop} {o:Oper} {rest:List Oper} {env:Env} {A:World→Prop} {A2:World→Prop} {R:Act→World→Prop}
theorem T6 {T:Tbl} {i:TI} {ρ:Operand→Value} {a:List UInt8} {t:TypeId} {x y:Operand} {k:IntKind} (l:Nat) (hT:Go.Am.okB P T=true) (ho:o.op= .slice t x none (some y) none) (ht:Cg T t=some i) (hk:i.kind=1)
  (hx:ρ x=str a) (hy:ρ y= .int k l) (h1:l≤a.length) (W:World):(execOp ρ o).run P W= .ok (.value (str (a.take l))) W:=by
 have hu:=FQ (BE hT ht) hk
 have hsz:(⟨a.toArray⟩:ByteArray).size=a.length:=by show a.toArray.size=_;simp
 have e:(⟨a.toArray⟩:ByteArray).extract 0 l=⟨(a.take l).toArray⟩:=by
  apply ByteArray.ext
  rw[ByteArray.data_extract]
  apply Array.toList_inj.1
  simp[List.extract_eq_take_drop]
 simp[execOp,ho,Instr.sliceAt,Instr.slice,Instr.sliceBounds,Instr.sliceBound,hx,hy,asIntOf,run_underlying hu,hsz,h1,e]
theorem V6 (l:Nat) {T:Tbl} {i:TI} {a:List UInt8} {d:Nat} {t:TypeId} {x y:Operand} {k:IntKind} {z:Int} (hT:Go.Am.okB P T=true) (hg:AB ops N env o=some true) (hd:o.dst=some d) (ho:o.op= .slice t x none (some y) none) (ht:Cg T t=some i) (hk:i.kind=1)
  (hx:evO N env x=some (str a)) (hy:evO N env y=some (.int k z)) (hz:z=l) (h1:l≤a.length)
  (hn:WQ P N D ops A2 R rest ((d,str (a.take l))::env) A):WQ P N D ops A2 R (o::rest) env A:=
 F8 hg hd (fun c e=>by rw[ho] at e;cases e) (fun ρ W hρ _=>T6 l hT ho ht hk (hρ _ _ hx) (by rw[←hz];exact hρ _ _ hy) h1 W) hn
end
section
variable {n:Nat} {P:Program} {W0:World} {N:Nat} {env:Env} {bxs:List Bx}
theorem RQ {fn:Func} {T:Tbl} {r1 r2 r3 r4:ResultVar} {v1 v2 v3 v4:Value} {X:Type} {val:X→Value} {Φ:X→Prop} {nb:X→List Bx} (hT:Go.Am.okB P T=true) (hr:fn.results= #[r1,r2,r3,r4])
  (h1:Res P T env bxs N r1 v1) (h2:Res P T env bxs N r2 v2) (h3:Res P T env bxs N r3 v3) (h4:Res P T env bxs N r4 v4)
  (x:X) (hv: .tuple #[v1,v2,v3,v4]=val x) (hx:Φ x) (hnb: ∀W,Hp W0 bxs W→Ae W0 W (nb x)):NE N [] (HD P fn W0 val Φ nb) .ret env (Hp W0 bxs):=
 L3 (rvs:=[r1,r2,r3,r4]) (vs:=[v1,v2,v3,v4]) hT hr rfl (fun i h _=>by
  match i,h with
  |0,_=>exact h1
  |1,_=>exact h2
  |2,_=>exact h3
  |3,_=>exact h4
  |i+4,h=>exact absurd h (by show¬i+4<4;omega)) x (by simpa using hv) hx hnb
end
def OZ (a:List UInt8):Value:= .tuple #[.bool (hasPrefix a [45]),str (cut (trimPrefix a [45]) [47]).1,str (cut (trimPrefix a [45]) [47]).2.1, .bool (cut (trimPrefix a [45]) [47]).2.2]
theorem Fr (a:List UInt8) (ha:a.length<4611686018427387904):AX Tryz.prog 140 [str a] (OZ a):=by
 intro W
 refine Ad Tryz.func140 rfl rfl rfl ?_
 refine zA (zB (wP rfl (wP rfl (wP rfl (wP rfl (Aa (zE (zA (zB (wP rfl (wP rfl (Aa (AC ?_)))))))))))))
 refine A7 ?_
 refine AK (X:=Unit) (fun _=>[(6,str a),(7, .bool (hasPrefix a [45]))]) (fun _=>[]) (fun _=>True) ?_ ?_
 ·refine zB (wP rfl (wP rfl ?_))
  refine Ab 11 (.int .i64 (a.length:Nat)) rfl (congrArg (fun n:Nat=>Value.int .i64 (n:Int)) (AF a)) ?_
  refine wP rfl ?_
  cases ea:a with
  |nil=>
   refine Ab 12 (.bool false) rfl rfl ?_
   refine wP rfl ?_
   iterate 3 refine Ah rfl rfl ?_
   refine wP rfl (wP rfl (Aa ?_))
   exact At () trivial ⟨rfl,rfl,trivial⟩ [] rfl
  |cons b t=>
   refine Ab 12 (.bool true) rfl (congrArg Value.bool (decide_eq_true (by show(((b::t).length:Nat):Int)>0;rw[List.length_cons];omega))) ?_
   refine wP rfl (wP rfl ?_)
   refine Br 0 tH rfl rfl rfl rfl rfl rfl rfl rfl (show(b::t)[0]? =some b from rfl) ?_
   refine wP rfl ?_
   refine Ab 16 (.bool (hasPrefix (b::t) [45])) rfl (congrArg Value.bool ((FY b 45).trans (by rw[Bt];exact decide_eq_decide.2 (by simp)))) ?_
   refine wP rfl (wP rfl (Aa ?_))
   exact At () trivial ⟨rfl,rfl,trivial⟩ [] rfl
 intro _ _
 refine zA (zA (zB (wP rfl (Aa (AC ?_)))))
 try refine A7 ?_
 obtain⟨b,hb⟩: ∃b,b=trimPrefix a [45]:=⟨_,rfl⟩
 have hbl:b.length≤a.length:=by rw[hb,AS];split<;>simp
 refine AK (X:=Unit) (fun _=>[(6,str b),(7, .bool (hasPrefix a [45]))]) (fun _=>[]) (fun _=>True) ?_ ?_
 ·refine Ak rfl (fun hm=> ?_) (fun hm=> ?_)
  ·have hm:a[0]? =some 45:=by rw[Bt] at hm;exact of_decide_eq_true hm
   have h1:1≤a.length:=(List.getElem?_eq_some_iff.1 hm).1
   refine zB (wP rfl ?_)
   refine Ky 1 tH rfl rfl rfl rfl rfl rfl rfl rfl h1 ?_
   refine wP rfl (Aa ?_)
   exact At () trivial ⟨by rw[hb,AS,if_pos hm];rfl,rfl,trivial⟩ [] rfl
  ·have hm: ¬a[0]? =some 45:=by rw[Bt] at hm;exact of_decide_eq_false hm
   refine zI ?_
   exact At () trivial ⟨by rw[hb,AS,if_neg hm];rfl,rfl,trivial⟩ [] rfl
 intro _ _
 refine zA (zA (zB (wP rfl (Aa (zE (zH ?_))))))
 refine Av (X:=Nat) (fun i=>[(6,str b),(7, .bool (hasPrefix a [45])),(8, .int .i64 (i:Nat))]) (fun _=>[]) (fun i=>i≤b.length∧47∉b.take i) (fun i=>b.length-i) 0 ⟨Nat.zero_le _,by simp⟩ ⟨rfl,rfl,rfl,trivial⟩ [] rfl ?_
 rintro i ⟨hi,hno⟩
 have hi:i≤b.length:=hi
 have hno:47∉b.take i:=hno
 refine zA (zA (zB (wP rfl (wP rfl (wP rfl ?_)))))
 refine Ab 23 (.int .i64 (b.length:Nat)) rfl (congrArg (fun n:Nat=>Value.int .i64 (n:Int)) (AF b)) ?_
 refine wP rfl ?_
 by_cases hlt:i<b.length
 ·refine Ab 24 (.bool true) rfl (congrArg Value.bool (decide_eq_true (by omega))) ?_
  refine Aa (zE (zR rfl (zI (zE (zA (zH (zA (zB ?_))))))))
  obtain⟨c,hc⟩: ∃c,b[i]? =some c:=⟨b[i],List.getElem?_eq_getElem hlt⟩
  refine wP rfl (wP rfl ?_)
  refine Br i tH rfl rfl rfl rfl rfl rfl rfl rfl hc ?_
  refine wP rfl ?_
  refine Ab 30 (.bool (decide (c=47))) rfl (congrArg Value.bool (FY c 47)) ?_
  refine Aa (zE ?_)
  refine Ak rfl (fun h47=> ?_) (fun h47=> ?_)
  ·have h47:c=47:=of_decide_eq_true h47
   have eb:b=b.take i++47::b.drop (i+1):=by
    conv=>lhs;rw[←List.take_append_drop i b]
    rw[List.drop_eq_getElem_cons hlt]
    have:b[i]=47:=by rw[List.getElem?_eq_getElem hlt] at hc;rw[Option.some.inj hc];exact h47
    rw[this]
   have ec:=F7 (b.drop (i+1)) hno
   rw[←eb,hb] at ec
   refine zA ?_
   refine zT Tryz.mixed (by kernel_rfl) ?_
   refine qP rfl (qP rfl (qP rfl ?_))
   refine V6 i tH rfl rfl rfl rfl rfl rfl rfl rfl (by omega) ?_
   refine qP rfl (qP rfl (qP rfl ?_))
   refine A6 37 (.int .i64 ((i+1:Nat):Int)) rfl (congrArg (Value.int .i64) (A5 (by omega))) ?_
   refine NZ (i+1) tH rfl rfl rfl rfl rfl rfl rfl rfl (by omega) ?_
   refine qP rfl (qP rfl (qP rfl (qP rfl (AE (Aa (zE (zO (zQ (zP (zP (zQ (zP ?_))))))))))))
   exact RQ tH rfl (.tmp rfl) (.tmp rfl) (.tmp rfl) (.tmp rfl) () (by rw[OZ,ec,hb]) trivial fun W _=>Ae.nil _ _
  ·have h47: ¬c=47:=of_decide_eq_false h47
   refine zI (zN (zE (zB (wP rfl (wP rfl ?_)))))
   refine Ab 26 (.int .i64 ((i+1:Nat):Int)) rfl (congrArg (Value.int .i64) (A5 (by omega))) ?_
   refine wP rfl (Aa ?_)
   refine As (i+1) ⟨hlt,fun h=> ?_⟩ (by show b.length-(i+1)<b.length-i;omega) ⟨rfl,rfl,rfl,trivial⟩ [] rfl
   rw[List.take_add_one,hc,List.mem_append] at h
   rcases h with h|h
   ·exact hno h
   ·exact h47 (by simpa using h:(47:UInt8)=c).symm
 ·refine Ab 24 (.bool false) rfl (congrArg Value.bool (decide_eq_false (by omega))) ?_
  refine Aa (zE (zS rfl (zJ (zK (zK (zL (zE (zA (zB ?_)))))))))
  rw[List.take_of_length_le (by omega)] at hno
  have ec:=Es hno
  rw[hb] at ec
  iterate 6 refine wP rfl ?_
  refine Aa (zE (zO ?_))
  exact RQ tH rfl (.tmp rfl) (.tmp rfl) (.tmp rfl) (.tmp rfl) () (by rw[OZ,ec,hb]) trivial fun W _=>Ae.nil _ _
theorem VY {z:Int} {d:Nat} (_hd:1≤d):hasPrefix (FW z d) [45]=decide (z<0)∧cut (trimPrefix (FW z d) [45]) [47]=(decDigits z.natAbs,if d=1 then[] else decDigits d,decide (d≠1)):=by
 have hn47:(47:UInt8)∉decDigits z.natAbs:=fun h=>by have:=EF _ _ h;exact absurd this.1 (by decide)
 have hp: ∀r,hasPrefix (itoa z++r) [45]=decide (z<0):=fun r=>by
  rw[Bt]
  unfold itoa
  split
  ·rename_i h;rw[decide_eq_true h];rfl
  ·rename_i h
   rw[decide_eq_false h]
   obtain⟨b,t,hb,h3,_⟩:=Cz z.toNat
   rw[hb]
   refine decide_eq_false fun e=> ?_
   have e:b=45:=by simpa using e
   rw[e] at h3;exact absurd h3 (by decide)
 have ht: ∀r,trimPrefix (itoa z++r) [45]=decDigits z.natAbs++r:=fun r=>by
  have h1:=hp r
  rw[AS]
  rw[Bt] at h1
  by_cases hz:z<0
  ·rw[decide_eq_true hz] at h1
   rw[if_pos (of_decide_eq_true h1)]
   unfold itoa
   rw[if_pos hz];rfl
  ·rw[decide_eq_false hz] at h1
   rw[if_neg (of_decide_eq_false h1)]
   unfold itoa
   rw[if_neg hz,show z.toNat=z.natAbs by omega]
 unfold FW
 by_cases h1:d=1
 ·rw[if_pos h1]
  have e1:=hp []
  have e2:=ht []
  rw[List.append_nil] at e1 e2
  rw[List.append_nil] at e2
  exact⟨e1,by rw[e2,Es hn47,if_pos h1,h1];rfl⟩
 ·rw[if_neg h1]
  exact⟨hp _,by rw[ht,F7 _ hn47,if_neg h1,decide_eq_true (show d≠1 from h1)]⟩
theorem NY (q:Rat):OZ (Ai q)= .tuple #[.bool (decide (q.num<0)),str (decDigits q.num.natAbs),str (if q.den=1 then[] else decDigits q.den), .bool (decide (q.den≠1))]:=by
 obtain⟨h1,h2⟩:=VY (z:=q.num) q.den_pos
 unfold OZ Ai
 rw[h1,h2]
def Ey (q:Rat):Bool:=decide ((decDigits q.num.natAbs).length≤9)&&(decide (q.den=1)||decide ((decDigits q.den).length≤9))
theorem Ld {n:Nat} (h:(decDigits n).length≤9):n<1000000000:=Nat.lt_of_lt_of_le (Hk n) (Nat.pow_le_pow_right (by decide) h)
theorem Jq {q:Rat} (h:Ey q=true):q.num.natAbs<1000000000∧q.den<1000000000:=by
 unfold Ey at h
 simp only[Bool.and_eq_true,Bool.or_eq_true,decide_eq_true_eq] at h
 refine⟨Ld h.1, ?_⟩
 rcases h.2 with e|e
 ·rw[e];decide
 ·exact Ld e
theorem QR (q:Rat) (hl:(Ai q).length<4611686018427387904):AX Tryz.prog 64 [str (Ai q)] (if Ey q=true then .tuple #[.int .i64 q.num, .int .i64 (q.den:Nat), .bool true] else .tuple #[.int .i64 0, .int .i64 0, .bool false]):=by
 intro W
 obtain⟨n,hn⟩: ∃n,n=decDigits q.num.natAbs:=⟨_,rfl⟩
 obtain⟨e,he⟩: ∃e,e=(if q.den=1 then[] else decDigits q.den):=⟨_,rfl⟩
 have hsp:Aj Tryz.prog 140 #[str (Ai q)] W (fun _:Unit=> .tuple #[.bool (decide (q.num<0)),str n,str e, .bool (decide (q.den≠1))]) (fun _=>True) (fun _=>[]):=(Fr (Ai q) hl W).cast (by rw[NY,hn,he])
 have hsh:Ey q=(decide (n.length≤9)&&decide (e.length≤9)):=by
  unfold Ey
  rw[hn,he]
  by_cases h1:q.den=1
  ·rw[if_pos h1,decide_eq_true h1];rfl
  ·rw[if_neg h1,decide_eq_false h1,Bool.false_or]
 have hnd: ∀b∈n,DE b=true:=by rw[hn];exact(Ho _).all
 refine Ad Tryz.func64 rfl rfl rfl ?_
 refine zA (zB (wP rfl (wP rfl (wP rfl (Aa (zE (zA (zB (wP rfl ?_)))))))))
 refine Ac rfl rfl rfl rfl rfl rfl (by kernel_rfl) (fun W1 hp=>(Fr (Ai q) hl W1).cast (v':= .tuple #[.bool (decide (q.num<0)),str n,str e, .bool (decide (q.den≠1))]) (by rw[NY,hn,he])) ?_
 iterate 9 refine wP rfl ?_
 refine Aa ?_
 by_cases hs:Ey q=true
 ·rw[if_pos hs]
  have hs2:=hs
  rw[hsh,Bool.and_eq_true,decide_eq_true_eq,decide_eq_true_eq] at hs2
  obtain⟨hs2,hs3⟩:=hs2
  obtain⟨l1,l2⟩:=Jq hs
  refine zE (zA (zA (zB (wP rfl (wP rfl ?_)))))
  refine Ab 19 (.int .i64 (n.length:Nat)) rfl (congrArg (fun n:Nat=>Value.int .i64 (n:Int)) (AF n)) ?_
  refine wP rfl ?_
  refine Ab 20 (.bool false) rfl (congrArg Value.bool (decide_eq_false (by omega))) ?_
  refine wP rfl (wP rfl (wP rfl ?_))
  refine Ab 23 (.int .i64 (e.length:Nat)) rfl (congrArg (fun n:Nat=>Value.int .i64 (n:Int)) (AF e)) ?_
  refine wP rfl ?_
  refine Ab 24 (.bool false) rfl (congrArg Value.bool (decide_eq_false (by omega))) ?_
  refine wP rfl (Aa (zE (zS rfl (zI (zE (zA (zB (wP rfl ?_))))))))
  refine Ac rfl rfl rfl rfl rfl rfl (by kernel_rfl) (fun W1 hp=>(Eh n (by omega) hnd W1).cast (v':= .int .i64 (q.num.natAbs:Nat)) (by rw[hn,Cs])) ?_
  refine wP rfl (wP rfl (Aa (zE (zA (zA (zB (wP rfl (Aa (AC ?_)))))))))
  try refine A7 ?_
  refine AK (X:=Unit) (fun _=>[(5, .bool (decide (q.num<0))),(9, .int .i64 (q.num.natAbs:Nat)),(10, .int .i64 (q.den:Nat))]) (fun _=>[]) (fun _=>True) ?_ ?_
  ·refine Ak rfl (fun h1=> ?_) (fun h1=> ?_)
   ·have h1:q.den≠1:=of_decide_eq_true h1
    have e1:e=decDigits q.den:=by rw[he,if_neg h1]
    refine zB (wP rfl ?_)
    refine Ac rfl rfl rfl rfl rfl rfl (by kernel_rfl) (fun W1 hp=>(Eh e (by omega) (by rw[e1];exact(Ho _).all) W1).cast (v':= .int .i64 (q.den:Nat)) (by rw[e1,Cs])) ?_
    refine wP rfl (Aa ?_)
    exact At () trivial ⟨rfl,rfl,rfl,trivial⟩ [] rfl
   ·have h1:q.den=1:=Decidable.byContradiction fun h=>absurd h1 (by rw[decide_eq_true h];decide)
    refine zI ?_
    exact At () trivial ⟨rfl,rfl,by rw[h1];rfl,trivial⟩ [] rfl
  intro _ _
  refine zA (zA (zB (wP rfl (Aa (AC ?_)))))
  try refine A7 ?_
  refine AK (X:=Unit) (fun _=>[(9, .int .i64 q.num),(10, .int .i64 (q.den:Nat))]) (fun _=>[]) (fun _=>True) ?_ ?_
  ·refine Ak rfl (fun h1=> ?_) (fun h1=> ?_)
   ·have h1:q.num<0:=of_decide_eq_true h1
    refine zB (wP rfl (wP rfl ?_))
    refine Ab 33 (.int .i64 q.num) rfl (congrArg (Value.int .i64) (by show w64 (0-((q.num.natAbs:Nat):Int))=_;rw[An (by omega) (by omega)];omega)) ?_
    refine wP rfl (Aa ?_)
    exact At () trivial ⟨rfl,rfl,trivial⟩ [] rfl
   ·have h1: ¬q.num<0:=of_decide_eq_false h1
    refine zI ?_
    exact At () trivial ⟨congrArg (fun z=>some (Value.int .i64 z)) (by omega),rfl,trivial⟩ [] rfl
  intro _ _
  refine zA (zB ?_)
  iterate 5 refine wP rfl ?_
  refine Aa (zE (zO ?_))
  exact BW tH rfl (.tmp rfl) (.tmp rfl) (.tmp rfl) () rfl trivial fun W _=>Ae.nil _ _
 ·rw[if_neg hs]
  have hs2: ¬(n.length≤9∧e.length≤9):=fun h=>hs (by rw[hsh,decide_eq_true h.1,decide_eq_true h.2];rfl)
  refine AC (A7 (A7 ?_))
  refine AK (X:=Unit) (fun _=>[(25, .bool true)]) (fun _=>[]) (fun _=>True) ?_ ?_
  ·refine zB (wP rfl (wP rfl ?_))
   refine Ab 19 (.int .i64 (n.length:Nat)) rfl (congrArg (fun n:Nat=>Value.int .i64 (n:Int)) (AF n)) ?_
   refine wP rfl ?_
   by_cases h1:n.length≤9
   ·refine Ab 20 (.bool false) rfl (congrArg Value.bool (decide_eq_false (by omega))) ?_
    refine wP rfl (wP rfl (wP rfl ?_))
    refine Ab 23 (.int .i64 (e.length:Nat)) rfl (congrArg (fun n:Nat=>Value.int .i64 (n:Int)) (AF e)) ?_
    refine wP rfl ?_
    refine Ab 24 (.bool true) rfl (congrArg Value.bool (decide_eq_true (by omega))) ?_
    refine wP rfl (Aa ?_)
    exact At () trivial ⟨rfl,trivial⟩ [] rfl
   ·refine Ab 20 (.bool true) rfl (congrArg Value.bool (decide_eq_true (by omega))) ?_
    refine wP rfl ?_
    iterate 3 refine Ah rfl rfl ?_
    refine wP rfl (Aa ?_)
    exact At () trivial ⟨rfl,trivial⟩ [] rfl
  intro _ _
  refine zR rfl (zA (zB (wP rfl (wP rfl (wP rfl (Aa (zE (zO (zP ?_)))))))))
  exact BW tH rfl (.tmp rfl) (.tmp rfl) (.tmp rfl) () rfl trivial fun W _=>Ae.nil _ _
theorem Qj (q:Rat) (hl:(Ai q).length≤1000):AX Tryz.prog 65 [str (Ai q)] (.tuple #[str (itoa q.num),str (decDigits q.den)]):=by
 intro W
 have hlen:(decDigits q.num.natAbs).length≤1000:=by
  have:=R6 (a:=Ai q) (FR q.num q.den_pos)
  omega
 refine Ad Tryz.func65 rfl rfl rfl ?_
 refine zA (zB (wP rfl (wP rfl (Aa (zE (zA (zB (wP rfl ?_))))))))
 refine Ac rfl rfl rfl rfl rfl rfl (by kernel_rfl) (fun W1 hp=>(Fr (Ai q) (by omega) W1).cast (NY q)) ?_
 iterate 9 refine wP rfl ?_
 refine Aa (zE (zA (zA (zB (wP rfl (Aa (AC ?_)))))))
 try refine A7 ?_
 refine AK (X:=Unit) (fun _=>[(5,str (itoa q.num)),(6,str (if q.den=1 then[] else decDigits q.den)),(7, .bool (decide (q.den≠1)))]) (fun _=>[]) (fun _=>True) ?_ ?_
 ·refine Ak rfl (fun h1=> ?_) (fun h1=> ?_)
  ·have h1:q.num<0:=of_decide_eq_true h1
   refine zB (wP rfl ?_)
   refine Ef rfl rfl rfl rfl rfl (a:=[45]) (b:=decDigits q.num.natAbs) (by decide) (by omega) ?_
   refine wP rfl (Aa ?_)
   exact At () trivial ⟨by unfold itoa;rw[if_pos h1];rfl,rfl,rfl,trivial⟩ [] rfl
  ·have h1: ¬q.num<0:=of_decide_eq_false h1
   refine zI ?_
   exact At () trivial ⟨by unfold itoa;rw[if_neg h1,show q.num.toNat=q.num.natAbs by omega];rfl,rfl,rfl,trivial⟩ [] rfl
 intro _ _
 refine zA (zA (zB (wP rfl (wP rfl (Aa (AC ?_))))))
 try refine A7 ?_
 refine AK (X:=Unit) (fun _=>[(5,str (itoa q.num)),(6,str (decDigits q.den))]) (fun _=>[]) (fun _=>True) ?_ ?_
 ·refine Ak rfl (fun h1=> ?_) (fun h1=> ?_)
  ·have h1:q.den=1:=Decidable.byContradiction fun h=>absurd h1 (by rw[decide_eq_true h];decide)
   refine zB (wP rfl (Aa ?_))
   exact At () trivial ⟨rfl,by rw[h1,FD];rfl,trivial⟩ [] rfl
  ·have h1:q.den≠1:=Decidable.byContradiction fun h=>absurd h1 (by rw[decide_eq_false h];decide)
   refine zI ?_
   exact At () trivial ⟨rfl,by rw[if_neg h1];rfl,trivial⟩ [] rfl
 intro _ _
 refine zA (zB (wP rfl (wP rfl (wP rfl (wP rfl (Aa (zE (zO ?_))))))))
 exact Ar tH rfl (.tmp rfl) (.tmp rfl) () rfl trivial fun W _=>Ae.nil _ _
-- BOXES 4
-- CODE2
abbrev br:Nat:=1000000
theorem br2:2≤br:=by decide
theorem D3 {g cap:Nat} {junk:List Value} {l:List Nat} (h:(⟨some g,cap,junk⟩:Vec).OK 1 l.length (nI l)) (hl: ∀x∈l,x<br):
  ∃junk',(⟨some g,cap,junk'⟩:Vec).OK 1 (lbs br (lv br l)).length (nI (lbs br (lv br l)))∧nI l++junk=nI (lbs br (lv br l))++junk':=by
 obtain⟨h1,h2,h3⟩:=h.cap (by simp)
 have e:=LB br2 hl
 have hlen:=(BN br2).2 (EG br2 hl)
 have e2:nI l=nI (lbs br (lv br l))++nI (l.drop (lbs br (lv br l)).length):=by
  conv=>lhs;rw[←List.take_append_drop (lbs br (lv br l)).length l]
  rw[Ic, ←e]
 have h3':(nI l).length+junk.length=cap*1:=h3
 have h2':cap≤maxLen:=h2
 refine⟨nI (l.drop (lbs br (lv br l)).length)++junk,⟨Eo _,(fun h=>by cases h),fun _=>⟨by show _≤cap;rw[BD] at h3';omega,h2', ?_⟩⟩, ?_⟩
 ·show(nI (lbs br (lv br l))).length+(nI (l.drop (lbs br (lv br l)).length)++junk).length=cap*1
  rw[List.length_append,BD,BD,List.length_drop]
  rw[BD] at h3';omega
 ·rw[←List.append_assoc, ←e2]
theorem CK (W:World) (p:Option Addr) (cap n:Nat) (l:List Nat) (i x:Nat) (h:A4 W p l) (hn:l.length=n) (hi:i<4611686018427387904) (hx:lim l i=x):Aj Tryz.prog 267 #[slv p n cap, .int .i64 (i:Nat)] W (fun _:Unit=> .int .i64 (x:Nat)) (fun _=>True) (fun _=>[]):=by
 subst hn hx
 refine Ad (args:=[slv p l.length cap, .int .i64 (i:Nat)]) Tryz.func267 rfl rfl rfl ?_
 refine zA (zB (wP rfl (Aa (zE (zA (zA (zB (wP rfl (wP rfl (wP rfl (wP rfl (Aa (zE ?_)))))))))))))
 refine Ak rfl (fun hc=> ?_) (fun hc=> ?_)
 ·have hl:i<l.length:=by simp at hc;omega
  obtain⟨b,off,rfl,hrow⟩:=h.row hl
  refine zA (zB (wP rfl (wP rfl ?_)))
  refine wJ ?_
  refine Aw rfl rfl rfl rfl (fun W hp=>Ag.load 0 tH rfl ((fun W hp=>(hrow i hl).hp hp) W hp) rfl) ?_
  refine wP rfl (Aa (zE (zO (zP ?_))))
  exact Af tH rfl (.tmp rfl) () rfl trivial fun W _=>Ae.nil _ _
 ·have hl:l.length≤i:=by simp at hc;omega
  refine zI (zE (zA (zB (wP rfl (Aa (zE (zO ?_)))))))
  exact Af tH rfl (.tmp rfl) () (by rw[Pd hl];rfl) trivial fun W _=>Ae.nil _ _
theorem C7 (W:World) (p:Option Addr) (cap:Nat) (l:List Nat) (h:A4 W p l) (hl: ∀x∈l,x<br) (hc:l.length≤cap) (hn:l.length<4611686018427387904):
  Aj Tryz.prog 214 #[slv p l.length cap] W (fun _:Unit=>slv p (lbs br (lv br l)).length cap) (fun _=>True) (fun _=>[]):=by
 refine Ad (args:=[slv p l.length cap]) Tryz.func214 rfl rfl rfl ?_
 refine zA (zB (wP rfl (Aa (zE (zA (zB (wP rfl (wP rfl (wP rfl (Aa (zE (zA (zH ?_)))))))))))))
 refine Av (X:=Nat) (fun k=>[(0,slv p l.length cap),(3, .int .i64 (k:Nat))]) (fun _=>[]) (fun k=>k≤l.length∧ ∀i,k≤i→i<l.length→l[i]? =some 0) (fun k=>k) l.length ⟨Nat.le_refl _,fun i h1 h2=>by omega⟩ ⟨rfl,rfl,trivial⟩ [] rfl ?_
 rintro k ⟨hk,hz⟩
 have hk:k≤l.length:=hk
 have hend:(k=0∨l[k-1]? ≠some 0)→(lbs br (lv br l)).length=k:=fun h0=>by
  rw[←PW br2 hk hl hz h0,List.length_take];omega
 by_cases h0:k=0
 ·subst h0
  refine zA (zA (zB (wP rfl (wP rfl ?_))))
  refine Ab 7 (.bool false) rfl rfl ?_
  refine wP rfl ?_
  iterate 6 refine Ah rfl rfl ?_
  refine wP rfl (Aa (zE (zS rfl (zJ (zK (zK (zL (zE (zA (zB (wP rfl (wP rfl ?_))))))))))))
  refine Dt 0 tH rfl rfl rfl rfl rfl rfl rfl rfl (by omega) ?_
  refine wP rfl (Aa (zE (zO ?_)))
  exact Af tH rfl (.tmp rfl) () (by rw[hend (.inl rfl)]) trivial fun W _=>Ae.nil _ _
 ·refine zA (zA (zB (wP rfl (wP rfl ?_))))
  refine Ab 7 (.bool true) rfl (congrArg Value.bool (by simp;omega)) ?_
  obtain⟨b,off,rfl,hrow⟩:=h.row (show k-1<l.length by omega)
  refine wP rfl (wP rfl (wP rfl (wP rfl ?_)))
  refine Ab 11 (.int .i64 ((k-1:Nat):Int)) rfl (congrArg (Value.int .i64) (by show w64 ((k:Int)-1)=_;rw[An (by omega) (by omega)];omega)) ?_
  refine wJ ?_
  refine Aw rfl rfl rfl rfl (fun W hp=>Ag.load 0 tH rfl ((fun W hp=>(hrow (k-1) (by omega)).hp hp) W hp) rfl) ?_
  refine wP rfl (wP rfl (Aa (zE ?_)))
  have e1:((lim l (k-1):Int)==0)=decide (l[k-1]? =some 0):=by
   rw[De (show k-1<l.length by omega),OP]
   simp
  refine Ak rfl (fun hc=> ?_) (fun hc=> ?_)
  ·have hz0:l[k-1]? =some 0:=by simpa[e1] using hc
   refine zI (zE (zH (zB (wP rfl (wP rfl ?_)))))
   refine Ab 17 (.int .i64 ((k-1:Nat):Int)) rfl (congrArg (Value.int .i64) (by show w64 ((k:Int)-1)=_;rw[An (by omega) (by omega)];omega)) ?_
   refine wP rfl (Aa (zN ?_))
   refine As (k-1) ⟨by show k-1≤_;omega,fun i h1 h2=> ?_⟩ (by show k-1<k;omega) ⟨rfl,rfl,trivial⟩ [] rfl
   by_cases hi:i=k-1
   ·rw[hi];exact hz0
   ·exact hz i (by have h1:k-1≤i:=h1;omega) h2
  ·have hz0:l[k-1]? ≠some 0:=by simpa[e1] using hc
   refine zJ (zK (zK (zL (zE (zA (zB (wP rfl (wP rfl ?_))))))))
   refine Dt k tH rfl rfl rfl rfl rfl rfl rfl rfl (by omega) ?_
   refine wP rfl (Aa (zE (zO ?_)))
   exact Af tH rfl (.tmp rfl) () (by rw[hend (.inr hz0)]) trivial fun W _=>Ae.nil _ _
theorem L6 {a b:Nat} (h:(lbs br a).length<(lbs br b).length):a<b:=by
 rcases Nat.lt_or_ge a b with h1|h1
 ·exact h1
 ·have:=(BN br2 (n:=b)).2 (Nat.lt_of_le_of_lt h1 (AL br2 a))
  omega
theorem WN {B:Nat} (_hB:2≤B) {a b:Nat} {k:Nat} (h:a/B^(k+1)=b/B^(k+1)):(a/B^k<b/B^k↔a/B^k%B<b/B^k%B)∧(a/B^k=b/B^k↔a/B^k%B=b/B^k%B):=by
 have h1:=Nat.mod_add_div (a/B^k) B
 have h2:=Nat.mod_add_div (b/B^k) B
 rw[Nat.div_div_eq_div_mul,show B^k*B=B^(k+1) from(Nat.pow_succ ..).symm] at h1 h2
 rw[h] at h1
 constructor<;>constructor<;>intro<;>omega
theorem Nn {a b c:Nat} (h:a/c<b/c):a<b:=by
 rcases Nat.lt_or_ge a b with h1|h1
 ·exact h1
 ·exact absurd (Nat.div_le_div_right (c:=c) h1) (by omega)
def LO (a b:Nat):Int:=if a<b then -1 else if b<a then 1 else 0
theorem JU (W:World) (p q:Option Addr) (cap cap2:Nat) (a b:Nat) (hA:A4 W p (lbs br a)) (hB:A4 W q (lbs br b)) (hna:(lbs br a).length≤1000000) (_hnb:(lbs br b).length≤1000000):
  Aj Tryz.prog 212 #[slv p (lbs br a).length cap,slv q (lbs br b).length cap2] W (fun _:Unit=> .int .i64 (LO a b)) (fun _=>True) (fun _=>[]):=by
 have hal:=AL br2 a
 have hbl:=AL br2 b
 refine Ad (args:=[slv p (lbs br a).length cap,slv q (lbs br b).length cap2]) Tryz.func212 rfl rfl rfl ?_
 refine zA (zB (wP rfl (Aa (zE (zA (zA (zB ?_)))))))
 iterate 5 refine wP rfl ?_
 by_cases hl:(lbs br a).length=(lbs br b).length
 rotate_left
 ·refine Ab 10 (.bool true) rfl (congrArg Value.bool (bne_iff_ne.2 (by omega))) ?_
  refine Aa (zE (zR rfl (zA (zA (zB ?_)))))
  iterate 5 refine wP rfl ?_
  by_cases h:(lbs br a).length<(lbs br b).length
  ·have hlt:=L6 h
   refine Ab 15 (.bool true) rfl (congrArg Value.bool (decide_eq_true (by omega))) ?_
   refine Aa (zE (zR rfl (zA (zB (wP rfl (Aa (zE (zO (zP (zP ?_))))))))))
   exact Af tH rfl (.tmp rfl) () (by unfold LO;rw[if_pos hlt]) trivial fun W _=>Ae.nil _ _
  ·have hlt:=L6 (a:=b) (b:=a) (by omega)
   refine Ab 15 (.bool false) rfl (congrArg Value.bool (decide_eq_false (by omega))) ?_
   refine Aa (zE (zS rfl (zI (zE (zA (zB (wP rfl (Aa (zE (zO (zP ?_)))))))))))
   exact Af tH rfl (.tmp rfl) () (by unfold LO;rw[if_neg (by omega),if_pos hlt]) trivial fun W _=>Ae.nil _ _
 obtain⟨K,hK⟩: ∃K,(lbs br b).length=K:=⟨_,rfl⟩
 rw[hl,hK] at hal
 rw[hK] at hbl hl
 rw[hl,hK]
 refine Ab 10 (.bool false) rfl (congrArg Value.bool (by simp)) ?_
 refine Aa (zE (zS rfl (zI (zE (zA (zA (zB (wP rfl (wP rfl (wP rfl ?_))))))))))
 refine Ab 18 (.int .i64 ((K:Int)-1)) rfl (congrArg (Value.int .i64) (An (by omega) (by omega))) ?_
 refine wP rfl (Aa (zE (zH ?_)))
 refine Av (X:=Nat) (fun k=>[(0,slv p K cap),(1,slv q K cap2),(5, .int .i64 ((k:Nat)-1:Int))]) (fun _=>[]) (fun k=>k≤K∧a/br^k=b/br^k) (fun k=>k) K ⟨Nat.le_refl _,by rw[Nat.div_eq_of_lt hal,Nat.div_eq_of_lt hbl]⟩ ⟨rfl,rfl,rfl,trivial⟩ [] rfl ?_
 rintro k ⟨hk,hq⟩
 have hk:k≤K:=hk
 refine zA (zA (zB (wP rfl (wP rfl ?_))))
 cases k with
 |zero=>
  have e:a=b:=by have hq:a/br^0=b/br^0:=hq;simpa using hq
  refine Ab 20 (.bool false) rfl (congrArg Value.bool (decide_eq_false (by show¬(((0:Nat):Int)-1≥0);omega))) ?_
  refine Aa (zE (zS rfl (zJ (zK (zK (zL (zE (zA (zB (wP rfl (Aa (zE (zO ?_)))))))))))))
  exact Af tH rfl (.tmp rfl) () (by unfold LO;rw[e,if_neg (Nat.lt_irrefl _),if_neg (Nat.lt_irrefl _)]) trivial fun W _=>Ae.nil _ _
 |succ k=>
  have hq:a/br^(k+1)=b/br^(k+1):=hq
  obtain⟨h1,h2⟩:=WN br2 hq
  obtain⟨b1,o1,rfl,r1⟩:=hA.row (show k<(lbs br a).length by omega)
  obtain⟨b2,o2,rfl,r2⟩:=hB.row (show k<(lbs br b).length by omega)
  have r1:=r1 k (by omega)
  have r2:=r2 k (by omega)
  obtain⟨x,hx⟩: ∃x,lim (lbs br a) k=x:=⟨_,rfl⟩
  obtain⟨y,hy⟩: ∃y,lim (lbs br b) k=y:=⟨_,rfl⟩
  rw[hx] at r1
  rw[hy] at r2
  rw[Bd br2] at hx hy
  rw[hx,hy] at h1 h2
  have hxb:x<br:=by rw[←hx];exact Nat.mod_lt _ (by decide)
  have hyb:y<br:=by rw[←hy];exact Nat.mod_lt _ (by decide)
  have hxb:x<1000000:=hxb
  have hyb:y<1000000:=hyb
  refine Ab 20 (.bool true) rfl (congrArg Value.bool (decide_eq_true (by show(((k+1:Nat):Int)-1≥0);omega))) ?_
  refine Aa (zE (zR rfl (zI (zE (zA (zH (zA (zA ?_))))))))
  refine zT Tryz.mixed (by kernel_rfl) ?_
  refine qP rfl (qP rfl ?_)
  refine A6 24 (.int .i64 (k:Nat)) rfl (congrArg (Value.int .i64) (by show((k+1:Nat):Int)-1=_;omega)) ?_
  refine qJ ?_
  refine Ap rfl rfl rfl rfl (fun W hp=>Ag.load 0 tH rfl ((fun W hp=>r1.hp hp) W hp) rfl) ?_
  refine qP rfl (qP rfl ?_)
  refine A6 28 (.int .i64 (k:Nat)) rfl (congrArg (Value.int .i64) (by show((k+1:Nat):Int)-1=_;omega)) ?_
  refine qJ ?_
  refine Ap rfl rfl rfl rfl (fun W hp=>Ag.load 0 tH rfl ((fun W hp=>r2.hp hp) W hp) rfl) ?_
  refine qP rfl ?_
  by_cases hlt:x<y
  ·have:=Nn (h1.2 hlt)
   refine A6 31 (.bool true) rfl (congrArg Value.bool (decide_eq_true (by omega))) ?_
   refine AE (Aa (zE (zR rfl (zA (zB (wP rfl (Aa (zE (zO (zP (zQ (zP (zP ?_)))))))))))))
   refine zQ (zP ?_)
   exact Af tH rfl (.tmp rfl) () (by unfold LO;rw[if_pos this]) trivial fun W _=>Ae.nil _ _
  refine A6 31 (.bool false) rfl (congrArg Value.bool (decide_eq_false (by omega))) ?_
  refine AE (Aa (zE (zS rfl (zI (zE (zA ?_))))))
  refine zT Tryz.mixed (by kernel_rfl) ?_
  refine qP rfl (qP rfl ?_)
  refine A6 33 (.int .i64 (k:Nat)) rfl (congrArg (Value.int .i64) (by show((k+1:Nat):Int)-1=_;omega)) ?_
  refine qJ ?_
  refine Ap rfl rfl rfl rfl (fun W hp=>Ag.load 0 tH rfl ((fun W hp=>r1.hp hp) W hp) rfl) ?_
  refine qP rfl (qP rfl ?_)
  refine A6 37 (.int .i64 (k:Nat)) rfl (congrArg (Value.int .i64) (by show((k+1:Nat):Int)-1=_;omega)) ?_
  refine qJ ?_
  refine Ap rfl rfl rfl rfl (fun W hp=>Ag.load 0 tH rfl ((fun W hp=>r2.hp hp) W hp) rfl) ?_
  refine qP rfl ?_
  by_cases hgt:y<x
  ·have h3: ¬a/br^k<b/br^k:=fun h=>hlt (h1.1 h)
   have h4: ¬a/br^k=b/br^k:=fun h=>by have:=h2.1 h;omega
   have:=Nn (a:=b) (b:=a) (c:=br^k) (by omega)
   refine A6 40 (.bool true) rfl (congrArg Value.bool (decide_eq_true (by show((x:Nat):Int)>(y:Nat);omega))) ?_
   refine AE (Aa (zE (zR rfl (zA (zB (wP rfl (Aa (zE (zO (zQ (zP (zP (zQ ?_)))))))))))))
   refine zP ?_
   exact Af tH rfl (.tmp rfl) () (by unfold LO;rw[if_neg (by omega),if_pos this]) trivial fun W _=>Ae.nil _ _
  refine A6 40 (.bool false) rfl (congrArg Value.bool (decide_eq_false (by show¬((x:Nat):Int)>(y:Nat);omega))) ?_
  refine AE (Aa (zE (zS rfl (zI (zN (zE (zB (wP rfl ?_))))))))
  refine Ab 21 (.int .i64 (k:Nat)) rfl (congrArg (Value.int .i64) (by show((k+1:Nat):Int)-1=_;omega)) ?_
  refine wP rfl ?_
  refine Ab 22 (.int .i64 ((k:Nat)-1:Int)) rfl (congrArg (Value.int .i64) (An (by omega) (by omega))) ?_
  refine wP rfl (Aa ?_)
  exact As k ⟨by show k≤K;omega,h2.2 (by omega)⟩ (by show k<k+1;omega) ⟨rfl,rfl,rfl,trivial⟩ [] rfl
def F6 (a b:List Nat):Nat→List Nat×Nat
 |0=>([],0)
 |i+1=>((F6 a b i).1++[(lim a i+lim b i+(F6 a b i).2)%br],(lim a i+lim b i+(F6 a b i).2)/br)
theorem Me (a b:List Nat): ∀i,(F6 a b i).1.length=i
 |0=>rfl
 |i+1=>by show(_++[_]).length=_;rw[List.length_append,Me a b i];rfl
theorem Sl {a b:List Nat} (ha: ∀x∈a,x<br) (hb: ∀x∈b,x<br): ∀i,(∀x∈(F6 a b i).1,x<br)∧(F6 a b i).2≤1
 |0=>⟨fun x h=>(by cases h),Nat.zero_le _⟩
 |i+1=>by
  obtain⟨h1,h2⟩:=Sl ha hb i
  have l1:lim a i<1000000:=Bb br2 ha i
  have l2:lim b i<1000000:=Bb br2 hb i
  refine⟨fun x hx=> ?_, ?_⟩
  ·rcases List.mem_append.1 hx with hx|hx
   ·exact h1 x hx
   ·obtain rfl:=List.mem_singleton.1 hx;exact Nat.mod_lt _ (by decide)
  ·show _/1000000≤1;omega
theorem Mh (a b:Nat): ∀i,lv br (F6 (lbs br a) (lbs br b) i).1+br^i*(F6 (lbs br a) (lbs br b) i).2=a%br^i+b%br^i
 |0=>by show 0+br^0*0=_;rw[Nat.pow_zero,Nat.mod_one,Nat.mod_one]
 |i+1=>MM (Me _ _ i) (Mh a b i) (by rw[Bd br2,Bd br2])
theorem Qf (W:World) (p q:Option Addr) (cap cap2:Nat) (a b:Nat) (hA:A4 W p (lbs br a)) (hB:A4 W q (lbs br b)) (hna:(lbs br a).length≤1000000) (hnb:(lbs br b).length≤1000000):
  Aj Tryz.prog 211 #[slv p (lbs br a).length cap,slv q (lbs br b).length cap2] W (fun x:NV=>BG x (lbs br (a+b)).length) (fun x=>Ce x (lbs br (a+b))) (fun x=>[BH x (lbs br (a+b))]):=by
 have hla:=Bh br2 a
 have hlb:=Bh br2 b
 have hal:=AL br2 a
 have hbl:=AL br2 b
 obtain⟨na,hna'⟩: ∃n,(lbs br a).length=n:=⟨_,rfl⟩
 obtain⟨nb,hnb'⟩: ∃n,(lbs br b).length=n:=⟨_,rfl⟩
 rw[hna'] at hna hal
 rw[hnb'] at hnb hbl
 obtain⟨M,hM⟩: ∃M,M=max na nb:=⟨_,rfl⟩
 have ham:a<br^M:=Nat.lt_of_lt_of_le hal (Nat.pow_le_pow_right (by decide) (by omega))
 have hbm:b<br^M:=Nat.lt_of_lt_of_le hbl (Nat.pow_le_pow_right (by decide) (by omega))
 refine Ad (args:=[slv p (lbs br a).length cap,slv q (lbs br b).length cap2]) Tryz.func211 rfl rfl rfl ?_
 rw[hna',hnb']
 refine zA (zB (wP rfl (Aa (zE (zA (zB ?_))))))
 refine F1 tH rfl rfl rfl rfl rfl ?_
 intro g
 refine wP rfl (Aa (zE (zA (zB (wP rfl (Aa (zE (zA (zA (zB (wP rfl (Aa (zE ?_)))))))))))))
 refine zH ?_
 refine Av (X:=Nat×NV) (fun x=>[(0,slv p na cap),(1,slv q nb cap2),(5,BG x.2 x.1),(6, .int .i64 ((F6 (lbs br a) (lbs br b) x.1).2:Nat)),(7, .int .i64 (x.1:Nat))]) (fun x=>[BH x.2 (F6 (lbs br a) (lbs br b) x.1).1])
  (fun x=>x.1≤M+1∧Ce x.2 (F6 (lbs br a) (lbs br b) x.1).1∧(x.1=M+1→(F6 (lbs br a) (lbs br b) (M+1)).2=0)) (fun x=>M+1-x.1) (0,g,0,[]) ⟨Nat.zero_le _,⟨rfl,(fun h=>by cases h),fun _=>⟨Nat.le_refl _,Nat.zero_le _,rfl⟩⟩,fun h=>by have h:0=M+1:=h;omega⟩ ⟨rfl,rfl,rfl,rfl,rfl,trivial⟩ [] rfl ?_
 rintro⟨i,x⟩ ⟨hi,hx,hend⟩
 have hi:i≤M+1:=hi
 have hx:Ce x (F6 (lbs br a) (lbs br b) i).1:=hx
 have hlen:=Me (lbs br a) (lbs br b) i
 obtain⟨hob,hc1⟩:=Sl hla hlb i
 have hval:=Mh a b i
 obtain⟨out,hout⟩: ∃out,(F6 (lbs br a) (lbs br b) i).1=out:=⟨_,rfl⟩
 obtain⟨c,hc⟩: ∃c,(F6 (lbs br a) (lbs br b) i).2=c:=⟨_,rfl⟩
 rw[hout] at hx hlen hob hval
 rw[hc] at hc1 hval
 have eout:BH x (F6 (lbs br a) (lbs br b) i).1=BH x out:=by rw[hout]
 simp only[hc,hout]
 refine A7 (A7 ?_)
 refine AK (X:=Unit) (fun _=>[(0,slv p na cap),(1,slv q nb cap2),(5,BG x i),(6, .int .i64 (c:Nat)),(7, .int .i64 (i:Nat)),(23, .bool (decide (i<na∨i<nb∨0<c)))]) (fun _=>[BH x out]) (fun _=>True) ?_ ?_
 ·refine zB (wP rfl (wP rfl (wP rfl (wP rfl ?_))))
  by_cases h1:i<na
  ·refine Ab 13 (.bool true) rfl (congrArg Value.bool (decide_eq_true (by omega))) ?_
   refine wP rfl ?_
   iterate 4 refine Ah rfl rfl ?_
   refine wP rfl (wP rfl ?_)
   iterate 2 refine Ah rfl rfl ?_
   refine wP rfl (Aa ?_)
   exact At () trivial ⟨rfl,rfl,rfl,rfl,rfl,by rw[decide_eq_true (Or.inl h1)];rfl,trivial⟩ [] rfl
  refine Ab 13 (.bool false) rfl (congrArg Value.bool (decide_eq_false (by omega))) ?_
  iterate 5 refine wP rfl ?_
  by_cases h2:i<nb
  ·refine Ab 18 (.bool true) rfl (congrArg Value.bool (decide_eq_true (by omega))) ?_
   refine wP rfl (wP rfl ?_)
   iterate 2 refine Ah rfl rfl ?_
   refine wP rfl (Aa ?_)
   exact At () trivial ⟨rfl,rfl,rfl,rfl,rfl,by rw[decide_eq_true (Or.inr (Or.inl h2))];rfl,trivial⟩ [] rfl
  refine Ab 18 (.bool false) rfl (congrArg Value.bool (decide_eq_false (by omega))) ?_
  refine wP rfl (wP rfl (wP rfl (wP rfl ?_)))
  refine Ab 22 (.bool (decide (i<na∨i<nb∨0<c))) rfl (congrArg Value.bool (decide_eq_decide.2 (by omega))) ?_
  refine wP rfl (Aa ?_)
  exact At () trivial ⟨rfl,rfl,rfl,rfl,rfl,rfl,trivial⟩ [] rfl
 intro _ _
 refine Ak rfl (fun hcd=> ?_) (fun hcd=> ?_)
 ·have hcd:i<na∨i<nb∨0<c:=of_decide_eq_true hcd
  have hiM:i≤M:=by
   rcases Nat.lt_or_ge M i with h|h
   ·have h1:i=M+1:=by omega
    have h2:=hend h1
    rw[←h1,hc] at h2
    omega
   ·exact h
  obtain⟨u,hu⟩: ∃u,lim (lbs br a) i=u:=⟨_,rfl⟩
  obtain⟨v,hv⟩: ∃v,lim (lbs br b) i=v:=⟨_,rfl⟩
  have hub:u<1000000:=by rw[←hu];exact Bb br2 hla i
  have hvb:v<1000000:=by rw[←hv];exact Bb br2 hlb i
  have e1:(F6 (lbs br a) (lbs br b) (i+1)).1=out++[(u+v+c)%br]:=by show _++[_]=_;rw[hout,hu,hv,hc]
  have e2:(F6 (lbs br a) (lbs br b) (i+1)).2=(u+v+c)/br:=by show _/_=_;rw[hu,hv,hc]
  refine zI (zE (zA (zH (zA (zB (wP rfl (wP rfl ?_)))))))
  refine Ac rfl rfl rfl rfl rfl rfl (by kernel_rfl) (fun W' hp=>CK W' p cap na (lbs br a) i u (hA.hp hp) hna' (by omega) hu) ?_
  refine wP rfl (wP rfl ?_)
  refine Ac rfl rfl rfl rfl rfl rfl (by kernel_rfl) (fun W' hp=>CK W' q cap2 nb (lbs br b) i v (hB.hp hp) hnb' (by omega) hv) ?_
  refine wP rfl (wP rfl (wP rfl ?_))
  refine Ab 34 (.int .i64 ((u+v+c:Nat):Int)) rfl (congrArg (Value.int .i64) (by show w64 (w64 ((u:Int)+v)+c)=_;rw[AQ (by omega),AQ (by omega)])) ?_
  refine wP rfl (Aa (zE (zA (zB (wP rfl (wP rfl ?_))))))
  refine F4 rfl rfl rfl rfl rfl (by decide) ?_
  refine A0 Tryz.hZ tH rfl rfl rfl rfl rfl rfl rfl rfl rfl rfl rfl fun bN=> ?_
  refine AP (V:=nvV x) (len:=i) (xs:=nI out) 0 1 Tryz.vec58 (i+1) (nI (out++[(u+v+c)%br])) rfl rfl rfl rfl rfl rfl rfl rfl rfl rfl rfl (by rw[←hlen];exact hx) rfl rfl rfl (by rw[Ic];rfl) (by simp only[maxLen];omega) (by omega) rfl ?_
  intro g1 c1 j1 hV1
  refine wP rfl (Aa (zE (zB (wP rfl ?_))))
  refine EK rfl rfl rfl rfl rfl (by decide) ?_
  refine Ab 41 (.int .i64 (((u+v+c)/br:Nat):Int)) rfl (congrArg (Value.int .i64) (BP (show(u+v+c)/1000000<9223372036854775808 by omega))) ?_
  refine wP rfl (Aa (zN (zE (zB (wP rfl (wP rfl ?_))))))
  refine Ab 25 (.int .i64 ((i+1:Nat):Int)) rfl (congrArg (Value.int .i64) (A5 (by omega))) ?_
  refine wP rfl (Aa ?_)
  refine As (i+1,g1,c1,j1) ⟨by show i+1≤M+1;omega, ?_,fun h=> ?_⟩ (by show M+1-(i+1)<M+1-i;omega) ⟨rfl,rfl,rfl,by rw[e2];rfl,rfl,trivial⟩ _ (by show _=[BH _ (F6 _ _ (i+1)).1]++_;rw[e1];rfl)
  ·show Ce _ (F6 (lbs br a) (lbs br b) (i+1)).1
   rw[e1]
   show Vec.OK _ 1 (out++[_]).length _
   rw[List.length_append,hlen]
   exact hV1
  ·have h:i+1=M+1:=h
   have h9:=Mh a b (M+1)
   have hp1:br^(M+1)=br^M*br:=Nat.pow_succ ..
   have hp2:br^M*2≤br^M*br:=Nat.mul_le_mul_left _ br2
   rw[Nat.mod_eq_of_lt (by omega),Nat.mod_eq_of_lt (by omega)] at h9
   rcases Nat.eq_zero_or_pos (F6 (lbs br a) (lbs br b) (M+1)).2 with h0|h0
   ·exact h0
   ·have:=Nat.mul_le_mul_left (br^(M+1)) h0
    omega
 ·have hcd: ¬(i<na∨i<nb∨0<c):=of_decide_eq_false hcd
  have ev:lv br out=a+b:=by
   have hc0:c=0:=by omega
   rw[hc0,Nat.mul_zero,Nat.add_zero] at hval
   have h3:br^M≤br^i:=Nat.pow_le_pow_right (by decide) (by omega)
   rw[Nat.mod_eq_of_lt (by omega),Nat.mod_eq_of_lt (by omega)] at hval
   exact hval
  obtain⟨j2,hj1,hj2⟩:=D3 hx hob
  rw[ev] at hj1 hj2
  refine zJ (zK (zK (zL (zE (zA (zB (wP rfl ?_)))))))
  refine Ab 42 (slv (some ⟨x.1,0,none⟩) out.length x.2.1) rfl (by rw[hlen]) ?_
  refine Ac rfl rfl rfl rfl rfl rfl (by kernel_rfl) (fun W' hp=>C7 W' (some ⟨x.1,0,none⟩) x.2.1 out (A4.of_bx hp 0 rfl) hob (by have:=(hx.cap (by simp)).1;exact this) (by omega)) ?_
  refine wP rfl (Aa (zE (zO ?_)))
  exact Af tH rfl (.tmp rfl) ((x.1,x.2.1,j2):NV) (by rw[ev]) hj1 fun W hp=>Ae.of_hp1 hp 0 (by show some (⟨x.1,3,nI out++x.2.2,true,none⟩:Bx)=some ⟨x.1,3,nI (lbs br (a+b))++j2,true,none⟩;rw[hj2])
-- BOXES 4
-- CODE2
def Hs (x y c:Nat):Nat×Nat:=if y+c≤x then(x-y-c,0) else(x+br-y-c,1)
theorem RB {x y c:Nat} (hx:x<br) (hy:y<br) (hc:c≤1):(Hs x y c).1<br∧(Hs x y c).2≤1∧(Hs x y c).1+y+c=x+br*(Hs x y c).2:=by
 have hx:x<1000000:=hx
 have hy:y<1000000:=hy
 unfold Hs
 split
 ·exact⟨by show x-y-c<1000000;omega,Nat.zero_le _,by show x-y-c+y+c=x+1000000*0;omega⟩
 ·exact⟨by show x+1000000-y-c<1000000;omega,Nat.le_refl _,by show x+1000000-y-c+y+c=x+1000000*1;omega⟩
def GH (a b:List Nat):Nat→List Nat×Nat
 |0=>([],0)
 |i+1=>((GH a b i).1++[(Hs (lim a i) (lim b i) (GH a b i).2).1],(Hs (lim a i) (lim b i) (GH a b i).2).2)
theorem Lk (a b:List Nat): ∀i,(GH a b i).1.length=i
 |0=>rfl
 |i+1=>by show(_++[_]).length=_;rw[List.length_append,Lk a b i];rfl
theorem N3 {a b:List Nat} (ha: ∀x∈a,x<br) (hb: ∀x∈b,x<br): ∀i,(∀x∈(GH a b i).1,x<br)∧(GH a b i).2≤1
 |0=>⟨fun x h=>(by cases h),Nat.zero_le _⟩
 |i+1=>by
  obtain⟨h1,h2⟩:=N3 ha hb i
  obtain⟨h3,h4,_⟩:=RB (Bb br2 ha i) (Bb br2 hb i) h2
  refine⟨fun x hx=> ?_,h4⟩
  rcases List.mem_append.1 hx with hx|hx
  ·exact h1 x hx
  ·obtain rfl:=List.mem_singleton.1 hx;exact h3
theorem Pq (a b:Nat): ∀i,lv br (GH (lbs br a) (lbs br b) i).1+b%br^i=a%br^i+br^i*(GH (lbs br a) (lbs br b) i).2
 |0=>by show 0+_=_+br^0*0;rw[Nat.pow_zero,Nat.mod_one,Nat.mod_one]
 |i+1=>by
  have hc:=(N3 (Bh br2 a) (Bh br2 b) i).2
  exact KU (Lk _ _ i) (Pq a b i) (by rw[←Bd br2 b i, ←Bd br2 a i];exact(RB (Bb br2 (Bh br2 a) i) (Bb br2 (Bh br2 b) i) hc).2.2)
theorem E7 (W:World) (p q:Option Addr) (cap cap2:Nat) (a b:Nat) (hba:b≤a) (hA:A4 W p (lbs br a)) (hB:A4 W q (lbs br b)) (hna:(lbs br a).length≤1000000):
  Aj Tryz.prog 213 #[slv p (lbs br a).length cap,slv q (lbs br b).length cap2] W (fun x:NV=>BG x (lbs br (a-b)).length) (fun x=>Ce x (lbs br (a-b))) (fun x=>[BH x (lbs br (a-b))]):=by
 have hla:=Bh br2 a
 have hlb:=Bh br2 b
 have hal:=AL br2 a
 obtain⟨na,hna'⟩: ∃n,(lbs br a).length=n:=⟨_,rfl⟩
 obtain⟨nb,hnb'⟩: ∃n,(lbs br b).length=n:=⟨_,rfl⟩
 rw[hna'] at hna hal
 refine Ad (args:=[slv p (lbs br a).length cap,slv q (lbs br b).length cap2]) Tryz.func213 rfl rfl rfl ?_
 rw[hna',hnb']
 refine zA (zB (wP rfl (Aa (zE (zA (zB ?_))))))
 refine F1 tH rfl rfl rfl rfl rfl ?_
 intro g
 refine wP rfl (Aa (zE (zA (zB (wP rfl (Aa (zE (zA (zA (zB (wP rfl (Aa (zE ?_)))))))))))))
 refine zH ?_
 refine Av (X:=Nat×NV) (fun x=>[(0,slv p na cap),(1,slv q nb cap2),(5,BG x.2 x.1),(6, .int .i64 ((GH (lbs br a) (lbs br b) x.1).2:Nat)),(7, .int .i64 (x.1:Nat))]) (fun x=>[BH x.2 (GH (lbs br a) (lbs br b) x.1).1])
  (fun x=>x.1≤na∧Ce x.2 (GH (lbs br a) (lbs br b) x.1).1) (fun x=>na-x.1) (0,g,0,[]) ⟨Nat.zero_le _,⟨rfl,(fun h=>by cases h),fun _=>⟨Nat.le_refl _,Nat.zero_le _,rfl⟩⟩⟩ ⟨rfl,rfl,rfl,rfl,rfl,trivial⟩ [] rfl ?_
 rintro⟨i,x⟩ ⟨hi,hx⟩
 have hi:i≤na:=hi
 have hx:Ce x (GH (lbs br a) (lbs br b) i).1:=hx
 have hlen:=Lk (lbs br a) (lbs br b) i
 obtain⟨hob,hc1⟩:=N3 hla hlb i
 have hval:=Pq a b i
 obtain⟨out,hout⟩: ∃out,(GH (lbs br a) (lbs br b) i).1=out:=⟨_,rfl⟩
 obtain⟨c,hc⟩: ∃c,(GH (lbs br a) (lbs br b) i).2=c:=⟨_,rfl⟩
 rw[hout] at hx hlen hob hval
 rw[hc] at hc1 hval
 simp only[hc,hout]
 refine zA (zA (zB (wP rfl (wP rfl (wP rfl (wP rfl ?_))))))
 by_cases h1:i<na
 ·refine Ab 13 (.bool true) rfl (congrArg Value.bool (decide_eq_true (by omega))) ?_
  refine Aa (zE (zR rfl (zI (zE (zA (zH (zA ?_)))))))
  refine zT Tryz.mixed (by kernel_rfl) ?_
  obtain⟨u,hu⟩: ∃u,lim (lbs br a) i=u:=⟨_,rfl⟩
  obtain⟨v,hv⟩: ∃v,lim (lbs br b) i=v:=⟨_,rfl⟩
  have hub:u<1000000:=by rw[←hu];exact Bb br2 hla i
  have hvb:v<1000000:=by rw[←hv];exact Bb br2 hlb i
  obtain⟨b1,o1,rfl,r1⟩:=hA.row (show i<(lbs br a).length by omega)
  have r1:=r1 i (by omega)
  rw[hu] at r1
  have e1:(GH (lbs br a) (lbs br b) (i+1)).1=out++[(Hs u v c).1]:=by show _++[_]=_;rw[hout,hu,hv,hc]
  have e2:(GH (lbs br a) (lbs br b) (i+1)).2=(Hs u v c).2:=by show(Hs _ _ _).2=_;rw[hu,hv,hc]
  refine qP rfl (qP rfl ?_)
  refine qJ ?_
  refine Ap rfl rfl rfl rfl (fun W hp=>Ag.load 0 tH rfl ((fun W hp=>r1.hp hp) W hp) rfl) ?_
  refine qP rfl (qP rfl ?_)
  refine A9 rfl rfl rfl rfl rfl rfl (by kernel_rfl) (fun W' hp=>CK W' q cap2 nb (lbs br b) i v (hB.hp hp) hnb' (by omega) hv) ?_
  refine qP rfl (qP rfl (qP rfl ?_))
  refine A6 25 (.int .i64 ((u:Int)-v-c)) rfl (congrArg (Value.int .i64) (by show w64 (w64 ((u:Int)-v)-c)=_;rw[An (x:=(u:Int)-v) (by omega) (by omega),An (by omega) (by omega)])) ?_
  refine qP rfl (AE (Aa (zE (zA (zB (wP rfl (Aa (AC (A7 (A7 (zB (wP rfl (wP rfl ?_)))))))))))))
  refine Ab 27 (.bool (decide ((u:Int)-v-c<0))) rfl rfl ?_
  refine Aa (AC ?_)
  try refine A7 ?_
  refine AK (X:=Unit) (fun _=>[(0,slv (some ⟨b1,o1,none⟩) na cap),(1,slv q nb cap2),(5,BG x i),(6, .int .i64 ((Hs u v c).2:Nat)),(7, .int .i64 (i:Nat)),(8, .int .i64 ((Hs u v c).1:Nat))]) (fun _=>[BH x out]) (fun _=>True) ?_ ?_
  ·refine Ak rfl (fun hn=> ?_) (fun hn=> ?_)
   ·have hn:(u:Int)-v-c<0:=of_decide_eq_true hn
    have em:Hs u v c=(u+br-v-c,1):=by unfold Hs;rw[if_neg (by omega)]
    refine zA (zB (wP rfl (wP rfl ?_)))
    refine Ab 29 (.int .i64 ((u+br-v-c:Nat):Int)) rfl (congrArg (Value.int .i64) (by show w64 (((u:Int)-v-c)+((1000000:Nat):Int))=_;rw[An (by omega) (by omega)];show _=((u+1000000-v-c:Nat):Int);omega)) ?_
    refine wP rfl (Aa (zE (zB (wP rfl (Aa ?_)))))
    exact At () trivial ⟨rfl,rfl,rfl,by rw[em];rfl,rfl,by rw[em];rfl,trivial⟩ [] rfl
   ·have hn: ¬(u:Int)-v-c<0:=of_decide_eq_false hn
    have em:Hs u v c=(u-v-c,0):=by unfold Hs;rw[if_pos (by omega)]
    refine zI ?_
    exact At () trivial ⟨rfl,rfl,rfl,by rw[em];rfl,rfl,by rw[em];exact congrArg (fun z=>some (Value.int .i64 z)) (by show(u:Int)-v-c=((u-v-c:Nat):Int);omega),trivial⟩ [] rfl
  intro _ _
  refine zB (wP rfl (wP rfl ?_))
  refine A0 Tryz.hZ tH rfl rfl rfl rfl rfl rfl rfl rfl rfl rfl rfl fun bN=> ?_
  refine AP (V:=nvV x) (len:=i) (xs:=nI out) 0 1 Tryz.vec58 (i+1) (nI (out++[(Hs u v c).1])) rfl rfl rfl rfl rfl rfl rfl rfl rfl rfl rfl (by rw[←hlen];exact hx) rfl rfl rfl (by rw[Ic];rfl) (by simp only[maxLen];omega) (by omega) rfl ?_
  intro g1 c1 j1 hV1
  refine wP rfl (Aa (zN (zE (zB (wP rfl (wP rfl ?_))))))
  refine Ab 15 (.int .i64 ((i+1:Nat):Int)) rfl (congrArg (Value.int .i64) (A5 (by omega))) ?_
  refine wP rfl (Aa ?_)
  refine As (i+1,g1,c1,j1) ⟨h1, ?_⟩ (by show na-(i+1)<na-i;omega) ⟨rfl,rfl,rfl,by rw[e2];rfl,rfl,trivial⟩ _ (by show _=[BH _ (GH _ _ (i+1)).1]++_;rw[e1];rfl)
  show Ce _ (GH (lbs br a) (lbs br b) (i+1)).1
  rw[e1]
  show Vec.OK _ 1 (out++[_]).length _
  rw[List.length_append,hlen]
  exact hV1
 ·have e:i=na:=by omega
  subst e
  have ev:lv br out=a-b:=MH br2 hlen hob hval hal hba
  obtain⟨j2,hj1,hj2⟩:=D3 hx hob
  rw[ev] at hj1 hj2
  refine Ab 13 (.bool false) rfl (congrArg Value.bool (decide_eq_false (by omega))) ?_
  refine Aa (zE (zS rfl (zJ (zK (zK (zL (zE (zA (zB (wP rfl ?_))))))))))
  refine Ab 34 (slv (some ⟨x.1,0,none⟩) out.length x.2.1) rfl (by rw[hlen]) ?_
  refine Ac rfl rfl rfl rfl rfl rfl (by kernel_rfl) (fun W' hp=>C7 W' (some ⟨x.1,0,none⟩) x.2.1 out (A4.of_bx hp 0 rfl) hob (by have:=(hx.cap (by simp)).1;exact this) (by omega)) ?_
  refine wP rfl (Aa (zE (zO ?_)))
  exact Af tH rfl (.tmp rfl) ((x.1,x.2.1,j2):NV) (by rw[ev]) hj1 fun W hp=>Ae.of_hp1 hp 0 (by show some (⟨x.1,3,nI out++x.2.2,true,none⟩:Bx)=some ⟨x.1,3,nI (lbs br (a-b))++j2,true,none⟩;rw[hj2])
-- BOXES 4
-- CODE2
theorem Tu {x y:Nat} (hx:x<br) (hy:y<br):x*y≤999998000001:=(Nat.mul_le_mul (Nat.le_of_lt_succ hx) (Nat.le_of_lt_succ hy):x*y≤999999*999999)
theorem HL (W:World) (p q:Option Addr) (cap cap2:Nat) (a:Nat) (lb:List Nat) (hlb: ∀x∈lb,x<br) (hA:A4 W p (lbs br a)) (hB:A4 W q lb) (hna:(lbs br a).length≤1000000) (hnb:lb.length≤1000000):
  Aj Tryz.prog 266 #[slv p (lbs br a).length cap,slv q lb.length cap2] W (fun x:NV=>BG x (lbs br (a*lv br lb)).length) (fun x=>Ce x (lbs br (a*lv br lb))) (fun x=>[BH x (lbs br (a*lv br lb))]):=by
 have hla:=Bh br2 a
 have hal:=AL br2 a
 have hbl:=EG br2 hlb
 obtain⟨b,hbv⟩: ∃b,lv br lb=b:=⟨_,rfl⟩
 rw[hbv] at hbl⊢
 obtain⟨na,hna'⟩: ∃n,(lbs br a).length=n:=⟨_,rfl⟩
 obtain⟨nb,hnb'⟩: ∃n,lb.length=n:=⟨_,rfl⟩
 obtain⟨M,hM⟩: ∃M,M=na+nb+1:=⟨_,rfl⟩
 rw[hna'] at hna hal
 rw[hnb'] at hnb hbl
 refine Ad (args:=[slv p (lbs br a).length cap,slv q lb.length cap2]) Tryz.func266 rfl rfl rfl ?_
 rw[hna',hnb']
 refine zA (zB (wP rfl (Aa (zE (zA (zB ?_))))))
 iterate 6 refine wP rfl ?_
 refine Ab 15 (.int .i64 (M:Nat)) rfl (congrArg (Value.int .i64) (by show w64 (w64 ((na:Int)+nb)+1)=_;rw[AQ (by omega),A5 (by omega),hM])) ?_
 refine Cm Tryz.vec58 M rfl rfl rfl rfl rfl rfl rfl (by simp only[maxLen];omega) (by omega) ?_
 intro g
 have ez:By (Value.cells (.int .i64 0)).toList M=nI (List.replicate M 0)++[]:=by rw[List.append_nil];exact EL M
 rw[ez]
 refine wP rfl (Aa (zE (zA (zA (zB (wP rfl (Aa (zE (zH ?_)))))))))
 refine Av (X:=Nat×List Nat) (fun x=>[(0,slv p na cap),(1,slv q nb cap2),(5,slv (some ⟨g,0,none⟩) M M),(6, .int .i64 (x.1:Nat))]) (fun x=>[⟨g,3,nI x.2++[],true,none⟩])
  (fun x=>x.1≤na∧x.2.length=M∧(∀y∈x.2,y<br)∧lv br x.2=a%br^x.1*b) (fun x=>na-x.1) (0,List.replicate M 0) ⟨Nat.zero_le _,List.length_replicate,fun y hy=>by rw[List.eq_of_mem_replicate hy];decide,by rw[Er];show 0=a%br^0*b;rw[Nat.pow_zero,Nat.mod_one,Nat.zero_mul]⟩ ⟨rfl,rfl,rfl,rfl,trivial⟩ [] rfl ?_
 rintro⟨i,out⟩ ⟨hi,hlen,hob,hov⟩
 have hi:i≤na:=hi
 have hlen:out.length=M:=hlen
 refine zA (zA (zB (wP rfl (wP rfl (wP rfl (wP rfl ?_))))))
 by_cases hi':i<na
 ·refine Ab 20 (.bool true) rfl (congrArg Value.bool (decide_eq_true (by omega))) ?_
  refine Aa (zE (zR rfl (zI (zE (zA (zH (zA (zB ?_))))))))
  obtain⟨pb,po,rfl,hrow⟩:=hA.row (show i<(lbs br a).length by omega)
  obtain⟨x,hx⟩: ∃x,lim (lbs br a) i=x:=⟨_,rfl⟩
  have hrx: ∀W' bx,Hp W bx W'→Ag W' pb (po+i*1) [.int .i64 (x:Nat)]:=fun W' bx hp=>by
   have:=(hrow i (by omega)).hp hp
   rwa [hx] at this
  have hxb:x<br:=by rw[←hx];exact Bb br2 hla i
  have hxe:x=a/br^i%br:=by rw[←hx];exact Bd br2 a i
  refine wP rfl (Aa (zE (zA (zB (wP rfl (Aa (zE (zH ?_))))))))
  refine Av (X:=Nat×List Nat×Nat) (fun x'=>[(0,slv (some ⟨pb,po,none⟩) na cap),(1,slv q nb cap2),(5,slv (some ⟨g,0,none⟩) M M),(6, .int .i64 (i:Nat)),(7, .int .i64 (x'.2.2:Nat)),(8, .int .i64 (x'.1:Nat))]) (fun x'=>[⟨g,3,nI x'.2.1++[],true,none⟩])
   (fun x'=>x'.1≤nb+1∧x'.2.1.length=M∧(∀y∈x'.2.1,y<br)∧x'.2.2<br∧lv br x'.2.1+br^(i+x'.1)*x'.2.2=lv br out+br^i*(x*(b%br^x'.1))) (fun x'=>nb+1-x'.1) (0,out,0) ⟨Nat.zero_le _,hlen,hob,show 0<br by decide,by show lv br out+br^(i+0)*0=lv br out+br^i*(x*(b%br^0));rw[Nat.pow_zero,Nat.mod_one];simp⟩ ⟨rfl,rfl,rfl,rfl,rfl,rfl,trivial⟩ [] rfl ?_
  rintro⟨k,u,c⟩ ⟨hk,hul,hub,hcb,huv⟩
  have hk:k≤nb+1:=hk
  have hul:u.length=M:=hul
  have hcb:c<1000000:=hcb
  have huv:lv br u+br^(i+k)*c=lv br out+br^i*(x*(b%br^k)):=huv
  have hlast:k=nb+1→c=0:=fun e=>by
   subst e
   exact(Nf br2 huv hbl hxb (by rw[hov];exact JL br2 hbl)).2
  refine A7 (A7 ?_)
  refine AK (X:=Unit) (fun _=>[(0,slv (some ⟨pb,po,none⟩) na cap),(1,slv q nb cap2),(5,slv (some ⟨g,0,none⟩) M M),(6, .int .i64 (i:Nat)),(7, .int .i64 (c:Nat)),(8, .int .i64 (k:Nat)),(30, .bool (decide (k<nb∨0<c)))]) (fun _=>[⟨g,3,nI u++[],true,none⟩]) (fun _=>True) ?_ ?_
  ·refine zB (wP rfl (wP rfl (wP rfl (wP rfl ?_))))
   by_cases h1:k<nb
   ·refine Ab 26 (.bool true) rfl (congrArg Value.bool (decide_eq_true (by omega))) ?_
    refine wP rfl ?_
    iterate 2 refine Ah rfl rfl ?_
    refine wP rfl (Aa ?_)
    exact At () trivial ⟨rfl,rfl,rfl,rfl,rfl,rfl,by rw[decide_eq_true (Or.inl h1)];rfl,trivial⟩ [] rfl
   ·refine Ab 26 (.bool false) rfl (congrArg Value.bool (decide_eq_false (by omega))) ?_
    refine wP rfl (wP rfl (wP rfl ?_))
    refine Ab 29 (.bool (decide (k<nb∨0<c))) rfl (congrArg Value.bool (decide_eq_decide.2 (by show((c:Nat):Int)>0↔(k<nb∨0<c);omega))) ?_
    refine wP rfl (Aa ?_)
    exact At () trivial ⟨rfl,rfl,rfl,rfl,rfl,rfl,rfl,trivial⟩ [] rfl
  intro _ _
  refine Ak rfl (fun hc=> ?_) (fun hc=> ?_)
  ·have hc:k<nb∨0<c:=of_decide_eq_true hc
   have hk':k<nb+1:=by
    rcases Nat.lt_or_ge k (nb+1) with h|h
    ·exact h
    ·have:=hlast (by omega);omega
   have hik:i+k<u.length:=by rw[hul];omega
   obtain⟨o,ho⟩: ∃o,lim u (i+k)=o:=⟨_,rfl⟩
   obtain⟨y,hy⟩: ∃y,lim lb k=y:=⟨_,rfl⟩
   have hob':o<br:=by rw[←ho];exact Bb br2 hub _
   have hyb:y<br:=by rw[←hy];exact Bb br2 hlb _
   have hou:u[i+k]? =some o:=by rw[De hik,ho]
   obtain⟨n,hn⟩: ∃n,n=o+x*y+c:=⟨_,rfl⟩
   have hnb2:=Kk hxb hyb hob' hcb hn
   have hn63:n<1000000000000:=hnb2.2
   have hxy:=Tu hxb hyb
   have hyy:=hy
   rw[Ci br2 k hlb,hbv] at hyy
   have hstep:=Ib (n:=n) hou huv (by rw[hn,hyy])
   have hrx':=hrx
   refine zI (zE (zA (zH (zA ?_))))
   refine zT Tryz.mixed (by kernel_rfl) ?_
   refine qP rfl (qP rfl (qP rfl (qP rfl ?_)))
   refine A6 36 (.int .i64 ((i+k:Nat):Int)) rfl (congrArg (Value.int .i64) (AQ (by omega))) ?_
   refine qJ ?_
   refine Ap rfl rfl rfl rfl (fun W hp=>Ag.load 0 tH rfl ((fun W' hp=>Ag.of_intsX hp 0 rfl hik ho) W hp) rfl) ?_
   refine qP rfl (qP rfl ?_)
   refine qJ ?_
   refine Ap rfl rfl rfl rfl (fun W hp=>Ag.load 0 tH rfl ((fun W' hp=>hrx W' _ hp) W hp) rfl) ?_
   refine qP rfl (qP rfl ?_)
   refine A9 rfl rfl rfl rfl rfl rfl (by kernel_rfl) (fun W' hp=>CK W' q cap2 nb lb k y (hB.hp hp) hnb' (by omega) hy) ?_
   refine qP rfl (qP rfl (qP rfl (qP rfl ?_)))
   refine A6 49 (.int .i64 (n:Nat)) rfl (congrArg (Value.int .i64) (by show w64 (w64 ((o:Int)+w64 ((x:Int)*y))+c)=_;rw[Cc (by omega),AQ (by omega),AQ (by omega),hn])) ?_
   refine qP rfl (AE (Aa (zE (zA (zB (wP rfl (wP rfl (wP rfl (wP rfl ?_)))))))))
   refine Ab 53 (.int .i64 ((i+k:Nat):Int)) rfl (congrArg (Value.int .i64) (AQ (by omega))) ?_
   refine wP rfl ?_
   refine F4 rfl rfl rfl rfl rfl (by decide) ?_
   refine wJ ?_
   refine Ay 0 (nI (u.set (i+k) (n%br))++[]) tH rfl rfl rfl rfl rfl rfl rfl rfl rfl rfl (by show 0+(i+k)*1+1≤(nI u++[]).length;rw[List.append_nil,BD];omega) (Cp hik (n%br)) ?_
   refine Aa (zE (zB (wP rfl ?_)))
   refine EK rfl rfl rfl rfl rfl (by decide) ?_
   refine Ab 58 (.int .i64 ((n/br:Nat):Int)) rfl (congrArg (Value.int .i64) (BP (show n/1000000<9223372036854775808 by omega))) ?_
   refine wP rfl (Aa (zN (zE (zB (wP rfl (wP rfl ?_))))))
   refine Ab 32 (.int .i64 ((k+1:Nat):Int)) rfl (congrArg (Value.int .i64) (A5 (by omega))) ?_
   refine wP rfl (Aa ?_)
   exact As (k+1,u.set (i+k) (n%br),n/br) ⟨hk',by rw[List.length_set];exact hul,CA hub (Nat.mod_lt _ (by decide)),hnb2.1,hstep⟩ (by show nb+1-(k+1)<nb+1-k;omega) ⟨rfl,rfl,rfl,rfl,rfl,rfl,trivial⟩ [] rfl
  ·have hc: ¬(k<nb∨0<c):=of_decide_eq_false hc
   have hc0:c=0:=by omega
   have h1:lv br u=lv br out+br^i*(x*b):=by
    rw[hc0,Nat.mul_zero,Nat.add_zero] at huv
    have h3:br^nb≤br^k:=Nat.pow_le_pow_right (by decide) (by omega)
    rw[Nat.mod_eq_of_lt (show b<br^k by omega)] at huv
    exact huv
   have h2:=KF (a:=a) (b:=b) (i:=i) hov
   rw[←hxe, ←h1] at h2
   refine zJ (zK (zK (zL (zN (zE (zB (wP rfl (wP rfl ?_))))))))
   refine Ab 22 (.int .i64 ((i+1:Nat):Int)) rfl (congrArg (Value.int .i64) (A5 (by omega))) ?_
   refine wP rfl (Aa ?_)
   exact As (i+1,u) ⟨hi',hul,hub,h2⟩ (by show na-(i+1)<na-i;omega) ⟨rfl,rfl,rfl,rfl,trivial⟩ [] rfl
 ·have hi':i=na:=by omega
  subst hi'
  rw[Nat.mod_eq_of_lt hal] at hov
  refine Ab 20 (.bool false) rfl (congrArg Value.bool (decide_eq_false (by omega))) ?_
  refine Aa (zE (zS rfl (zJ (zK (zK (zL (zE (zA (zB ?_)))))))))
  have hV0:(⟨some g,M,[]⟩:Vec).OK 1 out.length (nI out):=⟨Eo _,(fun h=>by cases h),fun _=>⟨by show _≤M;omega,by show M≤maxLen;simp only[maxLen];omega,by show(nI out).length+0=M*1;rw[BD];omega⟩⟩
  obtain⟨j',hV2,he⟩:=D3 hV0 hob
  refine wP rfl ?_
  refine Ab 59 (slv (some ⟨g,0,none⟩) out.length M) rfl (by rw[hlen]) ?_
  refine Ac rfl rfl rfl rfl rfl rfl (by kernel_rfl) (fun W hp=>C7 W _ M _ (A4.of_bx hp 0 rfl) hob (by omega) (by omega)) ?_
  refine wP rfl (Aa (zE (zO ?_)))
  rw[hov] at hV2 he
  exact Af tH rfl (.tmp rfl) ((g,M,j'):NV) (by rw[hov]) hV2 fun W hp=>Ae.of_hp1 hp 0 (by show some (⟨g,3,nI out++[],true,none⟩:Bx)=some ⟨g,3,nI (lbs br (a*b))++j',true,none⟩;rw[he])
theorem IN (W:World) (p q:Option Addr) (cap cap2:Nat) (a b:Nat) (hA:A4 W p (lbs br a)) (hB:A4 W q (lbs br b)) (hna:(lbs br a).length≤1000000) (hnb:(lbs br b).length≤1000000):
  Aj Tryz.prog 266 #[slv p (lbs br a).length cap,slv q (lbs br b).length cap2] W (fun x:NV=>BG x (lbs br (a*b)).length) (fun x=>Ce x (lbs br (a*b))) (fun x=>[BH x (lbs br (a*b))]):=by
 have h:=HL W p q cap cap2 a (lbs br b) (Bh br2 b) hA hB hna hnb
 rwa [Jw br2] at h
-- BOXES 2
-- CODE2
def HV (z:Int):List UInt8:=if z<0 then[45] else[]
theorem Dh (z:Int):itoa z=HV z++decDigits z.natAbs:=by
 unfold itoa HV
 split
 ·rfl
 ·rw[show z.toNat=z.natAbs by omega];rfl
theorem OE (z:Int):(HV z).length≤1:=by unfold HV;split<;>decide
theorem LG (z:Int): ∃c,(itoa z)[0]? =some c∧decide (c=45)=decide (z<0):=by
 have h:=JN z
 rw[Bt] at h
 cases e:itoa z with
 |nil=>
  rw[Dh] at e
  exact absurd (List.append_eq_nil_iff.1 e).2 (G8 _)
 |cons c t=>
  rw[e] at h
  exact⟨c,rfl,by rw[←h];exact decide_eq_decide.2 (by simp)⟩
theorem U7 {n:Nat} (h:(decDigits n)[0]? =some 48):n=0:=by
 rcases Nat.eq_zero_or_pos n with h0|h0
 ·exact h0
 ·obtain⟨b,r,h1,h2⟩:=K7 n (by omega)
  rw[h1] at h
  have h:b=48:=by simpa using h
  rw[h] at h2;exact absurd rfl h2
theorem G3 (z:Int) (hl:(decDigits z.natAbs).length≤300):AX Tryz.prog 209 [str (itoa z)] (.int .i64 0):=by
 intro W
 obtain⟨s,hs⟩: ∃s,s=itoa z:=⟨_,rfl⟩
 obtain⟨dd,hdd⟩: ∃dd,dd=decDigits z.natAbs:=⟨_,rfl⟩
 obtain⟨f,hf⟩: ∃f,f=(HV z).length:=⟨_,rfl⟩
 have hss:s=HV z++dd:=by rw[hs,hdd];exact Dh z
 have hf1:f≤1:=hf▸OE z
 have hsl:s.length=f+dd.length:=by rw[hss,List.length_append,hf]
 have hd0:0<dd.length:=by rw[hdd];exact List.length_pos_iff.2 (G8 _)
 have hget: ∀i,f≤i→s[i]? =dd[i-f]? :=fun i hi=>by rw[hss,List.getElem?_append_right (by omega),hf]
 obtain⟨c0,hc0,hc45⟩:=LG z
 rw[←hs] at hc0⊢
 rw[←hdd] at hl
 have hdg: ∀b∈dd,DE b=true:=by rw[hdd];exact(Ho _).all
 refine Ad Tryz.func209 rfl rfl rfl ?_
 refine zA (zB (wP rfl (Aa (zE (zA (zB (wP rfl (Aa (zE (zA (zA (zB (wP rfl (wP rfl ?_))))))))))))))
 refine Ab 6 (.int .i64 (s.length:Nat)) rfl (congrArg (fun n:Nat=>Value.int .i64 (n:Int)) (AF s)) ?_
 refine wP rfl ?_
 refine Ab 7 (.bool true) rfl (congrArg Value.bool (decide_eq_true (by omega))) ?_
 refine wP rfl (wP rfl ?_)
 refine Br 0 tH rfl rfl rfl rfl rfl rfl rfl rfl hc0 ?_
 refine wP rfl ?_
 refine Ab 11 (.bool (decide (z<0))) rfl (congrArg Value.bool ((FY c0 45).trans hc45)) ?_
 refine wP rfl (Aa (AC ?_))
 try refine A7 ?_
 refine AK (X:=Unit) (fun _=>[(0,str s),(3, .int .i64 (f:Nat))]) (fun _=>[]) (fun _=>True) ?_ ?_
 ·refine Ak rfl (fun h=> ?_) (fun h=> ?_)
  ·have h:z<0:=of_decide_eq_true h
   refine zB (wP rfl (Aa ?_))
   exact At () trivial ⟨rfl,by rw[hf];unfold HV;rw[if_pos h];rfl,trivial⟩ [] rfl
  ·have h: ¬z<0:=of_decide_eq_false h
   refine zI ?_
   exact At () trivial ⟨rfl,by rw[hf];unfold HV;rw[if_neg h];rfl,trivial⟩ [] rfl
 intro _ _
 refine A7 (A7 ?_)
 refine AK (X:=Unit) (fun _=>[(0,str s),(3, .int .i64 (f:Nat)),(27, .bool false)]) (fun _=>[]) (fun _=>True) ?_ ?_
 ·refine zB (wP rfl (wP rfl (wP rfl ?_)))
  refine Ab 15 (.int .i64 (s.length:Nat)) rfl (congrArg (fun n:Nat=>Value.int .i64 (n:Int)) (AF s)) ?_
  refine wP rfl ?_
  refine Ab 16 (.bool false) rfl (congrArg Value.bool (by rw[beq_eq_false_iff_ne];omega)) ?_
  obtain⟨b,hb⟩: ∃b,dd[0]? =some b:=⟨dd[0],List.getElem?_eq_getElem hd0⟩
  have hsb:s[f]? =some b:=by rw[hget f (Nat.le_refl _),Nat.sub_self];exact hb
  refine wP rfl (wP rfl (wP rfl ?_))
  refine Br f tH rfl rfl rfl rfl rfl rfl rfl rfl hsb ?_
  refine wP rfl ?_
  by_cases h48:b=48
  ·rw[h48,hdd] at hb
   have h0:=U7 hb
   have hz:z=0:=by omega
   have hs1:s.length=1:=by rw[hs,hz,CT];rfl
   refine Ab 21 (.bool true) rfl (congrArg Value.bool ((FY b 48).trans (decide_eq_true h48))) ?_
   refine wP rfl (wP rfl (wP rfl ?_))
   refine Ab 24 (.int .i64 (s.length:Nat)) rfl (congrArg (fun n:Nat=>Value.int .i64 (n:Int)) (AF s)) ?_
   refine wP rfl ?_
   refine Ab 25 (.bool false) rfl (congrArg Value.bool (decide_eq_false (by omega))) ?_
   refine wP rfl (wP rfl (Aa ?_))
   exact At () trivial ⟨rfl,rfl,rfl,trivial⟩ [] rfl
  ·refine Ab 21 (.bool false) rfl (congrArg Value.bool ((FY b 48).trans (decide_eq_false h48))) ?_
   refine wP rfl ?_
   iterate 3 refine Ah rfl rfl ?_
   refine wP rfl (wP rfl (Aa ?_))
   exact At () trivial ⟨rfl,rfl,rfl,trivial⟩ [] rfl
 intro _ _
 refine zS rfl (zI (zE (zA (zA (zB (wP rfl (wP rfl (Aa (zE (zH ?_))))))))))
 refine Av (X:=Nat) (fun i=>[(0,str s),(3, .int .i64 (f:Nat)),(4, .int .i64 (i:Nat))]) (fun _=>[]) (fun i=>i≤s.length∧f≤i) (fun i=>s.length-i) f ⟨by omega,Nat.le_refl _⟩ ⟨rfl,rfl,rfl,trivial⟩ [] rfl ?_
 rintro i ⟨hi,hfi⟩
 have hi:i≤s.length:=hi
 have hfi:f≤i:=hfi
 refine zA (zA (zB (wP rfl (wP rfl (wP rfl ?_)))))
 refine Ab 31 (.int .i64 (s.length:Nat)) rfl (congrArg (fun n:Nat=>Value.int .i64 (n:Int)) (AF s)) ?_
 refine wP rfl ?_
 by_cases hlt:i<s.length
 ·refine Ab 32 (.bool true) rfl (congrArg Value.bool (decide_eq_true (by omega))) ?_
  refine Aa (zE (zR rfl (zI (zE (zA (zH (zA (zB ?_))))))))
  obtain⟨b,hb⟩: ∃b,dd[i-f]? =some b:=⟨dd[i-f]'(by omega),List.getElem?_eq_getElem (by omega)⟩
  have hsb:s[i]? =some b:=by rw[hget i hfi];exact hb
  have hbd:=Cy.1 (hdg b (List.mem_of_getElem? hb))
  refine wP rfl (wP rfl ?_)
  refine Br i tH rfl rfl rfl rfl rfl rfl rfl rfl hsb ?_
  refine wP rfl ?_
  refine Ab 38 (.bool false) rfl (congrArg Value.bool ((U6 b).trans (decide_eq_false (by omega)))) ?_
  refine wP rfl (wP rfl (wP rfl ?_))
  refine Br i tH rfl rfl rfl rfl rfl rfl rfl rfl hsb ?_
  refine wP rfl ?_
  refine Ab 43 (.bool false) rfl (congrArg Value.bool ((Ui b).trans (decide_eq_false (by omega)))) ?_
  refine wP rfl (Aa (zE (zS rfl (zI (zN (zE (zB (wP rfl (wP rfl ?_)))))))))
  refine Ab 34 (.int .i64 ((i+1:Nat):Int)) rfl (congrArg (Value.int .i64) (A5 (by omega))) ?_
  refine wP rfl (Aa ?_)
  exact As (i+1) ⟨hlt,by show f≤i+1;omega⟩ (by show s.length-(i+1)<s.length-i;omega) ⟨rfl,rfl,rfl,trivial⟩ [] rfl
 ·refine Ab 32 (.bool false) rfl (congrArg Value.bool (decide_eq_false (by omega))) ?_
  refine Aa (zE (zS rfl (zJ (zK (zK (zL (zE (zA (zA (zB (wP rfl (wP rfl ?_))))))))))))
  refine Ab 46 (.int .i64 (s.length:Nat)) rfl (congrArg (fun n:Nat=>Value.int .i64 (n:Int)) (AF s)) ?_
  refine wP rfl (wP rfl ?_)
  refine Ab 48 (.int .i64 (dd.length:Nat)) rfl (congrArg (Value.int .i64) (by show w64 ((s.length:Int)-f)=_;rw[An (by omega) (by omega)];omega)) ?_
  refine wP rfl ?_
  refine Ab 49 (.bool false) rfl (congrArg Value.bool (decide_eq_false (by omega))) ?_
  refine Aa (zE (zS rfl (zI (zE (zA (zB (wP rfl (Aa (zE (zO ?_))))))))))
  exact Af tH rfl (.tmp rfl) () rfl trivial fun W _=>Ae.nil _ _
theorem Hx (a b:Int) (ha:(decDigits a.natAbs).length≤300) (hb:(decDigits b.natAbs).length≤300):AX Tryz.prog 143 [str (itoa a),str (itoa b)] (.int .i64 0):=by
 intro W
 refine Ad Tryz.func143 rfl rfl rfl ?_
 refine zA (zB (wP rfl (Aa (zE (zA (zA (zB (wP rfl ?_))))))))
 refine Ac rfl rfl rfl rfl rfl rfl (by kernel_rfl) (fun W _=>G3 a ha W) ?_
 refine wP rfl (Aa (zE (zA (zB (wP rfl (wP rfl (Aa (zE (zS rfl (zI (zE (zA (zB ?_)))))))))))))
 refine wP rfl ?_
 refine Ac rfl rfl rfl rfl rfl rfl (by kernel_rfl) (fun W _=>G3 b hb W) ?_
 refine wP rfl (Aa (zE (zO ?_)))
 exact Af tH rfl (.tmp rfl) () rfl trivial fun W _=>Ae.nil _ _
def smI (z:Int):Bool:=decide ((itoa z).length≤17)
theorem Uo {z:Int} (h:smI z=true):z.natAbs<100000000000000000:=by
 have h:(itoa z).length≤17:=of_decide_eq_true h
 rw[Dh,List.length_append] at h
 exact Nat.lt_of_lt_of_le (Hk _) (show _≤10^17 from Nat.pow_le_pow_right (by decide) (by omega))
theorem Jb (z:Int) (hl:(itoa z).length<4611686018427387904):AX Tryz.prog 210 [str (itoa z)] (.tuple #[.int .i64 (if smI z=true then z else 0), .bool (smI z)]):=by
 intro W
 obtain⟨s,hs⟩: ∃s,s=itoa z:=⟨_,rfl⟩
 obtain⟨dd,hdd⟩: ∃dd,dd=decDigits z.natAbs:=⟨_,rfl⟩
 obtain⟨f,hf⟩: ∃f,f=(HV z).length:=⟨_,rfl⟩
 have hss:s=HV z++dd:=by rw[hs,hdd];exact Dh z
 have hf1:f≤1:=hf▸OE z
 have hsl:s.length=f+dd.length:=by rw[hss,List.length_append,hf]
 have hd0:0<dd.length:=by rw[hdd];exact List.length_pos_iff.2 (G8 _)
 have hget: ∀i,f≤i→s[i]? =dd[i-f]? :=fun i hi=>by rw[hss,List.getElem?_append_right (by omega),hf]
 have hneg: ∀i,i<f→s[i]? =some 45:=fun i hi=>by
  have h0:i=0:=by omega
  subst h0
  rw[hss]
  unfold HV at hf⊢
  split
  ·rfl
  ·rename_i h;rw[if_neg h] at hf;simp at hf;omega
 obtain⟨c0,hc0,hc45⟩:=LG z
 have hsm:smI z=decide (s.length≤17):=by rw[hs];rfl
 rw[←hs] at hc0 hl⊢
 have hdg: ∀b∈dd,DE b=true:=by rw[hdd];exact(Ho _).all
 refine Ad Tryz.func210 rfl rfl rfl ?_
 refine zA (zB (wP rfl (wP rfl (Aa (zE (zA (zA (zB (wP rfl (wP rfl ?_))))))))))
 refine Ab 7 (.int .i64 (s.length:Nat)) rfl (congrArg (fun n:Nat=>Value.int .i64 (n:Int)) (AF s)) ?_
 refine wP rfl ?_
 by_cases h17:s.length≤17
 rotate_left
 ·refine Ab 8 (.bool true) rfl (congrArg Value.bool (decide_eq_true (by show((s.length:Nat):Int)>17;omega))) ?_
  refine Aa (zE (zR rfl (zA (zB (wP rfl (wP rfl (Aa (zE (zO (zP ?_))))))))))
  exact Ar tH rfl (.tmp rfl) (.tmp rfl) () (by rw[hsm,decide_eq_false h17];rfl) trivial fun W _=>Ae.nil _ _
 have hlt: ∀i,AO (dd.take i)<100000000000000000:=fun i=>by
  have h1:=Fs (dd.take i).length (s:=dd.take i) rfl fun b hb=>hdg b (List.mem_of_mem_take hb)
  have h2:(dd.take i).length≤17:=by rw[List.length_take];omega
  exact Nat.lt_of_lt_of_le h1 (show _≤10^17 from Nat.pow_le_pow_right (by decide) h2)
 refine Ab 8 (.bool false) rfl (congrArg Value.bool (decide_eq_false (by show¬((s.length:Nat):Int)>17;omega))) ?_
 refine Aa (zE (zS rfl (zI (zE (zA (zB (wP rfl (Aa (zE (zA (zA (zB (wP rfl ?_)))))))))))))
 refine Aa (zE (zH ?_))
 refine Av (X:=Nat) (fun i=>[(0,str s),(4, .int .i64 (AO (dd.take (i-f)):Nat)),(5, .int .i64 (i:Nat))]) (fun _=>[]) (fun i=>i≤s.length) (fun i=>s.length-i) 0 (Nat.zero_le _) ⟨rfl,by show some _=some (Value.int .i64 (AO (dd.take (0-f)):Nat));rw[Nat.zero_sub,List.take_zero];rfl,rfl,trivial⟩ [] rfl ?_
 intro i hi
 have hi:i≤s.length:=hi
 refine zA (zA (zB (wP rfl (wP rfl (wP rfl ?_)))))
 refine Ab 11 (.int .i64 (s.length:Nat)) rfl (congrArg (fun n:Nat=>Value.int .i64 (n:Int)) (AF s)) ?_
 refine wP rfl ?_
 by_cases hlt':i<s.length
 ·refine Ab 12 (.bool true) rfl (congrArg Value.bool (decide_eq_true (by omega))) ?_
  refine Aa (zE (zR rfl (zI (zE ?_))))
  try refine A7 ?_
  refine AK (X:=Unit) (fun _=>[(0,str s),(4, .int .i64 (AO (dd.take (i+1-f)):Nat)),(5, .int .i64 (i:Nat))]) (fun _=>[]) (fun _=>True) ?_ ?_
  ·refine zH (zA (zB (wP rfl (wP rfl ?_))))
   by_cases hif:i<f
   ·refine Br i tH rfl rfl rfl rfl rfl rfl rfl rfl (hneg i hif) ?_
    refine wP rfl (Aa (zE (zS rfl (zI (zN ?_)))))
    exact At () trivial ⟨rfl,by rw[show i+1-f=0 by omega,show i-f=0 by omega];rfl,rfl,trivial⟩ [] rfl
   obtain⟨b,hb⟩: ∃b,dd[i-f]? =some b:=⟨dd[i-f]'(by omega),List.getElem?_eq_getElem (by omega)⟩
   have hsb:s[i]? =some b:=by rw[hget i (by omega)];exact hb
   have hbd:=Cy.1 (hdg b (List.mem_of_getElem? hb))
   have e1:AO (dd.take (i+1-f))=10*AO (dd.take (i-f))+(b.toNat-48):=by
    rw[show i+1-f=i-f+1 by omega,List.take_add_one,hb];exact CY _ _
   have l1:=hlt (i-f)
   have l2:=hlt (i+1-f)
   refine Br i tH rfl rfl rfl rfl rfl rfl rfl rfl hsb ?_
   refine wP rfl ?_
   refine Ab 18 (.bool true) rfl (congrArg Value.bool (by
    show(!((((b.toNat:Nat):Int))==(45:Int)))=true
    rw[Bool.not_eq_true',beq_eq_false_iff_ne];omega)) ?_
   refine Aa (zE (zR rfl (zB (wP rfl (wP rfl ?_)))))
   refine Ab 20 (.int .i64 ((10*AO (dd.take (i-f)):Nat):Int)) rfl (congrArg (Value.int .i64) (show w64 (10*(AO (dd.take (i-f)):Nat))=_ by rw[An (by omega) (by omega)];omega)) ?_
   refine wP rfl (wP rfl ?_)
   refine Br i tH rfl rfl rfl rfl rfl rfl rfl rfl hsb ?_
   refine wP rfl ?_
   refine Ab 24 (.int .u8 ((b.toNat-48:Nat):Int)) rfl (congrArg (Value.int .u8) (by show IntKind.u8.wrap (((b.toNat:Nat):Int)-48)=_;rw[show((b.toNat:Nat):Int)-48=((b.toNat-48:Nat):Int) by omega,PP (by omega) (by omega)])) ?_
   refine EM Tryz.underlying5 Tryz.underlying3 rfl rfl rfl rfl ?_
   refine Ab 25 (.int .i64 ((b.toNat-48:Nat):Int)) rfl (congrArg (Value.int .i64) (BP (by omega))) ?_
   refine wP rfl ?_
   refine Ab 26 (.int .i64 ((AO (dd.take (i+1-f)):Nat):Int)) rfl (congrArg (Value.int .i64) (show w64 (((10*AO (dd.take (i-f)):Nat):Int)+((b.toNat-48:Nat):Int))=_ by rw[An (by omega) (by omega),e1];omega)) ?_
   refine wP rfl (Aa (zN ?_))
   exact At () trivial ⟨rfl,rfl,rfl,trivial⟩ [] rfl
  intro _ _
  refine zB (wP rfl (wP rfl ?_))
  refine Ab 14 (.int .i64 ((i+1:Nat):Int)) rfl (congrArg (Value.int .i64) (A5 (by omega))) ?_
  refine wP rfl (Aa ?_)
  exact As (i+1) hlt' (by show s.length-(i+1)<s.length-i;omega) ⟨rfl,rfl,rfl,trivial⟩ [] rfl
 ·refine Ab 12 (.bool false) rfl (congrArg Value.bool (decide_eq_false (by omega))) ?_
  refine Aa (zE (zS rfl (zJ (zK (zK (zL (zE (zA (zA (zB ?_))))))))))
  have hv:AO (dd.take (i-f))=z.natAbs:=by rw[List.take_of_length_le (by omega),hdd,Cs]
  have hzl:z.natAbs<100000000000000000:=by rw[←hv];exact hlt _
  refine wP rfl ?_
  refine Br 0 tH rfl rfl rfl rfl rfl rfl rfl rfl hc0 ?_
  refine wP rfl ?_
  refine Ab 29 (.bool (decide (z<0))) rfl (congrArg Value.bool ((FY c0 45).trans hc45)) ?_
  refine Aa (AC ?_)
  try refine A7 ?_
  refine AK (X:=Unit) (fun _=>[(4, .int .i64 z)]) (fun _=>[]) (fun _=>True) ?_ ?_
  ·refine Ak rfl (fun h=> ?_) (fun h=> ?_)
   ·have h:z<0:=of_decide_eq_true h
    refine zB (wP rfl (wP rfl ?_))
    refine Ab 31 (.int .i64 z) rfl (congrArg (Value.int .i64) (by rw[hv];show w64 (0-((z.natAbs:Nat):Int))=_;rw[An (by omega) (by omega)];omega)) ?_
    refine wP rfl (Aa ?_)
    exact At () trivial ⟨rfl,trivial⟩ [] rfl
   ·have h: ¬z<0:=of_decide_eq_false h
    refine zI ?_
    exact At () trivial ⟨congrArg (fun z=>some (Value.int .i64 z)) (by rw[hv];omega),trivial⟩ [] rfl
  intro _ _
  refine zA (zB (wP rfl (wP rfl (wP rfl (Aa (zE (zO ?_)))))))
  exact Ar tH rfl (.tmp rfl) (.tmp rfl) () (by rw[hsm,decide_eq_true h17,if_pos rfl]) trivial fun W _=>Ae.nil _ _
theorem Mb (a b:Int) (ha:(itoa a).length<4611686018427387904) (hb:(itoa b).length<4611686018427387904):AX Tryz.prog 144 [str (itoa a),str (itoa b)] (.tuple #[.int .i64 (if smI a=true then a else 0), .int .i64 (if smI a=true then(if smI b=true then b else 0) else 0), .bool (smI a&&smI b)]):=by
 intro W
 refine Ad Tryz.func144 rfl rfl rfl ?_
 refine zA (zB (wP rfl (wP rfl (wP rfl (Aa (zE (zA (zB (wP rfl ?_)))))))))
 refine Ac rfl rfl rfl rfl rfl rfl (by kernel_rfl) (fun W _=>Jb a ha W) ?_
 iterate 5 refine wP rfl ?_
 refine Aa ?_
 cases hsa:smI a with
 |false=>
  refine zE (zA (zA (zB (wP rfl (wP rfl (Aa (zE (zR rfl (zA (zB (wP rfl (wP rfl (wP rfl ?_)))))))))))))
  refine Aa (zE (zO (zP ?_)))
  exact BW tH rfl (.tmp rfl) (.tmp rfl) (.tmp rfl) () rfl trivial fun W _=>Ae.nil _ _
 |true=>
  refine zE (zA (zA (zB (wP rfl (wP rfl (Aa (zE (zS rfl (zI (zE (zA (zB (wP rfl ?_)))))))))))))
  refine Ac rfl rfl rfl rfl rfl rfl (by kernel_rfl) (fun W _=>Jb b hb W) ?_
  iterate 5 refine wP rfl ?_
  refine Aa (zE (zA (zB ?_)))
  iterate 6 refine wP rfl ?_
  refine Aa (zE (zO ?_))
  exact BW tH rfl (.tmp rfl) (.tmp rfl) (.tmp rfl) () rfl trivial fun W _=>Ae.nil _ _
-- BOXES 1
-- CODE2
def byV (l:List UInt8):List Value:=l.map fun b=> .int .u8 (b.toNat:Int)
def zrV (k:Nat):List Value:=By [.int .u8 0] k
theorem Kz (k:Nat):(zrV k).length=k:=by unfold zrV;rw[Co];simp
theorem TW (k:Nat):zrV (k+1)=zrV k++[.int .u8 0]:=by
 induction k with
 |zero=>rfl
 |succ k ih=>
  have e: ∀j,zrV (j+1)=[.int .u8 0]++zrV j:=fun j=>rfl
  rw[e,ih, ←List.append_assoc, ←e,ih]
theorem UR {k:Nat} {c:UInt8} {suf:List UInt8}:Bs (zrV (k+1)++byV suf) (0+k*1) [.int .u8 (c.toNat:Int)]=zrV k++byV (c::suf):=by
 rw[TW,show 0+k*1=(zrV k).length+0 by rw[Kz];omega,List.append_assoc,Da]
 rfl
theorem Ve {k:Nat} {l:List UInt8} {j:Nat} (hj:j<l.length):(zrV k++byV l)[k+j]? =some (.int .u8 (l[j].toNat:Int)):=by
 rw[List.getElem?_append_right (by rw[Kz];omega),Kz,Nat.add_sub_cancel_left]
 unfold byV
 rw[List.getElem?_map,List.getElem?_eq_getElem hj];rfl
theorem W9 (u:Nat):IntKind.u8.wrap ((48+u%10:Nat):Int)=((UInt8.ofNat (48+u%10)).toNat:Int):=by
 rw[PP (by omega) (by omega),CW (Nat.mod_lt _ (by omega))]
-- BOXES 4
-- CODE2
theorem Nj (a:List UInt8): ∀(n:Nat) (b:List UInt8),b.length=n→AO (a++b)=AO a*10^n+AO b
 |0,b,h=>by
  rw[List.length_eq_zero_iff.1 h,List.append_nil,Nat.pow_zero,Nat.mul_one];rfl
 |n+1,b,h=>by
  obtain⟨c,d,rfl⟩: ∃c d,b=c++[d]:=⟨b.dropLast,b.getLast (fun e=>by rw[e] at h;cases h),(List.dropLast_concat_getLast _).symm⟩
  have hc:c.length=n:=by rw[List.length_append] at h;exact Nat.succ.inj h
  rw[←List.append_assoc,CY,Nj a n c hc,CY,Nat.pow_succ]
  grind
theorem Qe (a b:List UInt8):AO (a++b)=AO a*10^b.length+AO b:=Nj a b.length b rfl
theorem UM {m lo e:Nat} (_h1:lo≤e) (h2:e≤(decDigits m).length):AO (((decDigits m).take e).drop lo)=m/10^((decDigits m).length-e)%10^(e-lo):=by
 obtain⟨dd,hdd⟩: ∃dd,dd=decDigits m:=⟨_,rfl⟩
 have hdg: ∀b∈dd,DE b=true:=by rw[hdd];exact(Ho m).all
 have hv:AO dd=m:=by rw[hdd];exact Cs m
 rw[←hdd] at h2⊢
 have a1:=Qe (dd.take e) (dd.drop e)
 rw[List.take_append_drop,hv,List.length_drop] at a1
 have b1:=Fs (dd.drop e).length (s:=dd.drop e) rfl fun b hb=>hdg b (List.mem_of_mem_drop hb)
 rw[List.length_drop] at b1
 have c1:m/10^(dd.length-e)=AO (dd.take e):=by
  rw[a1,Nat.mul_comm,Nat.mul_add_div (Nat.pow_pos (by decide)),Nat.div_eq_of_lt b1,Nat.add_zero]
 rw[c1]
 have a2:=Qe ((dd.take e).take lo) ((dd.take e).drop lo)
 have b2:=Fs ((dd.take e).drop lo).length (s:=(dd.take e).drop lo) rfl fun b hb=>hdg b (List.mem_of_mem_take (List.mem_of_mem_drop hb))
 rw[List.take_append_drop] at a2
 have hl:((dd.take e).drop lo).length=e-lo:=by rw[List.length_drop,List.length_take,Nat.min_eq_left h2]
 rw[hl] at a2 b2
 rw[a2,Nat.mul_comm,Nat.mul_add_mod,Nat.mod_eq_of_lt b2]
def rdL (m:Nat) (j:Nat):List Nat:=(List.range j).map fun i=>m/br^i%br
theorem PI (m j:Nat):rdL m (j+1)=rdL m j++[m/br^j%br]:=by unfold rdL;rw[List.range_succ,List.map_append];rfl
theorem K1 (m j:Nat):(rdL m j).length=j:=by unfold rdL;rw[List.length_map,List.length_range]
theorem UD (m j:Nat): ∀x∈rdL m j,x<br:=fun x hx=>by
 obtain⟨i,_,rfl⟩:=List.mem_map.1 hx
 exact Nat.mod_lt _ (by decide)
theorem RI (m:Nat): ∀j,lv br (rdL m j)=m%br^j
 |0=>by show 0=_;rw[Nat.pow_zero,Nat.mod_one]
 |j+1=>by rw[PI,O6 (K1 m j),RI m j, ←DF]
theorem Jr (j:Nat):br^j=10^(6*j):=by rw[Nat.pow_mul]
theorem Um {m k:Nat} (h:m<10^(6*k)):(lbs br m).length≤k:=(BN br2).2 (by rw[Jr];exact h)
theorem WO {m e k:Nat} (h:(decDigits m).length≤e) (he:e=6*k):(lbs br m).length≤k:=by
 subst he
 exact Um (Nat.lt_of_lt_of_le (Hk m) (Nat.pow_le_pow_right (by decide) h))
theorem EI {m:Nat} (h:(decDigits m).length≤606):(lbs br m).length≤101:=WO h rfl
abbrev Xc (z:Int) (x:NV):Value:= .agg #[.bool (decide (z<0)),BG x (lbs br z.natAbs).length]
theorem UX (y:Int):(if y>0 then y else 0)=max 0 y:=by omega
theorem C6 (z:Int) (hl:(decDigits z.natAbs).length≤1000) (W:World):
  Aj Tryz.prog 146 #[str (itoa z)] W (fun x:NV=>Xc z x) (fun x=>Ce x (lbs br z.natAbs)) (fun x=>[BH x (lbs br z.natAbs)]):=by
 obtain⟨m,hm⟩: ∃m,m=z.natAbs:=⟨_,rfl⟩
 obtain⟨c0,hc0,hc45⟩:=LG z
 have hzl:=Dh z
 refine Ad (args:=[str (itoa z)]) Tryz.func146 rfl rfl rfl ?_
 refine zA (zB ?_)
 (refine Ao Tryz.hZ rfl rfl rfl rfl ?_;intro)
 refine Aa ?_
 rename_i b2
 refine zE (zA (zB ?_))
 refine AA Tryz.hZ tH rfl rfl rfl rfl rfl rfl rfl rfl ?_
 (refine Ao Tryz.hZ rfl rfl rfl rfl ?_;intro)
 refine wS 1 rfl rfl rfl (Aa ?_)
 rename_i b3
 refine zE (zA (zA (zB (wP rfl ?_))))
 refine Br 0 tH rfl rfl rfl rfl rfl rfl rfl rfl hc0 ?_
 refine wP rfl ?_
 refine Ab 10 (.bool (decide (z<0))) rfl (congrArg Value.bool ((FY c0 45).trans hc45)) ?_
 refine Aa (AC ?_)
 try refine A7 ?_
 refine AK (X:=Unit) (fun _=>[(0,str (decDigits m)),(2,Ax b2),(3,Ax b3)]) (fun _=>[⟨b2,191,[.bool false, .slice none 0 0],true,none⟩,⟨b3,191,[.bool (decide (z<0)), .slice none 0 0],true,none⟩]) (fun _=>True) ?_ ?_
 ·refine Ak rfl (fun h=> ?_) (fun h=> ?_)
  ·have h:z<0:=of_decide_eq_true h
   have e:itoa z=45::decDigits m:=by rw[hzl,hm];unfold HV;rw[if_pos h];rfl
   refine zA (zB (wP rfl (wS 1 rfl rfl rfl (Aa (zE (zB (wP rfl ?_)))))))
   refine Ky 1 tH rfl rfl rfl rfl rfl rfl rfl rfl (by rw[e,List.length_cons];omega) ?_
   refine wP rfl (Aa ?_)
   exact At () trivial ⟨by rw[e];rfl,rfl,rfl,trivial⟩ [] (by rw[decide_eq_true h];rfl)
  ·have h: ¬z<0:=of_decide_eq_false h
   have e:itoa z=decDigits m:=by rw[hzl,hm];unfold HV;rw[if_neg h];rfl
   refine zI ?_
   exact At () trivial ⟨by rw[e];rfl,rfl,rfl,trivial⟩ [] (by rw[decide_eq_false h];rfl)
 intro _ _
 rw[←hm] at hl⊢
 obtain⟨dd,hdd⟩: ∃dd,dd=decDigits m:=⟨_,rfl⟩
 have hdg: ∀b∈dd,DE b=true:=by rw[hdd];exact(Ho m).all
 have hd0:0<dd.length:=by rw[hdd];exact List.length_pos_iff.2 (G8 _)
 have hmid: ∀lo e,lo≤e→e≤dd.length→AO ((dd.take e).drop lo)=m/10^(dd.length-e)%10^(e-lo):=fun lo e h1 h2=>by
  rw[hdd] at h2⊢;exact UM h1 h2
 have hmlt:m<10^dd.length:=by rw[hdd];exact Hk m
 rw[←hdd] at hl⊢
 refine zA (zA (zB (wP rfl (wP rfl ?_))))
 refine Ab 15 (.int .i64 (dd.length:Nat)) rfl (congrArg (fun n:Nat=>Value.int .i64 (n:Int)) (AF dd)) ?_
 refine wP rfl (Aa (zE (zH ?_)))
 refine CM ?_
 refine Av (X:=Nat×Vec) (fun x=>[(0,str dd),(2,Ax b2),(3,Ax b3),(4, .int .i64 ((dd.length:Int)-6*(x.1:Nat)))])
  (fun x=>[⟨b2,191,[.bool false, .slice none 0 0],true,none⟩,⟨b3,191,[.bool (decide (z<0)),x.2.val x.1],true,none⟩,x.2.bx 3 (nI (rdL m x.1))])
  (fun x=>x.2.OK 1 x.1 (nI (rdL m x.1))∧6*x.1<dd.length+6) (fun x=>dd.length+6-6*x.1) (0,Vec.empty) ⟨Vec.OK.empty 1,by show 6*0<_;omega⟩ ⟨rfl,rfl,rfl,congrArg (fun z=>some (Value.int .i64 z)) (by show((dd.length:Nat):Int)=(dd.length:Int)-6*((0:Nat):Int);omega),trivial⟩ [] rfl ?_
 rintro⟨j,V⟩ ⟨hV,hj⟩
 have hV:V.OK 1 j (nI (rdL m j)):=hV
 have hj:6*j<dd.length+6:=hj
 refine zA (zA (zB (wP rfl (wP rfl ?_))))
 by_cases hlt:6*j<dd.length
 ·refine Ab 17 (.bool true) rfl (congrArg Value.bool (decide_eq_true (by show(dd.length:Int)-6*(j:Nat)>0;omega))) ?_
  refine Aa (zE (zR rfl (zI (zE (zA (zH (zA (zB ?_))))))))
  obtain⟨e,he⟩: ∃e,e=dd.length-6*j:=⟨_,rfl⟩
  have hev:(dd.length:Int)-6*(j:Nat)=(e:Nat):=by omega
  obtain⟨lo,hlo⟩: ∃lo,lo=e-6:=⟨_,rfl⟩
  have hlim:AO ((dd.take e).drop lo)=m/br^j%br:=by
   rw[hmid lo e (by omega) (by omega),Jr,show dd.length-e=6*j by omega]
   by_cases h6:6≤e
   ·rw[show e-lo=6 by omega]
   ·have hl0:lo=0:=by omega
    have h1:m/10^(6*j)<10^e:=by
     apply Nat.div_lt_of_lt_mul
     rw[←Nat.pow_add,show 6*j+e=dd.length by omega];exact hmlt
    have h2:(10:Nat)^e≤10^6:=Nat.pow_le_pow_right (by decide) (by omega)
    rw[hl0,Nat.sub_zero,Nat.mod_eq_of_lt h1,Nat.mod_eq_of_lt (show m/10^(6*j)<br by show _<10^6;omega)]
  refine wP rfl (Aa (zE (zA (zA (zB (wP rfl (wP rfl ?_)))))))
  refine Ab 21 (.int .i64 ((e:Int)-6)) rfl (congrArg (Value.int .i64) (by show w64 ((dd.length:Int)-6*(j:Nat)-6)=_;rw[hev,An (by omega) (by omega)])) ?_
  refine wP rfl ?_
  refine Ab 22 (.int .i64 (lo:Nat)) rfl (congrArg (Value.int .i64) (by show(if (e:Int)-6>0 then(e:Int)-6 else 0)=_;rw[UX];omega)) ?_
  refine wP rfl (Aa (zE (zH ?_)))
  refine Av (X:=Nat) (fun i=>[(0,str dd),(2,Ax b2),(3,Ax b3),(4, .int .i64 (e:Nat)),(5, .int .i64 (AO ((dd.take i).drop lo):Nat)),(6, .int .i64 (i:Nat))])
   (fun _=>[⟨b2,191,[.bool false, .slice none 0 0],true,none⟩,⟨b3,191,[.bool (decide (z<0)),V.val j],true,none⟩,V.bx 3 (nI (rdL m j))])
   (fun i=>lo≤i∧i≤e) (fun i=>e-i) lo ⟨Nat.le_refl _,by omega⟩ ⟨rfl,rfl,rfl,(by rw[hev];rfl),by show some _=some (Value.int .i64 (AO ((dd.take lo).drop lo):Nat));rw[List.drop_of_length_le (by rw[List.length_take];omega)];rfl,rfl,trivial⟩ [] rfl ?_
  rintro i ⟨hi1,hi2⟩
  have hi1:lo≤i:=hi1
  have hi2:i≤e:=hi2
  refine zA (zA (zB (wP rfl (wP rfl (wP rfl ?_)))))
  by_cases hie:i<e
  ·refine Ab 25 (.bool true) rfl (congrArg Value.bool (decide_eq_true (by omega))) ?_
   refine Aa (zE (zR rfl (zI (zE (zA (zH (zB ?_)))))))
   obtain⟨b,hb⟩: ∃b,dd[i]? =some b:=⟨dd[i]'(by omega),List.getElem?_eq_getElem (by omega)⟩
   have hbd:=Cy.1 (hdg b (List.mem_of_getElem? hb))
   have e1:AO ((dd.take (i+1)).drop lo)=10*AO ((dd.take i).drop lo)+(b.toNat-48):=by
    rw[List.take_add_one,hb,List.drop_append_of_le_length (by rw[List.length_take];omega)]
    exact CY _ _
   have hbnd: ∀k,k≤e→AO ((dd.take k).drop lo)<1000000:=fun k hk=>by
    have h1:=Fs ((dd.take k).drop lo).length (s:=(dd.take k).drop lo) rfl fun b hb=>hdg b (List.mem_of_mem_take (List.mem_of_mem_drop hb))
    have h2:((dd.take k).drop lo).length≤6:=by rw[List.length_drop,List.length_take];omega
    exact Nat.lt_of_lt_of_le h1 (show _≤10^6 from Nat.pow_le_pow_right (by decide) h2)
   have l1:=hbnd i hi2
   have l2:=hbnd (i+1) hie
   refine wP rfl (wP rfl ?_)
   refine Ab 29 (.int .i64 ((10*AO ((dd.take i).drop lo):Nat):Int)) rfl (congrArg (Value.int .i64) (show w64 (10*(AO ((dd.take i).drop lo):Nat))=_ by rw[An (by omega) (by omega)];omega)) ?_
   refine wP rfl (wP rfl ?_)
   refine Br i tH rfl rfl rfl rfl rfl rfl rfl rfl hb ?_
   refine wP rfl ?_
   refine Ab 33 (.int .u8 ((b.toNat-48:Nat):Int)) rfl (congrArg (Value.int .u8) (by show IntKind.u8.wrap (((b.toNat:Nat):Int)-48)=_;rw[show((b.toNat:Nat):Int)-48=((b.toNat-48:Nat):Int) by omega,PP (by omega) (by omega)])) ?_
   refine EM Tryz.underlying5 Tryz.underlying3 rfl rfl rfl rfl ?_
   refine Ab 34 (.int .i64 ((b.toNat-48:Nat):Int)) rfl (congrArg (Value.int .i64) (BP (by omega))) ?_
   refine wP rfl ?_
   refine Ab 35 (.int .i64 ((AO ((dd.take (i+1)).drop lo):Nat):Int)) rfl (congrArg (Value.int .i64) (show w64 (((10*AO ((dd.take i).drop lo):Nat):Int)+((b.toNat-48:Nat):Int))=_ by rw[An (by omega) (by omega),e1];omega)) ?_
   refine wP rfl (Aa (zN (zE (zB (wP rfl (wP rfl ?_))))))
   refine Ab 27 (.int .i64 ((i+1:Nat):Int)) rfl (congrArg (Value.int .i64) (A5 (by omega))) ?_
   refine wP rfl (Aa ?_)
   exact As (i+1) ⟨by show lo≤i+1;omega,hie⟩ (by show e-(i+1)<e-i;omega) ⟨rfl,rfl,rfl,rfl,rfl,rfl,trivial⟩ [] rfl
  ·have hie:i=e:=by omega
   subst hie
   refine Ab 25 (.bool false) rfl (congrArg Value.bool (decide_eq_false (by omega))) ?_
   refine Aa (zE (zS rfl (zJ (zK (zK (zL (zE (zB ?_))))))))
   rw[hlim]
   refine wP rfl (wB 1 rfl rfl rfl (wP rfl ?_))
   refine A0 Tryz.hZ tH rfl rfl rfl rfl rfl rfl rfl rfl rfl rfl rfl fun bN=> ?_
   refine AP (V:=V) (len:=j) (xs:=nI (rdL m j)) 2 3 Tryz.vec58 (j+1) (nI (rdL m (j+1))) rfl rfl rfl rfl rfl rfl rfl rfl rfl rfl rfl hV rfl rfl rfl (by rw[PI,Ic];rfl) (by simp only[maxLen];omega) (by omega) rfl ?_
   intro g1 c1 j1 hV1
   refine wP rfl (wS 1 rfl rfl rfl (Aa (zN (zE (zB (wP rfl (wP rfl ?_)))))))
   refine Ab 19 (.int .i64 ((dd.length:Int)-6*((j+1:Nat):Int))) rfl (congrArg (Value.int .i64) (by show w64 (((i:Nat):Int)-6)=_;rw[An (by omega) (by omega)];omega)) ?_
   refine wP rfl (Aa ?_)
   exact As (j+1,⟨some g1,c1,j1⟩) ⟨hV1,by show 6*(j+1)<_;omega⟩ (by show dd.length+6-6*(j+1)<dd.length+6-6*j;omega) ⟨rfl,rfl,rfl,rfl,trivial⟩ _ rfl
 ·refine Ab 17 (.bool false) rfl (congrArg Value.bool (decide_eq_false (by show¬(dd.length:Int)-6*(j:Nat)>0;omega))) ?_
  refine Aa (zE (zS rfl (zJ (zK (zK (zL (zE (zA (zB ?_)))))))))
  obtain⟨pV,cV,jV⟩:=V
  cases pV with
  |none=>have:=hV.nil rfl;omega
  |some g=>
  have hval:lv br (rdL m j)=m:=by
   rw[RI,Jr]
   exact Nat.mod_eq_of_lt (Nat.lt_of_lt_of_le hmlt (Nat.pow_le_pow_right (by decide) (by omega)))
  have hV2:(⟨some g,cV,jV⟩:Vec).OK 1 (rdL m j).length (nI (rdL m j)):=by rw[K1];exact hV
  obtain⟨j2,hj1,hj2⟩:=D3 hV2 (UD m j)
  rw[hval] at hj1 hj2
  refine wP rfl (wB 1 rfl rfl rfl ?_)
  refine Ab 43 (slv (some ⟨g,0,none⟩) (rdL m j).length cV) rfl (by rw[K1];rfl) ?_
  refine Ac rfl rfl rfl rfl rfl rfl (by kernel_rfl) (fun W' hp=>(C7 W' (some ⟨g,0,none⟩) cV (rdL m j) (A4.of_bx hp 2 rfl) (UD m j) (by have:=(hV2.cap (by simp)).1;exact this) (by rw[K1];omega)).cast (v':=slv (some ⟨g,0,none⟩) (lbs br m).length cV) (by rw[hval])) ?_
  refine wP rfl (wS 1 rfl rfl rfl (Aa (zE (zA (zB (wB 1 rfl rfl rfl (wS 0 rfl rfl rfl (Aa (zE (zO ?_))))))))))
  subst hm
  exact Af tH rfl (.cell 0 rfl rfl rfl rfl rfl) ((g,cV,j2):NV) rfl hj1 fun W hp=>Ae.of_hp1 hp 2 (by
   show some (⟨g,3,nI (rdL z.natAbs j)++jV,true,none⟩:Bx)=some (⟨g,3,nI (lbs br z.natAbs)++j2,true,none⟩:Bx)
   rw[hj2])
def F5 (m:Nat):Nat→List UInt8
 |0=>[]
 |d+1=>UInt8.ofNat (48+m/10^d%10)::F5 m d
theorem IA (m:Nat): ∀d,(F5 m d).length=d
 |0=>rfl
 |d+1=>by show(F5 m d).length+1=_;rw[IA m d]
theorem PK (m:Nat): ∀(d i:Nat),i<d→(F5 m d)[d-1-i]? =some (UInt8.ofNat (48+m/10^i%10))
 |0,_,h=>absurd h (Nat.not_lt_zero _)
 |d+1,i,h=>by
  by_cases e:i=d
  ·subst e
   rw[show i+1-1-i=0 by omega];rfl
  ·rw[show d+1-1-i=(d-1-i)+1 by omega]
   show(_::F5 m d)[_+1]? =_
   rw[List.getElem?_cons_succ]
   exact PK m d i (by omega)
theorem VA {m d:Nat} (h:(decDigits m).length≤d):F5 m d=List.replicate (d-(decDigits m).length) 48++decDigits m:=by
 apply List.ext_getElem?
 intro t
 by_cases ht:t<d
 ·have h1:=PK m d (d-1-t) (by omega)
  rw[show d-1-(d-1-t)=t by omega] at h1
  rw[h1]
  by_cases h2:t<d-(decDigits m).length
  ·rw[List.getElem?_append_left (by rw[List.length_replicate];exact h2),List.getElem?_replicate_of_lt h2]
   have h3:m/10^(d-1-t)=0:=Nat.div_eq_of_lt (Nat.lt_of_lt_of_le (Hk m) (Nat.pow_le_pow_right (by decide) (by omega)))
   rw[h3];rfl
  ·rw[List.getElem?_append_right (by rw[List.length_replicate];omega),List.length_replicate]
   have h3:=TG (n:=m) (i:=d-1-t) (by omega)
   rw[←h3]
   congr 1;omega
 ·rw[List.getElem?_eq_none (by rw[IA];omega),List.getElem?_eq_none (by rw[List.length_append,List.length_replicate];omega)]
theorem TH {m i k:Nat} (hk:k<6):m/br^i%br/10^k%10=m/10^(6*i+k)%10:=by
 rw[Nat.pow_add, ←Jr, ←Nat.div_div_eq_div_mul]
 generalize m/br^i=x
 have h:k=0∨k=1∨k=2∨k=3∨k=4∨k=5:=by omega
 show x%1000000/10^k%10=x/10^k%10
 rcases h with rfl|rfl|rfl|rfl|rfl|rfl<;>simp only[Nat.reducePow,Nat.div_one]<;>omega
theorem Ir (z:Int) (hl:(decDigits z.natAbs).length≤606) (W:World) (p:Option Addr) (cap:Nat) (hA:A4 W p (lbs br z.natAbs)):
  Aj Tryz.prog 265 #[.agg #[.bool (decide (z<0)),slv p (lbs br z.natAbs).length cap]] W (fun _:Unit=>str (itoa z)) (fun _=>True) (fun _=>[]):=by
 obtain⟨m,hm⟩: ∃m,z.natAbs=m:=⟨_,rfl⟩
 rw[hm] at hl hA⊢
 obtain⟨L,hL⟩: ∃L,(lbs br m).length=L:=⟨_,rfl⟩
 have hL101:L≤101:=by rw[←hL];exact EI hl
 have hml:m<br^L:=by rw[←hL];exact AL br2 m
 refine Ad (args:=[.agg #[.bool (decide (z<0)),slv p (lbs br m).length cap]]) Tryz.func265 rfl rfl rfl ?_
 rw[hL]
 refine zA (zB ?_)
 (refine A8 rfl rfl rfl rfl ?_;intro)
 refine wP rfl (Aa ?_)
 rename_i b1
 refine zE (zA (zA (zB (wP rfl (wB 0 rfl rfl rfl (wP rfl (wP rfl ?_)))))))
 by_cases hm0:m=0
 ·have hL0:L=0:=by rw[←hL,hm0,Bc];rfl
  have hz:z=0:=by omega
  refine Ab 10 (.bool true) rfl (congrArg Value.bool (by rw[beq_iff_eq,hL0];rfl)) ?_
  refine Aa (zE (zR rfl (zA (zB (wP rfl (Aa (zE (zO (zP ?_)))))))))
  exact Af tH rfl (.tmp rfl) () (by rw[hz,CT]) trivial fun W _=>Ae.nil _ _
 have hL0:L≠0:=fun e=>hm0 ((Dr br2).1 (List.length_eq_zero_iff.1 (hL.trans e)))
 refine Ab 10 (.bool false) rfl (congrArg Value.bool (by rw[beq_eq_false_iff_ne];omega)) ?_
 refine Aa (zE (zS rfl (zI (zE (zA (zB ?_))))))
 obtain⟨K,hK⟩: ∃K,K=6*L:=⟨_,rfl⟩
 refine wP rfl (wB 0 rfl rfl rfl (wP rfl (wP rfl ?_)))
 refine Ab 14 (.int .i64 (K:Nat)) rfl (congrArg (Value.int .i64) (by show w64 (6*(L:Int))=_;rw[An (by omega) (by omega)];omega)) ?_
 refine Cm Tryz.vec290 K rfl rfl rfl rfl rfl rfl rfl (by simp only[maxLen];omega) (by omega) ?_
 intro g
 refine wP rfl (Aa (zE (zA (zA (zB (wP rfl (Aa (AC ?_))))))))
 try refine A7 ?_
 refine AK (X:=Unit) (fun _=>[(1,Ax b1),(3, .slice (some ⟨g,0,none⟩) K K)]) (fun _=>[⟨b1,191,[.bool (decide (z<0)),slv p L cap],true,none⟩,⟨g,5,zrV 0++byV (F5 m K),true,none⟩]) (fun _=>True) ?_ ?_
 ·refine zH ?_
  refine Av (X:=Nat) (fun i=>[(1,Ax b1),(3, .slice (some ⟨g,0,none⟩) K K),(4, .int .i64 (i:Nat))]) (fun i=>[⟨b1,191,[.bool (decide (z<0)),slv p L cap],true,none⟩,⟨g,5,zrV (K-6*i)++byV (F5 m (6*i)),true,none⟩]) (fun i=>i≤L) (fun i=>L-i) 0 (Nat.zero_le _) ⟨rfl,rfl,rfl,trivial⟩ [] (by show _=[_,(⟨g,5,zrV (K-0)++[],true,none⟩:Bx)]++[];simp only[List.append_nil,Nat.sub_zero];rfl) ?_
  intro i hi
  have hi:i≤L:=hi
  refine zA (zA (zB (wP rfl (wP rfl (wB 0 rfl rfl rfl (wP rfl (wP rfl ?_)))))))
  by_cases hiL:i<L
  ·refine Ab 20 (.bool true) rfl (congrArg Value.bool (decide_eq_true (by omega))) ?_
   refine Aa (zE (zR rfl (zI (zE (zA (zH (zA (zB ?_))))))))
   obtain⟨bA,oA,rfl,rA⟩:=hA.row (show i<(lbs br m).length by omega)
   have rA:=rA i (by omega)
   rw[Bd br2] at rA
   obtain⟨v,hv⟩: ∃v,v=m/br^i%br:=⟨_,rfl⟩
   rw[←hv] at rA
   have hvb:v<1000000:=by rw[hv];exact Nat.mod_lt _ (by decide)
   refine wP rfl (wB 0 rfl rfl rfl (wP rfl ?_))
   refine wJ ?_
   refine Aw rfl rfl rfl rfl (fun W hp=>Ag.load 0 tH rfl ((fun W hp=>rA.hp hp) W hp) rfl) ?_
   refine wP rfl (Aa (zE (zA (zB (wP rfl (Aa (zE (zH ?_))))))))
   refine Av (X:=Nat) (fun k=>[(1,Ax b1),(3, .slice (some ⟨g,0,none⟩) K K),(4, .int .i64 (i:Nat)),(5, .int .i64 ((v/10^k:Nat):Int)),(6, .int .i64 ((k+1:Nat):Int))]) (fun k=>[⟨b1,191,[.bool (decide (z<0)),slv (some ⟨bA,oA,none⟩) L cap],true,none⟩,⟨g,5,zrV (K-(6*i+k))++byV (F5 m (6*i+k)),true,none⟩]) (fun k=>k≤6) (fun k=>6-k) 0 (by decide) ⟨rfl,rfl,rfl,by show some _=some (Value.int .i64 ((v/1:Nat):Int));rw[Nat.div_one],rfl,trivial⟩ [] rfl ?_
   intro k hk
   have hk:k≤6:=hk
   refine zA (zA (zB (wP rfl (wP rfl ?_))))
   by_cases hk6:k<6
   ·refine Ab 29 (.bool true) rfl (congrArg Value.bool (decide_eq_true (by show((k+1:Nat):Int)≤6;omega))) ?_
    refine Aa (zE (zR rfl (zI (zE (zA (zH (zA (zB ?_))))))))
    obtain⟨u,hu⟩: ∃u,u=v/10^k:=⟨_,rfl⟩
    have hub:u<1000000:=by rw[hu];exact Nat.lt_of_le_of_lt (Nat.div_le_self ..) hvb
    have hdig:u%10=m/10^(6*i+k)%10:=by rw[hu,hv];exact TH hk6
    have hu2:v/10^(k+1)=u/10:=by rw[hu,Nat.pow_succ,Nat.div_div_eq_div_mul]
    obtain⟨d,hd⟩: ∃d,d=6*i+k:=⟨_,rfl⟩
    have hdK:d<K:=by omega
    rw[←hu, ←hd]
    rw[←hd] at hdig
    iterate 5 refine wP rfl ?_
    refine Ab 36 (.int .i64 ((6*i:Nat):Int)) rfl (congrArg (Value.int .i64) (by show w64 (6*(i:Int))=_;rw[An (by omega) (by omega)];omega)) ?_
    refine wP rfl ?_
    refine Ab 37 (.int .i64 ((K-6*i:Nat):Int)) rfl (congrArg (Value.int .i64) (by show w64 ((K:Int)-((6*i:Nat):Int))=_;rw[An (by omega) (by omega)];omega)) ?_
    refine wP rfl (wP rfl ?_)
    refine Ab 39 (.int .i64 ((K-d-1:Nat):Int)) rfl (congrArg (Value.int .i64) (by show w64 (((K-6*i:Nat):Int)-((k+1:Nat):Int))=_;rw[An (by omega) (by omega)];omega)) ?_
    refine wP rfl ?_
    refine F4 rfl rfl rfl rfl rfl (by decide) ?_
    refine Ab 41 (.int .i64 ((u%10:Nat):Int)) rfl (congrArg (Value.int .i64) (show Int.tmod (u:Nat) ((10:Nat):Int)=_ from(Int.ofNat_tmod _ _).symm)) ?_
    refine wP rfl ?_
    refine Ab 42 (.int .i64 ((48+u%10:Nat):Int)) rfl (congrArg (Value.int .i64) (show w64 (48+((u%10:Nat):Int))=_ by rw[An (by omega) (by omega)];omega)) ?_
    refine Xi Tryz.underlying3 Tryz.underlying5 rfl rfl rfl rfl ?_
    refine Ab 43 (.int .u8 ((UInt8.ofNat (48+m/10^d%10)).toNat:Int)) rfl (congrArg (Value.int .u8) (by rw[W9 u,hdig])) ?_
    refine wJ ?_
    refine Ay 1 (zrV (K-d-1)++byV (F5 m (d+1))) tH rfl rfl rfl rfl rfl rfl rfl rfl rfl rfl (by show 0+(K-d-1)*1+1≤(zrV (K-d)++byV (F5 m d)).length;rw[List.length_append,Kz];omega) (by
     show Bs (zrV (K-d)++byV (F5 m d)) _ _=_
     rw[show K-d=K-d-1+1 by omega]
     exact UR) ?_
    refine Aa (zE (zB (wP rfl ?_)))
    refine EK rfl rfl rfl rfl rfl (by decide) ?_
    refine Ab 46 (.int .i64 ((u/10:Nat):Int)) rfl (congrArg (Value.int .i64) (show w64 (Int.tdiv (u:Nat) ((10:Nat):Int))=_ by rw[←Int.ofNat_tdiv,An (by omega) (by omega)])) ?_
    refine wP rfl (Aa (zN (zE (zB (wP rfl (wP rfl ?_))))))
    refine Ab 31 (.int .i64 ((k+1+1:Nat):Int)) rfl (congrArg (Value.int .i64) (A5 (by omega))) ?_
    refine wP rfl (Aa ?_)
    exact As (k+1) hk6 (by show 6-(k+1)<6-k;omega) ⟨rfl,rfl,rfl,by show some _=some (Value.int .i64 ((v/10^(k+1):Nat):Int));rw[hu2],rfl,trivial⟩ [] (by show _=[_,(⟨g,5,zrV (K-(6*i+(k+1)))++byV (F5 m (6*i+(k+1))),true,none⟩:Bx)]++[];rw[show 6*i+(k+1)=d+1 by omega,show K-(d+1)=K-d-1 by omega];rfl)
   ·have hk6:k=6:=by omega
    subst hk6
    refine Ab 29 (.bool false) rfl (congrArg Value.bool (decide_eq_false (by decide))) ?_
    refine Aa (zE (zS rfl (zJ (zK (zK (zL (zN (zE (zB (wP rfl (wP rfl ?_)))))))))))
    refine Ab 22 (.int .i64 ((i+1:Nat):Int)) rfl (congrArg (Value.int .i64) (A5 (by omega))) ?_
    refine wP rfl (Aa ?_)
    exact As (i+1) hiL (by show L-(i+1)<L-i;omega) ⟨rfl,rfl,rfl,trivial⟩ [] (by show _=[_,(⟨g,5,zrV (K-6*(i+1))++byV (F5 m (6*(i+1))),true,none⟩:Bx)]++[];rw[show 6*(i+1)=6*i+6 by omega];rfl)
  ·have hiL:i=L:=by omega
   subst hiL
   refine Ab 20 (.bool false) rfl (congrArg Value.bool (decide_eq_false (by omega))) ?_
   refine Aa (zE (zS rfl (zJ (zK (zK (zL ?_))))))
   exact At () trivial ⟨rfl,rfl,trivial⟩ [] (by rw[←hK,Nat.sub_self];rfl)
 intro _ _
 obtain⟨nd,hnd⟩: ∃nd,(decDigits m).length=nd:=⟨_,rfl⟩
 have hndK:nd≤K:=by
  rw[←hnd]
  refine F2 K m (by omega) ?_
  rw[hK, ←Jr];exact hml
 have hnd0:0<nd:=by rw[←hnd];exact List.length_pos_iff.2 (G8 _)
 have hlow:=VA (m:=m) (d:=K) (by rw[hnd];exact hndK)
 rw[hnd] at hlow
 have hgetB: ∀j,j<K→ ∃b,(F5 m K)[j]? =some b∧(zrV 0++byV (F5 m K))[0+j]? =some (.int .u8 (b.toNat:Int)):=fun j hj=>by
  refine⟨(F5 m K)[j]'(by rw[IA];exact hj),List.getElem?_eq_getElem _, ?_⟩
  exact Ve (k:=0) (by rw[IA];exact hj)
 try refine AC ?_
 try refine A7 ?_
 refine AK (X:=Unit) (fun _=>[(1,Ax b1),(3, .slice (some ⟨g,K-nd,none⟩) nd nd)]) (fun _=>[⟨b1,191,[.bool (decide (z<0)),slv p L cap],true,none⟩,⟨g,5,zrV 0++byV (F5 m K),true,none⟩]) (fun _=>True) ?_ ?_
 ·refine zH ?_
  refine Av (X:=Nat) (fun j=>[(1,Ax b1),(3, .slice (some ⟨g,j,none⟩) (K-j) (K-j))]) (fun _=>[⟨b1,191,[.bool (decide (z<0)),slv p L cap],true,none⟩,⟨g,5,zrV 0++byV (F5 m K),true,none⟩]) (fun j=>j≤K-nd) (fun j=>K-nd-j) 0 (Nat.zero_le _) ⟨rfl,rfl,trivial⟩ [] rfl ?_
  intro j hj
  have hj:j≤K-nd:=hj
  obtain⟨b,hb,hbc⟩:=hgetB j (by omega)
  rw[Nat.zero_add] at hbc
  have hrow: ∀W1 bxs,Hp W bxs W1→nth bxs 1=some (⟨g,5,zrV 0++byV (F5 m K),true,none⟩:Bx)→Ag W1 g j [.int .u8 (b.toNat:Int)]:=fun W1 bxs hp h1=>by
   have h:=Ag.of_bx hp 1 h1 rfl
   exact⟨h.lt,fun t u hu=>by
    have ht:t=0:=by have:=(List.getElem?_eq_some_iff.1 hu).1;simpa using this
    subst ht
    have hu:u= .int .u8 (b.toNat:Int):=by simpa using hu.symm
    rw[hu]
    have:=h.get j _ hbc
    rwa [Nat.zero_add] at this⟩
  refine zA (zA (zB (wP rfl ?_)))
  refine wI rfl rfl (by decide) (by show(0:Int)<((K-j:Nat):Int);omega) ?_
  refine Ab 48 (.pointer (some ⟨g,j,none⟩)) rfl rfl ?_
  refine Aw rfl rfl rfl rfl (fun W hp=>Ag.load 0 tH rfl ((fun W1 hp=>hrow W1 _ hp rfl) W hp) rfl) ?_
  refine wP rfl ?_
  refine Ab 50 (.bool (decide (b=48))) rfl (congrArg Value.bool (FY b 48)) ?_
  refine Aa (zE ?_)
  refine Ak rfl (fun h48=> ?_) (fun h48=> ?_)
  ·have h48:b=48:=of_decide_eq_true h48
   have hjl:j<K-nd:=by
    rcases Nat.lt_or_ge j (K-nd) with h|h
    ·exact h
    ·have e:j=K-nd:=by omega
     rw[hlow,List.getElem?_append_right (by rw[List.length_replicate];omega),List.length_replicate,e,Nat.sub_self,h48] at hb
     exact absurd (U7 hb) hm0
   refine zI (zE (zH (zB (wP rfl ?_))))
   refine BK 1 tH rfl rfl rfl rfl rfl rfl rfl rfl (by show 1≤K-j;omega) (Nat.le_refl _) ?_
   refine Ab 52 (.slice (some ⟨g,j+1,none⟩) (K-(j+1)) (K-(j+1))) rfl (by rw[if_neg (show¬K-j=1 by omega)];show Value.slice (some ⟨g,j+1*1,none⟩) (K-j-1) (K-j-1)=_;rw[show K-(j+1)=K-j-1 by omega]) ?_
   refine wP rfl (Aa (zN ?_))
   exact As (j+1) hjl (by show K-nd-(j+1)<K-nd-j;omega) ⟨rfl,rfl,trivial⟩ [] rfl
  ·have h48: ¬b=48:=of_decide_eq_false h48
   have e:j=K-nd:=by
    rcases Nat.lt_or_ge j (K-nd) with h|h
    ·rw[hlow,List.getElem?_append_left (by rw[List.length_replicate];exact h),List.getElem?_replicate_of_lt h] at hb
     exact absurd (Option.some.inj hb).symm h48
    ·omega
   refine zJ (zK (zK (zL ?_)))
   exact At () trivial ⟨rfl,by rw[e,show K-(K-nd)=nd by omega];rfl,trivial⟩ [] rfl
 intro _ _
 have hbytes: ∀j (hj:j<(decDigits m).length),(zrV 0++byV (F5 m K))[K-nd+j]? =some (.int .u8 ((decDigits m)[j].toNat:Int)):=fun j hj=>by
  obtain⟨b,hb,hbc⟩:=hgetB (K-nd+j) (by omega)
  rw[Nat.zero_add] at hbc
  rw[hbc]
  rw[hlow,List.getElem?_append_right (by rw[List.length_replicate];omega),List.length_replicate,Nat.add_sub_cancel_left,List.getElem?_eq_getElem hj] at hb
  rw[Option.some.inj hb]
 refine zA (zA (zB (wP rfl (wB 0 rfl rfl rfl (Aa (zE ?_))))))
 refine Ak rfl (fun hn=> ?_) (fun hn=> ?_)
 ·have hn:z<0:=of_decide_eq_true hn
  refine zA (zB (wP rfl ?_))
  refine JI 1 (decDigits m) (e:=5) (by kernel_rfl) Tryz.underlying5 (by kernel_rfl) rfl rfl rfl rfl rfl rfl hnd.symm hbytes ?_
  refine Ef rfl rfl rfl rfl rfl (a:=[45]) (b:=decDigits m) (by decide) (by omega) ?_
  refine wP rfl (Aa (zE (zO (zP ?_))))
  exact Af tH rfl (.tmp rfl) () (by rw[Dh,hm];unfold HV;rw[if_pos hn]) trivial fun W _=>Ae.nil _ _
 ·have hn: ¬z<0:=of_decide_eq_false hn
  refine zI (zE (zA (zB (wP rfl ?_))))
  refine JI 1 (decDigits m) (e:=5) (by kernel_rfl) Tryz.underlying5 (by kernel_rfl) rfl rfl rfl rfl rfl rfl hnd.symm hbytes ?_
  refine wP rfl (Aa (zE (zO ?_)))
  exact Af tH rfl (.tmp rfl) () (by rw[Dh,hm];unfold HV;rw[if_neg hn];rfl) trivial fun W _=>Ae.nil _ _
theorem HN (z:Int) (hl:(decDigits z.natAbs).length≤300) (W:World) (p:Option Addr) (cap:Nat) (hA:A4 W p (lbs br z.natAbs)):
  Aj Tryz.prog 207 #[.agg #[.bool (decide (z<0)),slv p (lbs br z.natAbs).length cap]] W (fun _:Unit=> .tuple #[str (itoa z), .int .i64 0]) (fun _=>True) (fun _=>[]):=by
 refine Ad (args:=[.agg #[.bool (decide (z<0)),slv p (lbs br z.natAbs).length cap]]) Tryz.func207 rfl rfl rfl ?_
 refine zA (zB ?_)
 (refine A8 rfl rfl rfl rfl ?_;intro)
 refine wP rfl (wP rfl (Aa (zE (zA (zB (wB 0 rfl rfl rfl ?_))))))
 refine Ac rfl rfl rfl rfl rfl rfl (by kernel_rfl) (fun W hp=>Ir z (by omega) W p cap (hA.hp hp)) ?_
 refine wP rfl (Aa (zE (zA (zA (zB (wP rfl ?_))))))
 refine Ac rfl rfl rfl rfl rfl rfl (by kernel_rfl) (fun W _=>G3 z hl W) ?_
 refine wP rfl (Aa (zE (zS rfl (zI (zE (zA (zB (wP rfl (wP rfl (wP rfl (Aa (zE (zO ?_)))))))))))))
 exact Ar tH rfl (.tmp rfl) (.tmp rfl) () rfl trivial fun W _=>Ae.nil _ _
-- BOXES 6
-- CODE2
abbrev Ix (z:Int) (p:Option Addr) (cap:Nat):Value:= .agg #[.bool (decide (z<0)),slv p (lbs br z.natAbs).length cap]
abbrev M4 (b:Nat) (z:Int) (p:Option Addr) (cap:Nat):Bx:=⟨b,191,[.bool (decide (z<0)),slv p (lbs br z.natAbs).length cap],true,none⟩
theorem Re (z:Int) (W:World) (p:Option Addr) (cap:Nat):Aj Tryz.prog 147 #[Ix z p cap] W (fun _:Unit=>Ix (-z) p cap) (fun _=>True) (fun _=>[]):=by
 obtain⟨n,hn⟩: ∃n,z.natAbs=n:=⟨_,rfl⟩
 refine Ad (args:=[Ix z p cap]) Tryz.func147 rfl rfl rfl ?_
 unfold Ix
 rw[Int.natAbs_neg,hn]
 refine zA (zB ?_)
 (refine A8 rfl rfl rfl rfl ?_;intro)
 (refine Ao Tryz.hZ rfl rfl rfl rfl ?_;intro)
 refine Aa (zE (zA (zA (zB (wP rfl (wB 0 rfl rfl rfl (wP rfl (wP rfl ?_))))))))
 by_cases h0:n=0
 ·have hz:z=0:=by omega
  refine Ab 6 (.bool true) rfl (congrArg Value.bool (by rw[h0,Bc];rfl)) ?_
  refine Aa (zE (zR rfl (zA (zB (wB 0 rfl rfl rfl (wS 1 rfl rfl rfl (Aa (zE (zO (zP ?_))))))))))
  exact Af tH rfl (.cell 1 rfl rfl rfl rfl rfl) () (by rw[hz];rfl) trivial fun W _=>Ae.nil _ _
 ·have hL:(lbs br n).length≠0:=fun e=>h0 ((Dr br2).1 (List.length_eq_zero_iff.1 e))
  refine Ab 6 (.bool false) rfl (congrArg Value.bool (by rw[beq_eq_false_iff_ne];omega)) ?_
  refine Aa (zE (zS rfl (zI (zE (zA (zB (wP rfl (wB 0 rfl rfl rfl (wP rfl (wP rfl (wB 0 rfl rfl rfl ?_)))))))))))
  refine AA Tryz.hZ tH rfl rfl rfl rfl rfl rfl rfl rfl ?_
  refine wS 1 rfl rfl rfl (Aa (zE (zO ?_)))
  exact Af tH rfl (.cell 1 rfl rfl rfl rfl rfl) () (by
   show Value.agg #[.bool (!decide (z<0)),_]=_
   have e:(!decide (z<0))=decide (-z<0):=by
    by_cases h:z<0
    ·rw[decide_eq_true h,decide_eq_false (by omega)];rfl
    ·rw[decide_eq_false h,decide_eq_true (by omega)];rfl
   rw[e]) trivial fun W _=>Ae.nil _ _
theorem Qs (a b:Int) (W:World) (p q:Option Addr) (cap cap2:Nat) (hA:A4 W p (lbs br a.natAbs)) (hB:A4 W q (lbs br b.natAbs)) (hna:(lbs br a.natAbs).length≤1000) (hnb:(lbs br b.natAbs).length≤1000):
  Aj Tryz.prog 145 #[Ix a p cap,Ix b q cap2] W (fun x:NV=>Xc (a+b) x) (fun x=>Ce x (lbs br (a+b).natAbs)) (fun x=>[BH x (lbs br (a+b).natAbs)]):=by
 refine Ad (args:=[Ix a p cap,Ix b q cap2]) Tryz.func145 rfl rfl rfl ?_
 refine zA (zB ?_)
 (refine A8 rfl rfl rfl rfl ?_;intro)
 (refine A8 rfl rfl rfl rfl ?_;intro)
 (refine Ao Tryz.hZ rfl rfl rfl rfl ?_;intro)
 refine Aa ?_
 rename_i b2 b3 b4
 refine zE (zA (zA (zB (wP rfl (wB 0 rfl rfl rfl (wP rfl (wB 1 rfl rfl rfl ?_)))))))
 by_cases hs:decide (a<0)=decide (b<0)
 ·refine DZ (c:=true) Tryz.underlying4 rfl rfl rfl rfl rfl (congrArg some (by rw[hs];exact beq_self_eq_true _)) ?_
  refine Aa ?_
  have en:(a+b).natAbs=a.natAbs+b.natAbs:=by
   by_cases h1:a<0<;>by_cases h2:b<0<;>simp[h1,h2] at hs<;>omega
  have es:decide (a<0)=decide (a+b<0):=by
   by_cases h1:a<0<;>by_cases h2:b<0<;>simp[h1,h2] at hs⊢ <;>omega
  refine zE (zR rfl (A7 ?_))
  refine BU (X:= { x:NV//Ce x (lbs br (a+b).natAbs) }) [true,true,true,true,true,true,false,false,false] (fun _=>[(4,Ax b4)]) (fun x=>[M4 b2 a p cap,M4 b3 b q cap2,⟨b4,191,[.bool (decide (a+b<0)),BG x.1 (lbs br (a+b).natAbs).length],true,none⟩,BH x.1 (lbs br (a+b).natAbs)])
   3 [M4 b2 a p cap,M4 b3 b q cap2,⟨b4,191,[.bool false, .slice none 0 0],true,none⟩] Tryz.mixed (by kernel_rfl) ?_ ?_
  ·refine qP rfl (qB 0 rfl rfl rfl (qP rfl (qB 0 rfl rfl rfl (qP rfl (qB 1 rfl rfl rfl (Dd ?_))))))
   refine wX ?_
   refine RS.cons ?_ (RS.nil)
   refine Au (X:=NV) rfl rfl rfl rfl rfl rfl (by kernel_rfl) (fun W' hp=>Qf W' p q cap cap2 a.natAbs b.natAbs (hA.hp hp) (hB.hp hp) (by omega) (by omega)) ?_;intro x hx
   refine Aa (Al ?_)
   refine wX ?_
   refine RS.cons ?_ (RS.nil)
   refine AA Tryz.hZ tH rfl rfl rfl rfl rfl rfl rfl rfl ?_
   refine Aa (Al ?_)
   refine wX ?_
   refine RS.cons ?_ (RS.nil)
   refine wS 2 rfl rfl rfl (Aa (Al ?_))
   rw[←en] at hx⊢;first|refine B8 rfl (by((repeat (first|refine Bu.same ?_|refine Bu.off rfl ?_));exact trivial)) ?_|refine AJ rfl (by kernel_rfl) ?_
   exact AD ⟨x,hx⟩ ⟨rfl,trivial⟩ [0,1,2,3] (by decide) (by rw[es];rfl)
  rintro⟨x,hx⟩
  refine zE (zO (zP ?_))
  exact Af tH rfl (.cell 2 rfl rfl rfl rfl rfl) x rfl hx fun W hp=>Ae.of_hp1 hp 3 rfl
 refine DZ (c:=false) Tryz.underlying4 rfl rfl rfl rfl rfl (congrArg some (beq_eq_false_iff_ne.2 hs)) ?_
 refine Aa (zE (zS rfl (zI (zE (zA (zA (zB (wP rfl (wB 0 rfl rfl rfl (wP rfl (wB 1 rfl rfl rfl ?_)))))))))))
 refine Ac rfl rfl rfl rfl rfl rfl (by kernel_rfl) (fun W' hp=>JU W' p q cap cap2 a.natAbs b.natAbs (hA.hp hp) (hB.hp hp) (by omega) (by omega)) ?_
 refine wP rfl ?_
 refine Ab 24 (.bool (decide (a.natAbs<b.natAbs))) rfl (congrArg Value.bool (decide_eq_decide.2 (by unfold LO;split<;>(try split)<;>omega))) ?_
 refine Aa (AC ?_)
 try refine A7 ?_
 refine AK (X:=(Int×Option Addr×Nat)×(Int×Option Addr×Nat)) (fun _=>[(2,Ax b2),(3,Ax b3),(4,Ax b4)]) (fun x=>[M4 b2 x.1.1 x.1.2.1 x.1.2.2,M4 b3 x.2.1 x.2.2.1 x.2.2.2,⟨b4,191,[.bool false, .slice none 0 0],true,none⟩])
  (fun x=>A4 W x.1.2.1 (lbs br x.1.1.natAbs)∧A4 W x.2.2.1 (lbs br x.2.1.natAbs)∧x.2.1.natAbs≤x.1.1.natAbs∧x.1.1+x.2.1=a+b∧(decide (x.1.1<0)≠decide (x.2.1<0))∧(lbs br x.1.1.natAbs).length≤1000) ?_ ?_
 ·refine Ak rfl (fun h=> ?_) (fun h=> ?_)
  ·have h:a.natAbs<b.natAbs:=of_decide_eq_true h
   refine zB (wB 1 rfl rfl rfl (wB 0 rfl rfl rfl (wS 0 rfl rfl rfl (wS 1 rfl rfl rfl (Aa ?_)))))
   exact At ((b,q,cap2),(a,p,cap)) ⟨hB,hA,Nat.le_of_lt h,Int.add_comm ..,Ne.symm hs,hnb⟩ ⟨rfl,rfl,rfl,trivial⟩ [] rfl
  ·have h: ¬a.natAbs<b.natAbs:=of_decide_eq_false h
   refine zI ?_
   exact At ((a,p,cap),(b,q,cap2)) ⟨hA,hB,by show b.natAbs≤a.natAbs;omega,rfl,hs,hna⟩ ⟨rfl,rfl,rfl,trivial⟩ [] rfl
 rintro⟨⟨u,pu,cu⟩,⟨v,pv,cv⟩⟩ ⟨hU,hV,hle,hsum,hsg,hul⟩
 have hU:A4 W pu (lbs br u.natAbs):=hU
 have hV:A4 W pv (lbs br v.natAbs):=hV
 have hle:v.natAbs≤u.natAbs:=hle
 have hsum:u+v=a+b:=hsum
 have hsg:decide (u<0)≠decide (v<0):=hsg
 have hul:(lbs br u.natAbs).length≤1000:=hul
 have en:(a+b).natAbs=u.natAbs-v.natAbs:=by
  rw[←hsum]
  by_cases h1:u<0<;>by_cases h2:v<0<;>simp[h1,h2] at hsg<;>omega
 have es:(a+b).natAbs≠0→decide (u<0)=decide (a+b<0):=fun h0=>by
  rw[←hsum] at h0⊢
  by_cases h1:u<0<;>by_cases h2:v<0<;>simp[h1,h2] at hsg⊢ <;>omega
 refine A7 ?_
 refine BU (X:= { y:Nat×NV//Ce y.2 (lbs br (a+b).natAbs) }) [true,true,true,true,true,true,false,false,false,false] (fun y=>[(4,Ax b4),(5,Ax y.1.1)]) (fun y=>[⟨b4,191,[.bool false, .slice none 0 0],true,none⟩,⟨y.1.1,191,[.bool (decide (u<0)),BG y.1.2 (lbs br (a+b).natAbs).length],true,none⟩,BH y.1.2 (lbs br (a+b).natAbs)])
  4 [M4 b2 u pu cu,M4 b3 v pv cv,⟨b4,191,[.bool false, .slice none 0 0],true,none⟩] Tryz.mixed (by kernel_rfl) ?_ ?_
 ·refine qP rfl (qB 0 rfl rfl rfl (qP rfl (qB 0 rfl rfl rfl (qP rfl (qB 1 rfl rfl rfl (Dd ?_))))))
  refine wX ?_
  refine RS.cons ?_ (RS.cons ?_ (RS.nil))
  ·refine Au (X:=NV) rfl rfl rfl rfl rfl rfl (by kernel_rfl) (fun W' hp=>E7 W' pu pv cu cv u.natAbs v.natAbs hle (hU.hp hp) (hV.hp hp) (by omega)) ?_;intro x hx
   refine Aa (Al ?_)
   refine wX ?_
   refine RS.cons ?_ (RS.cons ?_ (RS.nil))
   ·refine AA Tryz.hZ tH rfl rfl rfl rfl rfl rfl rfl rfl ?_
    refine Aa (Al ?_)
    refine wX ?_
    refine RS.cons ?_ (RS.nil)
    refine Ao Tryz.hZ rfl rfl rfl rfl ?_;intro b5
    refine Aa (Al ?_)
    refine wX ?_
    refine RS.cons ?_ (RS.nil)
    refine wS 4 rfl rfl rfl (Aa (Al ?_))
    rw[←en] at hx⊢;first|refine B8 rfl (by((repeat (first|refine Bu.same ?_|refine Bu.off rfl ?_));exact trivial)) ?_|refine AJ rfl (by kernel_rfl) ?_
    exact AD ⟨(b5,x),hx⟩ ⟨rfl,rfl,trivial⟩ [2,4,3] (by decide) rfl
   ·refine Ao Tryz.hZ rfl rfl rfl rfl ?_;intro b5
    refine Aa (Al ?_)
    refine wX ?_
    refine RS.cons ?_ (RS.nil)
    refine AA Tryz.hZ tH rfl rfl rfl rfl rfl rfl rfl rfl ?_
    refine Aa (Al ?_)
    refine wX ?_
    refine RS.cons ?_ (RS.nil)
    refine wS 4 rfl rfl rfl (Aa (Al ?_))
    rw[←en] at hx⊢;first|refine B8 rfl (by((repeat (first|refine Bu.same ?_|refine Bu.off rfl ?_));exact trivial)) ?_|refine AJ rfl (by kernel_rfl) ?_
    exact AD ⟨(b5,x),hx⟩ ⟨rfl,rfl,trivial⟩ [2,4,3] (by decide) rfl
  ·refine Ao Tryz.hZ rfl rfl rfl rfl ?_;intro b5
   refine Aa (Al ?_)
   refine wX ?_
   refine RS.cons ?_ (RS.nil)
   refine Au (X:=NV) rfl rfl rfl rfl rfl rfl (by kernel_rfl) (fun W' hp=>E7 W' pu pv cu cv u.natAbs v.natAbs hle (hU.hp hp) (hV.hp hp) (by omega)) ?_;intro x hx
   refine Aa (Al ?_)
   refine wX ?_
   refine RS.cons ?_ (RS.nil)
   refine AA Tryz.hZ tH rfl rfl rfl rfl rfl rfl rfl rfl ?_
   refine Aa (Al ?_)
   refine wX ?_
   refine RS.cons ?_ (RS.nil)
   refine wS 3 rfl rfl rfl (Aa (Al ?_))
   rw[←en] at hx⊢;first|refine B8 rfl (by((repeat (first|refine Bu.same ?_|refine Bu.off rfl ?_));exact trivial)) ?_|refine AJ rfl (by kernel_rfl) ?_
   exact AD ⟨(b5,x),hx⟩ ⟨rfl,rfl,trivial⟩ [2,3,4] (by decide) rfl
 rintro⟨⟨b5,x⟩,hx⟩
 have hx:Ce x (lbs br (a+b).natAbs):=hx
 refine zE (zA (zA (zB (wP rfl (wB 1 rfl rfl rfl (wP rfl (wP rfl ?_)))))))
 refine Ab 38 (.bool (decide ((a+b).natAbs=0))) rfl (congrArg Value.bool (by
  by_cases h0:(a+b).natAbs=0
  ·rw[decide_eq_true h0,h0,Bc];rfl
  ·have hL:(lbs br (a+b).natAbs).length≠0:=fun e=>h0 ((Dr br2).1 (List.length_eq_zero_iff.1 e))
   rw[decide_eq_false h0,beq_eq_false_iff_ne];omega)) ?_
 refine Aa (AC ?_)
 try refine A7 ?_
 refine AK (X:=Unit) (fun _=>[(4,Ax b4),(5,Ax b5)]) (fun _=>[⟨b4,191,[.bool false, .slice none 0 0],true,none⟩,⟨b5,191,[.bool (decide (a+b<0)),BG x (lbs br (a+b).natAbs).length],true,none⟩,BH x (lbs br (a+b).natAbs)]) (fun _=>True) ?_ ?_
 ·refine Ak rfl (fun h=> ?_) (fun h=> ?_)
  ·have h:(a+b).natAbs=0:=of_decide_eq_true h
   refine zB (wP rfl (wS 1 rfl rfl rfl (Aa ?_)))
   exact At () trivial ⟨rfl,rfl,trivial⟩ [] (by rw[decide_eq_false (show¬a+b<0 by omega)];rfl)
  ·have h: ¬(a+b).natAbs=0:=of_decide_eq_false h
   refine zI ?_
   exact At () trivial ⟨rfl,rfl,trivial⟩ [] (by rw[←es h];rfl)
 intro _ _
 refine zA (zB (wB 1 rfl rfl rfl (wS 0 rfl rfl rfl (Aa (zE (zO ?_))))))
 exact Af tH rfl (.cell 0 rfl rfl rfl rfl rfl) x rfl hx fun W hp=>Ae.of_hp1 hp 2 rfl
theorem Lu (a b:Int) (W:World) (p q:Option Addr) (cap cap2:Nat) (hA:A4 W p (lbs br a.natAbs)) (hB:A4 W q (lbs br b.natAbs)) (hna:(lbs br a.natAbs).length≤1000) (hnb:(lbs br b.natAbs).length≤1000):
  Aj Tryz.prog 208 #[Ix a p cap,Ix b q cap2] W (fun x:NV=>Xc (a*b) x) (fun x=>Ce x (lbs br (a*b).natAbs)) (fun x=>[BH x (lbs br (a*b).natAbs)]):=by
 have en:(a*b).natAbs=a.natAbs*b.natAbs:=Int.natAbs_mul a b
 have es:(a*b).natAbs≠0→(decide (a<0) !=decide (b<0))=decide (a*b<0):=fun h0=>by
  rw[en] at h0
  have ha:a≠0:=fun e=>h0 (by rw[e];simp)
  have hb:b≠0:=fun e=>h0 (by rw[e];simp)
  by_cases h1:a<0<;>by_cases h2:b<0
  ·rw[decide_eq_true h1,decide_eq_true h2,decide_eq_false (by have:=Int.mul_pos_of_neg_of_neg h1 h2;omega)];rfl
  ·rw[decide_eq_true h1,decide_eq_false h2,decide_eq_true (Int.mul_neg_of_neg_of_pos h1 (by omega))];rfl
  ·rw[decide_eq_false h1,decide_eq_true h2,decide_eq_true (Int.mul_neg_of_pos_of_neg (by omega) h2)];rfl
  ·rw[decide_eq_false h1,decide_eq_false h2,decide_eq_false (by have:=Int.mul_pos (show 0<a by omega) (show 0<b by omega);omega)];rfl
 refine Ad (args:=[Ix a p cap,Ix b q cap2]) Tryz.func208 rfl rfl rfl ?_
 refine zA (zB ?_)
 (refine A8 rfl rfl rfl rfl ?_;intro)
 (refine A8 rfl rfl rfl rfl ?_;intro)
 (refine Ao Tryz.hZ rfl rfl rfl rfl ?_;intro)
 refine Aa ?_
 rename_i b2 b3 b4
 refine zE (A7 ?_)
 refine BU (X:= { y:Nat×NV//Ce y.2 (lbs br (a*b).natAbs) }) [true,true,true,true,true,true,true,true,true,false,false,false,false] (fun y=>[(4,Ax b4),(5,Ax y.1.1)]) (fun y=>[⟨b4,191,[.bool false, .slice none 0 0],true,none⟩,⟨y.1.1,191,[.bool (decide (a<0) !=decide (b<0)),BG y.1.2 (lbs br (a*b).natAbs).length],true,none⟩,BH y.1.2 (lbs br (a*b).natAbs)])
  4 [M4 b2 a p cap,M4 b3 b q cap2,⟨b4,191,[.bool false, .slice none 0 0],true,none⟩] Tryz.mixed (by kernel_rfl) ?_ ?_
 ·refine qP rfl (qB 0 rfl rfl rfl (qP rfl (qB 1 rfl rfl rfl ?_)))
  refine J8 Tryz.underlying4 rfl rfl rfl rfl rfl rfl ?_
  refine qP rfl (qB 0 rfl rfl rfl (qP rfl (qB 1 rfl rfl rfl (Dd ?_))))
  refine wX ?_
  refine RS.cons ?_ (RS.cons ?_ (RS.nil))
  ·refine Au (X:=NV) rfl rfl rfl rfl rfl rfl (by kernel_rfl) (fun W' hp=>IN W' p q cap cap2 a.natAbs b.natAbs (hA.hp hp) (hB.hp hp) (by omega) (by omega)) ?_;intro x hx
   refine Aa (Al ?_)
   refine wX ?_
   refine RS.cons ?_ (RS.cons ?_ (RS.nil))
   ·refine AA Tryz.hZ tH rfl rfl rfl rfl rfl rfl rfl rfl ?_
    refine Aa (Al ?_)
    refine wX ?_
    refine RS.cons ?_ (RS.nil)
    refine Ao Tryz.hZ rfl rfl rfl rfl ?_;intro b5
    refine Aa (Al ?_)
    refine wX ?_
    refine RS.cons ?_ (RS.nil)
    refine wS 4 rfl rfl rfl (Aa (Al ?_))
    rw[←en] at hx⊢;first|refine B8 rfl (by((repeat (first|refine Bu.same ?_|refine Bu.off rfl ?_));exact trivial)) ?_|refine AJ rfl (by kernel_rfl) ?_
    exact AD ⟨(b5,x),hx⟩ ⟨rfl,rfl,trivial⟩ [2,4,3] (by decide) rfl
   ·refine Ao Tryz.hZ rfl rfl rfl rfl ?_;intro b5
    refine Aa (Al ?_)
    refine wX ?_
    refine RS.cons ?_ (RS.nil)
    refine AA Tryz.hZ tH rfl rfl rfl rfl rfl rfl rfl rfl ?_
    refine Aa (Al ?_)
    refine wX ?_
    refine RS.cons ?_ (RS.nil)
    refine wS 4 rfl rfl rfl (Aa (Al ?_))
    rw[←en] at hx⊢;first|refine B8 rfl (by((repeat (first|refine Bu.same ?_|refine Bu.off rfl ?_));exact trivial)) ?_|refine AJ rfl (by kernel_rfl) ?_
    exact AD ⟨(b5,x),hx⟩ ⟨rfl,rfl,trivial⟩ [2,4,3] (by decide) rfl
  ·refine Ao Tryz.hZ rfl rfl rfl rfl ?_;intro b5
   refine Aa (Al ?_)
   refine wX ?_
   refine RS.cons ?_ (RS.nil)
   refine Au (X:=NV) rfl rfl rfl rfl rfl rfl (by kernel_rfl) (fun W' hp=>IN W' p q cap cap2 a.natAbs b.natAbs (hA.hp hp) (hB.hp hp) (by omega) (by omega)) ?_;intro x hx
   refine Aa (Al ?_)
   refine wX ?_
   refine RS.cons ?_ (RS.nil)
   refine AA Tryz.hZ tH rfl rfl rfl rfl rfl rfl rfl rfl ?_
   refine Aa (Al ?_)
   refine wX ?_
   refine RS.cons ?_ (RS.nil)
   refine wS 3 rfl rfl rfl (Aa (Al ?_))
   rw[←en] at hx⊢;first|refine B8 rfl (by((repeat (first|refine Bu.same ?_|refine Bu.off rfl ?_));exact trivial)) ?_|refine AJ rfl (by kernel_rfl) ?_
   exact AD ⟨(b5,x),hx⟩ ⟨rfl,rfl,trivial⟩ [2,3,4] (by decide) rfl
 rintro⟨⟨b5,x⟩,hx⟩
 have hx:Ce x (lbs br (a*b).natAbs):=hx
 refine zE (zA (zA (zB (wP rfl (wB 1 rfl rfl rfl (wP rfl (wP rfl ?_)))))))
 refine Ab 20 (.bool (decide ((a*b).natAbs=0))) rfl (congrArg Value.bool (by
  by_cases h0:(a*b).natAbs=0
  ·rw[decide_eq_true h0,h0,Bc];rfl
  ·have hL:(lbs br (a*b).natAbs).length≠0:=fun e=>h0 ((Dr br2).1 (List.length_eq_zero_iff.1 e))
   rw[decide_eq_false h0,beq_eq_false_iff_ne];omega)) ?_
 refine Aa (AC ?_)
 try refine A7 ?_
 refine AK (X:=Unit) (fun _=>[(4,Ax b4),(5,Ax b5)]) (fun _=>[⟨b4,191,[.bool false, .slice none 0 0],true,none⟩,⟨b5,191,[.bool (decide (a*b<0)),BG x (lbs br (a*b).natAbs).length],true,none⟩,BH x (lbs br (a*b).natAbs)]) (fun _=>True) ?_ ?_
 ·refine Ak rfl (fun h=> ?_) (fun h=> ?_)
  ·have h:(a*b).natAbs=0:=of_decide_eq_true h
   refine zB (wP rfl (wS 1 rfl rfl rfl (Aa ?_)))
   exact At () trivial ⟨rfl,rfl,trivial⟩ [] (by rw[decide_eq_false (show¬a*b<0 by omega)];rfl)
  ·have h: ¬(a*b).natAbs=0:=of_decide_eq_false h
   refine zI ?_
   exact At () trivial ⟨rfl,rfl,trivial⟩ [] (by rw[←es h];rfl)
 intro _ _
 refine zA (zB (wB 1 rfl rfl rfl (wS 0 rfl rfl rfl (Aa (zE (zO ?_))))))
 exact Af tH rfl (.cell 0 rfl rfl rfl rfl rfl) x rfl hx fun W hp=>Ae.of_hp1 hp 2 rfl
-- BOXES 6
-- CODE2
theorem NM {z:Int} (h:(decDigits z.natAbs).length≤300):(itoa z).length≤301:=by
 rw[Dh,List.length_append]
 have:=OE z
 omega
theorem N0 {a b:Int} (h:(smI a&&smI b)=true):AX Tryz.prog 144 [str (itoa a),str (itoa b)] (.tuple #[.int .i64 a, .int .i64 b, .bool true]):=fun W=>by
 obtain⟨h1,h2⟩:=Bool.and_eq_true_iff.1 h
 have l1:(itoa a).length≤17:=of_decide_eq_true h1
 have l2:(itoa b).length≤17:=of_decide_eq_true h2
 have:=Mb a b (by omega) (by omega) W
 rw[h1,h2] at this
 exact this
theorem Nu {a b:Int} (h:(smI a&&smI b)=false) (ha:(decDigits a.natAbs).length≤300) (hb:(decDigits b.natAbs).length≤300): ∃x y:Int,AX Tryz.prog 144 [str (itoa a),str (itoa b)] (.tuple #[.int .i64 x, .int .i64 y, .bool false]):=
 ⟨_,_,fun W=>by
  have l1:=NM ha
  have l2:=NM hb
  have:=Mb a b (by omega) (by omega) W
  rw[h] at this
  exact this⟩
theorem KD (a b:Int) (ha:(decDigits a.natAbs).length≤300) (hb:(decDigits b.natAbs).length≤300) (hab:(decDigits (a*b).natAbs).length≤300) (W:World) (ht:AV W):
  Aj Tryz.prog 142 #[str (itoa a),str (itoa b)] W (fun _:Unit=> .tuple #[str (itoa (a*b)), .int .i64 0]) (fun _=>True) (fun _=>[]):=by
 have la:=EI (m:=a.natAbs) (by omega)
 have lb:=EI (m:=b.natAbs) (by omega)
 have l1:=NM ha
 have l2:=NM hb
 refine Ad (args:=[str (itoa a),str (itoa b)]) Tryz.func142 rfl rfl rfl ?_
 refine zA (zB (wP rfl (wP rfl (Aa (zE (zA (zA (zB (wP rfl (wP rfl ?_))))))))))
 refine Ac rfl rfl rfl rfl rfl rfl (by kernel_rfl) (fun W _=>Hx a b ha hb W) ?_
 refine wP rfl (Aa (zE (zA (zB (wP rfl (wP rfl (Aa (zE (zS rfl (zI (zE (zA (zA ?_)))))))))))))
 refine zB ?_
 cases hs:smI a&&smI b with
 |true=>
  refine wP rfl (wP rfl ?_)
  refine Ac rfl rfl rfl rfl rfl rfl (by kernel_rfl) (fun W _=>N0 hs W) ?_
  iterate 7 refine wP rfl ?_
  refine Aa (zE (zA (zB (wP rfl (wP rfl (wP rfl (wP rfl ?_)))))))
  refine Ab 26 (.int .i64 ((itoa a).length:Nat)) rfl (congrArg (fun n:Nat=>Value.int .i64 (n:Int)) (AF _)) ?_
  refine wP rfl (wP rfl ?_)
  refine Ab 28 (.int .i64 ((itoa b).length:Nat)) rfl (congrArg (fun n:Nat=>Value.int .i64 (n:Int)) (AF _)) ?_
  refine wP rfl ?_
  refine Ab 29 (.int .i64 (((itoa a).length+(itoa b).length:Nat):Int)) rfl (congrArg (Value.int .i64) (AQ (by omega))) ?_
  refine wP rfl ?_
  refine Ab 30 (.bool (decide ((itoa a).length+(itoa b).length≤18))) rfl (congrArg Value.bool (decide_eq_decide.2 (by omega))) ?_
  refine wP rfl (Aa (zE ?_))
  refine Ak rfl (fun h18=> ?_) (fun h18=> ?_)
  ·have h18:(itoa a).length+(itoa b).length≤18:=of_decide_eq_true h18
   have hm:(a*b).natAbs<1000000000000000000:=by
    have p1:=Hk a.natAbs
    have p2:=Hk b.natAbs
    have q1:(decDigits a.natAbs).length≤(itoa a).length:=by rw[Dh,List.length_append];omega
    have q2:(decDigits b.natAbs).length≤(itoa b).length:=by rw[Dh,List.length_append];omega
    rw[Int.natAbs_mul]
    have r1:=Nat.mul_lt_mul'' p1 p2
    rw[←Nat.pow_add] at r1
    exact Nat.lt_of_lt_of_le r1 (show _≤10^18 from Nat.pow_le_pow_right (by decide) (by omega))
   refine zA (zB (wP rfl (wP rfl (wP rfl ?_))))
   refine Ab 34 (.int .i64 (a*b)) rfl (congrArg (Value.int .i64) (An (by omega) (by omega))) ?_
   refine Ac rfl rfl rfl rfl rfl rfl (by kernel_rfl) (fun W hp=>BA (a*b) (by omega) (by omega) W (ht.hp hp)) ?_
   refine wP rfl (wP rfl (Aa (zE (zO (zP ?_)))))
   exact Ar tH rfl (.tmp rfl) (.tmp rfl) () rfl trivial fun W _=>Ae.nil _ _
  ·refine zI (zE (zA (zB (wP rfl ?_))))
   refine Au (X:=NV) rfl rfl rfl rfl rfl rfl (by kernel_rfl) (fun W' _=>C6 a (by omega) W') ?_
   intro x hx
   refine wP rfl ?_
   refine Au (X:=NV) rfl rfl rfl rfl rfl rfl (by kernel_rfl) (fun W' _=>C6 b (by omega) W') ?_
   intro y hy
   refine Au (X:=NV) rfl rfl rfl rfl rfl rfl (by kernel_rfl) (fun W' hp=>Lu a b W' (some ⟨x.1,0,none⟩) (some ⟨y.1,0,none⟩) x.2.1 y.2.1 (A4.of_bx hp 0 rfl) (A4.of_bx hp 1 rfl) (by omega) (by omega)) ?_
   intro w hw
   refine Ac rfl rfl rfl rfl rfl rfl (by kernel_rfl) (fun W' hp=>HN (a*b) hab W' (some ⟨w.1,0,none⟩) w.2.1 (A4.of_bx hp 2 rfl)) ?_
   refine wP rfl (wP rfl (wP rfl (wP rfl (Aa (zE (zO ?_))))))
   exact Ar tH rfl (.tmp rfl) (.tmp rfl) () rfl trivial fun W _=>Ae.nil _ _
 |false=>
  obtain⟨x0,y0,h2⟩:=Nu hs ha hb
  refine wP rfl (wP rfl ?_)
  refine Ac rfl rfl rfl rfl rfl rfl (by kernel_rfl) (fun W _=>h2 W) ?_
  iterate 7 refine wP rfl ?_
  refine Aa (zE (zA (zB (wP rfl (wP rfl ?_)))))
  iterate 6 refine Ah rfl rfl ?_
  refine wP rfl (Aa (zE (zS rfl (zI (zE (zA (zB (wP rfl ?_))))))))
  refine Au (X:=NV) rfl rfl rfl rfl rfl rfl (by kernel_rfl) (fun W' _=>C6 a (by omega) W') ?_
  intro x hx
  refine wP rfl ?_
  refine Au (X:=NV) rfl rfl rfl rfl rfl rfl (by kernel_rfl) (fun W' _=>C6 b (by omega) W') ?_
  intro y hy
  refine Au (X:=NV) rfl rfl rfl rfl rfl rfl (by kernel_rfl) (fun W' hp=>Lu a b W' (some ⟨x.1,0,none⟩) (some ⟨y.1,0,none⟩) x.2.1 y.2.1 (A4.of_bx hp 0 rfl) (A4.of_bx hp 1 rfl) (by omega) (by omega)) ?_
  intro w hw
  refine Ac rfl rfl rfl rfl rfl rfl (by kernel_rfl) (fun W' hp=>HN (a*b) hab W' (some ⟨w.1,0,none⟩) w.2.1 (A4.of_bx hp 2 rfl)) ?_
  refine wP rfl (wP rfl (wP rfl (wP rfl (Aa (zE (zO ?_))))))
  exact Ar tH rfl (.tmp rfl) (.tmp rfl) () rfl trivial fun W _=>Ae.nil _ _
theorem Rf (a b:Int) (ha:(decDigits a.natAbs).length≤300) (hb:(decDigits b.natAbs).length≤300) (W:World):
  Aj Tryz.prog 67 #[str (itoa a),str (itoa b)] W (fun _:Unit=> .tuple #[.int .i64 (FV a b), .int .i64 0]) (fun _=>True) (fun _=>[]):=by
 have la:=EI (m:=a.natAbs) (by omega)
 have lb:=EI (m:=b.natAbs) (by omega)
 refine Ad (args:=[str (itoa a),str (itoa b)]) Tryz.func67 rfl rfl rfl ?_
 refine zA (zB (wP rfl (wP rfl (Aa (zE (zA (zA (zB (wP rfl (wP rfl ?_))))))))))
 refine Ac rfl rfl rfl rfl rfl rfl (by kernel_rfl) (fun W _=>Hx a b ha hb W) ?_
 refine wP rfl (Aa (zE (zA (zB (wP rfl (wP rfl (Aa (zE (zS rfl (zI (zE (zA (zA ?_)))))))))))))
 refine zB ?_
 cases hs:smI a&&smI b with
 |true=>
  refine wP rfl (wP rfl ?_)
  refine Ac rfl rfl rfl rfl rfl rfl (by kernel_rfl) (fun W _=>N0 hs W) ?_
  iterate 7 refine wP rfl ?_
  refine Aa (zE (zA (zB (wP rfl (Aa (zE (zR rfl (zA (zA (zB (wP rfl (wP rfl (wP rfl ?_)))))))))))))
  by_cases h1:a<b
  ·refine Ab 27 (.bool true) rfl (congrArg Value.bool (decide_eq_true h1)) ?_
   refine Aa (zE (zR rfl (zA (zB (wP rfl (wP rfl (Aa (zE (zO (zP (zP ?_)))))))))))
   exact Ar tH rfl (.tmp rfl) (.tmp rfl) () (by rw[FV,if_pos h1]) trivial fun W _=>Ae.nil _ _
  refine Ab 27 (.bool false) rfl (congrArg Value.bool (decide_eq_false h1)) ?_
  refine Aa (zE (zS rfl (zI (zE (zA (zA (zB (wP rfl (wP rfl (wP rfl ?_))))))))))
  by_cases h2:b<a
  ·refine Ab 30 (.bool true) rfl (congrArg Value.bool (decide_eq_true h2)) ?_
   refine Aa (zE (zR rfl (zA (zB (wP rfl (wP rfl (Aa (zE (zO (zP (zP ?_)))))))))))
   exact Ar tH rfl (.tmp rfl) (.tmp rfl) () (by rw[FV,if_neg h1,if_neg (by omega)]) trivial fun W _=>Ae.nil _ _
  refine Ab 30 (.bool false) rfl (congrArg Value.bool (decide_eq_false h2)) ?_
  refine Aa (zE (zS rfl (zI (zE (zA (zB (wP rfl (wP rfl (Aa (zE (zO (zP ?_))))))))))))
  exact Ar tH rfl (.tmp rfl) (.tmp rfl) () (by rw[FV,if_neg h1,if_pos (by omega)]) trivial fun W _=>Ae.nil _ _
 |false=>
  obtain⟨x0,y0,h2⟩:=Nu hs ha hb
  refine wP rfl (wP rfl ?_)
  refine Ac rfl rfl rfl rfl rfl rfl (by kernel_rfl) (fun W _=>h2 W) ?_
  iterate 7 refine wP rfl ?_
  refine Aa (zE (zA (zB (wP rfl (Aa (zE (zS rfl (zI (zE (zA (zB (wP rfl ?_))))))))))))
  refine Au (X:=NV) rfl rfl rfl rfl rfl rfl (by kernel_rfl) (fun W' _=>C6 a (by omega) W') ?_
  intro x hx
  refine wP rfl ?_
  refine Au (X:=NV) rfl rfl rfl rfl rfl rfl (by kernel_rfl) (fun W' _=>C6 b (by omega) W') ?_
  intro y hy
  refine Ac rfl rfl rfl rfl rfl rfl (by kernel_rfl) (fun W' hp=>Re b W' (some ⟨y.1,0,none⟩) y.2.1) ?_
  refine Au (X:=NV) rfl rfl rfl rfl rfl rfl (by kernel_rfl) (fun W' hp=>Qs a (-b) W' (some ⟨x.1,0,none⟩) (some ⟨y.1,0,none⟩) x.2.1 y.2.1 (A4.of_bx hp 0 rfl) (by rw[Int.natAbs_neg];exact A4.of_bx hp 1 rfl) (by omega) (by rw[Int.natAbs_neg];omega)) ?_
  intro w hw
  (refine Ao Tryz.hZ rfl rfl rfl rfl ?_;intro)
  refine wS 3 rfl rfl rfl (Aa ?_)
  rename_i b10
  refine zE (zA (zA (zB (wP rfl (wB 3 rfl rfl rfl (wP rfl (wP rfl ?_)))))))
  refine Ab 40 (.bool (decide (a=b))) rfl (congrArg Value.bool (by
   by_cases h0:a=b
   ·rw[decide_eq_true h0,show(a+ -b).natAbs=0 by omega,Bc];rfl
   ·have hL:(lbs br (a+ -b).natAbs).length≠0:=fun e=>by have:=(Dr br2).1 (List.length_eq_zero_iff.1 e);omega
    rw[decide_eq_false h0,beq_eq_false_iff_ne];omega)) ?_
  refine Aa (zE ?_)
  refine Ak rfl (fun h0=> ?_) (fun h0=> ?_)
  ·have h0:a=b:=of_decide_eq_true h0
   refine zA (zB (wP rfl (wP rfl (Aa (zE (zO (zP ?_)))))))
   exact Ar tH rfl (.tmp rfl) (.tmp rfl) () (by rw[FV,if_neg (by omega),if_pos h0]) trivial fun W _=>Ae.nil _ _
  have h0: ¬a=b:=of_decide_eq_false h0
  refine zI (zE (zA (zA (zB (wP rfl (wB 3 rfl rfl rfl (Aa (zE ?_))))))))
  refine Ak rfl (fun h1=> ?_) (fun h1=> ?_)
  ·have h1:a+ -b<0:=of_decide_eq_true h1
   refine zA (zB (wP rfl (wP rfl (Aa (zE (zO (zP ?_)))))))
   exact Ar tH rfl (.tmp rfl) (.tmp rfl) () (by rw[FV,if_pos (by omega)]) trivial fun W _=>Ae.nil _ _
  ·have h1: ¬a+ -b<0:=of_decide_eq_false h1
   refine zI (zE (zA (zB (wP rfl (wP rfl (Aa (zE (zO ?_))))))))
   exact Ar tH rfl (.tmp rfl) (.tmp rfl) () (by rw[FV,if_neg (by omega),if_neg h0]) trivial fun W _=>Ae.nil _ _
-- BOXES 4
-- CODE2
theorem Ov (r:Nat):lv br [r]=r:=by show r+br*0=r;rw[Nat.mul_zero,Nat.add_zero]
theorem NR (W:World) (p:Option Addr) (cap a dv:Nat) (hA:A4 W p (lbs br a)) (hna:(lbs br a).length≤1000000) (hd0:0<dv) (hd1:dv<br):
  Aj Tryz.prog 301 #[slv p (lbs br a).length cap, .int .i64 (dv:Nat)] W (fun x:NV×NV=> .tuple #[BG x.1 (lbs br (a/dv)).length,BG x.2 (lbs br (a%dv)).length]) (fun x=>Ce x.1 (lbs br (a/dv))∧Ce x.2 (lbs br (a%dv))) (fun x=>[BH x.1 (lbs br (a/dv)),BH x.2 (lbs br (a%dv))]):=by
 obtain⟨K,hK⟩: ∃K,(lbs br a).length=K:=⟨_,rfl⟩
 have hd1':dv<1000000:=hd1
 have hal:=AL br2 a
 rw[hK] at hna hal
 refine Ad (args:=[slv p (lbs br a).length cap, .int .i64 (dv:Nat)]) Tryz.func301 rfl rfl rfl ?_
 rw[hK]
 refine zA (zB (wP rfl (wP rfl (Aa (zE (zA (zB (wP rfl (wP rfl ?_)))))))))
 refine Cm Tryz.vec58 K rfl rfl rfl rfl rfl rfl rfl (by simp only[maxLen];omega) (by omega) ?_
 intro g
 have ez:By (Value.cells (.int .i64 0)).toList K=nI (List.replicate K 0)++[]:=by rw[List.append_nil];exact EL K
 rw[ez]
 refine wP rfl (Aa (zE (zA (zB (wP rfl (Aa (zE (zA (zA (zB (wP rfl (wP rfl (wP rfl ?_)))))))))))))
 refine Ab 14 (.int .i64 ((K:Int)-1)) rfl (congrArg (Value.int .i64) (An (by omega) (by omega))) ?_
 refine wP rfl (Aa (zE (zH ?_)))
 refine Av (X:=Nat×List Nat×Nat×Nat) (fun x=>[(0,slv p K cap),(1, .int .i64 (dv:Nat)),(6,slv (some ⟨g,0,none⟩) K K),(7, .int .i64 (x.2.2.2:Nat)),(8, .int .i64 ((x.1:Nat)-1:Int))]) (fun x=>[⟨g,3,nI x.2.1++[],true,none⟩])
  (fun x=>x.1≤K∧x.2.1.length=K∧(∀y∈x.2.1,y<br)∧lv br x.2.1=br^x.1*x.2.2.1∧a/br^x.1=x.2.2.1*dv+x.2.2.2∧x.2.2.2<dv) (fun x=>x.1) (K,List.replicate K 0,0,0) ⟨Nat.le_refl _,List.length_replicate,GK (by decide) K,by rw[Er];show 0=br^K*0;rw[Nat.mul_zero],by show a/br^K=0*dv+0;rw[Nat.div_eq_of_lt hal];omega,hd0⟩ ⟨rfl,rfl,rfl,rfl,rfl,trivial⟩ [] rfl ?_
 rintro⟨k,l,qh,rs⟩ ⟨hk,hl,hlb,hlv,hq,hr⟩
 have hk:k≤K:=hk
 have hl:l.length=K:=hl
 have hlv:lv br l=br^k*qh:=hlv
 have hq:a/br^k=qh*dv+rs:=hq
 have hr:rs<dv:=hr
 refine zA (zA (zB (wP rfl (wP rfl ?_))))
 cases k with
 |zero=>
  have hq:a=qh*dv+rs:=by simpa using hq
  have hlv:lv br l=qh:=by rw[hlv];simp
  have eq1:a/dv=qh:=by rw[hq,Nat.mul_comm,Nat.mul_add_div hd0,Nat.div_eq_of_lt hr,Nat.add_zero]
  have eq2:a%dv=rs:=by rw[hq,Nat.mul_comm,Nat.mul_add_mod,Nat.mod_eq_of_lt hr]
  refine Ab 16 (.bool false) rfl (congrArg Value.bool (decide_eq_false (by show¬(((0:Nat):Int)-1≥0);omega))) ?_
  refine Aa (zE (zS rfl (zJ (zK (zK (zL (zE (zA (zB ?_)))))))))
  have hV0:(⟨some g,K,[]⟩:Vec).OK 1 l.length (nI l):=⟨Eo _,(fun h=>by cases h),fun _=>⟨by show _≤K;omega,by show K≤maxLen;simp only[maxLen];omega,by show(nI l).length+0=K*1;rw[BD];omega⟩⟩
  obtain⟨j1,hV1,he1⟩:=D3 hV0 hlb
  have hrb: ∀x∈[rs],x<br:=fun x hx=>by obtain rfl:=List.mem_singleton.1 hx;show x<1000000;omega
  refine wP rfl ?_
  refine Ab 35 (slv (some ⟨g,0,none⟩) l.length K) rfl (by rw[hl]) ?_
  refine Ac rfl rfl rfl rfl rfl rfl (by kernel_rfl) (fun W hp=>C7 W _ K _ (A4.of_bx hp 0 rfl) hlb (by omega) (by omega)) ?_
  refine wP rfl ?_
  refine A0 Tryz.hZ tH rfl rfl rfl rfl rfl rfl rfl rfl rfl rfl rfl fun bN=> ?_
  have hV2:(⟨some bN,1,[]⟩:Vec).OK 1 [rs].length (nI [rs]):=⟨rfl,(fun h=>by cases h),fun _=>⟨Nat.le_refl _,(by show 1≤maxLen;decide),rfl⟩⟩
  obtain⟨j2,hV3,he2⟩:=D3 hV2 hrb
  refine Ac rfl rfl rfl rfl rfl rfl (by kernel_rfl) (fun W hp=>C7 W (some ⟨bN,0,none⟩) 1 [rs] (A4.of_bx (junk:=[]) hp 1 rfl) hrb (by show 1≤1;omega) (by show 1<_;decide)) ?_
  refine wP rfl (wP rfl (Aa (zE (zO ?_))))
  rw[hlv, ←eq1] at hV1 he1
  rw[Ov, ←eq2] at hV3 he2
  exact Ar tH rfl (.tmp rfl) (.tmp rfl) (((g,K,j1):NV),((bN,1,j2):NV)) (by rw[hlv, ←eq1,Ov, ←eq2]) ⟨hV1,hV3⟩ fun W hp=>Ae.of_hp (hp.pick (l:=[BH (g,K,j1) (lbs br (a/dv)),BH (bN,1,j2) (lbs br (a%dv))]) [0,1] (by decide) (by
   show some [(⟨g,3,nI l++[],true,none⟩:Bx),⟨bN,3,nI [rs]++[],true,none⟩]=some [⟨g,3,nI (lbs br (a/dv))++j1,true,none⟩,⟨bN,3,nI (lbs br (a%dv))++j2,true,none⟩]
   rw[he1, ←eq2,he2]))
 |succ k=>
  have hq:a/br^(k+1)=qh*dv+rs:=hq
  have hi:k<l.length:=by rw[hl];omega
  obtain⟨b1,o1,rfl,r1⟩:=hA.row (show k<(lbs br a).length by omega)
  have r1:=r1 k (by omega)
  obtain⟨v,hv⟩: ∃v,lim (lbs br a) k=v:=⟨_,rfl⟩
  rw[hv] at r1
  have hvb:v<br:=by rw[←hv];exact Bb br2 (Bh br2 a) _
  have hvb':v<1000000:=hvb
  have hve:v=a/br^k%br:=by rw[←hv];exact Bd br2 a _
  obtain⟨n,hn⟩: ∃n,n=v+rs*br:=⟨_,rfl⟩
  have hn':n=v+rs*1000000:=hn
  have hn63:n<1000000000000:=by omega
  have hnq:=OJ (B:=br) (d:=dv) hvb hr hn
  have hnq':n/dv<1000000:=hnq
  have hs:=Ih (B:=br) (d:=dv) (q:=qh) (r:=rs) (i:=k) hq (n:=n) (by rw[hn,hve])
  have hzero:l[k]? =some 0:=by
   rw[De hi,Ci br2 _ hlb,hlv,Nat.pow_succ,Nat.mul_assoc,Nat.mul_div_cancel_left _ (Nat.pow_pos (by decide)),Nat.mul_mod_right]
  have hset:=Hg (B:=br) (n/dv) hzero
  rw[Nat.mul_zero,Nat.add_zero,hlv,Nat.pow_succ,Nat.mul_assoc, ←Nat.mul_add] at hset
  have hrm:n%dv<dv:=Nat.mod_lt _ hd0
  refine Ab 16 (.bool true) rfl (congrArg Value.bool (decide_eq_true (by show(((k+1:Nat):Int)-1≥0);omega))) ?_
  refine Aa (zE (zR rfl (zI (zE (zA (zH (zA (zB (wP rfl (wP rfl (wP rfl (wP rfl ?_))))))))))))
  refine Ab 22 (.int .i64 (k:Nat)) rfl (congrArg (Value.int .i64) (by show((k+1:Nat):Int)-1=_;omega)) ?_
  refine wJ ?_
  refine Aw rfl rfl rfl rfl (fun W hp=>Ag.load 0 tH rfl ((fun W hp=>r1.hp hp) W hp) rfl) ?_
  refine wP rfl ?_
  refine Ab 25 (.int .i64 (n:Nat)) rfl (congrArg (Value.int .i64) (by show w64 (w64 ((rs:Int)*((1000000:Nat):Int))+v)=_;rw[Cc (by omega),AQ (by omega),hn',Nat.add_comm])) ?_
  refine wP rfl (Aa (zE (zA (zB (wP rfl (wP rfl ?_))))))
  refine Ab 27 (.int .i64 (k:Nat)) rfl (congrArg (Value.int .i64) (by show((k+1:Nat):Int)-1=_;omega)) ?_
  refine wP rfl (wP rfl ?_)
  refine EK rfl rfl rfl rfl rfl (by omega) ?_
  refine Ab 30 (.int .i64 ((n/dv:Nat):Int)) rfl (congrArg (Value.int .i64) (BP (by omega))) ?_
  refine wJ ?_
  refine Ay 0 (nI (l.set k (n/dv))++[]) tH rfl rfl rfl rfl rfl rfl rfl rfl rfl rfl (by show 0+k*1+1≤(nI l++[]).length;rw[List.append_nil,BD];omega) (Cp hi (n/dv)) ?_
  refine Aa (zE (zB (wP rfl (wP rfl ?_))))
  refine F4 rfl rfl rfl rfl rfl (by omega) ?_
  refine Ab 34 (.int .i64 ((n%dv:Nat):Int)) rfl rfl ?_
  refine wP rfl (Aa (zN (zE (zB (wP rfl ?_)))))
  refine Ab 17 (.int .i64 (k:Nat)) rfl (congrArg (Value.int .i64) (by show((k+1:Nat):Int)-1=_;omega)) ?_
  refine wP rfl ?_
  refine Ab 18 (.int .i64 ((k:Nat)-1:Int)) rfl (congrArg (Value.int .i64) (An (by omega) (by omega))) ?_
  refine wP rfl (Aa ?_)
  exact As (k,l.set k (n/dv),qh*br+n/dv,n%dv) ⟨by show k≤K;omega,by rw[List.length_set];exact hl,CA hlb hnq,by show lv br (l.set k (n/dv))=br^k*(qh*br+n/dv);rw[hset,Nat.mul_comm qh],by show a/br^k=_;exact hs,hrm⟩ (by show k<k+1;omega) ⟨rfl,rfl,rfl,rfl,rfl,trivial⟩ [] rfl
-- BOXES 4
-- CODE2
theorem XC {W m:Nat} (h:W<br^(m+3)):((W/br^(m+2)%br)*br+W/br^(m+1)%br)*br+W/br^m%br=W/br^m:=by
 have h1:W/br^(m+1)=W/br^m/br:=by rw[Nat.pow_succ,Nat.div_div_eq_div_mul]
 have h2:W/br^(m+2)=W/br^m/br/br:=by rw[Nat.pow_succ, ←Nat.div_div_eq_div_mul,h1]
 have h3:W/br^m<br*br*br:=by
  apply Nat.div_lt_of_lt_mul
  have:br^(m+3)=br^m*(br*br*br):=by rw[Nat.pow_succ,Nat.pow_succ,Nat.pow_succ];simp[Nat.mul_assoc]
  rw[←this];exact h
 rw[h2,h1]
 generalize W/br^m=x at h3⊢
 have h3:x<1000000*1000000*1000000:=h3
 show((x/1000000/1000000%1000000)*1000000+x/1000000%1000000)*1000000+x%1000000=x
 omega
theorem XF {b m:Nat} (h:b<br^(m+2)):(b/br^(m+1)%br)*br+b/br^m%br=b/br^m:=by
 have h1:b/br^(m+1)=b/br^m/br:=by rw[Nat.pow_succ,Nat.div_div_eq_div_mul]
 have h3:b/br^m<br*br:=by
  apply Nat.div_lt_of_lt_mul
  have:br^(m+2)=br^m*(br*br):=by rw[Nat.pow_succ,Nat.pow_succ];simp[Nat.mul_assoc]
  rw[←this];exact h
 rw[h1]
 generalize b/br^m=x at h3⊢
 have h3:x<1000000*1000000:=h3
 show(x/1000000%1000000)*1000000+x%1000000=x
 omega
theorem Xd {W b m g:Nat} (hg:g=W/m/(b/m+1)) (hm:0<m):g*b≤W:=by
 have h1:b<(b/m+1)*m:=Nat.lt_mul_of_div_lt (Nat.lt_succ_self _) hm
 have h2:g*(b/m+1)≤W/m:=by rw[hg];exact Nat.div_mul_le_self ..
 have h3:g*(b/m+1)*m≤W/m*m:=Nat.mul_le_mul_right _ h2
 have h4:W/m*m≤W:=Nat.div_mul_le_self ..
 have h5:g*b≤g*((b/m+1)*m):=Nat.mul_le_mul_left _ (by omega)
 rw[←Nat.mul_assoc] at h5
 omega
theorem TJ {x r:Nat} (_hx:x<br):lv br (x::lbs br r)=r*br+x:=by
 show x+br*lv br (lbs br r)=_
 rw[Jw br2,Nat.mul_comm,Nat.add_comm]
theorem MO {w b g r:Nat} (h:w=g*b+r) (hr:r<b):w/b=g∧w%b=r:=by
 have hb:0<b:=by omega
 subst h
 rw[Nat.mul_comm]
 exact⟨by rw[Nat.mul_add_div hb,Nat.div_eq_of_lt hr,Nat.add_zero],by rw[Nat.mul_add_mod,Nat.mod_eq_of_lt hr]⟩
theorem M8 (W:World) (p q:Option Addr) (cap cap2:Nat) (a b:Nat) (hb0:0<b) (hA:A4 W p (lbs br a)) (hB:A4 W q (lbs br b)) (hna:(lbs br a).length≤1000) (hnb:(lbs br b).length≤1000):
  Aj Tryz.prog 264 #[slv p (lbs br a).length cap,slv q (lbs br b).length cap2] W (fun x:NV×NV=> .tuple #[BG x.1 (lbs br (a/b)).length,BG x.2 (lbs br (a%b)).length]) (fun x=>Ce x.1 (lbs br (a/b))∧Ce x.2 (lbs br (a%b))) (fun x=>[BH x.1 (lbs br (a/b)),BH x.2 (lbs br (a%b))]):=by
 have hla:=Bh br2 a
 have hlb:=Bh br2 b
 have hal:=AL br2 a
 have hbl:=AL br2 b
 obtain⟨K,hK⟩: ∃n,(lbs br a).length=n:=⟨_,rfl⟩
 obtain⟨n,hn⟩: ∃n,(lbs br b).length=n:=⟨_,rfl⟩
 have hn0:n≠0:=fun e=>by
  have:=(Dr br2).1 (List.length_eq_zero_iff.1 (hn.trans e));omega
 rw[hK] at hna hal
 rw[hn] at hnb hbl
 refine Ad (args:=[slv p (lbs br a).length cap,slv q (lbs br b).length cap2]) Tryz.func264 rfl rfl rfl ?_
 rw[hK,hn]
 refine zA (zB (wP rfl (wP rfl (Aa (zE (zA (zA (zB (wP rfl (wP rfl (wP rfl ?_)))))))))))
 by_cases hn1:n=1
 ·subst hn1
  obtain⟨b1,o1,rfl,r1⟩:=hB.row (show 0<(lbs br b).length by omega)
  have r1:=r1 0 (by omega)
  obtain⟨v,hv⟩: ∃v,lim (lbs br b) 0=v:=⟨_,rfl⟩
  rw[hv] at r1
  have hvb:v<br:=by rw[←hv];exact Bb br2 hlb _
  rw[Bd br2,Nat.pow_zero,Nat.div_one,Nat.mod_eq_of_lt (by rw[Nat.pow_one] at hbl;exact hbl)] at hv
  subst hv
  refine Ab 14 (.bool true) rfl (congrArg Value.bool (by simp)) ?_
  refine Aa (zE (zR rfl (zA (zB (wP rfl (wP rfl ?_))))))
  refine wJ ?_
  refine Aw rfl rfl rfl rfl (fun W hp=>Ag.load 0 tH rfl ((fun W hp=>r1.hp hp) W hp) rfl) ?_
  refine Au (X:=NV×NV) rfl rfl rfl rfl rfl rfl (by kernel_rfl) (fun W' hp=>by have h:=NR W' p cap a b (hA.hp hp) (by omega) hb0 hvb;rw[hK] at h;exact h) ?_
  rintro⟨x,y⟩ ⟨h1,h2⟩
  refine wP rfl (wP rfl (wP rfl (wP rfl (Aa (zE (zO (zP ?_)))))))
  exact Ar tH rfl (.tmp rfl) (.tmp rfl) (x,y) rfl ⟨h1,h2⟩ fun W hp=>Ae.of_hp hp
 obtain⟨m,rfl⟩: ∃m,n=m+2:=⟨n-2,by omega⟩
 refine Ab 14 (.bool false) rfl (congrArg Value.bool (by rw[beq_eq_false_iff_ne];omega)) ?_
 refine Aa ?_
 obtain⟨bq,oq,rfl,rq⟩:=hB.row (show 0<(lbs br b).length by omega)
 obtain⟨u1,hu1⟩: ∃v,lim (lbs br b) (m+1)=v:=⟨_,rfl⟩
 obtain⟨u0,hu0⟩: ∃v,lim (lbs br b) m=v:=⟨_,rfl⟩
 have rq1:=rq (m+1) (by omega)
 have rq0:=rq m (by omega)
 rw[hu1] at rq1
 rw[hu0] at rq0
 have hu1b:u1<1000000:=by rw[←hu1];exact Bb br2 hlb _
 have hu0b:u0<1000000:=by rw[←hu0];exact Bb br2 hlb _
 rw[Bd br2] at hu1 hu0
 have ht2:=XF hbl
 rw[hu1,hu0] at ht2
 have ht2:u1*1000000+u0=b/br^m:=ht2
 obtain⟨tp,htp⟩: ∃tp,tp=b/br^m:=⟨_,rfl⟩
 have hpm:0<br^m:=Nat.pow_pos (by decide)
 refine zE (zS rfl (zI (zE (zA (zB (wP rfl (wP rfl (wP rfl (Aa (zE (zA ?_)))))))))))
 refine zT Tryz.mixed (by kernel_rfl) ?_
 refine qP rfl (qP rfl (qP rfl ?_))
 refine A6 26 (.int .i64 ((m+1:Nat):Int)) rfl (congrArg (Value.int .i64) (by show w64 (((m+2:Nat):Int)-1)=_;rw[An (by omega) (by omega)];omega)) ?_
 refine qJ ?_
 refine Ap rfl rfl rfl rfl (fun W hp=>Ag.load 0 tH rfl ((fun W hp=>rq1.hp hp) W hp) rfl) ?_
 refine qP rfl (qP rfl (qP rfl (qP rfl ?_)))
 refine A6 32 (.int .i64 (m:Nat)) rfl (congrArg (Value.int .i64) (by show w64 (((m+2:Nat):Int)-2)=_;rw[An (by omega) (by omega)];omega)) ?_
 refine qJ ?_
 refine Ap rfl rfl rfl rfl (fun W hp=>Ag.load 0 tH rfl ((fun W hp=>rq0.hp hp) W hp) rfl) ?_
 refine qP rfl ?_
 refine A6 35 (.int .i64 (tp:Nat)) rfl (congrArg (Value.int .i64) (by show w64 (w64 ((u1:Int)*((1000000:Nat):Int))+u0)=_;rw[Cc (by omega),AQ (by omega),htp,ht2])) ?_
 refine qP rfl (AE (Aa (zE (zA (zB (wP rfl (wP rfl ?_)))))))
 refine Cm Tryz.vec58 K rfl rfl rfl rfl rfl rfl rfl (by simp only[maxLen];omega) (by omega) ?_
 intro g
 have ez:By (Value.cells (.int .i64 0)).toList K=nI (List.replicate K 0)++[]:=by rw[List.append_nil];exact EL K
 rw[ez]
 refine wP rfl (Aa (zE (zA (zB ?_))))
 refine F1 tH rfl rfl rfl rfl rfl ?_
 intro gr
 refine wP rfl (Aa (zE (zA (zA (zB (wP rfl (wP rfl (wP rfl ?_))))))))
 refine Ab 42 (.int .i64 ((K:Int)-1)) rfl (congrArg (Value.int .i64) (An (by omega) (by omega))) ?_
 refine wP rfl (Aa (zE (zH ?_)))
 have e0:lbs br 0=[]:=Bc
 refine Av (X:=Nat×List Nat×Nat×Nat×NV) (fun x=>[(0,slv p K cap),(1,slv (some ⟨bq,oq,none⟩) (m+2) cap2),(6, .int .i64 ((m+2:Nat):Int)),(7, .int .i64 (tp:Nat)),(8,slv (some ⟨g,0,none⟩) K K),(9,BG x.2.2.2.2 (lbs br x.2.2.2.1).length),(10, .int .i64 ((x.1:Nat)-1:Int))]) (fun x=>[⟨g,3,nI x.2.1++[],true,none⟩,BH x.2.2.2.2 (lbs br x.2.2.2.1)])
  (fun x=>(x.1≤K∧x.2.1.length=K∧(∀y∈x.2.1,y<br)∧lv br x.2.1=br^x.1*x.2.2.1∧a/br^x.1=x.2.2.1*b+x.2.2.2.1∧x.2.2.2.1<b)∧Ce x.2.2.2.2 (lbs br x.2.2.2.1)) (fun x=>x.1) (K,List.replicate K 0,0,0,(gr,0,[])) ⟨⟨Nat.le_refl _,List.length_replicate,GK (by decide) K,by rw[Er];show 0=br^K*0;rw[Nat.mul_zero],by show a/br^K=0*b+0;rw[Nat.div_eq_of_lt hal];omega,hb0⟩,by show Ce _ (lbs br 0);rw[e0];exact⟨rfl,(fun h=>by cases h),fun _=>⟨Nat.le_refl _,Nat.zero_le _,rfl⟩⟩⟩ ⟨rfl,rfl,rfl,rfl,rfl,by show _=some (slv _ (lbs br 0).length 0);rw[e0];rfl,rfl,trivial⟩ [] (by show _=[_,BH _ (lbs br 0)]++[];rw[e0];rfl) ?_
 rintro⟨k,l,qh,rs,x⟩ ⟨⟨hk,hl,hllt,hlv,hq,hr⟩,hx⟩
 have hk:k≤K:=hk
 have hl:l.length=K:=hl
 have hlv:lv br l=br^k*qh:=hlv
 have hq:a/br^k=qh*b+rs:=hq
 have hr:rs<b:=hr
 have hx:Ce x (lbs br rs):=hx
 refine zA (zA (zB (wP rfl (wP rfl ?_))))
 cases k with
 |zero=>
  have hq:a=qh*b+rs:=by simpa using hq
  have hlv:lv br l=qh:=by rw[hlv];simp
  obtain⟨eq1,eq2⟩:=MO hq hr
  refine Ab 44 (.bool false) rfl (congrArg Value.bool (decide_eq_false (by show¬(((0:Nat):Int)-1≥0);omega))) ?_
  refine Aa (zE (zS rfl (zJ (zK (zK (zL (zE (zA (zB ?_)))))))))
  have hV0:(⟨some g,K,[]⟩:Vec).OK 1 l.length (nI l):=⟨Eo _,(fun h=>by cases h),fun _=>⟨by show _≤K;omega,by show K≤maxLen;simp only[maxLen];omega,by show(nI l).length+0=K*1;rw[BD];omega⟩⟩
  obtain⟨j1,hV1,he1⟩:=D3 hV0 hllt
  refine wP rfl ?_
  refine Ab 92 (slv (some ⟨g,0,none⟩) l.length K) rfl (by rw[hl]) ?_
  refine Ac rfl rfl rfl rfl rfl rfl (by kernel_rfl) (fun W hp=>C7 W _ K _ (A4.of_bx hp 0 rfl) hllt (by omega) (by omega)) ?_
  refine wP rfl (wP rfl (wP rfl (Aa (zE (zO ?_)))))
  rw[hlv, ←eq1] at hV1 he1
  rw[←eq2] at hx
  exact Ar tH rfl (.tmp rfl) (.tmp rfl) (((g,K,j1):NV),x) (by rw[hlv, ←eq1, ←eq2]) ⟨hV1,hx⟩ fun W hp=>Ae.of_hp (hp.pick (l:=[BH (g,K,j1) (lbs br (a/b)),BH x (lbs br (a%b))]) [0,1] (by decide) (by
   show some [(⟨g,3,nI l++[],true,none⟩:Bx),BH x (lbs br rs)]=some [⟨g,3,nI (lbs br (a/b))++j1,true,none⟩,BH x (lbs br (a%b))]
   rw[he1,eq2]))
 |succ k=>
  have hq:a/br^(k+1)=qh*b+rs:=hq
  have hi:k<l.length:=by rw[hl];omega
  obtain⟨b1,o1,rfl,r1⟩:=hA.row (show k<(lbs br a).length by omega)
  have r1:=r1 k (by omega)
  obtain⟨v,hv⟩: ∃v,lim (lbs br a) k=v:=⟨_,rfl⟩
  rw[hv] at r1
  have hvb:v<br:=by rw[←hv];exact Bb br2 hla _
  have hvb':v<1000000:=hvb
  have hve:v=a/br^k%br:=by rw[←hv];exact Bd br2 a _
  obtain⟨w,hw⟩: ∃w,w=v+rs*br:=⟨_,rfl⟩
  have hlw:lv br (v::lbs br rs)=w:=by rw[TJ hvb,hw,Nat.add_comm]
  have hrsb:=hr
  have hwlt:w<br*b:=by
   have:(rs+1)*br≤b*br:=Nat.mul_le_mul_right _ hr
   rw[Nat.add_mul,Nat.one_mul] at this
   rw[hw,Nat.mul_comm br b];omega
  have hwlt3:w<br^(m+3):=by
   have h1:br*b<br*br^(m+2):=Nat.mul_lt_mul_of_pos_left hbl (by decide)
   rw[show br^(m+3)=br*br^(m+2) by rw[Nat.pow_succ,Nat.mul_comm]];omega
  have hwb:w/b<br:=Nat.div_lt_of_lt_mul (by rw[Nat.mul_comm];exact hwlt)
  have hs:=Ih (B:=br) (d:=b) (q:=qh) (r:=rs) (i:=k) hq (n:=w) (by rw[hw,hve])
  have hzero:l[k]? =some 0:=by
   rw[De hi,Ci br2 _ hllt,hlv,Nat.pow_succ,Nat.mul_assoc,Nat.mul_div_cancel_left _ (Nat.pow_pos (by decide)),Nat.mul_mod_right]
  have hset:=Hg (B:=br) (w/b) hzero
  rw[Nat.mul_zero,Nat.add_zero,hlv,Nat.pow_succ,Nat.mul_assoc, ←Nat.mul_add] at hset
  have hrl:(lbs br rs).length≤m+2:=(BN br2).2 (by omega)
  have hwl:(lbs br w).length≤m+3:=(BN br2).2 hwlt3
  refine Ab 44 (.bool true) rfl (congrArg Value.bool (decide_eq_true (by show(((k+1:Nat):Int)-1≥0);omega))) ?_
  refine Aa (zE (zR rfl (zI (zE (zA (zH (zA (zB (wP rfl (wP rfl ?_))))))))))
  refine Ab 48 (.int .i64 (k:Nat)) rfl (congrArg (Value.int .i64) (by show((k+1:Nat):Int)-1=_;omega)) ?_
  refine wJ ?_
  refine Aw rfl rfl rfl rfl (fun W hp=>Ag.load 0 tH rfl ((fun W hp=>r1.hp hp) W hp) rfl) ?_
  refine A0 Tryz.hZ tH rfl rfl rfl rfl rfl rfl rfl rfl rfl rfl rfl fun bN=> ?_
  refine wP rfl ?_
  refine EA (len:=1) (V:=⟨some bN,1,[]⟩) (xs:=nI [v]) (news:=nI (lbs br rs)) 2 Tryz.vec58 rfl rfl rfl rfl rfl rfl rfl rfl rfl ⟨rfl,(fun h=>by cases h),fun _=>⟨Nat.le_refl _,(by show 1≤maxLen;decide),rfl⟩⟩ (Eo _) (fun W' hp j u hj=> ?_) (fun u hu=> ?_) (by dsimp only;simp only[maxLen];omega) (by dsimp only;omega) ?_
  ·have hrow:=Ag.of_bx hp 1 rfl rfl
   have:=hrow.get j u (by show(nI (lbs br rs)++x.2.2)[j]? =_;rw[List.getElem?_append_left (List.getElem?_eq_some_iff.1 hj).1];exact hj)
   rw[Addr.add_none]
   exact this
  ·obtain⟨z,_,rfl⟩:=List.mem_map.1 hu;rfl
  intro V' hV' hV0
  obtain⟨pv,cv,jv⟩:=V'
  cases pv with
  |none=>have:=hV'.nil rfl;omega
  |some gv=>
  have ecat:nI [v]++nI (lbs br rs)=nI (v::lbs br rs):=rfl
  rw[ecat] at hV'⊢
  have hV':(⟨some gv,cv,jv⟩:Vec).OK 1 (v::lbs br rs).length (nI (v::lbs br rs)):=by rw[List.length_cons,Nat.add_comm];exact hV'
  have hclt: ∀y∈v::lbs br rs,y<br:=fun y hy=>by
   rcases List.mem_cons.1 hy with rfl|hy
   ·exact hvb
   ·exact Bh br2 rs y hy
  obtain⟨jw,hVw,hew⟩:=D3 hV' hclt
  rw[hlw] at hVw hew
  refine Ab 53 (slv (some ⟨gv,0,none⟩) (v::lbs br rs).length cv) rfl (by show slv _ (1+_) _=_;rw[List.length_cons,Nat.add_comm]) ?_
  refine Ac rfl rfl rfl rfl rfl rfl (by kernel_rfl) (fun W hp=>(C7 W (some ⟨gv,0,none⟩) cv _ (A4.of_bx hp 2 rfl) hclt (by have:=(hV'.cap (by simp)).1;exact this) (by rw[List.length_cons];omega)).cast (v':=slv (some ⟨gv,0,none⟩) (lbs br w).length cv) (by rw[hlw])) ?_
  refine wP rfl (Aa ?_)
  obtain⟨l2,hl2⟩: ∃v,lim (lbs br w) (m+2)=v:=⟨_,rfl⟩
  obtain⟨l1,hl1⟩: ∃v,lim (lbs br w) (m+1)=v:=⟨_,rfl⟩
  obtain⟨l0,hl0⟩: ∃v,lim (lbs br w) m=v:=⟨_,rfl⟩
  have hl2b:l2<1000000:=by rw[←hl2];exact Bb br2 (Bh br2 w) _
  have hl1b:l1<1000000:=by rw[←hl1];exact Bb br2 (Bh br2 w) _
  have hl0b:l0<1000000:=by rw[←hl0];exact Bb br2 (Bh br2 w) _
  have ht3:=XC hwlt3
  rw[←Bd br2, ←Bd br2, ←Bd br2,hl2,hl1,hl0] at ht3
  have ht3:(l2*1000000+l1)*1000000+l0=w/br^m:=ht3
  obtain⟨e,he⟩: ∃e,e=w/br^m/(b/br^m+1):=⟨_,rfl⟩
  have hest:=Xd he hpm
  have heb:e≤w/b:=(Nat.le_div_iff_mul_le hb0).2 hest
  have hebr:e<1000000:=Nat.lt_of_le_of_lt heb hwb
  have htpb:tp<1000000000000:=by rw[htp, ←ht2];omega
  have hlW: ∀ {W1:World} {bxs:List Bx},Hp W bxs W1→nth bxs 2=some (⟨gv,3,nI (v::lbs br rs)++jv,true,none⟩:Bx)→A4 W1 (some ⟨gv,0,none⟩) (lbs br w):=fun hp h2=>by rw[hew] at h2;exact A4.of_bx hp 2 h2
  refine zE (zA (zB (wP rfl (wP rfl ?_))))
  refine Ac rfl rfl rfl rfl rfl rfl (by kernel_rfl) (fun W' hp=>CK W' (some ⟨gv,0,none⟩) cv _ (lbs br w) (m+2) l2 (hlW hp rfl) rfl (by omega) hl2) ?_
  refine wP rfl (wP rfl (wP rfl (wP rfl ?_)))
  refine Ab 61 (.int .i64 ((m+1:Nat):Int)) rfl (congrArg (Value.int .i64) (by show w64 (((m+2:Nat):Int)-1)=_;rw[An (by omega) (by omega)];omega)) ?_
  refine Ac rfl rfl rfl rfl rfl rfl (by kernel_rfl) (fun W' hp=>CK W' (some ⟨gv,0,none⟩) cv _ (lbs br w) (m+1) l1 (hlW hp rfl) rfl (by omega) hl1) ?_
  iterate 5 refine wP rfl ?_
  refine Ab 67 (.int .i64 (m:Nat)) rfl (congrArg (Value.int .i64) (by show w64 (((m+2:Nat):Int)-2)=_;rw[An (by omega) (by omega)];omega)) ?_
  refine Ac rfl rfl rfl rfl rfl rfl (by kernel_rfl) (fun W' hp=>CK W' (some ⟨gv,0,none⟩) cv _ (lbs br w) m l0 (hlW hp rfl) rfl (by omega) hl0) ?_
  refine wP rfl ?_
  refine Ab 69 (.int .i64 ((w/br^m:Nat):Int)) rfl (congrArg (Value.int .i64) (by show w64 (w64 (w64 (w64 ((l2:Int)*((1000000:Nat):Int))+l1)*((1000000:Nat):Int))+l0)=_;rw[Cc (by omega),AQ (by omega),Cc (by omega),AQ (by omega),ht3])) ?_
  refine wP rfl (wP rfl ?_)
  refine Ab 71 (.int .i64 ((tp+1:Nat):Int)) rfl (congrArg (Value.int .i64) (A5 (by omega))) ?_
  refine EK rfl rfl rfl rfl rfl (by omega) ?_
  refine Ab 72 (.int .i64 (e:Nat)) rfl (congrArg (Value.int .i64) (by rw[he, ←htp];exact BP (by rw[←htp] at he;rw[←he];omega))) ?_
  refine wP rfl (Aa (zE (zA (zB (wP rfl (wP rfl (wP rfl ?_)))))))
  refine A0 Tryz.hZ tH rfl rfl rfl rfl rfl rfl rfl rfl rfl rfl rfl fun bE=> ?_
  refine Au (X:=NV) rfl rfl rfl rfl rfl rfl (by kernel_rfl) (fun W' hp=>by
   have h:=HL W' (some ⟨bq,oq,none⟩) (some ⟨bE,0,none⟩) cap2 1 b [e] (fun y hy=>by obtain rfl:=List.mem_singleton.1 hy;exact hebr) (hB.hp hp) (A4.of_bx (junk:=[]) hp 3 rfl) (by omega) (by show 1≤1000000;decide)
   rw[hn,Ov] at h
   exact h) ?_
  intro xt hxt
  refine Au (X:=NV) rfl rfl rfl rfl rfl rfl (by kernel_rfl) (fun W' hp=>E7 W' (some ⟨gv,0,none⟩) (some ⟨xt.1,0,none⟩) cv xt.2.1 w (b*e) (by rw[Nat.mul_comm];exact hest) (hlW hp rfl) (A4.of_bx hp 4 rfl) (by omega)) ?_
  intro x1 hx1
  refine wP rfl (Aa (AC ?_))
  try refine A7 ?_
  refine AK (X:=NV) (fun x2=>[(0,slv (some ⟨b1,o1,none⟩) K cap),(1,slv (some ⟨bq,oq,none⟩) (m+2) cap2),(6, .int .i64 ((m+2:Nat):Int)),(7, .int .i64 (tp:Nat)),(8,slv (some ⟨g,0,none⟩) K K),(9,BG x2 (lbs br (w%b)).length),(10, .int .i64 (k:Nat)),(11, .int .i64 ((w/b:Nat):Int))]) (fun x2=>[⟨g,3,nI l++[],true,none⟩,BH x2 (lbs br (w%b))]) (fun x2=>Ce x2 (lbs br (w%b))) ?_ ?_
  ·refine zH ?_
   refine DG (X:=Nat×Nat×NV) (fun y=>[(0,slv (some ⟨b1,o1,none⟩) K cap),(1,slv (some ⟨bq,oq,none⟩) (m+2) cap2),(6, .int .i64 ((m+2:Nat):Int)),(7, .int .i64 (tp:Nat)),(8,slv (some ⟨g,0,none⟩) K K),(9,BG y.2.2 (lbs br y.2.1).length),(10, .int .i64 (k:Nat)),(11, .int .i64 (y.1:Nat))]) (fun y=>Hp W [⟨g,3,nI l++[],true,none⟩,BH y.2.2 (lbs br y.2.1)]) (fun y=>w=y.1*b+y.2.1∧Ce y.2.2 (lbs br y.2.1)) (fun y=>y.2.1) (e,w-b*e,x1) ⟨by show w=e*b+(w-b*e);rw[Nat.mul_comm b e];omega,hx1⟩ ⟨rfl,rfl,rfl,rfl,rfl,rfl,congrArg (fun z=>some (Value.int .i64 z)) (by show((k+1:Nat):Int)-1=(k:Nat);omega),rfl,trivial⟩ (fun W hp=>hp.pick [0,5] (by decide) rfl) ?_
   rintro⟨e1,w1,x2⟩ ⟨hw1,hx2⟩
   have hw1:w=e1*b+w1:=hw1
   have hx2:Ce x2 (lbs br w1):=hx2
   have hw1l:(lbs br w1).length≤m+3:=(BN br2).2 (by omega)
   refine zA (zA (zB (wP rfl (wP rfl ?_))))
   refine Ac rfl rfl rfl rfl rfl rfl (by kernel_rfl) (fun W' hp=>by
    have h:=JU W' (some ⟨x2.1,0,none⟩) (some ⟨bq,oq,none⟩) x2.2.1 cap2 w1 b (A4.of_bx hp 1 rfl) (hB.hp hp) (by omega) (by omega)
    rw[hn] at h
    exact h) ?_
   refine wP rfl ?_
   by_cases hge:b≤w1
   ·have hc:0≤LO w1 b:=by unfold LO;rw[if_neg (by omega)];split<;>decide
    have he1:e1<w/b:=by
     have h1:(e1+1)*b≤w:=by rw[Nat.add_mul,Nat.one_mul];omega
     have:=(Nat.le_div_iff_mul_le hb0).2 h1
     omega
    have he1b:e1<1000000:=Nat.lt_trans he1 hwb
    refine Ab 82 (.bool true) rfl (congrArg Value.bool (decide_eq_true hc)) ?_
    refine Aa (zE (zR rfl (zI (zE (zH (zA (zB (wP rfl (wP rfl ?_)))))))))
    refine Au (X:=NV) rfl rfl rfl rfl rfl rfl (by kernel_rfl) (fun W' hp=>by
     have h:=E7 W' (some ⟨x2.1,0,none⟩) (some ⟨bq,oq,none⟩) x2.2.1 cap2 w1 b hge (A4.of_bx hp 1 rfl) (hB.hp hp) (by omega)
     rw[hn] at h
     exact h) ?_
    intro x3 hx3
    refine wP rfl (Aa (zE (zB (wP rfl (wP rfl ?_)))))
    refine Ab 87 (.int .i64 ((e1+1:Nat):Int)) rfl (congrArg (Value.int .i64) (A5 (by omega))) ?_
    refine wP rfl (Aa (zN ?_))
    exact Dl (e1+1,w1-b,x3) ⟨by show w=(e1+1)*b+(w1-b);rw[Nat.add_mul,Nat.one_mul];omega,hx3⟩ (by show w1-b<w1;omega) ⟨rfl,rfl,rfl,rfl,rfl,rfl,rfl,rfl,trivial⟩ (fun W hp=>hp.pick [0,2] (by decide) rfl)
   ·have hc: ¬(0:Int)≤LO w1 b:=by unfold LO;rw[if_pos (by omega)];decide
    obtain⟨d1,d2⟩:=MO hw1 (show w1<b by omega)
    refine Ab 82 (.bool false) rfl (congrArg Value.bool (decide_eq_false hc)) ?_
    refine Aa (zE (zS rfl (zJ (zK (zK (zL ?_))))))
    exact At x2 (by show Ce x2 (lbs br (w%b));rw[d2];exact hx2) ⟨rfl,rfl,rfl,rfl,rfl,by rw[d2];rfl,rfl,by rw[d1];rfl,trivial⟩ [] (by rw[d2];rfl)
  intro x2 hx2
  have hx2:Ce x2 (lbs br (w%b)):=hx2
  refine zB (wP rfl (wP rfl (wP rfl ?_)))
  refine wJ ?_
  refine Ay 0 (nI (l.set k (w/b))++[]) tH rfl rfl rfl rfl rfl rfl rfl rfl rfl rfl (by show 0+k*1+1≤(nI l++[]).length;rw[List.append_nil,BD];omega) (Cp hi (w/b)) ?_
  refine Aa (zN (zE (zB (wP rfl (wP rfl ?_)))))
  refine Ab 46 (.int .i64 ((k:Nat)-1:Int)) rfl (congrArg (Value.int .i64) (An (by omega) (by omega))) ?_
  refine wP rfl (Aa ?_)
  exact As (k,l.set k (w/b),qh*br+w/b,w%b,x2) ⟨⟨by show k≤K;omega,by rw[List.length_set];exact hl,CA hllt hwb,by show lv br (l.set k (w/b))=br^k*(qh*br+w/b);rw[hset,Nat.mul_comm qh],by show a/br^k=_;exact hs,Nat.mod_lt _ hb0⟩,hx2⟩ (by show k<k+1;omega) ⟨rfl,rfl,rfl,rfl,rfl,rfl,rfl,trivial⟩ [] rfl
-- BOXES 6
-- CODE2
theorem S5 (x y:Int):Nat.gcd y.natAbs (x.tmod y).natAbs=Nat.gcd x.natAbs y.natAbs:=by
 rw[Int.natAbs_tmod,Nat.gcd_comm, ←Nat.gcd_rec,Nat.gcd_comm]
theorem Rg (a b:Int) (ha:(decDigits a.natAbs).length≤300) (hb:(decDigits b.natAbs).length≤300) (W:World) (ht:AV W):
  Aj Tryz.prog 206 #[str (itoa a),str (itoa b)] W (fun _:Unit=> .tuple #[str (itoa ((Nat.gcd a.natAbs b.natAbs:Nat):Int)), .int .i64 0]) (fun _=>True) (fun _=>[]):=by
 have la:=EI (m:=a.natAbs) (by omega)
 have lb:=EI (m:=b.natAbs) (by omega)
 refine Ad (args:=[str (itoa a),str (itoa b)]) Tryz.func206 rfl rfl rfl ?_
 refine zA (zB (wP rfl (wP rfl (Aa (zE (zA (zA (zB (wP rfl (wP rfl ?_))))))))))
 refine Ac rfl rfl rfl rfl rfl rfl (by kernel_rfl) (fun W _=>Hx a b ha hb W) ?_
 refine wP rfl (Aa (zE (zA (zB (wP rfl (wP rfl (Aa (zE (zS rfl (zI (zE (zA (zA ?_)))))))))))))
 refine zB ?_
 cases hs:smI a&&smI b with
 |true=>
  obtain⟨h1,h2⟩:=Bool.and_eq_true_iff.1 hs
  have b1:=Uo h1
  have b2:=Uo h2
  refine wP rfl (wP rfl ?_)
  refine Ac rfl rfl rfl rfl rfl rfl (by kernel_rfl) (fun W _=>N0 hs W) ?_
  iterate 7 refine wP rfl ?_
  refine Aa (zE (zA (zB (wP rfl (Aa (zE (zR rfl (zA (zH ?_)))))))))
  refine Av (X:=Int×Int) (fun x=>[(7, .int .i64 x.1),(8, .int .i64 x.2)]) (fun _=>[]) (fun x=>x.1.natAbs<100000000000000000∧x.2.natAbs<100000000000000000∧Nat.gcd x.1.natAbs x.2.natAbs=Nat.gcd a.natAbs b.natAbs) (fun x=>x.2.natAbs) (a,b) ⟨b1,b2,rfl⟩ ⟨rfl,rfl,trivial⟩ [] rfl ?_
  rintro⟨x,y⟩ ⟨hx,hy,hg⟩
  have hx:x.natAbs<100000000000000000:=hx
  have hy:y.natAbs<100000000000000000:=hy
  have hg:Nat.gcd x.natAbs y.natAbs=Nat.gcd a.natAbs b.natAbs:=hg
  refine zA (zA (zB (wP rfl (wP rfl ?_))))
  by_cases h0:y=0
  ·refine Ab 29 (.bool false) rfl (congrArg Value.bool (by rw[bne_eq_false_iff_eq];exact h0)) ?_
   refine Aa (zE (zS rfl (zJ (zK (zK (zL (zE (zA (zB (wP rfl (wP rfl (wP rfl ?_))))))))))))
   refine Ab 36 (.int .i64 (-x)) rfl (congrArg (Value.int .i64) (show w64 (0-x)=_ by rw[An (by omega) (by omega)];omega)) ?_
   refine wP rfl ?_
   refine Ab 37 (.int .i64 ((Nat.gcd a.natAbs b.natAbs:Nat):Int)) rfl (congrArg (Value.int .i64) (by
    rw[←hg,h0,Int.natAbs_zero,Nat.gcd_zero_right]
    show(if -x>x then -x else x)=_;split<;>omega)) ?_
   have hgl:Nat.gcd a.natAbs b.natAbs<100000000000000000:=by rw[←hg,h0,Int.natAbs_zero,Nat.gcd_zero_right];exact hx
   refine Ac rfl rfl rfl rfl rfl rfl (by kernel_rfl) (fun W hp=>BA ((Nat.gcd a.natAbs b.natAbs:Nat):Int) (by omega) (by omega) W (ht.hp hp)) ?_
   refine wP rfl (wP rfl (Aa (zE (zO (zP ?_)))))
   exact Ar tH rfl (.tmp rfl) (.tmp rfl) () rfl trivial fun W _=>Ae.nil _ _
  ·refine Ab 29 (.bool true) rfl (congrArg Value.bool (by rw[bne_iff_ne];exact h0)) ?_
   refine Aa (zE (zR rfl (zI (zE (zH ?_)))))
   refine zT Tryz.mixed (by kernel_rfl) ?_
   refine qP rfl (qP rfl (qP rfl ?_))
   refine EN rfl rfl rfl rfl rfl h0 ?_
   refine qP rfl (qP rfl (AE (Aa (zN ?_))))
   have hr:(x.tmod y).natAbs<y.natAbs:=by rw[Int.natAbs_tmod];exact Nat.mod_lt _ (by omega)
   exact As (y,x.tmod y) ⟨hy,Nat.lt_trans hr hy,by show Nat.gcd y.natAbs (x.tmod y).natAbs=_;rw[S5];exact hg⟩ hr ⟨rfl,rfl,trivial⟩ [] rfl
 |false=>
  obtain⟨x0,y0,h2⟩:=Nu hs ha hb
  refine wP rfl (wP rfl ?_)
  refine Ac rfl rfl rfl rfl rfl rfl (by kernel_rfl) (fun W _=>h2 W) ?_
  iterate 7 refine wP rfl ?_
  refine Aa (zE (zA (zB (wP rfl (Aa (zE (zS rfl (zI (zE (zA (zB (wP rfl ?_))))))))))))
  refine Au (X:=NV) rfl rfl rfl rfl rfl rfl (by kernel_rfl) (fun W' _=>C6 a (by omega) W') ?_
  intro x hx
  refine wP rfl (wP rfl ?_)
  refine Au (X:=NV) rfl rfl rfl rfl rfl rfl (by kernel_rfl) (fun W' _=>C6 b (by omega) W') ?_
  intro y hy
  refine wP rfl (wP rfl (wP rfl (Aa (zE (zA (zH ?_))))))
  refine DG (X:=(Nat×NV)×(Nat×NV)) (fun s=>[(10,BG s.1.2 (lbs br s.1.1).length),(11,BG s.2.2 (lbs br s.2.1).length)]) (fun s=>Hp W [BH s.1.2 (lbs br s.1.1),BH s.2.2 (lbs br s.2.1)]) (fun s=>Nat.gcd s.1.1 s.2.1=Nat.gcd a.natAbs b.natAbs∧(lbs br s.1.1).length≤101∧(lbs br s.2.1).length≤101) (fun s=>s.2.1) ((a.natAbs,x),(b.natAbs,y)) ⟨rfl,la,lb⟩ ⟨rfl,rfl,trivial⟩ (fun W hp=>hp) ?_
  rintro⟨⟨u,x⟩,⟨v,y⟩⟩ ⟨hg,hu,hv⟩
  have hg:Nat.gcd u v=Nat.gcd a.natAbs b.natAbs:=hg
  have hu:(lbs br u).length≤101:=hu
  have hv:(lbs br v).length≤101:=hv
  refine zA (zA (zB (wP rfl (wP rfl (wP rfl ?_)))))
  by_cases h0:v=0
  ·have e1:Nat.gcd a.natAbs b.natAbs=u:=by rw[←hg,h0,Nat.gcd_zero_right]
   have key: ∀e k,e=6*k→0<e→(lbs br u).length≤k→(decDigits u).length≤e:=fun e k he h0e hk=>by
    refine F2 e u (by omega) ?_
    have:=AL br2 u
    refine Nat.lt_of_lt_of_le this ?_
    rw[Jr];exact Nat.pow_le_pow_right (by decide) (by omega)
   have hul:=key 606 101 rfl (by decide) hu
   refine Ab 47 (.bool false) rfl (congrArg Value.bool (decide_eq_false (by rw[h0,Bc];decide))) ?_
   refine Aa (zE (zS rfl (zJ (zK (zK (zL (zE (zA (zB (wP rfl ?_))))))))))
   refine AA Tryz.hZ tH rfl rfl rfl rfl rfl rfl rfl rfl ?_
   refine Ab 57 (Ix ((u:Nat):Int) (some ⟨x.1,0,none⟩) x.2.1) rfl (by unfold Ix;rw[decide_eq_false (show¬((u:Nat):Int)<0 by omega),Int.natAbs_natCast];rfl) ?_
   refine Ac rfl rfl rfl rfl rfl rfl (by kernel_rfl) (fun W' hp=>Ir ((u:Nat):Int) (by rw[Int.natAbs_natCast];exact hul) W' (some ⟨x.1,0,none⟩) x.2.1 (by rw[Int.natAbs_natCast];exact A4.of_bx hp 0 rfl)) ?_
   refine wP rfl (wP rfl (Aa (zE (zO ?_))))
   exact Ar tH rfl (.tmp rfl) (.tmp rfl) () (by rw[e1]) trivial fun W _=>Ae.nil _ _
  ·have hL:(lbs br v).length≠0:=fun e=>h0 ((Dr br2).1 (List.length_eq_zero_iff.1 e))
   have hr:u%v<v:=Nat.mod_lt _ (by omega)
   refine Ab 47 (.bool true) rfl (congrArg Value.bool (decide_eq_true (by show(((lbs br v).length:Nat):Int)>0;omega))) ?_
   refine Aa (zE (zR rfl (zI (zE (zH (zA (zB (wP rfl (wP rfl ?_)))))))))
   refine Au (X:=NV×NV) rfl rfl rfl rfl rfl rfl (by kernel_rfl) (fun W' hp=>M8 W' (some ⟨x.1,0,none⟩) (some ⟨y.1,0,none⟩) x.2.1 y.2.1 u v (by omega) (A4.of_bx hp 0 rfl) (A4.of_bx hp 1 rfl) (by omega) (by omega)) ?_
   rintro⟨q,w⟩ ⟨hq,hw⟩
   iterate 5 refine wP rfl ?_
   refine Aa (zE (zB (wP rfl (wP rfl (wP rfl (wP rfl (Aa (zN ?_))))))))
   exact Dl ((v,y),(u%v,w)) ⟨by show Nat.gcd v (u%v)=_;rw[Nat.gcd_comm, ←Nat.gcd_rec,Nat.gcd_comm];exact hg,hv,by show(lbs br (u%v)).length≤101;exact Nat.le_trans ((BN br2).2 (Nat.lt_trans hr (AL br2 v))) hv⟩ hr ⟨rfl,rfl,trivial⟩ (fun W hp=>hp.pick [1,3] (by decide) rfl)
-- BOXES 2
-- CODE2
theorem UA (a:List UInt8):cut a [47]=(if hasPrefix a [45]=true then 45::(cut (trimPrefix a [45]) [47]).1 else(cut (trimPrefix a [45]) [47]).1,(cut (trimPrefix a [45]) [47]).2):=by
 rw[Bt,AS]
 by_cases h:a[0]? =some 45
 ·rw[if_pos h,if_pos (decide_eq_true h)]
  obtain⟨t,rfl⟩: ∃t,a=45::t:=by
   cases a with
   |nil=>cases h
   |cons b t=>
    have e:b=45:=by simpa using h
    exact⟨t,by rw[e]⟩
  show cut (45::t) [47]=(45::(cut t [47]).1,(cut t [47]).2)
  rcases FP 47 t with h1|⟨x,y,rfl,h1⟩
  ·rw[Es h1,Es (show(47:UInt8)∉45::t from fun h=>by
    rcases List.mem_cons.1 h with h|h
    ·cases h
    ·exact h1 h)]
  ·rw[F7 y h1,show 45::(x++47::y)=(45::x)++47::y from rfl,F7 y (show(47:UInt8)∉45::x from fun h=>by
    rcases List.mem_cons.1 h with h|h
    ·cases h
    ·exact h1 h)]
 ·rw[if_neg h,if_neg (by rw[decide_eq_false h];decide)]
theorem VD {a:List UInt8} {c:UInt8} (h:(cut a [47]).1[0]? =some c):a[0]? =some c:=by
 rcases FP 47 a with h1|⟨x,y,rfl,h1⟩
 ·rwa [Es h1] at h
 ·rw[F7 y h1] at h
  cases x with
  |nil=>cases h
  |cons b t=>exact h
theorem TN {m:Bool} {n:List UInt8} (h:m=false→n[0]? ≠some 45):FE (if m=true then 45::n else n)=if dgB n=true∧ ¬(m=true∧n=[48]) then some (if m=true then -(AO n:Int) else AO n) else none:=by
 have hd:dgB n=true↔(ldn n=n.length∧n≠[]∧(1<n.length→n[0]? ≠some 48)):=by
  rw[Gv];exact⟨K6,IL⟩
 have key: ∀(x:List UInt8),hasPrefix x [45]=m→trimPrefix x [45]=n→FE x=if dgB n=true∧ ¬(m=true∧n=[48]) then some (if m=true then -(AO n:Int) else AO n) else none:=fun x h1 h2=>by
  unfold FE
  rw[h1,h2]
  by_cases hc:dgB n=true∧ ¬(m=true∧n=[48])
  ·rw[if_pos hc]
   obtain⟨c1,c2,c3⟩:=hd.1 hc.1
   rw[if_pos ⟨c1,c2,c3,hc.2⟩]
  ·rw[if_neg hc,if_neg fun h4=>hc ⟨hd.2 ⟨h4.1,h4.2.1,h4.2.2.1⟩,h4.2.2.2⟩]
 cases m with
 |true=>
  refine key _ ?_ ?_
  ·rw[if_pos rfl,Bt];rfl
  ·rw[if_pos rfl,AS];rfl
 |false=>
  have h0:=h rfl
  refine key _ ?_ ?_
  ·rw[if_neg (by decide),Bt,decide_eq_false h0]
  ·rw[if_neg (by decide),AS,if_neg h0]
def Mv (m:Bool) (n d:List UInt8) (sl:Bool):Bool:= !dgB n||(sl&&(!dgB d||decide (d=[48])||decide (d=[49])))||(m&&decide (n=[48]))
theorem UP (a:List UInt8):frm a=if Mv (hasPrefix a [45]) (cut (trimPrefix a [45]) [47]).1 (cut (trimPrefix a [45]) [47]).2.1 (cut (trimPrefix a [45]) [47]).2.2=true then none
  else some (if hasPrefix a [45]=true then -(AO (cut (trimPrefix a [45]) [47]).1:Int) else AO (cut (trimPrefix a [45]) [47]).1,if (cut (trimPrefix a [45]) [47]).2.2=true then AO (cut (trimPrefix a [45]) [47]).2.1 else 1):=by
 have h1:=UA a
 have h2:hasPrefix a [45]=false→(cut (trimPrefix a [45]) [47]).1[0]? ≠some 45:=fun hm hc=>by
  have h3:=VD hc
  rw[Bt] at hm
  have hm:=of_decide_eq_false hm
  rw[AS,if_neg hm] at h3
  exact hm h3
 have h3:=TN h2
 unfold frm
 generalize hasPrefix a [45]=m at*
 generalize cut (trimPrefix a [45]) [47]=c at*
 obtain⟨n,d,sl⟩:=c
 rw[h1]
 simp only at h3⊢
 rw[h3]
 have hd:dgB d=true↔(ldn d=d.length∧d≠[]∧(1<d.length→d[0]? ≠some 48)):=by
  rw[Gv];exact⟨K6,IL⟩
 by_cases hc:dgB n=true∧ ¬(m=true∧n=[48])
 ·rw[if_pos hc]
  have e1:Mv m n d sl=(sl&&(!dgB d||decide (d=[48])||decide (d=[49]))):=by
   unfold Mv
   rw[hc.1]
   have:(m&&decide (n=[48]))=false:=by
    by_cases hm:m=true
    ·rw[hm,decide_eq_false fun h=>hc.2 ⟨hm,h⟩];rfl
    ·rw[show m=false by simpa using hm];rfl
   rw[this,Bool.or_false];rfl
  rw[e1]
  simp only
  cases sl with
  |false=>rfl
  |true=>
   simp only[Bool.true_eq_false,if_false,Bool.true_and,if_true]
   by_cases hk:dgB d=true∧d≠[48]∧d≠[49]
   ·obtain⟨k1,k2,k3⟩:=hd.1 hk.1
    have e0:(!dgB d||decide (d=[48])||decide (d=[49]))=false:=by rw[hk.1,decide_eq_false hk.2.1,decide_eq_false hk.2.2];rfl
    rw[if_pos ⟨k1,k2,k3,hk.2⟩,e0,if_neg (show¬(false=true) by decide)]
   ·rw[if_neg fun h4=>hk ⟨hd.2 ⟨h4.1,h4.2.1,h4.2.2.1⟩,h4.2.2.2⟩,if_pos]
    by_cases k1:dgB d=true
    ·by_cases k2:d=[48]
     ·rw[decide_eq_true k2];simp
     ·by_cases k3:d=[49]
      ·rw[decide_eq_true k3];simp
      ·exact absurd ⟨k1,k2,k3⟩ hk
    ·rw[show dgB d=false by simpa using k1];rfl
 ·rw[if_neg hc,if_pos]
  unfold Mv
  by_cases k1:dgB n=true
  ·by_cases k2:m=true
   ·by_cases k3:n=[48]
    ·rw[k2,decide_eq_true k3];simp
    ·exact absurd ⟨k1,fun h=>k3 h.2⟩ hc
   ·exact absurd ⟨k1,fun h=>k2 h.1⟩ hc
  ·rw[show dgB n=false by simpa using k1];rfl
theorem Ku {n:List UInt8} (h:dgB n=true):n=decDigits (AO n):=Px.1 (Gv.1 h)
theorem Pr {n:List UInt8} (h:dgB n=true) (hl:n.length≤9):AO n<1000000000:=by
 have e:=Ku h
 rw[e] at hl
 exact Ld hl
theorem N5 (a:List UInt8) (ha:a.length<4611686018427387904) (W:World) (ht:AV W):
  Aj Tryz.prog 139 #[str a] W (fun _:Unit=> .int .i64 (rdR a).2) (fun _=>True) (fun _=>[]):=by
 have hfr:=UP a
 have hsv:OZ a=OZ a:=rfl
 have hcl:=RH (trimPrefix a [45])
 have htl:(trimPrefix a [45]).length≤a.length:=by rw[AS];split<;>simp
 have hmiss:(cut (trimPrefix a [45]) [47]).2.2=false→(cut (trimPrefix a [45]) [47]).2.1=[]:=fun h=>by
  rcases FP 47 (trimPrefix a [45]) with h1|⟨x,y,e,h1⟩
  ·rw[Es h1]
  ·rw[e,F7 y h1] at h;cases h
 conv at hsv=>rhs;unfold OZ
 generalize hasPrefix a [45]=m at*
 generalize cut (trimPrefix a [45]) [47]=c at*
 obtain⟨n,d,sl⟩:=c
 simp only at hfr hsv hcl hmiss
 refine Ad (args:=[str a]) Tryz.func139 rfl rfl rfl ?_
 refine zA (zB (wP rfl (Aa (zE (zA (zB (wP rfl ?_)))))))
 refine Ac rfl rfl rfl rfl rfl rfl (by kernel_rfl) (fun W _=>(Fr a ha W).cast hsv) ?_
 iterate 9 refine wP rfl ?_
 refine Aa ?_
 obtain⟨P1,e1⟩: ∃b,dgB n=b:=⟨_,rfl⟩
 obtain⟨P2,e2⟩: ∃b,dgB d=b:=⟨_,rfl⟩
 obtain⟨P3,e3⟩: ∃b,decide (d=[48])=b:=⟨_,rfl⟩
 obtain⟨P4,e4⟩: ∃b,decide (d=[49])=b:=⟨_,rfl⟩
 obtain⟨P5,e5⟩: ∃b,decide (n=[48])=b:=⟨_,rfl⟩
 have hB:Mv m n d sl=(!P1||(sl&&(!P2||P3||P4))||(m&&P5)):=by unfold Mv;rw[e1,e2,e3,e4,e5]
 refine AC (A7 (A7 ?_))
 refine AK (X:=Unit) (fun _=>[(4,str n),(5,str d),(6, .bool sl),(41, .bool (Mv m n d sl))]) (fun _=>[]) (fun _=>True) ?_ ?_
 ·refine zB (wP rfl ?_)
  refine Ac rfl rfl rfl rfl rfl rfl (by kernel_rfl) (fun W _=>(Hf n (by omega) W).cast (v':= .bool P1) (by rw[e1])) ?_
  refine wP rfl (wP rfl ?_)
  refine AM 19 rfl (fun h19=> ?_) (fun h19=> ?_)
  ·refine Ah rfl rfl ?_
   iterate 13 refine Ah rfl rfl ?_
   refine wP rfl (wP rfl ?_)
   iterate 5 refine Ah rfl rfl ?_
   refine wP rfl (Aa ?_)
   exact At () trivial ⟨rfl,rfl,rfl,congrArg (fun b=>some (Value.bool b)) (by rw[hB];simp_all),trivial⟩ [] rfl
  ·refine wP rfl (wP rfl ?_)
   refine AM 21 rfl (fun h21=> ?_) (fun h21=> ?_)
   ·refine wP rfl ?_
    refine Ac rfl rfl rfl rfl rfl rfl (by kernel_rfl) (fun W _=>(Hf d (by omega) W).cast (v':= .bool P2) (by rw[e2])) ?_
    refine wP rfl (wP rfl ?_)
    refine AM 25 rfl (fun h25=> ?_) (fun h25=> ?_)
    ·refine Ah rfl rfl ?_
     refine Ah rfl rfl ?_
     refine wP rfl (wP rfl ?_)
     iterate 2 refine Ah rfl rfl ?_
     refine wP rfl (wP rfl (wP rfl (wP rfl ?_)))
     iterate 5 refine Ah rfl rfl ?_
     refine wP rfl (Aa ?_)
     exact At () trivial ⟨rfl,rfl,rfl,congrArg (fun b=>some (Value.bool b)) (by rw[hB];simp_all),trivial⟩ [] rfl
    ·refine wP rfl (wP rfl ?_)
     refine Ab 27 (.bool P3) rfl (congrArg Value.bool ((AR _ _).trans e3)) ?_
     refine wP rfl (wP rfl ?_)
     refine AM 29 rfl (fun h29=> ?_) (fun h29=> ?_)
     ·refine Ah rfl rfl ?_
      refine Ah rfl rfl ?_
      refine wP rfl (wP rfl (wP rfl (wP rfl ?_)))
      iterate 5 refine Ah rfl rfl ?_
      refine wP rfl (Aa ?_)
      exact At () trivial ⟨rfl,rfl,rfl,congrArg (fun b=>some (Value.bool b)) (by rw[hB];simp_all),trivial⟩ [] rfl
     ·refine wP rfl (wP rfl ?_)
      refine Ab 31 (.bool P4) rfl (congrArg Value.bool ((AR _ _).trans e4)) ?_
      refine wP rfl (wP rfl (wP rfl (wP rfl ?_)))
      refine AM 35 rfl (fun h35=> ?_) (fun h35=> ?_)
      ·refine Ah rfl rfl ?_
       iterate 4 refine Ah rfl rfl ?_
       refine wP rfl (Aa ?_)
       exact At () trivial ⟨rfl,rfl,rfl,congrArg (fun b=>some (Value.bool b)) (by rw[hB];simp_all),trivial⟩ [] rfl
      ·refine wP rfl (wP rfl ?_)
       refine AM 37 rfl (fun h37=> ?_) (fun h37=> ?_)
       ·refine wP rfl (wP rfl ?_)
        refine Ab 39 (.bool P5) rfl (congrArg Value.bool ((AR _ _).trans e5)) ?_
        refine wP rfl (wP rfl (Aa ?_))
        exact At () trivial ⟨rfl,rfl,rfl,congrArg (fun b=>some (Value.bool b)) (by rw[hB];simp_all),trivial⟩ [] rfl
       ·refine Ah rfl rfl ?_
        refine Ah rfl rfl ?_
        refine wP rfl (wP rfl (Aa ?_))
        exact At () trivial ⟨rfl,rfl,rfl,congrArg (fun b=>some (Value.bool b)) (by rw[hB];simp_all),trivial⟩ [] rfl
   ·refine Ah rfl rfl ?_
    iterate 10 refine Ah rfl rfl ?_
    iterate 5 refine wP rfl ?_
    refine AM 37 rfl (fun h37=> ?_) (fun h37=> ?_)
    ·refine wP rfl (wP rfl ?_)
     refine Ab 39 (.bool P5) rfl (congrArg Value.bool ((AR _ _).trans e5)) ?_
     refine wP rfl (wP rfl (Aa ?_))
     exact At () trivial ⟨rfl,rfl,rfl,congrArg (fun b=>some (Value.bool b)) (by rw[hB];simp_all),trivial⟩ [] rfl
    ·refine Ah rfl rfl ?_
     refine Ah rfl rfl ?_
     refine wP rfl (wP rfl (Aa ?_))
     exact At () trivial ⟨rfl,rfl,rfl,congrArg (fun b=>some (Value.bool b)) (by rw[hB];simp_all),trivial⟩ [] rfl
 intro _ _
 refine Ak rfl (fun hbad=> ?_) (fun hbad=> ?_)
 ·rw[if_pos hbad] at hfr
  refine zA (zB (wP rfl (Aa (zE (zO (zP ?_))))))
  exact Af tH rfl (.tmp rfl) () (by unfold rdR;rw[hfr]) trivial fun W _=>Ae.nil _ _
 have hbad:Mv m n d sl=false:=hbad
 rw[if_neg (by rw[hbad];decide)] at hfr
 have hn:dgB n=true:=by
  cases h:dgB n with
  |true=>rfl
  |false=>unfold Mv at hbad;rw[h] at hbad;cases hbad
 have hdl:sl=true→dgB d=true:=fun hs=>by
  cases h:dgB d with
  |true=>rfl
  |false=>unfold Mv at hbad;rw[h,hs,hn] at hbad;cases hbad
 have hna:(if m=true then -(AO n:Int) else AO n).natAbs=AO n:=by split<;>omega
 have hne:=Ku hn
 have hlen1:n.length≤300↔AO n<Bp:=by
  conv=>lhs;rw[hne]
  exact GA
 have hlen2:d.length≤300↔(if sl=true then AO d else 1)<Bp:=by
  cases hs:sl with
  |true=>
   rw[if_pos rfl]
   conv=>lhs;rw[Ku (hdl hs)]
   exact GA
  |false=>
   rw[hmiss hs,if_neg (by decide)]
   exact⟨fun _=>GA.1 (by rw[FD];decide),fun _=>by decide⟩
 have hcode:(rdR a).2=if AO n<Bp∧(if sl=true then AO d else 1)<Bp then(if Nat.gcd (AO n) (if sl=true then AO d else 1)=1 then 0 else 11) else 4:=by
  unfold rdR
  rw[hfr]
  simp only[hna]
  generalize (if sl=true then AO d else 1)=k
  by_cases c1:AO n<Bp∧k<Bp
  ·rw[if_pos c1,if_pos c1]
   by_cases c2:Nat.gcd (AO n) k=1
   ·rw[if_pos c2,if_pos c2]
   ·rw[if_neg c2,if_neg c2]
  ·rw[if_neg c1,if_neg c1]
 refine zI (zE (A7 (A7 ?_)))
 refine AK (X:=Unit) (fun _=>[(4,str n),(5,str d),(6, .bool sl),(49, .bool (decide (¬(n.length≤300∧d.length≤300))))]) (fun _=>[]) (fun _=>True) ?_ ?_
 ·refine zB (wP rfl (wP rfl ?_))
  refine Ab 43 (.int .i64 (n.length:Nat)) rfl (congrArg (fun n:Nat=>Value.int .i64 (n:Int)) (AF n)) ?_
  refine wP rfl ?_
  by_cases h1:n.length≤300
  ·refine Ab 44 (.bool false) rfl (congrArg Value.bool (decide_eq_false (by omega))) ?_
   refine wP rfl (wP rfl (wP rfl ?_))
   refine Ab 47 (.int .i64 (d.length:Nat)) rfl (congrArg (fun n:Nat=>Value.int .i64 (n:Int)) (AF d)) ?_
   refine wP rfl ?_
   refine Ab 48 (.bool (decide (¬(n.length≤300∧d.length≤300)))) rfl (congrArg Value.bool (decide_eq_decide.2 (by show((d.length:Nat):Int)>300↔_;omega))) ?_
   refine wP rfl (Aa ?_)
   exact At () trivial ⟨rfl,rfl,rfl,rfl,trivial⟩ [] rfl
  ·refine Ab 44 (.bool true) rfl (congrArg Value.bool (decide_eq_true (by show((n.length:Nat):Int)>300;omega))) ?_
   refine wP rfl ?_
   iterate 3 refine Ah rfl rfl ?_
   refine wP rfl (Aa ?_)
   exact At () trivial ⟨rfl,rfl,rfl,by rw[decide_eq_true (show¬(n.length≤300∧d.length≤300) by omega)];rfl,trivial⟩ [] rfl
 intro _ _
 refine Ak rfl (fun hlong=> ?_) (fun hlong=> ?_)
 ·have hlong:=of_decide_eq_true hlong
  refine zA (zB (wP rfl (Aa (zE (zO (zP ?_))))))
  exact Af tH rfl (.tmp rfl) () (by rw[hcode,if_neg fun h=>hlong ⟨hlen1.2 h.1,hlen2.2 h.2⟩]) trivial fun W _=>Ae.nil _ _
 have hlong:n.length≤300∧d.length≤300:=Decidable.byContradiction fun h=>of_decide_eq_false hlong h
 rw[if_pos ⟨hlen1.1 hlong.1,hlen2.1 hlong.2⟩] at hcode
 refine zI (zE (zA (zA (zB (wP rfl (wP rfl (Aa ?_)))))))
 cases hs:sl with
 |false=>
  have hcode:(rdR a).2=0:=by rw[hcode,hs];exact if_pos (show Nat.gcd (AO n) 1=1 from Nat.gcd_one_right _)
  refine zE (zR rfl (zA (zB (wP rfl (Aa (zE (zO (zP ?_))))))))
  exact Af tH rfl (.tmp rfl) () (by rw[hcode]) trivial fun W _=>Ae.nil _ _
 |true=>
  have hd:=hdl hs
  have hde:=Ku hd
  rw[hs,if_pos rfl] at hcode
  refine zE (zS rfl (zI (zE (A7 (A7 ?_)))))
  refine AK (X:=Unit) (fun _=>[(4,str n),(5,str d),(59, .bool (decide (n.length≤9∧d.length≤9)))]) (fun _=>[]) (fun _=>True) ?_ ?_
  ·refine zB (wP rfl (wP rfl ?_))
   refine Ab 53 (.int .i64 (n.length:Nat)) rfl (congrArg (fun n:Nat=>Value.int .i64 (n:Int)) (AF n)) ?_
   refine wP rfl ?_
   by_cases h1:n.length≤9
   ·refine Ab 54 (.bool true) rfl (congrArg Value.bool (decide_eq_true (by omega))) ?_
    refine wP rfl (wP rfl (wP rfl ?_))
    refine Ab 57 (.int .i64 (d.length:Nat)) rfl (congrArg (fun n:Nat=>Value.int .i64 (n:Int)) (AF d)) ?_
    refine wP rfl ?_
    refine Ab 58 (.bool (decide (n.length≤9∧d.length≤9))) rfl (congrArg Value.bool (decide_eq_decide.2 (by omega))) ?_
    refine wP rfl (Aa ?_)
    exact At () trivial ⟨rfl,rfl,rfl,trivial⟩ [] rfl
   ·refine Ab 54 (.bool false) rfl (congrArg Value.bool (decide_eq_false (by omega))) ?_
    refine wP rfl ?_
    iterate 3 refine Ah rfl rfl ?_
    refine wP rfl (Aa ?_)
    exact At () trivial ⟨rfl,rfl,by rw[decide_eq_false (fun h:n.length≤9∧d.length≤9=>h1 h.1)];rfl,trivial⟩ [] rfl
  intro _ _
  refine Ak rfl (fun h9=> ?_) (fun h9=> ?_)
  ·obtain⟨h9,h9'⟩:=of_decide_eq_true h9
   have l1:AO n<1000000000:=Pr hn h9
   have l2:AO d<1000000000:=Pr hd h9'
   refine zA (zA (zB (wP rfl ?_)))
   refine Ac rfl rfl rfl rfl rfl rfl (by kernel_rfl) (fun W _=>Eh n (by omega) (Gv.1 hn).all W) ?_
   refine wP rfl ?_
   refine Ac rfl rfl rfl rfl rfl rfl (by kernel_rfl) (fun W _=>Eh d (by omega) (Gv.1 hd).all W) ?_
   refine Ac rfl rfl rfl rfl rfl rfl (by kernel_rfl) (fun W _=>Qm (AO n) (AO d) (by omega) (by omega) W) ?_
   refine wP rfl ?_
   by_cases hg:Nat.gcd (AO n) (AO d)=1
   ·refine Ab 65 (.bool false) rfl (congrArg Value.bool (by rw[bne_eq_false_iff_eq];omega)) ?_
    refine Aa (zE (zS rfl (zI (zE (zA (zB (wP rfl (Aa (zE (zO (zP ?_)))))))))))
    exact Af tH rfl (.tmp rfl) () (by rw[hcode,if_pos hg]) trivial fun W _=>Ae.nil _ _
   ·refine Ab 65 (.bool true) rfl (congrArg Value.bool (by rw[bne_iff_ne];omega)) ?_
    refine Aa (zE (zR rfl (zA (zB (wP rfl (Aa (zE (zO (zP (zP ?_))))))))))
    exact Af tH rfl (.tmp rfl) () (by rw[hcode,if_neg hg]) trivial fun W _=>Ae.nil _ _
  ·have e1:n=itoa ((AO n:Nat):Int):=by rw[Hb];exact hne
   have e2:d=itoa ((AO d:Nat):Int):=by rw[Hb];exact hde
   refine zI (zE (zA (zA (zB (wP rfl (wP rfl ?_))))))
   refine Ac rfl rfl rfl rfl rfl rfl (by kernel_rfl) (fun W1 hp=>by
    have h:=Rg ((AO n:Nat):Int) ((AO d:Nat):Int) (by rw[Int.natAbs_natCast, ←hne];exact hlong.1) (by rw[Int.natAbs_natCast, ←hde];exact hlong.2) W1 (ht.hp hp)
    rw[←e1, ←e2,Int.natAbs_natCast,Int.natAbs_natCast,Hb] at h
    exact h) ?_
   iterate 5 refine wP rfl ?_
   refine Aa (zE (zA (zB (wP rfl (wP rfl ?_)))))
   by_cases hg:Nat.gcd (AO n) (AO d)=1
   ·refine Ab 73 (.bool false) rfl (congrArg Value.bool (by show(!_)=false;rw[AR,hg,FD];rfl)) ?_
    refine Aa (zE (zS rfl (zI (zE (zA (zB (wP rfl (Aa (zE (zO ?_))))))))))
    exact Af tH rfl (.tmp rfl) () (by rw[hcode,if_pos hg]) trivial fun W _=>Ae.nil _ _
   ·refine Ab 73 (.bool true) rfl (congrArg Value.bool (by
     show(!_)=true
     rw[AR,decide_eq_false fun h=>hg (by have:=congrArg AO h;rw[Cs] at this;exact this)];rfl)) ?_
    refine Aa (zE (zR rfl (zA (zB (wP rfl (Aa (zE (zO (zP ?_)))))))))
    exact Af tH rfl (.tmp rfl) () (by rw[hcode,if_neg hg]) trivial fun W _=>Ae.nil _ _
-- BOXES 1
-- CODE2
theorem NH (a b c d:Int) (ha:okN a) (hb:okN b) (hc:okN c) (hd:okN d) (hab:okN (a*b)) (hcd:okN (c*d)) (W:World) (ht:AV W):
  Aj Tryz.prog 66 #[str (itoa a),str (itoa b),str (itoa c),str (itoa d)] W (fun _:Unit=> .tuple #[str (itoa (a*b)),str (itoa (c*d)), .int .i64 0]) (fun _=>True) (fun _=>[]):=by
 refine Ad (args:=[str (itoa a),str (itoa b),str (itoa c),str (itoa d)]) Tryz.func66 rfl rfl rfl ?_
 refine zA (zB (wP rfl (wP rfl (wP rfl (Aa (zE (zA (zB (wP rfl (wP rfl ?_))))))))))
 refine Ac rfl rfl rfl rfl rfl rfl (by kernel_rfl) (fun W1 hp=>KD a b ha.dd hb.dd hab.dd W1 (ht.hp hp)) ?_
 iterate 5 refine wP rfl ?_
 refine Aa (zE (zA (zA (zB (wP rfl (wP rfl (Aa (zE (zS rfl (zI (zE (zA (zB ?_)))))))))))))
 refine wP rfl (wP rfl ?_)
 refine Ac rfl rfl rfl rfl rfl rfl (by kernel_rfl) (fun W1 hp=>KD c d hc.dd hd.dd hcd.dd W1 (ht.hp hp)) ?_
 iterate 5 refine wP rfl ?_
 refine Aa (zE (zA (zB ?_)))
 iterate 6 refine wP rfl ?_
 refine Aa (zE (zO ?_))
 exact BW tH rfl (.tmp rfl) (.tmp rfl) (.tmp rfl) () rfl trivial fun W _=>Ae.nil _ _
-- BOXES 1
-- CODE2
theorem Jl {q:Rat} (h:okQ q):(Ai q).length≤1000:=by
 have:=BR h
 omega
theorem Nh {q:Rat} (h:okQ q) (W:World) (ht:AV W):Aj Tryz.prog 139 #[str (Ai q)] W (fun _:Unit=> .int .i64 0) (fun _=>True) (fun _=>[]):=
 (N5 (Ai q) (by have:=Jl h;omega) W ht).cast (by rw[Oe h])
theorem Ml {p q:Rat} (hp':okQ p) (hq:okQ q) (W:World) (ht:AV W):Aj Tryz.prog 63 #[str (Ai p),str (Ai q)] W (fun _:Unit=> .int .i64 0) (fun _=>True) (fun _=>[]):=by
 refine Ad (args:=[str (Ai p),str (Ai q)]) Tryz.func63 rfl rfl rfl ?_
 refine zA (zB (wP rfl (Aa (zE (zA (zA (zB (wP rfl ?_))))))))
 refine Ac rfl rfl rfl rfl rfl rfl (by kernel_rfl) (fun W1 hp=>Nh hp' W1 (ht.hp hp)) ?_
 refine wP rfl (Aa (zE (zA (zB (wP rfl (wP rfl (Aa (zE (zS rfl (zI (zE (zA (zB ?_)))))))))))))
 refine wP rfl ?_
 refine Ac rfl rfl rfl rfl rfl rfl (by kernel_rfl) (fun W1 hp=>Nh hq W1 (ht.hp hp)) ?_
 refine wP rfl (Aa (zE (zO ?_)))
 exact Af tH rfl (.tmp rfl) () rfl trivial fun W _=>Ae.nil _ _
def iN (q:Rat):Int:=if Ey q=true then q.num else 0
def iD (q:Rat):Int:=if Ey q=true then((q.den:Nat):Int) else 0
theorem Kg {q:Rat} (h:okQ q):AX Tryz.prog 64 [str (Ai q)] (.tuple #[.int .i64 (iN q), .int .i64 (iD q), .bool (Ey q)]):=fun W=>
 (QR q (by have:=Jl h;omega) W).cast (by
  unfold iN iD
  cases Ey q<;>rfl)
theorem XI {x y:Int} (hx:x.natAbs<1000000000) (hy:y.natAbs<1000000000):(x*y).natAbs<1000000000000000000:=by
 rw[Int.natAbs_mul]
 have:=Nat.mul_lt_mul'' hx hy
 omega
theorem Pe {x y:Int} (hx:x.natAbs<1000000000) (hy:y.natAbs<1000000000):w64 (x*y)=x*y:=by
 have:=XI hx hy
 exact An (by omega) (by omega)
theorem Xz {n:Nat} (h:n<1000000000):((n:Nat):Int).natAbs<1000000000:=by rw[Int.natAbs_natCast];exact h
def sh2 (p q:Rat):Bool:=Ey p&&Ey q
theorem SZ {p q:Rat} (h:sh2 p q=true):iN p=p.num∧iD p=(p.den:Nat)∧iN q=q.num∧iD q=(q.den:Nat)∧p.num.natAbs<1000000000∧p.den<1000000000∧q.num.natAbs<1000000000∧q.den<1000000000:=by
 obtain⟨h1,h2⟩:=Bool.and_eq_true_iff.1 h
 obtain⟨a1,a2⟩:=Jq h1
 obtain⟨b1,b2⟩:=Jq h2
 exact⟨if_pos h1,if_pos h1,if_pos h2,if_pos h2,a1,a2,b1,b2⟩
theorem IF {q:Rat} (h:okQ q):AX Tryz.prog 65 [str (Ai q)] (.tuple #[str (itoa q.num),str (itoa ((q.den:Nat):Int))]):=fun W=>
 (Qj q (Jl h) W).cast (by rw[Hb])
theorem Q0 (p q:Rat) (h:Sz2 p q) (W:World) (ht:AV W):
  Aj Tryz.prog 25 #[str (Ai p),str (Ai q)] W (fun _:Unit=> .tuple #[.int .i64 (E6 p q), .int .i64 0]) (fun _=>True) (fun _=>[]):=by
 have hpn:=p.den_pos
 have hqn:=q.den_pos
 rw[←Q8]
 obtain⟨x,hx⟩: ∃x,p.num*((q.den:Nat):Int)=x:=⟨_,rfl⟩
 obtain⟨y,hy⟩: ∃y,q.num*((p.den:Nat):Int)=y:=⟨_,rfl⟩
 rw[hx,hy]
 refine Ad (args:=[str (Ai p),str (Ai q)]) Tryz.func25 rfl rfl rfl ?_
 refine zA (zB (wP rfl (wP rfl (Aa (zE (zA (zA (zB (wP rfl (wP rfl ?_))))))))))
 refine Ac rfl rfl rfl rfl rfl rfl (by kernel_rfl) (fun W1 hp=>Ml h.okp h.okq W1 (ht.hp hp)) ?_
 refine wP rfl (Aa (zE (zA (zB (wP rfl (wP rfl (Aa (zE (zS rfl (zI (zE (zA (zB ?_)))))))))))))
 refine wP rfl ?_
 refine Ac rfl rfl rfl rfl rfl rfl (by kernel_rfl) (fun W _=>Kg h.okp W) ?_
 iterate 7 refine wP rfl ?_
 refine Aa (zE (zA (zB (wP rfl ?_))))
 refine Ac rfl rfl rfl rfl rfl rfl (by kernel_rfl) (fun W _=>Kg h.okq W) ?_
 iterate 7 refine wP rfl ?_
 refine Aa (AC (A7 (A7 ?_)))
 refine AK (X:=Unit) (fun _=>[(0,str (Ai p)),(1,str (Ai q)),(7, .int .i64 (iN p)),(8, .int .i64 (iD p)),(10, .int .i64 (iN q)),(11, .int .i64 (iD q)),(41, .bool (sh2 p q))]) (fun _=>[]) (fun _=>True) ?_ ?_
 ·refine zB (wP rfl (wP rfl ?_))
  refine AM 39 rfl (fun h39=> ?_) (fun h39=> ?_)
  ·refine wP rfl (wP rfl (Aa ?_))
   exact At () trivial ⟨rfl,rfl,rfl,rfl,rfl,rfl,congrArg (fun b=>some (Value.bool b)) (by unfold sh2;simp_all),trivial⟩ [] rfl
  ·refine Ah rfl rfl ?_
   refine wP rfl (Aa ?_)
   exact At () trivial ⟨rfl,rfl,rfl,rfl,rfl,rfl,congrArg (fun b=>some (Value.bool b)) (by unfold sh2;simp_all),trivial⟩ [] rfl
 intro _ _
 refine Ak rfl (fun hs=> ?_) (fun hs=> ?_)
 ·obtain⟨e1,e2,e3,e4,l1,l2,l3,l4⟩:=SZ hs
  have w1:w64 (iN p*iD q)=x:=by rw[e1,e4, ←hx];exact Pe l1 (Xz l4)
  have w2:w64 (iN q*iD p)=y:=by rw[e3,e2, ←hy];exact Pe l3 (Xz l2)
  refine zA (zH (zA (zB (wP rfl (wP rfl (wP rfl ?_))))))
  refine Ab 45 (.int .i64 x) rfl (congrArg (Value.int .i64) w1) ?_
  refine wP rfl (wP rfl (wP rfl ?_))
  refine Ab 48 (.int .i64 y) rfl (congrArg (Value.int .i64) w2) ?_
  refine wP rfl ?_
  by_cases h1:x<y
  ·refine Ab 49 (.bool true) rfl (congrArg Value.bool (decide_eq_true h1)) ?_
   refine wP rfl (Aa (zE (zR rfl (zA (zB (wP rfl (wP rfl (Aa (zE (zO (zQ (zP (zP ?_)))))))))))))
   exact Ar tH rfl (.tmp rfl) (.tmp rfl) () (by rw[FV,if_pos h1]) trivial fun W _=>Ae.nil _ _
  refine Ab 49 (.bool false) rfl (congrArg Value.bool (decide_eq_false h1)) ?_
  refine wP rfl (Aa (zE (zS rfl (zA (zB (wP rfl (wP rfl (wP rfl ?_))))))))
  refine Ab 53 (.int .i64 x) rfl (congrArg (Value.int .i64) w1) ?_
  refine wP rfl (wP rfl (wP rfl ?_))
  refine Ab 56 (.int .i64 y) rfl (congrArg (Value.int .i64) w2) ?_
  refine wP rfl ?_
  by_cases h2:y<x
  ·refine Ab 57 (.bool true) rfl (congrArg Value.bool (decide_eq_true h2)) ?_
   refine wP rfl (Aa (zE (zR rfl (zA (zB (wP rfl (wP rfl (Aa (zE (zO (zQ (zP (zP ?_)))))))))))))
   exact Ar tH rfl (.tmp rfl) (.tmp rfl) () (by rw[FV,if_neg h1,if_neg (by omega)]) trivial fun W _=>Ae.nil _ _
  refine Ab 57 (.bool false) rfl (congrArg Value.bool (decide_eq_false h2)) ?_
  refine wP rfl (Aa (zE (zS rfl (zI (zN (zE (zA (zB (wP rfl (wP rfl (Aa (zE (zO ?_)))))))))))))
  refine zP ?_
  exact Ar tH rfl (.tmp rfl) (.tmp rfl) () (by rw[FV,if_neg h1,if_pos (by omega)]) trivial fun W _=>Ae.nil _ _
 ·refine zI (zE (zA (zB (wP rfl ?_))))
  refine Ac rfl rfl rfl rfl rfl rfl (by kernel_rfl) (fun W _=>IF h.okp W) ?_
  iterate 5 refine wP rfl ?_
  refine Aa (zE (zA (zB (wP rfl ?_))))
  refine Ac rfl rfl rfl rfl rfl rfl (by kernel_rfl) (fun W _=>IF h.okq W) ?_
  iterate 5 refine wP rfl ?_
  refine Aa (zE (zA (zB (wP rfl (wP rfl (wP rfl (wP rfl ?_)))))))
  refine Ac rfl rfl rfl rfl rfl rfl (by kernel_rfl) (fun W1 hp=>(NH p.num (q.den:Nat) q.num (p.den:Nat) h.okp.1 h.okq.2 h.okq.1 h.okp.2 h.c1 h.c2 W1 (ht.hp hp)).cast (v':= .tuple #[str (itoa x),str (itoa y), .int .i64 0]) (by rw[hx,hy])) ?_
  iterate 7 refine wP rfl ?_
  refine Aa (zE (zA (zA (zB (wP rfl (wP rfl (Aa (zE (zS rfl (zI (zE (zA (zB ?_)))))))))))))
  refine wP rfl (wP rfl ?_)
  refine Ac rfl rfl rfl rfl rfl rfl (by kernel_rfl) (fun W1 hp=>Rf x y (by rw[←hx];exact h.c1.dd) (by rw[←hy];exact h.c2.dd) W1) ?_
  refine wP rfl (wP rfl (wP rfl (wP rfl (Aa (zE (zO ?_))))))
  exact Ar tH rfl (.tmp rfl) (.tmp rfl) () rfl trivial fun W _=>Ae.nil _ _
end
end Go.Proofs.YtlagebbefnnnnaaGreatDoor
