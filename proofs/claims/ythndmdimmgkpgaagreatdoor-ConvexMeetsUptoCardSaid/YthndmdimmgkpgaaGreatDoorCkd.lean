/-
  Lemmas that the theorem convexMeets_upto_card needs (part 4 of 7).
-/
import Derived.Test.YthndmdimmgkpgaaGreatDoorCkc
set_option maxHeartbeats 64000000
namespace Go.Proofs.YthndmdimmgkpgaaGreatDoor
section
open Go Go.RowKit Go.Am Go.Lib
set_option maxRecDepth 10000
-- BOXES 3
-- CODE2
theorem Q2 (b:UInt8):decide (((b.toNat:Nat):Int)<48)=decide (b.toNat<48):=decide_eq_decide.2 (by omega)
theorem Q4 (b:UInt8):decide (((b.toNat:Nat):Int)>57)=decide (57<b.toNat):=decide_eq_decide.2 (by omega)
def dgB (s:List UInt8):Bool:=decide (s=decDigits (AN s))
theorem Gs {s:List UInt8}:dgB s=true↔LT s:=by unfold dgB;rw[decide_eq_true_iff];exact Oq.symm
theorem Qo {s:List UInt8} (h: ¬LT s):dgB s=false:=by
 cases e:dgB s
 ·rfl
 ·exact absurd (Gs.1 e) h
theorem Hk (s:List UInt8) (hs:s.length<4611686018427387904):B0 Tryz.prog 83 [str s] (.bool (dgB s)):=by
 intro W
 refine Ac Tryz.func83 I I I ?_
 refine zA (zB (wP I (Aa (AH (Ar (Ar ?_))))))
 refine AC (X:=Unit) (fun _=>[(0,str s),(16, .bool (decide (s=[]∨(1<s.length∧s[0]? =some 48))))]) (fun _=>[]) (fun _=>True) ?_ ?_
 ·refine zB (wP I (wP I ?_))
  refine Ah 5 (.int .i64 (s.length:Nat)) I (congrArg (fun n:Nat=>Value.int .i64 (n:Int)) (A5 s)) ?_
  refine wP I ?_
  by_cases h0:s=[]
  ·refine wU 6 true I (by rw[h0];rfl) (wP I ?_)
   iterate 8 refine Ao I I ?_
   exact wP I (Aa (An () tO ⟨I,by rw[dT (Or.inl h0)];rfl,tO⟩ [] I))
  ·have hpos:0<s.length:=List.length_pos_iff.2 h0
   refine wU 6 false I (by rw[beq_eq_false_iff_ne];omega) (wP I (wP I (wP I ?_)))
   refine Ah 9 (.int .i64 (s.length:Nat)) I (congrArg (fun n:Nat=>Value.int .i64 (n:Int)) (A5 s)) ?_
   refine wP I ?_
   by_cases h1:1<s.length
   ·refine wU 10 true I (dT (by omega)) ?_
    obtain⟨b,hb⟩: ∃b,s[0]? =some b:=⟨s[0],List.getElem?_eq_getElem hpos⟩
    refine wP I (wP I ?_)
    refine AV 0 tH I I I I I I I I hb ?_
    refine wP I (wU 14 (decide (b=48)) I (Dt b 48) (wP I (wP I (Aa ?_))))
    refine An () tO ⟨I, ?_,tO⟩ [] I
    have e:decide (s=[]∨(1<s.length∧s[0]? =some 48))=decide (b=48):=by
     rw[decide_eq_decide,hb]
     constructor
     ·rintro(h|⟨_,h⟩)
      ·exact absurd h h0
      ·exact Option.some.inj h
     ·intro h;exact .inr ⟨h1,by rw[h]⟩
    rw[e];rfl
   ·refine wU 10 false I (dF (by omega)) (wP I ?_)
    iterate 3 refine Ao I I ?_
    exact wP I (wP I (Aa (An () tO ⟨I,by rw[show decide (s=[]∨1<s.length∧s[0]? =some 48)=false from dF (fun h=>h.elim h0 (fun h=>h1 h.1))];rfl,tO⟩ [] I)))
 intro _ _
 refine Aw I (fun hc=> ?_) (fun hc=> ?_)
 ·have hc:=of_decide_eq_true hc
  refine zA (zB (wP I (Aa (zE (zO (zP ?_))))))
  refine wR1 I I ?_
  rw[Qo fun h=> ?_]
  rcases hc with hc|⟨h1,h2⟩
  ·exact h.ne hc
  ·exact h.lead h1 h2
 have hc:=of_decide_eq_false hc
 have hne:s≠[]:=fun h=>hc (.inl h)
 have hlead:1<s.length→s[0]? ≠some 48:=fun h1 h2=>hc (.inr ⟨h1,h2⟩)
 refine zI (zE (zA (zA (zB (wP I (Aa (zE (zH ?_))))))))
 refine A9 (X:=Nat) (fun i=>[(0,str s),(3, .int .i64 (i:Nat))]) (fun _=>[]) (fun i=>i≤s.length∧ ∀b∈s.take i,DC b=true) (fun i=>s.length-i) 0 ⟨Nat.zero_le _,fun b hb=>by simp at hb⟩ ⟨I,I,tO⟩ [] I ?_
 rintro i ⟨hi,hdg⟩
 have hi:i≤s.length:=hi
 have hdg: ∀b∈s.take i,DC b=true:=hdg
 refine zA (zA (zB (wP I (wP I (wP I ?_)))))
 refine Ah 19 (.int .i64 (s.length:Nat)) I (congrArg (fun n:Nat=>Value.int .i64 (n:Int)) (A5 s)) ?_
 refine wP I ?_
 by_cases hlt:i<s.length
 ·refine wU 20 true I (dT (by omega)) (Aa (zE (zR I (zI (zE (zA (zH (zA (zB ?_)))))))))
  obtain⟨b,hb⟩: ∃b,s[i]? =some b:=⟨s[i],List.getElem?_eq_getElem hlt⟩
  have hbm:b∈s:=List.mem_of_getElem? hb
  refine wP I (wP I ?_)
  refine AV i tH I I I I I I I I hb ?_
  refine wP I ?_
  by_cases h48:b.toNat<48
  ·refine wU 26 true I ((Q2 b).trans (dT h48)) (wP I ?_)
   iterate 4 refine Ao I I ?_
   refine wP I (Aa (zE (zR I (zA (zB (wP I (Aa (zE (zO (zQ (zP (zP (zQ ?_)))))))))))))
   refine zP ?_
   refine wR1 I I ?_
   rw[Qo fun h=>by have:=C5.1 (h.all b hbm);omega]
  ·refine wU 26 false I ((Q2 b).trans (dF h48)) (wP I (wP I (wP I ?_)))
   refine AV i tH I I I I I I I I hb ?_
   refine wP I ?_
   by_cases h57:57<b.toNat
   ·refine wU 31 true I ((Q4 b).trans (dT h57)) (wP I (Aa (zE (zR I (zA (zB (wP I (Aa (zE (zO (zQ (zP (zP ?_)))))))))))))
    refine zQ (zP ?_)
    refine wR1 I I ?_
    rw[Qo fun h=>by have:=C5.1 (h.all b hbm);omega]
   ·refine wU 31 false I ((Q4 b).trans (dF h57)) (wP I (Aa (zE (zS I (zI (zN (zE (zB (wP I (wP I (wV 22 ((i+1:Nat):Int) I (Ax (by omega)) (wP I (Aa ?_)))))))))))))
    refine A4 (i+1) ⟨hlt,fun c hc=> ?_⟩ (by show s.length-(i+1)<s.length-i;omega) ⟨I,I,tO⟩ [] I
    rw[List.take_add_one,hb,List.mem_append] at hc
    rcases hc with hc|hc
    ·exact hdg c hc
    ·obtain rfl:c=b:=by simpa using hc
     exact C5.2 ⟨by omega,by omega⟩
 ·refine wU 20 false I (dF (by omega)) (Aa (zE (zS I (zJ (zK (zK (zL (zE (zA (zB (wP I (Aa (zE ?_)))))))))))))
  refine zO ?_
  refine wR1 I I ?_
  rw[List.take_of_length_le (by omega)] at hdg
  rw[Gs.2 ⟨hne,hdg,hlead⟩]
theorem JF (a b:Nat) (ha:a<9223372036854775808) (hb:b<9223372036854775808):B0 Tryz.prog 84 [.int .i64 (a:Nat), .int .i64 (b:Nat)] (.int .i64 (Nat.gcd a b:Nat)):=by
 intro W
 refine Ac Tryz.func84 I I I ?_
 refine zA (zB (wP I (Aa (zE (zA (zH ?_))))))
 refine A9 (X:=Nat×Nat) (fun x=>[(0, .int .i64 (x.1:Nat)),(1, .int .i64 (x.2:Nat))]) (fun _=>[]) (fun x=>x.1<9223372036854775808∧x.2<9223372036854775808∧Nat.gcd x.1 x.2=Nat.gcd a b) (fun x=>x.2) (a,b) ⟨ha,hb,I⟩ ⟨I,I,tO⟩ [] I ?_
 rintro⟨x,y⟩ ⟨hx,hy,hg⟩
 have hx:x<9223372036854775808:=hx
 have hy:y<9223372036854775808:=hy
 have hg:Nat.gcd x y=Nat.gcd a b:=hg
 refine zA (zA (zB (wP I (wP I (Aa (zE ?_))))))
 by_cases h0:y=0
 ·refine Bc 6 (.bool false) I (congrArg Value.bool (by rw[bne_eq_false_iff_eq];omega)) ?_
  exact zS I (zJ (zK (zK (zL (zE (zA (zB (wP I (wP I (Aa (zE (zO (wR1 I I (by rw[←hg,h0,Nat.gcd_zero_right]))))))))))))))
 ·refine Bc 6 (.bool true) I (congrArg Value.bool (by rw[bne_iff_ne];omega)) ?_
  refine zR I (zI (zE (zH (zU (qP I (qP I (qP I ?_)))))))
  refine Dv I I I I I (by omega) ?_
  refine qP I (qP I (AS (Aa (zN ?_))))
  have hr:x%y<y:=Nat.mod_lt _ (by omega)
  exact A4 (y,x%y) ⟨hy,Nat.lt_trans hr hy,by show Nat.gcd y (x%y)=_;rw[Nat.gcd_comm, ←Nat.gcd_rec,Nat.gcd_comm];exact hg⟩ hr ⟨I,I,tO⟩ [] I
theorem Ch (s:List UInt8) (hs:s.length≤18) (hd: ∀b∈s,DC b=true):B0 Tryz.prog 85 [str s] (.int .i64 (AN s:Nat)):=by
 intro W
 have hlt: ∀i,AN (s.take i)<1000000000000000000:=fun i=>by
  have h1:=F8 (s.take i).length (s:=s.take i) rfl fun b hb=>hd b (List.mem_of_mem_take hb)
  have h2:(s.take i).length≤18:=by rw[List.length_take];omega
  exact Nat.lt_of_lt_of_le h1 (Nat.pow_le_pow_right (by decide) h2)
 refine Ac Tryz.func85 I I I ?_
 refine zA (zB (wP I (Aa (zE (zA (zB (wP I (Aa (zE (zA (zA (zB (wP I ?_)))))))))))))
 refine Aa (zE (zH ?_))
 refine A9 (X:=Nat) (fun i=>[(0,str s),(3, .int .i64 (AN (s.take i):Nat)),(4, .int .i64 (i:Nat))]) (fun _=>[]) (fun i=>i≤s.length) (fun i=>s.length-i) 0 (Nat.zero_le _) ⟨I,I,I,tO⟩ [] I ?_
 intro i hi
 have hi:i≤s.length:=hi
 refine zA (zA (zB (wP I (wP I (wP I ?_)))))
 refine Ah 7 (.int .i64 (s.length:Nat)) I (congrArg (fun n:Nat=>Value.int .i64 (n:Int)) (A5 s)) ?_
 refine wP I ?_
 by_cases h:i<s.length
 ·refine wU 8 true I (dT (by omega)) (Aa (zE (zR I (zI (zE (zA (zH (zB ?_))))))))
  obtain⟨b,hb⟩: ∃b,s[i]? =some b:=⟨s[i],List.getElem?_eq_getElem h⟩
  have hdb:=C5.1 (hd b (List.mem_of_getElem? hb))
  have e1:AN (s.take (i+1))=10*AN (s.take i)+(b.toNat-48):=by
   rw[List.take_add_one,hb];exact Dj _ _
  have l1:=hlt i
  have l2:=hlt (i+1)
  refine wP I (wP I (wV 12 ((10*AN (s.take i):Nat):Int) I (show w64 (10*(AN (s.take i):Nat))=_ by rw[A0 (by omega) (by omega)];omega) (wP I (wP I ?_))))
  refine AV i tH I I I I I I I I hb ?_
  refine wP I ?_
  refine Ah 16 (.int .u8 ((b.toNat-48:Nat):Int)) I (congrArg (Value.int .u8) (show IntKind.u8.wrap ((b.toNat:Nat)-48)=_ by
   simp only[IntKind.wrap,IntKind.signed,IntKind.bits];simp;omega)) ?_
  refine Ja Tryz.underlying5 Tryz.underlying3 I I I I ?_
  exact wV 17 ((b.toNat-48:Nat):Int) I (BG (by omega)) (wP I (wV 18 ((AN (s.take (i+1)):Nat):Int) I (show w64 (((10*AN (s.take i):Nat):Int)+((b.toNat-48:Nat):Int))=_ by rw[A0 (by omega) (by omega),e1];omega) (wP I (Aa (zN (zE (zB (wP I (wP I (wV 10 ((i+1:Nat):Int) I (Ax (by omega)) (wP I (Aa (A4 (i+1) h (by show s.length-(i+1)<s.length-i;omega) ⟨I,I,I,tO⟩ [] I)))))))))))))
 ·refine wU 8 false I (dF (by omega)) (Aa (zE (zS I (zJ (zK (zK (zL (zE (zA (zB (wP I (wP I (Aa ?_)))))))))))))
  exact zE (zO (wR1 I I (by rw[List.take_of_length_le (by omega)])))
-- BOXES 3
-- CODE2
section
variable {r:Option Nat} {n:Nat} {P:Program} {N:Nat} {D:List Deferred} {ops:List Oper} {Q:Exit→Act→World→Prop} {o:Oper} {rest:List Oper} {env:Env} {A:World→Prop} {A2:World→Prop} {R:Act→World→Prop}
theorem Sa {T:Tbl} {i:TI} {ρ:Operand→Value} {a:List UInt8} {t:TypeId} {x y:Operand} {k:IntKind} (l:Nat) (hT:Go.Am.okB P T=true) (ho:o.op= .slice t x none (some y) none) (ht:Cs T t=some i) (hk:i.kind=1)
  (hx:ρ x=str a) (hy:ρ y= .int k l) (h1:l≤a.length) (W:World):(execOp ρ o).run P W= .ok (.value (str (a.take l))) W:=by
 have hu:=FY (B9 hT ht) hk
 have hsz:(⟨a.toArray⟩:ByteArray).size=a.length:=by show a.toArray.size=_;simp
 have e:(⟨a.toArray⟩:ByteArray).extract 0 l=⟨(a.take l).toArray⟩:=by
  apply ByteArray.ext
  rw[ByteArray.data_extract]
  apply Array.toList_inj.1
  simp[List.extract_eq_take_drop]
 simp[execOp,ho,Instr.sliceAt,Instr.slice,Instr.sliceBounds,Instr.sliceBound,hx,hy,asIntOf,run_underlying hu,hsz,h1,e]
theorem U6 (l:Nat) {T:Tbl} {i:TI} {a:List UInt8} {d:Nat} {t:TypeId} {x y:Operand} {k:IntKind} {z:Int} (hT:Go.Am.okB P T=true) (hg:A6 ops N env o=some true) (hd:o.dst=some d) (ho:o.op= .slice t x none (some y) none) (ht:Cs T t=some i) (hk:i.kind=1)
  (hx:evO N env x=some (str a)) (hy:evO N env y=some (.int k z)) (hz:z=l) (h1:l≤a.length)
  (hn:WQ P N D ops A2 R rest ((d,str (a.take l))::env) A):WQ P N D ops A2 R (o::rest) env A:=
 Eg hg hd (fun c e=>by rw[ho] at e;cases e) (fun ρ W hρ _=>Sa l hT ho ht hk (hρ _ _ hx) (by rw[←hz];exact hρ _ _ hy) h1 W) hn
end
section
variable {n:Nat} {P:Program} {W0:World} {N:Nat} {env:Env} {bxs:List Bx}
theorem Kj {fn:Func} {T:Tbl} {r1 r2 r3 r4:ResultVar} {v1 v2 v3 v4:Value} {X:Type} {val:X→Value} {Φ:X→Prop} {nb:X→List Bx} (hT:Go.Am.okB P T=true) (hr:fn.results= #[r1,r2,r3,r4])
  (h1:Res P T env bxs N r1 v1) (h2:Res P T env bxs N r2 v2) (h3:Res P T env bxs N r3 v3) (h4:Res P T env bxs N r4 v4)
  (x:X) (hv: .tuple #[v1,v2,v3,v4]=val x) (hx:Φ x) (hnb: ∀W,Hp W0 bxs W→Ap W0 W (nb x)):NE N [] (GI P fn W0 val Φ nb) .ret env (Hp W0 bxs):=
 K1 (rvs:=[r1,r2,r3,r4]) (vs:=[v1,v2,v3,v4]) hT hr rfl (fun i h _=>by
  match i,h with
  |0,_=>exact h1
  |1,_=>exact h2
  |2,_=>exact h3
  |3,_=>exact h4
  |i+4,h=>exact absurd h (by show¬i+4<4;omega)) x (by simpa using hv) hx hnb
end
def Pf (a:List UInt8):Value:= .tuple #[.bool (hasPrefix a [45]),str (cut (trimPrefix a [45]) [47]).1,str (cut (trimPrefix a [45]) [47]).2.1, .bool (cut (trimPrefix a [45]) [47]).2.2]
theorem F5 (a:List UInt8) (ha:a.length<4611686018427387904):B0 Tryz.prog 82 [str a] (Pf a):=by
 intro W
 refine Ac Tryz.func82 I I I ?_
 refine zA (zB (wP I (wP I (wP I (wP I (Aa (zE (zA (zB (wP I (wP I (Aa (AH ?_)))))))))))))
 refine Ar ?_
 refine AC (X:=Unit) (fun _=>[(6,str a),(7, .bool (hasPrefix a [45]))]) (fun _=>[]) (fun _=>True) ?_ ?_
 ·refine zB (wP I (wP I ?_))
  refine Ah 11 (.int .i64 (a.length:Nat)) I (congrArg (fun n:Nat=>Value.int .i64 (n:Int)) (A5 a)) ?_
  refine wP I ?_
  cases ea:a with
  |nil=>
   refine Ah 12 (.bool false) I I ?_
   refine wP I ?_
   iterate 3 refine Ao I I ?_
   exact wP I (wP I (Aa (An () tO ⟨I,I,tO⟩ [] I)))
  |cons b t=>
   refine wU 12 true I (dT (by show(((b::t).length:Nat):Int)>0;rw[List.length_cons];omega)) (wP I (wP I ?_))
   refine AV 0 tH I I I I I I I I (show(b::t)[0]? =some b from I) ?_
   exact wP I (wU 16 (hasPrefix (b::t) [45]) I ((Dt b 45).trans (by rw[Bv];exact decide_eq_decide.2 (by simp))) (wP I (wP I (Aa (An () tO ⟨I,I,tO⟩ [] I)))))
 intro _ _
 refine zA (zA (zB (wP I (Aa (AH ?_)))))
 try refine Ar ?_
 obtain⟨b,hb⟩: ∃b,b=trimPrefix a [45]:=⟨_,rfl⟩
 have hbl:b.length≤a.length:=by rw[hb,AU];split<;>simp
 refine AC (X:=Unit) (fun _=>[(6,str b),(7, .bool (hasPrefix a [45]))]) (fun _=>[]) (fun _=>True) ?_ ?_
 ·refine Aw I (fun hm=> ?_) (fun hm=> ?_)
  ·have hm:a[0]? =some 45:=by rw[Bv] at hm;exact of_decide_eq_true hm
   have h1:1≤a.length:=(List.getElem?_eq_some_iff.1 hm).1
   refine zB (wP I ?_)
   refine EI 1 tH I I I I I I I I h1 ?_
   exact wP I (Aa (An () tO ⟨by rw[hb,AU,if_pos hm];rfl,I,tO⟩ [] I))
  ·have hm: ¬a[0]? =some 45:=by rw[Bv] at hm;exact of_decide_eq_false hm
   exact zI (An () tO ⟨by rw[hb,AU,if_neg hm];rfl,I,tO⟩ [] I)
 intro _ _
 refine zA (zA (zB (wP I (Aa (zE (zH ?_))))))
 refine A9 (X:=Nat) (fun i=>[(6,str b),(7, .bool (hasPrefix a [45])),(8, .int .i64 (i:Nat))]) (fun _=>[]) (fun i=>i≤b.length∧47∉b.take i) (fun i=>b.length-i) 0 ⟨Nat.zero_le _,by simp⟩ ⟨I,I,I,tO⟩ [] I ?_
 rintro i ⟨hi,hno⟩
 have hi:i≤b.length:=hi
 have hno:47∉b.take i:=hno
 refine zA (zA (zB (wP I (wP I (wP I ?_)))))
 refine Ah 23 (.int .i64 (b.length:Nat)) I (congrArg (fun n:Nat=>Value.int .i64 (n:Int)) (A5 b)) ?_
 refine wP I ?_
 by_cases hlt:i<b.length
 ·refine wU 24 true I (dT (by omega)) (Aa (zE (zR I (zI (zE (zA (zH (zA (zB ?_)))))))))
  obtain⟨c,hc⟩: ∃c,b[i]? =some c:=⟨b[i],List.getElem?_eq_getElem hlt⟩
  refine wP I (wP I ?_)
  refine AV i tH I I I I I I I I hc ?_
  refine wP I (wU 30 (decide (c=47)) I (Dt c 47) (Aa (zE ?_)))
  refine Aw I (fun h47=> ?_) (fun h47=> ?_)
  ·have h47:c=47:=of_decide_eq_true h47
   have eb:b=b.take i++47::b.drop (i+1):=by
    conv=>lhs;rw[←List.take_append_drop i b]
    rw[List.drop_eq_getElem_cons hlt]
    have:b[i]=47:=by rw[List.getElem?_eq_getElem hlt] at hc;rw[Option.some.inj hc];exact h47
    rw[this]
   have ec:=FI (b.drop (i+1)) hno
   rw[←eb,hb] at ec
   refine zA (zU (qP I (qP I (qP I ?_))))
   refine U6 i tH I I I I I I I I (by omega) ?_
   refine qP I (qP I (qP I (qV 37 ((i+1:Nat):Int) I (Ax (by omega)) ?_)))
   refine Nb (i+1) tH I I I I I I I I (by omega) ?_
   exact qP I (qP I (qP I (qP I (AS (Aa (zE (zO (zQ (zP (zP (zQ (zP (Kj tH I (.tmp I) (.tmp I) (.tmp I) (.tmp I) () (by rw[Pf,ec,hb]) tO fun W _=>Ap.nil _ _)))))))))))))
  ·have h47: ¬c=47:=of_decide_eq_false h47
   refine zI (zN (zE (zB (wP I (wP I (wV 26 ((i+1:Nat):Int) I (Ax (by omega)) (wP I (Aa ?_))))))))
   refine A4 (i+1) ⟨hlt,fun h=> ?_⟩ (by show b.length-(i+1)<b.length-i;omega) ⟨I,I,I,tO⟩ [] I
   rw[List.take_add_one,hc,List.mem_append] at h
   rcases h with h|h
   ·exact hno h
   ·exact h47 (by simpa using h:(47:UInt8)=c).symm
 ·refine wU 24 false I (dF (by omega)) (Aa (zE (zS I (zJ (zK (zK (zL (zE (zA (zB ?_))))))))))
  rw[List.take_of_length_le (by omega)] at hno
  have ec:=E2 hno
  rw[hb] at ec
  iterate 6 refine wP I ?_
  exact Aa (zE (zO (Kj tH I (.tmp I) (.tmp I) (.tmp I) (.tmp I) () (by rw[Pf,ec,hb]) tO fun W _=>Ap.nil _ _)))
theorem MT {z:Int} {d:Nat} (_hd:1≤d):hasPrefix (Fu z d) [45]=decide (z<0)∧cut (trimPrefix (Fu z d) [45]) [47]=(decDigits z.natAbs,if d=1 then[] else decDigits d,decide (d≠1)):=by
 have hn47:(47:UInt8)∉decDigits z.natAbs:=fun h=>by have:=EX _ _ h;exact absurd this.1 (by decide)
 have hp: ∀r,hasPrefix (itoa z++r) [45]=decide (z<0):=fun r=>by
  rw[Bv]
  unfold itoa
  split
  ·rename_i h;rw[dT h];rfl
  ·rename_i h
   rw[dF h]
   obtain⟨b,t,hb,h3,_⟩:=CC z.toNat
   rw[hb]
   refine dF fun e=> ?_
   have e:b=45:=by simpa using e
   rw[e] at h3;exact absurd h3 (by decide)
 have ht: ∀r,trimPrefix (itoa z++r) [45]=decDigits z.natAbs++r:=fun r=>by
  have h1:=hp r
  rw[AU]
  rw[Bv] at h1
  by_cases hz:z<0
  ·rw[dT hz] at h1
   rw[if_pos (of_decide_eq_true h1)]
   unfold itoa
   rw[if_pos hz];rfl
  ·rw[dF hz] at h1
   rw[if_neg (of_decide_eq_false h1)]
   unfold itoa
   rw[if_neg hz,show z.toNat=z.natAbs by omega]
 unfold Fu
 by_cases h1:d=1
 ·rw[if_pos h1]
  have e1:=hp []
  have e2:=ht []
  rw[List.append_nil] at e1 e2
  rw[List.append_nil] at e2
  exact⟨e1,by rw[e2,E2 hn47,if_pos h1,h1];rfl⟩
 ·rw[if_neg h1]
  exact⟨hp _,by rw[ht,FI _ hn47,if_neg h1,dT (show d≠1 from h1)]⟩
theorem N0 (q:Rat):Pf (Ad q)= .tuple #[.bool (decide (q.num<0)),str (decDigits q.num.natAbs),str (if q.den=1 then[] else decDigits q.den), .bool (decide (q.den≠1))]:=by
 obtain⟨h1,h2⟩:=MT (z:=q.num) q.den_pos
 unfold Pf Ad
 rw[h1,h2]
def E9 (q:Rat):Bool:=decide ((decDigits q.num.natAbs).length≤9)&&(decide (q.den=1)||decide ((decDigits q.den).length≤9))
theorem Lv {n:Nat} (h:(decDigits n).length≤9):n<1000000000:=Nat.lt_of_lt_of_le (DG n) (Nat.pow_le_pow_right (by decide) h)
theorem Jl {q:Rat} (h:E9 q=true):q.num.natAbs<1000000000∧q.den<1000000000:=by
 unfold E9 at h
 simp only[Bool.and_eq_true,Bool.or_eq_true,decide_eq_true_eq] at h
 refine⟨Lv h.1, ?_⟩
 rcases h.2 with e|e
 ·rw[e];decide
 ·exact Lv e
theorem PQ (q:Rat) (hl:(Ad q).length<4611686018427387904):B0 Tryz.prog 120 [str (Ad q)] (if E9 q=true then .tuple #[.int .i64 q.num, .int .i64 (q.den:Nat), .bool true] else .tuple #[.int .i64 0, .int .i64 0, .bool false]):=by
 intro W
 obtain⟨n,hn⟩: ∃n,n=decDigits q.num.natAbs:=⟨_,rfl⟩
 obtain⟨e,he⟩: ∃e,e=(if q.den=1 then[] else decDigits q.den):=⟨_,rfl⟩
 have hsp:Ai Tryz.prog 82 #[str (Ad q)] W (fun _:Unit=> .tuple #[.bool (decide (q.num<0)),str n,str e, .bool (decide (q.den≠1))]) (fun _=>True) (fun _=>[]):=(F5 (Ad q) hl W).cast (by rw[N0,hn,he])
 have hsh:E9 q=(decide (n.length≤9)&&decide (e.length≤9)):=by
  unfold E9
  rw[hn,he]
  by_cases h1:q.den=1
  ·rw[if_pos h1,dT h1];rfl
  ·rw[if_neg h1,dF h1,Bool.false_or]
 have hnd: ∀b∈n,DC b=true:=by rw[hn];exact(ED _).all
 refine Ac Tryz.func120 I I I ?_
 refine zA (zB (wP I (wP I (wP I (Aa (zE (zA (zB (wP I (wC I I (fun W1 hp=>(F5 (Ad q) hl W1).cast (v':= .tuple #[.bool (decide (q.num<0)),str n,str e, .bool (decide (q.den≠1))]) (by rw[N0,hn,he])) ?_))))))))))
 iterate 9 refine wP I ?_
 refine Aa ?_
 by_cases hs:E9 q=true
 ·rw[if_pos hs]
  have hs2:=hs
  rw[hsh,Bool.and_eq_true,decide_eq_true_eq,decide_eq_true_eq] at hs2
  obtain⟨hs2,hs3⟩:=hs2
  obtain⟨l1,l2⟩:=Jl hs
  refine zE (zA (zA (zB (wP I (wP I ?_)))))
  refine Ah 19 (.int .i64 (n.length:Nat)) I (congrArg (fun n:Nat=>Value.int .i64 (n:Int)) (A5 n)) ?_
  refine wP I (wU 20 false I (dF (by omega)) (wP I (wP I (wP I ?_))))
  refine Ah 23 (.int .i64 (e.length:Nat)) I (congrArg (fun n:Nat=>Value.int .i64 (n:Int)) (A5 e)) ?_
  refine wP I (wU 24 false I (dF (by omega)) (wP I (Aa (zE (zS I (zI (zE (zA (zB (wP I (wC I I (fun W1 hp=>(Ch n (by omega) hnd W1).cast (v':= .int .i64 (q.num.natAbs:Nat)) (by rw[hn,BP])) (wP I (wP I ?_)))))))))))))
  refine Aa (zE (zA (zA (zB (wP I (Aa (AH ?_)))))))
  try refine Ar ?_
  refine AC (X:=Unit) (fun _=>[(5, .bool (decide (q.num<0))),(9, .int .i64 (q.num.natAbs:Nat)),(10, .int .i64 (q.den:Nat))]) (fun _=>[]) (fun _=>True) ?_ ?_
  ·refine Aw I (fun h1=> ?_) (fun h1=> ?_)
   ·have h1:q.den≠1:=of_decide_eq_true h1
    have e1:e=decDigits q.den:=by rw[he,if_neg h1]
    exact zB (wP I (wC I I (fun W1 hp=>(Ch e (by omega) (by rw[e1];exact(ED _).all) W1).cast (v':= .int .i64 (q.den:Nat)) (by rw[e1,BP])) (wP I (Aa (An () tO ⟨I,I,I,tO⟩ [] I)))))
   ·have h1:q.den=1:=Decidable.byContradiction fun h=>absurd h1 (by rw[dT h];decide)
    exact zI (An () tO ⟨I,I,by rw[h1];rfl,tO⟩ [] I)
  intro _ _
  refine zA (zA (zB (wP I (Aa (AH ?_)))))
  try refine Ar ?_
  refine AC (X:=Unit) (fun _=>[(9, .int .i64 q.num),(10, .int .i64 (q.den:Nat))]) (fun _=>[]) (fun _=>True) ?_ ?_
  ·refine Aw I (fun h1=> ?_) (fun h1=> ?_)
   ·have h1:q.num<0:=of_decide_eq_true h1
    exact zB (wP I (wP I (wV 33 q.num I (by show w64 (0-((q.num.natAbs:Nat):Int))=_;rw[A0 (by omega) (by omega)];omega) (wP I (Aa (An () tO ⟨I,I,tO⟩ [] I))))))
   ·have h1: ¬q.num<0:=of_decide_eq_false h1
    exact zI (An () tO ⟨congrArg (fun z=>some (Value.int .i64 z)) (by omega),I,tO⟩ [] I)
  intro _ _
  refine zA (zB ?_)
  iterate 5 refine wP I ?_
  exact Aa (zE (zO (wR3 I I I)))
 ·rw[if_neg hs]
  have hs2: ¬(n.length≤9∧e.length≤9):=fun h=>hs (by rw[hsh,dT h.1,dT h.2];rfl)
  refine AH (Ar (Ar ?_))
  refine AC (X:=Unit) (fun _=>[(25, .bool true)]) (fun _=>[]) (fun _=>True) ?_ ?_
  ·refine zB (wP I (wP I ?_))
   refine Ah 19 (.int .i64 (n.length:Nat)) I (congrArg (fun n:Nat=>Value.int .i64 (n:Int)) (A5 n)) ?_
   refine wP I ?_
   by_cases h1:n.length≤9
   ·refine wU 20 false I (dF (by omega)) (wP I (wP I (wP I ?_)))
    refine Ah 23 (.int .i64 (e.length:Nat)) I (congrArg (fun n:Nat=>Value.int .i64 (n:Int)) (A5 e)) ?_
    exact wP I (wU 24 true I (dT (by omega)) (wP I (Aa (An () tO ⟨I,tO⟩ [] I))))
   ·refine wU 20 true I (dT (by omega)) (wP I ?_)
    iterate 3 refine Ao I I ?_
    exact wP I (Aa (An () tO ⟨I,tO⟩ [] I))
  intro _ _
  exact zR I (zA (zB (wP I (wP I (wP I (Aa (zE (zO (zP (wR3 I I I))))))))))
theorem NY (q:Rat) (hl:(Ad q).length≤1000):B0 Tryz.prog 121 [str (Ad q)] (.tuple #[str (itoa q.num),str (decDigits q.den)]):=by
 intro W
 have hlen:(decDigits q.num.natAbs).length≤1000:=by
  have:=QU (a:=Ad q) (FU q.num q.den_pos)
  omega
 refine Ac Tryz.func121 I I I ?_
 refine zA (zB (wP I (wP I (Aa (zE (zA (zB (wP I (wC I I (fun W1 hp=>(F5 (Ad q) (by omega) W1).cast (N0 q)) ?_)))))))))
 iterate 9 refine wP I ?_
 refine Aa (zE (zA (zA (zB (wP I (Aa (AH ?_)))))))
 try refine Ar ?_
 refine AC (X:=Unit) (fun _=>[(5,str (itoa q.num)),(6,str (if q.den=1 then[] else decDigits q.den)),(7, .bool (decide (q.den≠1)))]) (fun _=>[]) (fun _=>True) ?_ ?_
 ·refine Aw I (fun h1=> ?_) (fun h1=> ?_)
  ·have h1:q.num<0:=of_decide_eq_true h1
   refine zB (wP I ?_)
   refine BX I I I I I (a:=[45]) (b:=decDigits q.num.natAbs) (by decide) (by omega) ?_
   exact wP I (Aa (An () tO ⟨by unfold itoa;rw[if_pos h1];rfl,I,I,tO⟩ [] I))
  ·have h1: ¬q.num<0:=of_decide_eq_false h1
   exact zI (An () tO ⟨by unfold itoa;rw[if_neg h1,show q.num.toNat=q.num.natAbs by omega];rfl,I,I,tO⟩ [] I)
 intro _ _
 refine zA (zA (zB (wP I (wP I (Aa (AH ?_))))))
 try refine Ar ?_
 refine AC (X:=Unit) (fun _=>[(5,str (itoa q.num)),(6,str (decDigits q.den))]) (fun _=>[]) (fun _=>True) ?_ ?_
 ·refine Aw I (fun h1=> ?_) (fun h1=> ?_)
  ·have h1:q.den=1:=Decidable.byContradiction fun h=>absurd h1 (by rw[dT h];decide)
   exact zB (wP I (Aa (An () tO ⟨I,by rw[h1,Fi];rfl,tO⟩ [] I)))
  ·have h1:q.den≠1:=Decidable.byContradiction fun h=>absurd h1 (by rw[dF h];decide)
   exact zI (An () tO ⟨I,by rw[if_neg h1];rfl,tO⟩ [] I)
 intro _ _
 exact zA (zB (wP I (wP I (wP I (wP I (Aa (zE (zO (wR2 I I I)))))))))
-- BOXES 1
-- CODE2
def byV (l:List UInt8):List Value:=l.map fun b=> .int .u8 (b.toNat:Int)
def zrV (k:Nat):List Value:=CR [.int .u8 0] k
theorem I7 (k:Nat):(zrV k).length=k:=by unfold zrV;rw[F7];simp
theorem SU (k:Nat):zrV (k+1)=zrV k++[.int .u8 0]:=by
 induction k with
 |zero=>rfl
 |succ k ih=>
  have e: ∀j,zrV (j+1)=[.int .u8 0]++zrV j:=fun j=>rfl
  rw[e,ih, ←List.append_assoc, ←e,ih]
theorem QY {k:Nat} {c:UInt8} {suf:List UInt8}:Cr (zrV (k+1)++byV suf) (0+k*1) [.int .u8 (c.toNat:Int)]=zrV k++byV (c::suf):=by
 rw[SU,show 0+k*1=(zrV k).length+0 by rw[I7];omega,List.append_assoc,MD]
 rfl
theorem QR {k:Nat} {l:List UInt8} {j:Nat} (hj:j<l.length):(zrV k++byV l)[k+j]? =some (.int .u8 (l[j].toNat:Int)):=by
 rw[List.getElem?_append_right (by rw[I7];omega),I7,Nat.add_sub_cancel_left]
 unfold byV
 rw[List.getElem?_map,List.getElem?_eq_getElem hj];rfl
theorem Sp (u:Nat):IntKind.u8.wrap ((48+u%10:Nat):Int)=((UInt8.ofNat (48+u%10)).toNat:Int):=by
 rw[Oj (by omega) (by omega),Dr (Nat.mod_lt _ (by omega))]
-- BOXES 1
-- CODE2
theorem Hc (m:Nat) (hm:m<9223372036854775808):B0 Tryz.prog 199 [.int .i64 (m:Nat)] (str (decDigits m)):=by
 intro W
 have hlen:(decDigits m).length≤19:=D9 19 m (by omega) (by omega)
 refine Ac Tryz.func199 I I I ?_
 refine zA (zB (wP I (Aa (zE (zA (zB ?_))))))
 refine Ce Tryz.vec202 20 I I I I I I I (by decide) (by decide) ?_
 intro b
 refine wP I (Aa (zE (zA (zB (wP I (wP I (wP I (Aa (zE (zH ?_))))))))))
 refine A9 (X:=Nat×List UInt8) (fun x=>[(0, .int .i64 (x.1:Nat)),(3, .slice (some ⟨b,0,none⟩) 20 20),(4, .int .i64 ((20-x.2.length:Nat):Int))]) (fun x=>[⟨b,5,zrV (20-x.2.length)++byV x.2,true,none⟩])
  (fun x=>x.1<9223372036854775808∧decDigits m=decDigits x.1++x.2) (fun x=>x.1) (m,[]) ⟨hm,by simp⟩ ⟨rfl,rfl,rfl,trivial⟩ [] rfl ?_
 rintro⟨u,suf⟩ ⟨hu0,hd0⟩
 have hu:u<9223372036854775808:=hu0
 have hd:decDigits m=decDigits u++suf:=hd0
 have hs:suf.length≤18:=by
  have h1:=congrArg List.length hd
  rw[List.length_append] at h1
  have h2:(decDigits u).length≠0:=fun e=>Fx u (List.length_eq_zero_iff.1 e)
  omega
 refine zH (zA (zB (wP I (wP I (wV 9 ((19-suf.length:Nat):Int) I (show w64 (((20-suf.length:Nat):Int)-1)=_ by rw[A0 (by omega) (by omega)];omega) (wP I (Aa (zE (zA (zB (wP I (wP I (wP I ?_)))))))))))))
 refine Ej I I I I I (by decide) ?_
 refine wV 13 ((u%10:Nat):Int) I (show Int.tmod (u:Nat) ((10:Nat):Int)=_ from(Int.ofNat_tmod _ _).symm) (wP I (wV 14 ((48+u%10:Nat):Int) I (show w64 (48+((u%10:Nat):Int))=_ by rw[A0 (by omega) (by omega)];omega) ?_))
 refine T2 Tryz.underlying3 Tryz.underlying5 I I I I ?_
 refine Ah 15 (.int .u8 ((UInt8.ofNat (48+u%10)).toNat:Int)) I (congrArg (Value.int .u8) (Sp u)) ?_
 refine wJ ?_
 refine AJ 0 (zrV (20-(UInt8.ofNat (48+u%10)::suf).length)++byV (UInt8.ofNat (48+u%10)::suf)) tH I I I I I I I I I I (by show 0+(19-suf.length)*1+1≤(zrV (20-suf.length)++byV suf).length;rw[List.length_append,I7];omega) (by
  rw[List.length_cons,show 20-(suf.length+1)=19-suf.length by omega]
  show Cr (zrV (20-suf.length)++byV suf) _ _=_
  rw[show 20-suf.length=19-suf.length+1 by omega]
  exact QY) ?_
 refine Aa (zE (zA (zB (wP I ?_))))
 refine DD I I I I I (by decide) ?_
 refine wV 18 ((u/10:Nat):Int) I (show w64 (Int.tdiv (u:Nat) ((10:Nat):Int))=_ by rw[←Int.ofNat_tdiv,A0 (by omega) (by omega)]) (wP I (Aa (zE (zA (zB (wP I (wP I (Aa (zE ?_)))))))))
 generalize hc:UInt8.ofNat (48+u%10)=c at*
 refine Aw I (fun h=> ?_) (fun h=> ?_)
 ·have h0:u<10:=by have h':(((u/10:Nat):Int)==0)=true:=h;rw[beq_iff_eq] at h';omega
  have he:decDigits m=c::suf:=by rw[hd,decDigits_one h0, ←hc,Nat.mod_eq_of_lt h0];rfl
  refine zA (zB (wP I (wP I ?_)))
  refine Cp (19-suf.length) tH I I I I I I I I (by omega) (by omega) ?_
  refine Ah 23 (.slice (some ⟨b,19-suf.length,none⟩) (c::suf).length (20-(19-suf.length))) I (by
   rw[if_neg (by omega),List.length_cons,show 20-(19-suf.length)=suf.length+1 by omega,show 0+(19-suf.length)*1=19-suf.length by omega]) ?_
  refine GX 0 (c::suf) (e:=5) (by kernel_rfl) Tryz.underlying5 (by kernel_rfl) I I I I I I I (fun j hj=>by
   show(zrV (20-(c::suf).length)++byV (c::suf))[19-suf.length+j]? =_
   rw[show 20-(c::suf).length=19-suf.length by rw[List.length_cons];omega]
   exact QR hj) ?_
  exact wP I (Aa (zE (zO (zQ (zP (zQ (wR1 I I (by rw[he]))))))))
 ·have h0: ¬u<10:=by have h':(((u/10:Nat):Int)==0)=false:=h;rw[beq_eq_false_iff_ne] at h';omega
  refine zI (zN ?_)
  refine A4 (u/10,c::suf) ⟨by show u/10<9223372036854775808;omega, ?_⟩ (by show u/10<u;omega) ⟨I,I,congrArg (fun z=>some (Value.int .i64 z)) (by rw[List.length_cons,show 20-(suf.length+1)=19-suf.length by omega]),tO⟩ [] I
  show decDigits m=decDigits (u/10)++c::suf
  rw[hd,decDigits,dif_neg h0,hc,List.append_assoc];rfl
theorem Tp {z:Int} {g:Nat} (hg:0<g) (h:g∣z.natAbs):itoa (z/(g:Int))=(if z<0 then[45] else[])++decDigits (z.natAbs/g):=by
 obtain⟨k,hk⟩:=h
 by_cases hz:z<0
 ·have e:z= -((g*k:Nat):Int):=by omega
  have hk0:k≠0:=fun e=>by rw[e] at hk;omega
  have e2:z/(g:Int)= -(k:Int):=by
   rw[e,Int.natCast_mul, ←Int.mul_neg]
   exact Int.mul_ediv_cancel_left _ (by omega)
  rw[if_pos hz,e2,L8 hk0,hk,Nat.mul_div_cancel_left _ hg];rfl
 ·have e:z=((g*k:Nat):Int):=by omega
  have e2:z/(g:Int)=(k:Int):=by
   rw[e,Int.natCast_mul]
   exact Int.mul_ediv_cancel_left _ (by omega)
  rw[if_neg hz,e2,hk,Nat.mul_div_cancel_left _ hg]
  unfold itoa
  rw[if_neg (by omega)];rfl
theorem DU (z:Int) (d:Nat) (hz:z.natAbs<9223372036854775808) (hd0:0<d) (hd:d<9223372036854775808):B0 Tryz.prog 148 [.int .i64 z, .int .i64 (d:Nat)] (str (Ad (mkRat z d))):=by
 intro W
 obtain⟨n,hn⟩: ∃n,z.natAbs=n:=⟨_,rfl⟩
 obtain⟨g,hg⟩: ∃g,Nat.gcd n d=g:=⟨_,rfl⟩
 have hg0:0<g:=by rw[←hg];exact Nat.gcd_pos_of_pos_right _ hd0
 have hgn:g∣n:=by rw[←hg];exact Nat.gcd_dvd_left ..
 have hgd:g∣d:=by rw[←hg];exact Nat.gcd_dvd_right ..
 have hgle:g≤d:=Nat.le_of_dvd hd0 hgd
 rw[hn] at hz
 have hnq:n/g≤n:=Nat.div_le_self ..
 have hdq:d/g≤d:=Nat.div_le_self ..
 have hnl:(decDigits (n/g)).length≤19:=D9 19 _ (by decide) (by omega)
 have hdl:(decDigits (d/g)).length≤19:=D9 19 _ (by decide) (by omega)
 obtain⟨s,hs⟩: ∃s:List UInt8,s=if z<0 then[45] else[]:=⟨_,rfl⟩
 have hsl:s.length≤1:=by rw[hs];split<;>decide
 have hq:itoa (z/(g:Int))=s++decDigits (n/g):=by rw[hs, ←hn];exact Tp hg0 (by rw[hn];exact hgn)
 refine Ac Tryz.func148 I I I ?_
 refine zA (zB (wP I (Aa (zE (zA (zB (wP I (Aa (zE (zA (zA (zB (wP I (wP I ?_))))))))))))))
 refine Aa (AH ?_)
 try refine Ar ?_
 refine AC (X:=Unit) (fun _=>[(0, .int .i64 (n:Nat)),(1, .int .i64 (d:Nat)),(5,str s)]) (fun _=>[]) (fun _=>True) ?_ ?_
 ·refine Aw I (fun h=> ?_) (fun h=> ?_)
  ·have h:z<0:=by simpa using h
   exact zB (wP I (wP I (wV 10 (n:Nat) I (show w64 (0-z)=_ by rw[A0 (by omega) (by omega)];omega) (wP I (wP I (Aa (An () tO ⟨I,I,by rw[hs,if_pos h];rfl,tO⟩ [] I)))))))
  ·have h: ¬z<0:=by simpa using h
   exact zI (An () tO ⟨congrArg (fun z=>some (Value.int .i64 z)) (by omega),I,by rw[hs,if_neg h];rfl,tO⟩ [] I)
 intro _ _
 refine zA (zB (wP I (wP I (wC I I (fun W hp=>(JF n d hz hd W).cast (v':= .int .i64 (g:Nat)) (by rw[hg])) (wP I (Aa (zE (zA (zB (wP I (wP I (wP I ?_))))))))))))
 refine DD I I I I I (by omega) ?_
 refine wV 17 ((n/g:Nat):Int) I (by rw[Dz];exact BG (by omega)) (wC I I (fun W hp=>Hc (n/g) (by omega) W) ?_)
 refine BX I I I I I (a:=s) (b:=decDigits (n/g)) (by omega) (by omega) ?_
 refine Ah 19 (str (itoa (z/(g:Int)))) I (by rw[hq]) ?_
 refine wP I (Aa (zE (zA (zA (zB (wP I (wP I ?_)))))))
 refine DD I I I I I (by omega) ?_
 refine wV 22 ((d/g:Nat):Int) I (by rw[Dz];exact BG (by omega)) (wP I ?_)
 have hql:(itoa (z/(g:Int))).length≤20:=by rw[hq,List.length_append];omega
 by_cases h1:d/g=1
 ·exact wU 23 true I (by rw[beq_iff_eq];omega) (Aa (zE (zR I (zA (zB (wP I (wP I (Aa (zE (zO (zP (wR1 I I (by rw[I1 (by omega) (by rw[hn,hg];exact h1),hn,hg])))))))))))))
 ·refine wU 23 false I (by rw[beq_eq_false_iff_ne];omega) (Aa (zE (zS I (zI (zE (zA (zB (wP I ?_))))))))
  refine BX I I I I I (a:=itoa (z/(g:Int))) (b:=[47]) (by omega) (by decide) ?_
  refine wP I (wP I ?_)
  refine DD I I I I I (by omega) ?_
  refine wV 29 ((d/g:Nat):Int) I (by rw[Dz];exact BG (by omega)) (wC I I (fun W hp=>Hc (d/g) (by omega) W) ?_)
  refine BX I I I I I (by rw[List.length_append];show _+1≤_;omega) (by omega) ?_
  exact wP I (Aa (zE (zO (wR1 I I (by rw[IE (by omega) (by rw[hn,hg];exact h1),hn,hg,BV])))))
theorem OA {z:Int} {d:Nat} (hz:z<0):Fu z d=45::Fu (-z) d:=by
 have e:itoa z=45::itoa (-z):=by
  unfold itoa
  rw[if_pos hz,if_neg (by omega),show(-z).toNat=z.natAbs by omega]
 unfold Fu
 rw[e]
 split<;>rfl
theorem Qh (q:Rat) (hl:(Ad q).length≤1000):B0 Tryz.prog 102 [str (Ad q)] (str (Ad (-q))):=by
 intro W
 have en:(-q).num= -q.num:=rfl
 have ed:(-q).den=q.den:=rfl
 refine Ac Tryz.func102 I I I ?_
 refine zA (zB (wP I (Aa (zE (zA (zH (zA (zB (wP I (wP I (wU 5 (decide (Ad q=[48])) I (Be _ _) (wP I (Aa ?_)))))))))))))
 refine zE ?_
 refine Aw I (fun h=> ?_) (fun h=> ?_)
 ·have h:q.num=0:=EB.1 (of_decide_eq_true h)
  have e0:Ad (-q)=Ad q:=by rw[EB.2 h,EB.2 (by rw[en,h];rfl)]
  exact zA (zB (wP I (wP I (Aa (zE (zO (zQ (zP (wR1 I I (by rw[e0]))))))))))
 have h: ¬q.num=0:=fun e=>of_decide_eq_false h (EB.2 e)
 have hpre:=(MT (z:=q.num) q.den_pos).1
 rw[Bv] at hpre
 obtain⟨c,hc⟩: ∃c,(Ad q)[0]? =some c:=by
  cases e:Ad q with
  |nil=>
   have:=congrArg List.length e
   unfold Ad Fu at this
   have h2:itoa q.num≠[]:=by unfold itoa;split;simp;exact Fx _
   split at this
   ·exact absurd (List.length_eq_zero_iff.1 this) h2
   ·rw[List.length_append] at this;simp at this
  |cons c t=>exact⟨c,rfl⟩
 have hc45:decide (c=45)=decide (q.num<0):=by
  rw[←hpre]
  show _=decide ((Ad q)[0]? =some 45)
  exact decide_eq_decide.2 (by rw[hc];simp)
 refine zA (zB (wP I ?_))
 refine AV 0 tH I I I I I I I I hc ?_
 refine wP I (wU 10 (decide (q.num<0)) I ((Dt c 45).trans hc45) (wP I (Aa (zE ?_))))
 refine Aw I (fun hn=> ?_) (fun hn=> ?_)
 ·have hn:q.num<0:=of_decide_eq_true hn
  have e1:Ad q=45::Ad (-q):=by unfold Ad;rw[en,ed];exact OA hn
  have hlen:=congrArg List.length e1
  rw[List.length_cons] at hlen
  refine zA (zB (wP I ?_))
  refine EI 1 tH I I I I I I I I (by omega) ?_
  exact wP I (Aa (zE (zO (zQ (zP (wR1 I I (by rw[e1];rfl)))))))
 ·have hn: ¬q.num<0:=of_decide_eq_false hn
  have e1:Ad (-q)=45::Ad q:=by
   unfold Ad
   rw[en,ed,OA (show -q.num<0 by omega),Int.neg_neg]
  refine zI (zN (zE (zA (zB (wP I ?_)))))
  refine BX I I I I I (a:=[45]) (b:=Ad q) (by decide) (by omega) ?_
  exact wP I (Aa (zE (zO (wR1 I I (by rw[e1];rfl)))))
-- BOXES 5
-- CODE2
abbrev cvV (p:Ak):Value:= .agg #[str (Ad p.1),str (Ad p.2)]
def CD (W:World) (c:Nat):Prop:=W.heap[c]? =some (.cells #[.int .i64 0] 61 (0,0))
theorem CD.hp {W0 W:World} {bxs:List Bx} {c:Nat} (h:CD W0 c) (hp:Hp W0 bxs W):CD W c:=
 (hp.below.block c (Array.getElem?_eq_some_iff.1 h).1).trans h
theorem CD.row {W:World} {c:Nat} (h:CD W c):Aj W c 0 [.int .i64 0]:=Aj.of_block h
theorem Hz (c g:Nat) (a b v:List UInt8) (W:World) (hc:CD W c) (hE:Bi Tryz.prog g=true) (hg: ∀W1,Below W.heap.size W W1→Ai Tryz.prog g #[str a,str b] W1 (fun _:Unit=> .tuple #[str v, .int .i64 0]) (fun _=>True) (fun _=>[])):
  Ai Tryz.prog 104 #[Ag c, .func (.func g) #[] #[],str a,str b] W (fun _:Unit=>str v) (fun _=>True) (fun _=>[]):=by
 refine Ac (args:=[Ag c, .func (.func g) #[] #[],str a,str b]) Tryz.func104 I I I ?_
 refine zA (zB (wP I (Aa (zE (zA (zA (zB (wP I ?_))))))))
 refine AB I I I I ?_
 refine wP I (wL 0 I I (fun W1 hp=>(hc.hp hp).row) I (wP I (Aa (zE (zS I (zI (zE (zA (zB (wP I (wP I (wP I ?_))))))))))))
 refine B7 (capt:=[]) I I I I I I hE (fun W1 h=>hg W1 h.below) ?_
 iterate 5 refine wP I ?_
 refine Aa (zE (zA (zA (zB (wP I (wP I ?_))))))
 refine AB I I I I ?_
 refine wP I ?_
 refine I4 (c:=[.int .i64 0]) (ty:=61) tH I I I I I I I I I I (fun W1 hp=>hc.hp hp) ?_
 refine Aa (zE (zA (zB (wP I (wP I (Aa (zE (zS I (zI (zE (zA (zB (wP I (wP I ?_))))))))))))))
 exact Aa (zE (zO (wR1 I I I)))
theorem CO (c:Nat) (p q:Rat) (hz:Sz2 p q) (W:World) (hc:CD W c) (hv:BO W) (ht:AI W):
  Ai Tryz.prog 45 #[Ag c,str (Ad p),str (Ad q)] W (fun _:Unit=>str (Ad (p+q))) (fun _=>True) (fun _=>[]):=by
 refine Ac (args:=[Ag c,str (Ad p),str (Ad q)]) Tryz.func45 I I I ?_
 refine zA (zB (wP I (Aa (zE (zA (zB (wP I (wP I (wP I (wC I I (fun W hp=>Hz c 16 (Ad p) (Ad q) (Ad (p+q)) W (hc.hp hp) (by kernel_rfl) (fun W1 hb=>PL p q hz W1 ((hv.hp hp).below hb) ((ht.hp hp).below hb))) (wP I (Aa (zE ?_)))))))))))))
 exact zO (wR1 I I I)
theorem CK (c:Nat) (p q:Rat) (hz:Sz2 p q) (W:World) (hc:CD W c) (hv:BO W) (ht:AI W):
  Ai Tryz.prog 59 #[Ag c,str (Ad p),str (Ad q)] W (fun _:Unit=>str (Ad (p-q))) (fun _=>True) (fun _=>[]):=by
 refine Ac (args:=[Ag c,str (Ad p),str (Ad q)]) Tryz.func59 I I I ?_
 refine zA (zB (wP I (Aa (zE (zA (zB (wP I (wP I (wP I (wC I I (fun W hp=>Hz c 126 (Ad p) (Ad q) (Ad (p-q)) W (hc.hp hp) (by kernel_rfl) (fun W1 hb=>PR p q hz W1 ((hv.hp hp).below hb) ((ht.hp hp).below hb))) (wP I (Aa (zE ?_)))))))))))))
 exact zO (wR1 I I I)
theorem Cq (c:Nat) (p q:Rat) (hz:Sz2 p q) (W:World) (hc:CD W c) (hv:BO W) (ht:AI W):
  Ai Tryz.prog 60 #[Ag c,str (Ad p),str (Ad q)] W (fun _:Unit=>str (Ad (p*q))) (fun _=>True) (fun _=>[]):=by
 refine Ac (args:=[Ag c,str (Ad p),str (Ad q)]) Tryz.func60 I I I ?_
 refine zA (zB (wP I (Aa (zE (zA (zB (wP I (wP I (wP I (wC I I (fun W hp=>Hz c 72 (Ad p) (Ad q) (Ad (p*q)) W (hc.hp hp) (by kernel_rfl) (fun W1 hb=>Qu p q hz W1 ((hv.hp hp).below hb) ((ht.hp hp).below hb))) (wP I (Aa (zE ?_)))))))))))))
 exact zO (wR1 I I I)
theorem G8 (c:Nat) (p q:Rat) (hz:Sz2 p q) (h0:q.num≠0) (W:World) (hc:CD W c) (hv:BO W) (ht:AI W):
  Ai Tryz.prog 47 #[Ag c,str (Ad p),str (Ad q)] W (fun _:Unit=>str (Ad (p/q))) (fun _=>True) (fun _=>[]):=by
 refine Ac (args:=[Ag c,str (Ad p),str (Ad q)]) Tryz.func47 I I I ?_
 refine zA (zB (wP I (Aa (zE (zA (zB (wP I (wP I (wP I (wC I I (fun W hp=>Hz c 105 (Ad p) (Ad q) (Ad (p/q)) W (hc.hp hp) (by kernel_rfl) (fun W1 hb=>(Ps p q hz W1 ((hv.hp hp).below hb) ((ht.hp hp).below hb)).cast (by rw[KL,if_neg h0]))) (wP I (Aa (zE ?_)))))))))))))
 exact zO (wR1 I I I)
theorem Eb (c:Nat) (p q:Rat) (hz:Sz2 p q) (W:World) (hc:CD W c) (hv:BO W) (ht:AI W):
  Ai Tryz.prog 53 #[Ag c,str (Ad p),str (Ad q)] W (fun _:Unit=> .int .i64 (CV p q)) (fun _=>True) (fun _=>[]):=by
 refine Ac (args:=[Ag c,str (Ad p),str (Ad q)]) Tryz.func53 I I I ?_
 refine zA (zB (wP I (Aa (zE (zA (zA (zB (wP I ?_))))))))
 refine AB I I I I ?_
 refine wP I (wL 0 I I (fun W1 hp=>(hc.hp hp).row) I (wP I (Aa (zE (zS I (zI (zE (zA (zB (wP I (wP I (wC I I (fun W hp=>(KS p q hz W (hv.hp hp) (ht.hp hp)).cast (v':= .tuple #[.int .i64 (CV p q), .int .i64 0]) (by rw[Qc])) ?_))))))))))))
 iterate 5 refine wP I ?_
 refine Aa (zE (zA (zB (wP I (wP I ?_)))))
 refine AB I I I I ?_
 refine wP I ?_
 refine I4 (c:=[.int .i64 0]) (ty:=61) tH I I I I I I I I I I (fun W1 hp=>hc.hp hp) ?_
 exact Aa (zE (zA (zB (wP I (wP I (Aa (zE (zO (wR1 I I I)))))))))
structure VM (p q r:Ak):Prop where
 s1:Sz2 q.1 p.1
 s2:Sz2 r.2 p.2
 s3:Sz2 q.2 p.2
 s4:Sz2 r.1 p.1
 m1:Sz2 (q.1-p.1) (r.2-p.2)
 m2:Sz2 (q.2-p.2) (r.1-p.1)
 o:Sz2 ((q.1-p.1)*(r.2-p.2)) ((q.2-p.2)*(r.1-p.1))
def OU (p q r:Ak):Int:=CV ((q.1-p.1)*(r.2-p.2)) ((q.2-p.2)*(r.1-p.1))
theorem NN (c:Nat) (p q r:Ak) (hz:VM p q r) (W:World) (hc:CD W c) (hv:BO W) (ht:AI W):
  Ai Tryz.prog 55 #[Ag c,cvV p,cvV q,cvV r] W (fun _:Unit=> .int .i64 (OU p q r)) (fun _=>True) (fun _=>[]):=by
 refine Ac (args:=[Ag c,cvV p,cvV q,cvV r]) Tryz.func55 I I I ?_
 refine zA (zB ?_)
 (refine At rfl rfl rfl rfl ?_;intro)
 (refine At rfl rfl rfl rfl ?_;intro)
 (refine At rfl rfl rfl rfl ?_;intro)
 refine wP I (Aa (zE (zA (zU (qP I (qP I (qB 1 I I I (qP I (qB 0 I I I (qC I I (fun W hp=>CK c q.1 p.1 hz.s1 W (hc.hp hp) (hv.hp hp) (ht.hp hp)) (qP I (qP I (qB 2 I I I ?_)))))))))))))
 refine qP I (qB 0 I I I (qC I I (fun W hp=>CK c r.2 p.2 hz.s2 W (hc.hp hp) (hv.hp hp) (ht.hp hp)) (qP I (qP I (AS (Aa (zE (zA (zU (qP I (qP I (qB 1 I I I (qP I ?_)))))))))))))
 refine qB 0 I I I (qC I I (fun W hp=>CK c q.2 p.2 hz.s3 W (hc.hp hp) (hv.hp hp) (ht.hp hp)) (qP I (qP I (qB 2 I I I (qP I (qB 0 I I I (qC I I (fun W hp=>CK c r.1 p.1 hz.s4 W (hc.hp hp) (hv.hp hp) (ht.hp hp)) (qP I (qP I (AS (Aa (zE (zA ?_)))))))))))))
 refine zB (wP I (wP I (wP I (wP I (wC I I (fun W hp=>Cq c (q.1-p.1) (r.2-p.2) hz.m1 W (hc.hp hp) (hv.hp hp) (ht.hp hp)) (wP I (wP I (wP I (wC I I (fun W hp=>Cq c (q.2-p.2) (r.1-p.1) hz.m2 W (hc.hp hp) (hv.hp hp) (ht.hp hp)) (wC I I (fun W hp=>Eb c _ _ hz.o W (hc.hp hp) (hv.hp hp) (ht.hp hp)) (wP I (Aa (zE ?_)))))))))))))
 exact zO (wR1 I I I)
def OJ (p q:Ak):Int:=if CV p.1 q.1=0 then CV p.2 q.2 else CV p.1 q.1
theorem HM (p q:Rat):CV p q= -1∨CV p q=0∨CV p q=1:=by
 unfold CV
 split
 ·exact Or.inl I
 ·split
  ·exact Or.inr (Or.inl I)
  ·exact Or.inr (Or.inr I)
theorem JE (c:Nat) (p q:Ak) (h1:Sz2 p.1 q.1) (h2:Sz2 p.2 q.2) (W:World) (hc:CD W c) (hv:BO W) (ht:AI W):
  Ai Tryz.prog 71 #[Ag c,cvV p,cvV q] W (fun _:Unit=> .int .i64 (OJ p q)) (fun _=>True) (fun _=>[]):=by
 refine Ac (args:=[Ag c,cvV p,cvV q]) Tryz.func71 I I I ?_
 refine zA (zB ?_)
 (refine At rfl rfl rfl rfl ?_;intro)
 (refine At rfl rfl rfl rfl ?_;intro)
 refine wP I (Aa (zE (zA (zA (zB (wP I (wP I (wB 0 I I I (wP I (wB 1 I I I ?_))))))))))
 rcases HM p.1 q.1 with e|e|e
 ·refine wC I I (fun W hp=>(Eb c p.1 q.1 h1 W (hc.hp hp) (hv.hp hp) (ht.hp hp)).cast (congrArg (Value.int .i64) e)) (wP I (Aa (zE (zA (zB (wP I (wP I (Aa (zE (zR I (zA (zB (wP I (wP I ?_))))))))))))))
  exact Aa (zE (zO (zP (wR1 I I (by rw[OJ,e,if_neg (by decide)])))))
 ·refine wC I I (fun W hp=>(Eb c p.1 q.1 h1 W (hc.hp hp) (hv.hp hp) (ht.hp hp)).cast (congrArg (Value.int .i64) e)) (wP I (Aa (zE (zA (zB (wP I (wP I (Aa (zE (zS I (zI (zE (zA ?_)))))))))))))
  exact zB (wP I (wP I (wB 0 I I I (wP I (wB 1 I I I (wC I I (fun W hp=>Eb c p.2 q.2 h2 W (hc.hp hp) (hv.hp hp) (ht.hp hp)) (wP I (Aa (zE (zO (wR1 I I (by rw[OJ,if_pos e]))))))))))))
 ·refine wC I I (fun W hp=>(Eb c p.1 q.1 h1 W (hc.hp hp) (hv.hp hp) (ht.hp hp)).cast (congrArg (Value.int .i64) e)) (wP I (Aa (zE (zA (zB (wP I (wP I (Aa (zE (zR I (zA (zB (wP I (wP I ?_))))))))))))))
  exact Aa (zE (zO (zP (wR1 I I (by rw[OJ,e,if_neg (by decide)])))))
def E5 (q:Rat):Int:=if q.num=0 then 0 else if q.num<0 then -1 else 1
theorem Dd (q:Rat):B0 Tryz.prog 68 [str (Ad q)] (.int .i64 (E5 q)):=by
 intro W
 refine Ac Tryz.func68 I I I ?_
 refine zA (zB (wP I (Aa (zE (zA (zH (zA (zB (wP I (wP I (wU 5 (decide (Ad q=[48])) I (Be _ _) (wP I (Aa ?_)))))))))))))
 refine zE ?_
 refine Aw I (fun h=> ?_) (fun h=> ?_)
 ·have h:q.num=0:=EB.1 (of_decide_eq_true h)
  exact zA (zB (wP I (Aa (zE (zO (zQ (zP (wR1 I I (by rw[E5,if_pos h])))))))))
 have h: ¬q.num=0:=fun e=>of_decide_eq_false h (EB.2 e)
 have hpre:=(MT (z:=q.num) q.den_pos).1
 rw[Bv] at hpre
 obtain⟨c,hc⟩: ∃c,(Ad q)[0]? =some c:=by
  cases e:Ad q with
  |nil=>
   have:=congrArg List.length e
   unfold Ad Fu at this
   have h2:itoa q.num≠[]:=by unfold itoa;split;simp;exact Fx _
   split at this
   ·exact absurd (List.length_eq_zero_iff.1 this) h2
   ·rw[List.length_append] at this;simp at this
  |cons c t=>exact⟨c,rfl⟩
 have hc45:decide (c=45)=decide (q.num<0):=by
  rw[←hpre]
  show _=decide ((Ad q)[0]? =some 45)
  exact decide_eq_decide.2 (by rw[hc];simp)
 refine zA (zB (wP I ?_))
 refine AV 0 tH I I I I I I I I hc ?_
 refine wP I (wU 9 (decide (q.num<0)) I ((Dt c 45).trans hc45) (wP I (Aa (zE ?_))))
 refine Aw I (fun hn=> ?_) (fun hn=> ?_)
 ·have hn:q.num<0:=of_decide_eq_true hn
  exact zA (zB (wP I (Aa (zE (zO (zQ (zP (wR1 I I (by rw[E5,if_neg h,if_pos hn])))))))))
 ·have hn: ¬q.num<0:=of_decide_eq_false hn
  exact zI (zN (zE (zA (zB (wP I (Aa (zE (zO (wR1 I I (by rw[E5,if_neg h,if_neg hn]))))))))))
-- BOXES 4
-- CODE2
abbrev br:Nat:=1000000
theorem br2:2≤br:=by decide
theorem DK {g cap:Nat} {junk:List Value} {l:List Nat} (h:(⟨some g,cap,junk⟩:Vec).OK 1 l.length (nI l)) (hl: ∀x∈l,x<br):
  ∃junk',(⟨some g,cap,junk'⟩:Vec).OK 1 (lbs br (lv br l)).length (nI (lbs br (lv br l)))∧nI l++junk=nI (lbs br (lv br l))++junk':=by
 obtain⟨h1,h2,h3⟩:=h.cap (by simp)
 have e:=Lf br2 hl
 have hlen:=(BR br2).2 (Fa br2 hl)
 have e2:nI l=nI (lbs br (lv br l))++nI (l.drop (lbs br (lv br l)).length):=by
  conv=>lhs;rw[←List.take_append_drop (lbs br (lv br l)).length l]
  rw[HV, ←e]
 have h3':(nI l).length+junk.length=cap*1:=h3
 have h2':cap≤maxLen:=h2
 refine⟨nI (l.drop (lbs br (lv br l)).length)++junk,⟨Er _,(fun h=>by cases h),fun _=>⟨by show _≤cap;rw[BC] at h3';omega,h2', ?_⟩⟩, ?_⟩
 ·show(nI (lbs br (lv br l))).length+(nI (l.drop (lbs br (lv br l)).length)++junk).length=cap*1
  rw[List.length_append,BC,BC,List.length_drop]
  rw[BC] at h3';omega
 ·rw[←List.append_assoc, ←e2]
theorem Da (W:World) (p:Option Addr) (cap n:Nat) (l:List Nat) (i x:Nat) (h:Az W p l) (hn:l.length=n) (hi:i<4611686018427387904) (hx:lim l i=x):Ai Tryz.prog 195 #[slv p n cap, .int .i64 (i:Nat)] W (fun _:Unit=> .int .i64 (x:Nat)) (fun _=>True) (fun _=>[]):=by
 subst hn hx
 refine Ac (args:=[slv p l.length cap, .int .i64 (i:Nat)]) Tryz.func195 I I I ?_
 refine zA (zB (wP I (Aa (zE (zA (zA (zB (wP I (wP I (wP I (wP I (Aa (zE ?_)))))))))))))
 refine Aw I (fun hc=> ?_) (fun hc=> ?_)
 ·have hl:i<l.length:=by simp at hc;omega
  obtain⟨b,off,rfl,hrow⟩:=h.row hl
  refine zA (zB (wP I (wP I ?_)))
  refine wJ ?_
  exact wL 0 I I (fun W hp=>(hrow i hl).hp hp) I (wP I (Aa (zE (zO (zP (wR1 I I I))))))
 ·have hl:l.length≤i:=by simp at hc;omega
  exact zI (zE (zA (zB (wP I (Aa (zE (zO (wR1 I I (by rw[O0 hl];rfl)))))))))
theorem CA (W:World) (p:Option Addr) (cap:Nat) (l:List Nat) (h:Az W p l) (hl: ∀x∈l,x<br) (hc:l.length≤cap) (hn:l.length<4611686018427387904):
  Ai Tryz.prog 193 #[slv p l.length cap] W (fun _:Unit=>slv p (lbs br (lv br l)).length cap) (fun _=>True) (fun _=>[]):=by
 refine Ac (args:=[slv p l.length cap]) Tryz.func193 I I I ?_
 refine zA (zB (wP I (Aa (zE (zA (zB (wP I (wP I (wP I (Aa (zE (zA (zH ?_)))))))))))))
 refine A9 (X:=Nat) (fun k=>[(0,slv p l.length cap),(3, .int .i64 (k:Nat))]) (fun _=>[]) (fun k=>k≤l.length∧ ∀i,k≤i→i<l.length→l[i]? =some 0) (fun k=>k) l.length ⟨Nat.le_refl _,fun i h1 h2=>by omega⟩ ⟨I,I,tO⟩ [] I ?_
 rintro k ⟨hk,hz⟩
 have hk:k≤l.length:=hk
 have hend:(k=0∨l[k-1]? ≠some 0)→(lbs br (lv br l)).length=k:=fun h0=>by
  rw[←OB br2 hk hl hz h0,List.length_take];omega
 by_cases h0:k=0
 ·subst h0
  refine zA (zA (zB (wP I (wP I ?_))))
  refine Ah 7 (.bool false) I I ?_
  refine wP I ?_
  iterate 6 refine Ao I I ?_
  refine wP I (Aa (zE (zS I (zJ (zK (zK (zL (zE (zA (zB (wP I (wP I ?_))))))))))))
  refine By 0 tH I I I I I I I I (by omega) ?_
  exact wP I (Aa (zE (zO (wR1 I I (by rw[hend (.inl I)])))))
 ·refine zA (zA (zB (wP I (wP I (wU 7 true I (by simp;omega) ?_)))))
  obtain⟨b,off,rfl,hrow⟩:=h.row (show k-1<l.length by omega)
  refine wP I (wP I (wP I (wP I (wV 11 ((k-1:Nat):Int) I (by show w64 ((k:Int)-1)=_;rw[A0 (by omega) (by omega)];omega) ?_))))
  refine wJ ?_
  refine wL 0 I I (fun W hp=>(hrow (k-1) (by omega)).hp hp) I (wP I (wP I (Aa (zE ?_))))
  have e1:((lim l (k-1):Int)==0)=decide (l[k-1]? =some 0):=by
   rw[Du (show k-1<l.length by omega),Pn]
   simp
  refine Aw I (fun hc=> ?_) (fun hc=> ?_)
  ·have hz0:l[k-1]? =some 0:=by simpa[e1] using hc
   refine zI (zE (zH (zB (wP I (wP I (wV 17 ((k-1:Nat):Int) I (by show w64 ((k:Int)-1)=_;rw[A0 (by omega) (by omega)];omega) (wP I (Aa (zN ?_)))))))))
   refine A4 (k-1) ⟨by show k-1≤_;omega,fun i h1 h2=> ?_⟩ (by show k-1<k;omega) ⟨I,I,tO⟩ [] I
   by_cases hi:i=k-1
   ·rw[hi];exact hz0
   ·exact hz i (by have h1:k-1≤i:=h1;omega) h2
  ·have hz0:l[k-1]? ≠some 0:=by simpa[e1] using hc
   refine zJ (zK (zK (zL (zE (zA (zB (wP I (wP I ?_))))))))
   refine By k tH I I I I I I I I (by omega) ?_
   exact wP I (Aa (zE (zO (wR1 I I (by rw[hend (.inr hz0)])))))
theorem Lk {a b:Nat} (h:(lbs br a).length<(lbs br b).length):a<b:=by
 rcases Nat.lt_or_ge a b with h1|h1
 ·exact h1
 ·have:=(BR br2 (n:=b)).2 (Nat.lt_of_le_of_lt h1 (AK br2 a))
  omega
theorem UX {B:Nat} (_hB:2≤B) {a b:Nat} {k:Nat} (h:a/B^(k+1)=b/B^(k+1)):(a/B^k<b/B^k↔a/B^k%B<b/B^k%B)∧(a/B^k=b/B^k↔a/B^k%B=b/B^k%B):=by
 have h1:=Nat.mod_add_div (a/B^k) B
 have h2:=Nat.mod_add_div (b/B^k) B
 rw[Nat.div_div_eq_div_mul,show B^k*B=B^(k+1) from(Nat.pow_succ ..).symm] at h1 h2
 rw[h] at h1
 constructor<;>constructor<;>intro<;>omega
theorem M3 {a b c:Nat} (h:a/c<b/c):a<b:=by
 rcases Nat.lt_or_ge a b with h1|h1
 ·exact h1
 ·exact absurd (Nat.div_le_div_right (c:=c) h1) (by omega)
def Lc (a b:Nat):Int:=if a<b then -1 else if b<a then 1 else 0
theorem Jz (W:World) (p q:Option Addr) (cap cap2:Nat) (a b:Nat) (hA:Az W p (lbs br a)) (hB:Az W q (lbs br b)) (hna:(lbs br a).length≤1000000) (_hnb:(lbs br b).length≤1000000):
  Ai Tryz.prog 198 #[slv p (lbs br a).length cap,slv q (lbs br b).length cap2] W (fun _:Unit=> .int .i64 (Lc a b)) (fun _=>True) (fun _=>[]):=by
 have hal:=AK br2 a
 have hbl:=AK br2 b
 refine Ac (args:=[slv p (lbs br a).length cap,slv q (lbs br b).length cap2]) Tryz.func198 I I I ?_
 refine zA (zB (wP I (Aa (zE (zA (zA (zB ?_)))))))
 iterate 5 refine wP I ?_
 by_cases hl:(lbs br a).length=(lbs br b).length
 rotate_left
 ·refine wU 10 true I (bne_iff_ne.2 (by omega)) (Aa (zE (zR I (zA (zA (zB ?_))))))
  iterate 5 refine wP I ?_
  by_cases h:(lbs br a).length<(lbs br b).length
  ·have hlt:=Lk h
   exact wU 15 true I (dT (by omega)) (Aa (zE (zR I (zA (zB (wP I (Aa (zE (zO (zP (zP (wR1 I I (by unfold Lc;rw[if_pos hlt])))))))))))))
  ·have hlt:=Lk (a:=b) (b:=a) (by omega)
   exact wU 15 false I (dF (by omega)) (Aa (zE (zS I (zI (zE (zA (zB (wP I (Aa (zE (zO (zP (wR1 I I (by unfold Lc;rw[if_neg (by omega),if_pos hlt]))))))))))))))
 obtain⟨K,hK⟩: ∃K,(lbs br b).length=K:=⟨_,rfl⟩
 rw[hl,hK] at hal
 rw[hK] at hbl hl
 rw[hl,hK]
 refine wU 10 false I (by simp) (Aa (zE (zS I (zI (zE (zA (zA (zB (wP I (wP I (wP I (wV 18 ((K:Int)-1) I (A0 (by omega) (by omega)) (wP I ?_)))))))))))))
 refine Aa (zE (zH ?_))
 refine A9 (X:=Nat) (fun k=>[(0,slv p K cap),(1,slv q K cap2),(5, .int .i64 ((k:Nat)-1:Int))]) (fun _=>[]) (fun k=>k≤K∧a/br^k=b/br^k) (fun k=>k) K ⟨Nat.le_refl _,by rw[Nat.div_eq_of_lt hal,Nat.div_eq_of_lt hbl]⟩ ⟨I,I,I,tO⟩ [] I ?_
 rintro k ⟨hk,hq⟩
 have hk:k≤K:=hk
 refine zA (zA (zB (wP I (wP I ?_))))
 cases k with
 |zero=>
  have e:a=b:=by have hq:a/br^0=b/br^0:=hq;simpa using hq
  refine wU 20 false I (dF (by show¬(((0:Nat):Int)-1≥0);omega)) (Aa (zE (zS I (zJ (zK (zK (zL (zE (zA (zB (wP I (Aa (zE ?_)))))))))))))
  exact zO (wR1 I I (by unfold Lc;rw[e,if_neg (Nat.lt_irrefl _),if_neg (Nat.lt_irrefl _)]))
 |succ k=>
  have hq:a/br^(k+1)=b/br^(k+1):=hq
  obtain⟨h1,h2⟩:=UX br2 hq
  obtain⟨b1,o1,rfl,r1⟩:=hA.row (show k<(lbs br a).length by omega)
  obtain⟨b2,o2,rfl,r2⟩:=hB.row (show k<(lbs br b).length by omega)
  have r1:=r1 k (by omega)
  have r2:=r2 k (by omega)
  obtain⟨x,hx⟩: ∃x,lim (lbs br a) k=x:=⟨_,rfl⟩
  obtain⟨y,hy⟩: ∃y,lim (lbs br b) k=y:=⟨_,rfl⟩
  rw[hx] at r1
  rw[hy] at r2
  rw[Bh br2] at hx hy
  rw[hx,hy] at h1 h2
  have hxb:x<br:=by rw[←hx];exact Nat.mod_lt _ (by decide)
  have hyb:y<br:=by rw[←hy];exact Nat.mod_lt _ (by decide)
  have hxb:x<1000000:=hxb
  have hyb:y<1000000:=hyb
  refine wU 20 true I (dT (by show(((k+1:Nat):Int)-1≥0);omega)) (Aa (zE (zR I (zI (zE (zA (zH (zA (zA (zU (qP I (qP I (qV 24 (k:Nat) I (by show((k+1:Nat):Int)-1=_;omega) ?_)))))))))))))
  refine qJ ?_
  refine qL 0 I I (fun W hp=>r1.hp hp) I (qP I (qP I (qV 28 (k:Nat) I (by show((k+1:Nat):Int)-1=_;omega) ?_)))
  refine qJ ?_
  refine qL 0 I I (fun W hp=>r2.hp hp) I (qP I ?_)
  by_cases hlt:x<y
  ·have:=M3 (h1.2 hlt)
   refine qU 31 true I (dT (by omega)) (AS (Aa (zE (zR I (zA (zB (wP I (Aa (zE (zO (zP (zQ (zP (zP ?_))))))))))))))
   exact zQ (zP (wR1 I I (by unfold Lc;rw[if_pos this])))
  refine qU 31 false I (dF (by omega)) (AS (Aa (zE (zS I (zI (zE (zA (zU (qP I (qP I (qV 33 (k:Nat) I (by show((k+1:Nat):Int)-1=_;omega) ?_)))))))))))
  refine qJ ?_
  refine qL 0 I I (fun W hp=>r1.hp hp) I (qP I (qP I (qV 37 (k:Nat) I (by show((k+1:Nat):Int)-1=_;omega) ?_)))
  refine qJ ?_
  refine qL 0 I I (fun W hp=>r2.hp hp) I (qP I ?_)
  by_cases hgt:y<x
  ·have h3: ¬a/br^k<b/br^k:=fun h=>hlt (h1.1 h)
   have h4: ¬a/br^k=b/br^k:=fun h=>by have:=h2.1 h;omega
   have:=M3 (a:=b) (b:=a) (c:=br^k) (by omega)
   refine qU 40 true I (dT (by show((x:Nat):Int)>(y:Nat);omega)) (AS (Aa (zE (zR I (zA (zB (wP I (Aa (zE (zO (zQ (zP (zP ?_)))))))))))))
   exact zQ (zP (wR1 I I (by unfold Lc;rw[if_neg (by omega),if_pos this])))
  refine qU 40 false I (dF (by show¬((x:Nat):Int)>(y:Nat);omega)) (AS (Aa (zE (zS I (zI (zN (zE (zB (wP I (wV 21 (k:Nat) I (by show((k+1:Nat):Int)-1=_;omega) (wP I (wV 22 ((k:Nat)-1:Int) I (A0 (by omega) (by omega)) (wP I ?_)))))))))))))
  exact Aa (A4 k ⟨by show k≤K;omega,h2.2 (by omega)⟩ (by show k<k+1;omega) ⟨I,I,I,tO⟩ [] I)
def FG (a b:List Nat):Nat→List Nat×Nat
 |0=>([],0)
 |i+1=>((FG a b i).1++[(lim a i+lim b i+(FG a b i).2)%br],(lim a i+lim b i+(FG a b i).2)/br)
theorem Lz (a b:List Nat): ∀i,(FG a b i).1.length=i
 |0=>rfl
 |i+1=>by show(_++[_]).length=_;rw[List.length_append,Lz a b i];rfl
theorem QI {a b:List Nat} (ha: ∀x∈a,x<br) (hb: ∀x∈b,x<br): ∀i,(∀x∈(FG a b i).1,x<br)∧(FG a b i).2≤1
 |0=>⟨fun x h=>(by cases h),Nat.zero_le _⟩
 |i+1=>by
  obtain⟨h1,h2⟩:=QI ha hb i
  have l1:lim a i<1000000:=Bf br2 ha i
  have l2:lim b i<1000000:=Bf br2 hb i
  refine⟨fun x hx=> ?_, ?_⟩
  ·rcases List.mem_append.1 hx with hx|hx
   ·exact h1 x hx
   ·obtain rfl:=List.mem_singleton.1 hx;exact Nat.mod_lt _ (by decide)
  ·show _/1000000≤1;omega
theorem K6 (a b:Nat): ∀i,lv br (FG (lbs br a) (lbs br b) i).1+br^i*(FG (lbs br a) (lbs br b) i).2=a%br^i+b%br^i
 |0=>by show 0+br^0*0=_;rw[Nat.pow_zero,Nat.mod_one,Nat.mod_one]
 |i+1=>Mn (Lz _ _ i) (K6 a b i) (by rw[Bh br2,Bh br2])
theorem OG (W:World) (p q:Option Addr) (cap cap2:Nat) (a b:Nat) (hA:Az W p (lbs br a)) (hB:Az W q (lbs br b)) (hna:(lbs br a).length≤1000000) (hnb:(lbs br b).length≤1000000):
  Ai Tryz.prog 221 #[slv p (lbs br a).length cap,slv q (lbs br b).length cap2] W (fun x:NV=>B3 x (lbs br (a+b)).length) (fun x=>Cv x (lbs br (a+b))) (fun x=>[BH x (lbs br (a+b))]):=by
 have hla:=Bl br2 a
 have hlb:=Bl br2 b
 have hal:=AK br2 a
 have hbl:=AK br2 b
 obtain⟨na,hna'⟩: ∃n,(lbs br a).length=n:=⟨_,rfl⟩
 obtain⟨nb,hnb'⟩: ∃n,(lbs br b).length=n:=⟨_,rfl⟩
 rw[hna'] at hna hal
 rw[hnb'] at hnb hbl
 obtain⟨M,hM⟩: ∃M,M=max na nb:=⟨_,rfl⟩
 have ham:a<br^M:=Nat.lt_of_lt_of_le hal (Nat.pow_le_pow_right (by decide) (by omega))
 have hbm:b<br^M:=Nat.lt_of_lt_of_le hbl (Nat.pow_le_pow_right (by decide) (by omega))
 refine Ac (args:=[slv p (lbs br a).length cap,slv q (lbs br b).length cap2]) Tryz.func221 I I I ?_
 rw[hna',hnb']
 refine zA (zB (wP I (Aa (zE (zA (zB ?_))))))
 refine BF tH I I I I I ?_
 intro g
 refine wP I (Aa (zE (zA (zB (wP I (Aa (zE (zA (zA (zB (wP I (Aa (zE ?_)))))))))))))
 refine zH ?_
 refine A9 (X:=Nat×NV) (fun x=>[(0,slv p na cap),(1,slv q nb cap2),(5,B3 x.2 x.1),(6, .int .i64 ((FG (lbs br a) (lbs br b) x.1).2:Nat)),(7, .int .i64 (x.1:Nat))]) (fun x=>[BH x.2 (FG (lbs br a) (lbs br b) x.1).1])
  (fun x=>x.1≤M+1∧Cv x.2 (FG (lbs br a) (lbs br b) x.1).1∧(x.1=M+1→(FG (lbs br a) (lbs br b) (M+1)).2=0)) (fun x=>M+1-x.1) (0,g,0,[]) ⟨Nat.zero_le _,⟨rfl,(fun h=>by cases h),fun _=>⟨Nat.le_refl _,Nat.zero_le _,rfl⟩⟩,fun h=>by have h:0=M+1:=h;omega⟩ ⟨rfl,rfl,rfl,rfl,rfl,trivial⟩ [] rfl ?_
 rintro⟨i,x⟩ ⟨hi,hx,hend⟩
 have hi:i≤M+1:=hi
 have hx:Cv x (FG (lbs br a) (lbs br b) i).1:=hx
 have hlen:=Lz (lbs br a) (lbs br b) i
 obtain⟨hob,hc1⟩:=QI hla hlb i
 have hval:=K6 a b i
 obtain⟨out,hout⟩: ∃out,(FG (lbs br a) (lbs br b) i).1=out:=⟨_,rfl⟩
 obtain⟨c,hc⟩: ∃c,(FG (lbs br a) (lbs br b) i).2=c:=⟨_,rfl⟩
 rw[hout] at hx hlen hob hval
 rw[hc] at hc1 hval
 have eout:BH x (FG (lbs br a) (lbs br b) i).1=BH x out:=by rw[hout]
 simp only[hc,hout]
 refine Ar (Ar ?_)
 refine AC (X:=Unit) (fun _=>[(0,slv p na cap),(1,slv q nb cap2),(5,B3 x i),(6, .int .i64 (c:Nat)),(7, .int .i64 (i:Nat)),(23, .bool (decide (i<na∨i<nb∨0<c)))]) (fun _=>[BH x out]) (fun _=>True) ?_ ?_
 ·refine zB (wP I (wP I (wP I (wP I ?_))))
  by_cases h1:i<na
  ·refine wU 13 true I (dT (by omega)) (wP I ?_)
   iterate 4 refine Ao I I ?_
   refine wP I (wP I ?_)
   iterate 2 refine Ao I I ?_
   exact wP I (Aa (An () tO ⟨I,I,I,I,I,by rw[dT (Or.inl h1)];rfl,tO⟩ [] I))
  refine wU 13 false I (dF (by omega)) ?_
  iterate 5 refine wP I ?_
  by_cases h2:i<nb
  ·refine wU 18 true I (dT (by omega)) (wP I (wP I ?_))
   iterate 2 refine Ao I I ?_
   exact wP I (Aa (An () tO ⟨I,I,I,I,I,by rw[dT (Or.inr (Or.inl h2))];rfl,tO⟩ [] I))
  exact wU 18 false I (dF (by omega)) (wP I (wP I (wP I (wP I (wU 22 (decide (i<na∨i<nb∨0<c)) I (decide_eq_decide.2 (by omega)) (wP I (Aa (An () tO ⟨I,I,I,I,I,I,tO⟩ [] I))))))))
 intro _ _
 refine Aw I (fun hcd=> ?_) (fun hcd=> ?_)
 ·have hcd:i<na∨i<nb∨0<c:=of_decide_eq_true hcd
  have hiM:i≤M:=by
   rcases Nat.lt_or_ge M i with h|h
   ·have h1:i=M+1:=by omega
    have h2:=hend h1
    rw[←h1,hc] at h2
    omega
   ·exact h
  obtain⟨u,hu⟩: ∃u,lim (lbs br a) i=u:=⟨_,rfl⟩
  obtain⟨v,hv⟩: ∃v,lim (lbs br b) i=v:=⟨_,rfl⟩
  have hub:u<1000000:=by rw[←hu];exact Bf br2 hla i
  have hvb:v<1000000:=by rw[←hv];exact Bf br2 hlb i
  have e1:(FG (lbs br a) (lbs br b) (i+1)).1=out++[(u+v+c)%br]:=by show _++[_]=_;rw[hout,hu,hv,hc]
  have e2:(FG (lbs br a) (lbs br b) (i+1)).2=(u+v+c)/br:=by show _/_=_;rw[hu,hv,hc]
  refine zI (zE (zA (zH (zA (zB (wP I (wP I (wC I I (fun W' hp=>Da W' p cap na (lbs br a) i u (hA.hp hp) hna' (by omega) hu) (wP I (wP I (wC I I (fun W' hp=>Da W' q cap2 nb (lbs br b) i v (hB.hp hp) hnb' (by omega) hv) (wP I (wP I (wP I ?_))))))))))))))
  refine wV 34 ((u+v+c:Nat):Int) I (by show w64 (w64 ((u:Int)+v)+c)=_;rw[AO (by omega),AO (by omega)]) (wP I (Aa (zE (zA (zB (wP I (wP I ?_)))))))
  refine Ej I I I I I (by decide) ?_
  refine A8 Tryz.hZ tH I I I I I I I I I I I fun bN=> ?_
  refine Bk (V:=nvV x) (len:=i) (xs:=nI out) 0 1 Tryz.vec130 (i+1) (nI (out++[(u+v+c)%br])) I I I I I I I I I I I (by rw[←hlen];exact hx) I I I (by rw[HV];rfl) (by simp only[maxLen];omega) (by omega) I ?_
  intro g1 c1 j1 hV1
  refine wP I (Aa (zE (zB (wP I ?_))))
  refine DD I I I I I (by decide) ?_
  refine wV 41 (((u+v+c)/br:Nat):Int) I (BG (show(u+v+c)/1000000<9223372036854775808 by omega)) (wP I (Aa (zN (zE (zB (wP I (wP I (wV 25 ((i+1:Nat):Int) I (Ax (by omega)) (wP I (Aa ?_))))))))))
  refine A4 (i+1,g1,c1,j1) ⟨by show i+1≤M+1;omega, ?_,fun h=> ?_⟩ (by show M+1-(i+1)<M+1-i;omega) ⟨I,I,I,by rw[e2];rfl,I,tO⟩ _ (by show _=[BH _ (FG _ _ (i+1)).1]++_;rw[e1];rfl)
  ·show Cv _ (FG (lbs br a) (lbs br b) (i+1)).1
   rw[e1]
   show Vec.OK _ 1 (out++[_]).length _
   rw[List.length_append,hlen]
   exact hV1
  ·have h:i+1=M+1:=h
   have h9:=K6 a b (M+1)
   have hp1:br^(M+1)=br^M*br:=Nat.pow_succ ..
   have hp2:br^M*2≤br^M*br:=Nat.mul_le_mul_left _ br2
   rw[Nat.mod_eq_of_lt (by omega),Nat.mod_eq_of_lt (by omega)] at h9
   rcases Nat.eq_zero_or_pos (FG (lbs br a) (lbs br b) (M+1)).2 with h0|h0
   ·exact h0
   ·have:=Nat.mul_le_mul_left (br^(M+1)) h0
    omega
 ·have hcd: ¬(i<na∨i<nb∨0<c):=of_decide_eq_false hcd
  have ev:lv br out=a+b:=by
   have hc0:c=0:=by omega
   rw[hc0,Nat.mul_zero,Nat.add_zero] at hval
   have h3:br^M≤br^i:=Nat.pow_le_pow_right (by decide) (by omega)
   rw[Nat.mod_eq_of_lt (by omega),Nat.mod_eq_of_lt (by omega)] at hval
   exact hval
  obtain⟨j2,hj1,hj2⟩:=DK hx hob
  rw[ev] at hj1 hj2
  refine zJ (zK (zK (zL (zE (zA (zB (wP I ?_)))))))
  refine Ah 42 (slv (some ⟨x.1,0,none⟩) out.length x.2.1) I (by rw[hlen]) ?_
  exact wC I I (fun W' hp=>CA W' (some ⟨x.1,0,none⟩) x.2.1 out (Az.of_bx hp 0 I) hob (by have:=(hx.cap (by simp)).1;exact this) (by omega)) (wP I (Aa (zE (zO (Av tH I (.tmp I) ((x.1,x.2.1,j2):NV) (by rw[ev]) hj1 fun W hp=>Ap.of_hp1 hp 0 (by show some (⟨x.1,3,nI out++x.2.2,true,none⟩:Bx)=some ⟨x.1,3,nI (lbs br (a+b))++j2,true,none⟩;rw[hj2]))))))
-- BOXES 4
-- CODE2
def GO (x y c:Nat):Nat×Nat:=if y+c≤x then(x-y-c,0) else(x+br-y-c,1)
theorem QD {x y c:Nat} (hx:x<br) (hy:y<br) (hc:c≤1):(GO x y c).1<br∧(GO x y c).2≤1∧(GO x y c).1+y+c=x+br*(GO x y c).2:=by
 have hx:x<1000000:=hx
 have hy:y<1000000:=hy
 unfold GO
 split
 ·exact⟨by show x-y-c<1000000;omega,Nat.zero_le _,by show x-y-c+y+c=x+1000000*0;omega⟩
 ·exact⟨by show x+1000000-y-c<1000000;omega,Nat.le_refl _,by show x+1000000-y-c+y+c=x+1000000*1;omega⟩
def GH (a b:List Nat):Nat→List Nat×Nat
 |0=>([],0)
 |i+1=>((GH a b i).1++[(GO (lim a i) (lim b i) (GH a b i).2).1],(GO (lim a i) (lim b i) (GH a b i).2).2)
theorem KP (a b:List Nat): ∀i,(GH a b i).1.length=i
 |0=>rfl
 |i+1=>by show(_++[_]).length=_;rw[List.length_append,KP a b i];rfl
theorem Ns {a b:List Nat} (ha: ∀x∈a,x<br) (hb: ∀x∈b,x<br): ∀i,(∀x∈(GH a b i).1,x<br)∧(GH a b i).2≤1
 |0=>⟨fun x h=>(by cases h),Nat.zero_le _⟩
 |i+1=>by
  obtain⟨h1,h2⟩:=Ns ha hb i
  obtain⟨h3,h4,_⟩:=QD (Bf br2 ha i) (Bf br2 hb i) h2
  refine⟨fun x hx=> ?_,h4⟩
  rcases List.mem_append.1 hx with hx|hx
  ·exact h1 x hx
  ·obtain rfl:=List.mem_singleton.1 hx;exact h3
theorem Pe (a b:Nat): ∀i,lv br (GH (lbs br a) (lbs br b) i).1+b%br^i=a%br^i+br^i*(GH (lbs br a) (lbs br b) i).2
 |0=>by show 0+_=_+br^0*0;rw[Nat.pow_zero,Nat.mod_one,Nat.mod_one]
 |i+1=>by
  have hc:=(Ns (Bl br2 a) (Bl br2 b) i).2
  exact Li (KP _ _ i) (Pe a b i) (by rw[←Bh br2 b i, ←Bh br2 a i];exact(QD (Bf br2 (Bl br2 a) i) (Bf br2 (Bl br2 b) i) hc).2.2)
theorem EP (W:World) (p q:Option Addr) (cap cap2:Nat) (a b:Nat) (hba:b≤a) (hA:Az W p (lbs br a)) (hB:Az W q (lbs br b)) (hna:(lbs br a).length≤1000000):
  Ai Tryz.prog 196 #[slv p (lbs br a).length cap,slv q (lbs br b).length cap2] W (fun x:NV=>B3 x (lbs br (a-b)).length) (fun x=>Cv x (lbs br (a-b))) (fun x=>[BH x (lbs br (a-b))]):=by
 have hla:=Bl br2 a
 have hlb:=Bl br2 b
 have hal:=AK br2 a
 obtain⟨na,hna'⟩: ∃n,(lbs br a).length=n:=⟨_,rfl⟩
 obtain⟨nb,hnb'⟩: ∃n,(lbs br b).length=n:=⟨_,rfl⟩
 rw[hna'] at hna hal
 refine Ac (args:=[slv p (lbs br a).length cap,slv q (lbs br b).length cap2]) Tryz.func196 I I I ?_
 rw[hna',hnb']
 refine zA (zB (wP I (Aa (zE (zA (zB ?_))))))
 refine BF tH I I I I I ?_
 intro g
 refine wP I (Aa (zE (zA (zB (wP I (Aa (zE (zA (zA (zB (wP I (Aa (zE ?_)))))))))))))
 refine zH ?_
 refine A9 (X:=Nat×NV) (fun x=>[(0,slv p na cap),(1,slv q nb cap2),(5,B3 x.2 x.1),(6, .int .i64 ((GH (lbs br a) (lbs br b) x.1).2:Nat)),(7, .int .i64 (x.1:Nat))]) (fun x=>[BH x.2 (GH (lbs br a) (lbs br b) x.1).1])
  (fun x=>x.1≤na∧Cv x.2 (GH (lbs br a) (lbs br b) x.1).1) (fun x=>na-x.1) (0,g,0,[]) ⟨Nat.zero_le _,⟨rfl,(fun h=>by cases h),fun _=>⟨Nat.le_refl _,Nat.zero_le _,rfl⟩⟩⟩ ⟨rfl,rfl,rfl,rfl,rfl,trivial⟩ [] rfl ?_
 rintro⟨i,x⟩ ⟨hi,hx⟩
 have hi:i≤na:=hi
 have hx:Cv x (GH (lbs br a) (lbs br b) i).1:=hx
 have hlen:=KP (lbs br a) (lbs br b) i
 obtain⟨hob,hc1⟩:=Ns hla hlb i
 have hval:=Pe a b i
 obtain⟨out,hout⟩: ∃out,(GH (lbs br a) (lbs br b) i).1=out:=⟨_,rfl⟩
 obtain⟨c,hc⟩: ∃c,(GH (lbs br a) (lbs br b) i).2=c:=⟨_,rfl⟩
 rw[hout] at hx hlen hob hval
 rw[hc] at hc1 hval
 simp only[hc,hout]
 refine zA (zA (zB (wP I (wP I (wP I (wP I ?_))))))
 by_cases h1:i<na
 ·refine wU 13 true I (dT (by omega)) (Aa (zE (zR I (zI (zE (zA (zH (zA (zU ?_)))))))))
  obtain⟨u,hu⟩: ∃u,lim (lbs br a) i=u:=⟨_,rfl⟩
  obtain⟨v,hv⟩: ∃v,lim (lbs br b) i=v:=⟨_,rfl⟩
  have hub:u<1000000:=by rw[←hu];exact Bf br2 hla i
  have hvb:v<1000000:=by rw[←hv];exact Bf br2 hlb i
  obtain⟨b1,o1,rfl,r1⟩:=hA.row (show i<(lbs br a).length by omega)
  have r1:=r1 i (by omega)
  rw[hu] at r1
  have e1:(GH (lbs br a) (lbs br b) (i+1)).1=out++[(GO u v c).1]:=by show _++[_]=_;rw[hout,hu,hv,hc]
  have e2:(GH (lbs br a) (lbs br b) (i+1)).2=(GO u v c).2:=by show(GO _ _ _).2=_;rw[hu,hv,hc]
  refine qP I (qP I ?_)
  refine qJ ?_
  refine qL 0 I I (fun W hp=>r1.hp hp) I (qP I (qP I (qC I I (fun W' hp=>Da W' q cap2 nb (lbs br b) i v (hB.hp hp) hnb' (by omega) hv) (qP I (qP I (qP I (qV 25 ((u:Int)-v-c) I (by show w64 (w64 ((u:Int)-v)-c)=_;rw[A0 (x:=(u:Int)-v) (by omega) (by omega),A0 (by omega) (by omega)]) (qP I (AS (Aa (zE (zA (zB ?_)))))))))))))
  refine wP I (Aa (AH (Ar (Ar (zB (wP I (wP I ?_)))))))
  refine Ah 27 (.bool (decide ((u:Int)-v-c<0))) I I ?_
  refine Aa (AH ?_)
  try refine Ar ?_
  refine AC (X:=Unit) (fun _=>[(0,slv (some ⟨b1,o1,none⟩) na cap),(1,slv q nb cap2),(5,B3 x i),(6, .int .i64 ((GO u v c).2:Nat)),(7, .int .i64 (i:Nat)),(8, .int .i64 ((GO u v c).1:Nat))]) (fun _=>[BH x out]) (fun _=>True) ?_ ?_
  ·refine Aw I (fun hn=> ?_) (fun hn=> ?_)
   ·have hn:(u:Int)-v-c<0:=of_decide_eq_true hn
    have em:GO u v c=(u+br-v-c,1):=by unfold GO;rw[if_neg (by omega)]
    exact zA (zB (wP I (wP I (wV 29 ((u+br-v-c:Nat):Int) I (by show w64 (((u:Int)-v-c)+((1000000:Nat):Int))=_;rw[A0 (by omega) (by omega)];show _=((u+1000000-v-c:Nat):Int);omega) (wP I (Aa (zE (zB (wP I (Aa (An () tO ⟨I,I,I,by rw[em];rfl,I,by rw[em];rfl,tO⟩ [] I)))))))))))
   ·have hn: ¬(u:Int)-v-c<0:=of_decide_eq_false hn
    have em:GO u v c=(u-v-c,0):=by unfold GO;rw[if_pos (by omega)]
    exact zI (An () tO ⟨I,I,I,by rw[em];rfl,I,by rw[em];exact congrArg (fun z=>some (Value.int .i64 z)) (by show(u:Int)-v-c=((u-v-c:Nat):Int);omega),tO⟩ [] I)
  intro _ _
  refine zB (wP I (wP I ?_))
  refine A8 Tryz.hZ tH I I I I I I I I I I I fun bN=> ?_
  refine Bk (V:=nvV x) (len:=i) (xs:=nI out) 0 1 Tryz.vec130 (i+1) (nI (out++[(GO u v c).1])) I I I I I I I I I I I (by rw[←hlen];exact hx) I I I (by rw[HV];rfl) (by simp only[maxLen];omega) (by omega) I ?_
  intro g1 c1 j1 hV1
  refine wP I (Aa (zN (zE (zB (wP I (wP I (wV 15 ((i+1:Nat):Int) I (Ax (by omega)) (wP I (Aa ?_)))))))))
  refine A4 (i+1,g1,c1,j1) ⟨h1, ?_⟩ (by show na-(i+1)<na-i;omega) ⟨I,I,I,by rw[e2];rfl,I,tO⟩ _ (by show _=[BH _ (GH _ _ (i+1)).1]++_;rw[e1];rfl)
  show Cv _ (GH (lbs br a) (lbs br b) (i+1)).1
  rw[e1]
  show Vec.OK _ 1 (out++[_]).length _
  rw[List.length_append,hlen]
  exact hV1
 ·have e:i=na:=by omega
  subst e
  have ev:lv br out=a-b:=Ms br2 hlen hob hval hal hba
  obtain⟨j2,hj1,hj2⟩:=DK hx hob
  rw[ev] at hj1 hj2
  refine wU 13 false I (dF (by omega)) (Aa (zE (zS I (zJ (zK (zK (zL (zE (zA (zB (wP I ?_)))))))))))
  refine Ah 34 (slv (some ⟨x.1,0,none⟩) out.length x.2.1) I (by rw[hlen]) ?_
  exact wC I I (fun W' hp=>CA W' (some ⟨x.1,0,none⟩) x.2.1 out (Az.of_bx hp 0 I) hob (by have:=(hx.cap (by simp)).1;exact this) (by omega)) (wP I (Aa (zE (zO (Av tH I (.tmp I) ((x.1,x.2.1,j2):NV) (by rw[ev]) hj1 fun W hp=>Ap.of_hp1 hp 0 (by show some (⟨x.1,3,nI out++x.2.2,true,none⟩:Bx)=some ⟨x.1,3,nI (lbs br (a-b))++j2,true,none⟩;rw[hj2]))))))
-- BOXES 4
-- CODE2
theorem Tg {x y:Nat} (hx:x<br) (hy:y<br):x*y≤999998000001:=(Nat.mul_le_mul (Nat.le_of_lt_succ hx) (Nat.le_of_lt_succ hy):x*y≤999999*999999)
theorem HG (W:World) (p q:Option Addr) (cap cap2:Nat) (a:Nat) (lb:List Nat) (hlb: ∀x∈lb,x<br) (hA:Az W p (lbs br a)) (hB:Az W q lb) (hna:(lbs br a).length≤1000000) (hnb:lb.length≤1000000):
  Ai Tryz.prog 197 #[slv p (lbs br a).length cap,slv q lb.length cap2] W (fun x:NV=>B3 x (lbs br (a*lv br lb)).length) (fun x=>Cv x (lbs br (a*lv br lb))) (fun x=>[BH x (lbs br (a*lv br lb))]):=by
 have hla:=Bl br2 a
 have hal:=AK br2 a
 have hbl:=Fa br2 hlb
 obtain⟨b,hbv⟩: ∃b,lv br lb=b:=⟨_,rfl⟩
 rw[hbv] at hbl⊢
 obtain⟨na,hna'⟩: ∃n,(lbs br a).length=n:=⟨_,rfl⟩
 obtain⟨nb,hnb'⟩: ∃n,lb.length=n:=⟨_,rfl⟩
 obtain⟨M,hM⟩: ∃M,M=na+nb+1:=⟨_,rfl⟩
 rw[hna'] at hna hal
 rw[hnb'] at hnb hbl
 refine Ac (args:=[slv p (lbs br a).length cap,slv q lb.length cap2]) Tryz.func197 I I I ?_
 rw[hna',hnb']
 refine zA (zB (wP I (Aa (zE (zA (zB ?_))))))
 iterate 6 refine wP I ?_
 refine wV 15 (M:Nat) I (by show w64 (w64 ((na:Int)+nb)+1)=_;rw[AO (by omega),Ax (by omega),hM]) ?_
 refine Ce Tryz.vec130 M I I I I I I I (by simp only[maxLen];omega) (by omega) ?_
 intro g
 have ez:CR (Value.cells (.int .i64 0)).toList M=nI (List.replicate M 0)++[]:=by rw[List.append_nil];exact Fm M
 rw[ez]
 refine wP I (Aa (zE (zA (zA (zB (wP I (Aa (zE (zH ?_)))))))))
 refine A9 (X:=Nat×List Nat) (fun x=>[(0,slv p na cap),(1,slv q nb cap2),(5,slv (some ⟨g,0,none⟩) M M),(6, .int .i64 (x.1:Nat))]) (fun x=>[⟨g,3,nI x.2++[],true,none⟩])
  (fun x=>x.1≤na∧x.2.length=M∧(∀y∈x.2,y<br)∧lv br x.2=a%br^x.1*b) (fun x=>na-x.1) (0,List.replicate M 0) ⟨Nat.zero_le _,List.length_replicate,fun y hy=>by rw[List.eq_of_mem_replicate hy];decide,by rw[E4];show 0=a%br^0*b;rw[Nat.pow_zero,Nat.mod_one,Nat.zero_mul]⟩ ⟨rfl,rfl,rfl,rfl,trivial⟩ [] rfl ?_
 rintro⟨i,out⟩ ⟨hi,hlen,hob,hov⟩
 have hi:i≤na:=hi
 have hlen:out.length=M:=hlen
 refine zA (zA (zB (wP I (wP I (wP I (wP I ?_))))))
 by_cases hi':i<na
 ·refine wU 20 true I (dT (by omega)) (Aa (zE (zR I (zI (zE (zA (zH (zA (zB ?_)))))))))
  obtain⟨pb,po,rfl,hrow⟩:=hA.row (show i<(lbs br a).length by omega)
  obtain⟨x,hx⟩: ∃x,lim (lbs br a) i=x:=⟨_,rfl⟩
  have hrx: ∀W' bx,Hp W bx W'→Aj W' pb (po+i*1) [.int .i64 (x:Nat)]:=fun W' bx hp=>by
   have:=(hrow i (by omega)).hp hp
   rwa [hx] at this
  have hxb:x<br:=by rw[←hx];exact Bf br2 hla i
  have hxe:x=a/br^i%br:=by rw[←hx];exact Bh br2 a i
  refine wP I (Aa (zE (zA (zB (wP I (Aa (zE (zH ?_))))))))
  refine A9 (X:=Nat×List Nat×Nat) (fun x'=>[(0,slv (some ⟨pb,po,none⟩) na cap),(1,slv q nb cap2),(5,slv (some ⟨g,0,none⟩) M M),(6, .int .i64 (i:Nat)),(7, .int .i64 (x'.2.2:Nat)),(8, .int .i64 (x'.1:Nat))]) (fun x'=>[⟨g,3,nI x'.2.1++[],true,none⟩])
   (fun x'=>x'.1≤nb+1∧x'.2.1.length=M∧(∀y∈x'.2.1,y<br)∧x'.2.2<br∧lv br x'.2.1+br^(i+x'.1)*x'.2.2=lv br out+br^i*(x*(b%br^x'.1))) (fun x'=>nb+1-x'.1) (0,out,0) ⟨Nat.zero_le _,hlen,hob,show 0<br by decide,by show lv br out+br^(i+0)*0=lv br out+br^i*(x*(b%br^0));rw[Nat.pow_zero,Nat.mod_one];simp⟩ ⟨rfl,rfl,rfl,rfl,rfl,rfl,trivial⟩ [] rfl ?_
  rintro⟨k,u,c⟩ ⟨hk,hul,hub,hcb,huv⟩
  have hk:k≤nb+1:=hk
  have hul:u.length=M:=hul
  have hcb:c<1000000:=hcb
  have huv:lv br u+br^(i+k)*c=lv br out+br^i*(x*(b%br^k)):=huv
  have hlast:k=nb+1→c=0:=fun e=>by
   subst e
   exact(Mx br2 huv hbl hxb (by rw[hov];exact J9 br2 hbl)).2
  refine Ar (Ar ?_)
  refine AC (X:=Unit) (fun _=>[(0,slv (some ⟨pb,po,none⟩) na cap),(1,slv q nb cap2),(5,slv (some ⟨g,0,none⟩) M M),(6, .int .i64 (i:Nat)),(7, .int .i64 (c:Nat)),(8, .int .i64 (k:Nat)),(30, .bool (decide (k<nb∨0<c)))]) (fun _=>[⟨g,3,nI u++[],true,none⟩]) (fun _=>True) ?_ ?_
  ·refine zB (wP I (wP I (wP I (wP I ?_))))
   by_cases h1:k<nb
   ·refine wU 26 true I (dT (by omega)) (wP I ?_)
    iterate 2 refine Ao I I ?_
    exact wP I (Aa (An () tO ⟨I,I,I,I,I,I,by rw[dT (Or.inl h1)];rfl,tO⟩ [] I))
   ·exact wU 26 false I (dF (by omega)) (wP I (wP I (wP I (wU 29 (decide (k<nb∨0<c)) I (decide_eq_decide.2 (by show((c:Nat):Int)>0↔(k<nb∨0<c);omega)) (wP I (Aa (An () tO ⟨I,I,I,I,I,I,I,tO⟩ [] I)))))))
  intro _ _
  refine Aw I (fun hc=> ?_) (fun hc=> ?_)
  ·have hc:k<nb∨0<c:=of_decide_eq_true hc
   have hk':k<nb+1:=by
    rcases Nat.lt_or_ge k (nb+1) with h|h
    ·exact h
    ·have:=hlast (by omega);omega
   have hik:i+k<u.length:=by rw[hul];omega
   obtain⟨o,ho⟩: ∃o,lim u (i+k)=o:=⟨_,rfl⟩
   obtain⟨y,hy⟩: ∃y,lim lb k=y:=⟨_,rfl⟩
   have hob':o<br:=by rw[←ho];exact Bf br2 hub _
   have hyb:y<br:=by rw[←hy];exact Bf br2 hlb _
   have hou:u[i+k]? =some o:=by rw[Du hik,ho]
   obtain⟨n,hn⟩: ∃n,n=o+x*y+c:=⟨_,rfl⟩
   have hnb2:=JH hxb hyb hob' hcb hn
   have hn63:n<1000000000000:=hnb2.2
   have hxy:=Tg hxb hyb
   have hyy:=hy
   rw[C2 br2 k hlb,hbv] at hyy
   have hstep:=HW (n:=n) hou huv (by rw[hn,hyy])
   have hrx':=hrx
   refine zI (zE (zA (zH (zA (zU (qP I (qP I (qP I (qP I (qV 36 ((i+k:Nat):Int) I (AO (by omega)) ?_))))))))))
   refine qJ ?_
   refine qL 0 I I (fun W' hp=>Aj.of_intsX hp 0 I hik ho) I (qP I (qP I ?_))
   refine qJ ?_
   refine qL 0 I I (fun W' hp=>hrx W' _ hp) I (qP I (qP I (qC I I (fun W' hp=>Da W' q cap2 nb lb k y (hB.hp hp) hnb' (by omega) hy) (qP I (qP I (qP I (qP I (qV 49 (n:Nat) I (by show w64 (w64 ((o:Int)+w64 ((x:Int)*y))+c)=_;rw[Cw (by omega),AO (by omega),AO (by omega),hn]) (qP I (AS (Aa (zE (zA ?_)))))))))))))
   refine zB (wP I (wP I (wP I (wP I (wV 53 ((i+k:Nat):Int) I (AO (by omega)) (wP I ?_))))))
   refine Ej I I I I I (by decide) ?_
   refine wJ ?_
   refine AJ 0 (nI (u.set (i+k) (n%br))++[]) tH I I I I I I I I I I (by show 0+(i+k)*1+1≤(nI u++[]).length;rw[List.append_nil,BC];omega) (C4 hik (n%br)) ?_
   refine Aa (zE (zB (wP I ?_)))
   refine DD I I I I I (by decide) ?_
   exact wV 58 ((n/br:Nat):Int) I (BG (show n/1000000<9223372036854775808 by omega)) (wP I (Aa (zN (zE (zB (wP I (wP I (wV 32 ((k+1:Nat):Int) I (Ax (by omega)) (wP I (Aa (A4 (k+1,u.set (i+k) (n%br),n/br) ⟨hk',by rw[List.length_set];exact hul,CH hub (Nat.mod_lt _ (by decide)),hnb2.1,hstep⟩ (by show nb+1-(k+1)<nb+1-k;omega) ⟨I,I,I,I,I,I,tO⟩ [] I)))))))))))
  ·have hc: ¬(k<nb∨0<c):=of_decide_eq_false hc
   have hc0:c=0:=by omega
   have h1:lv br u=lv br out+br^i*(x*b):=by
    rw[hc0,Nat.mul_zero,Nat.add_zero] at huv
    have h3:br^nb≤br^k:=Nat.pow_le_pow_right (by decide) (by omega)
    rw[Nat.mod_eq_of_lt (show b<br^k by omega)] at huv
    exact huv
   have h2:=KG (a:=a) (b:=b) (i:=i) hov
   rw[←hxe, ←h1] at h2
   exact zJ (zK (zK (zL (zN (zE (zB (wP I (wP I (wV 22 ((i+1:Nat):Int) I (Ax (by omega)) (wP I (Aa (A4 (i+1,u) ⟨hi',hul,hub,h2⟩ (by show na-(i+1)<na-i;omega) ⟨I,I,I,I,tO⟩ [] I))))))))))))
 ·have hi':i=na:=by omega
  subst hi'
  rw[Nat.mod_eq_of_lt hal] at hov
  refine wU 20 false I (dF (by omega)) (Aa (zE (zS I (zJ (zK (zK (zL (zE (zA (zB ?_))))))))))
  have hV0:(⟨some g,M,[]⟩:Vec).OK 1 out.length (nI out):=⟨Er _,(fun h=>by cases h),fun _=>⟨by show _≤M;omega,by show M≤maxLen;simp only[maxLen];omega,by show(nI out).length+0=M*1;rw[BC];omega⟩⟩
  obtain⟨j',hV2,he⟩:=DK hV0 hob
  refine wP I ?_
  refine Ah 59 (slv (some ⟨g,0,none⟩) out.length M) I (by rw[hlen]) ?_
  refine wC I I (fun W hp=>CA W _ M _ (Az.of_bx hp 0 I) hob (by omega) (by omega)) (wP I (Aa (zE (zO ?_))))
  rw[hov] at hV2 he
  exact Av tH I (.tmp I) ((g,M,j'):NV) (by rw[hov]) hV2 fun W hp=>Ap.of_hp1 hp 0 (by show some (⟨g,3,nI out++[],true,none⟩:Bx)=some ⟨g,3,nI (lbs br (a*b))++j',true,none⟩;rw[he])
theorem IA (W:World) (p q:Option Addr) (cap cap2:Nat) (a b:Nat) (hA:Az W p (lbs br a)) (hB:Az W q (lbs br b)) (hna:(lbs br a).length≤1000000) (hnb:(lbs br b).length≤1000000):
  Ai Tryz.prog 197 #[slv p (lbs br a).length cap,slv q (lbs br b).length cap2] W (fun x:NV=>B3 x (lbs br (a*b)).length) (fun x=>Cv x (lbs br (a*b))) (fun x=>[BH x (lbs br (a*b))]):=by
 have h:=HG W p q cap cap2 a (lbs br b) (Bl br2 b) hA hB hna hnb
 rwa [Jc br2] at h
-- BOXES 2
-- CODE2
def FT (z:Int):List UInt8:=if z<0 then[45] else[]
theorem Co (z:Int):itoa z=FT z++decDigits z.natAbs:=by
 unfold itoa FT
 split
 ·rfl
 ·rw[show z.toNat=z.natAbs by omega];rfl
theorem Km (z:Int):(FT z).length≤1:=by unfold FT;split<;>decide
theorem E0 (z:Int): ∃c,(itoa z)[0]? =some c∧decide (c=45)=decide (z<0):=by
 have h:=JB z
 rw[Bv] at h
 cases e:itoa z with
 |nil=>
  rw[Co] at e
  exact absurd (List.append_eq_nil_iff.1 e).2 (Fx _)
 |cons c t=>
  rw[e] at h
  exact⟨c,I,by rw[←h];exact decide_eq_decide.2 (by simp)⟩
theorem P7 {n:Nat} (h:(decDigits n)[0]? =some 48):n=0:=by
 rcases Nat.eq_zero_or_pos n with h0|h0
 ·exact h0
 ·obtain⟨b,r,h1,h2⟩:=Ks n (by omega)
  rw[h1] at h
  have h:b=48:=by simpa using h
  rw[h] at h2;exact absurd rfl h2
theorem ER (z:Int) (hl:(decDigits z.natAbs).length≤300):B0 Tryz.prog 191 [str (itoa z)] (.int .i64 0):=by
 intro W
 obtain⟨s,hs⟩: ∃s,s=itoa z:=⟨_,rfl⟩
 obtain⟨dd,hdd⟩: ∃dd,dd=decDigits z.natAbs:=⟨_,rfl⟩
 obtain⟨f,hf⟩: ∃f,f=(FT z).length:=⟨_,rfl⟩
 have hss:s=FT z++dd:=by rw[hs,hdd];exact Co z
 have hf1:f≤1:=hf▸Km z
 have hsl:s.length=f+dd.length:=by rw[hss,List.length_append,hf]
 have hd0:0<dd.length:=by rw[hdd];exact List.length_pos_iff.2 (Fx _)
 have hget: ∀i,f≤i→s[i]? =dd[i-f]? :=fun i hi=>by rw[hss,List.getElem?_append_right (by omega),hf]
 obtain⟨c0,hc0,hc45⟩:=E0 z
 rw[←hs] at hc0⊢
 rw[←hdd] at hl
 have hdg: ∀b∈dd,DC b=true:=by rw[hdd];exact(ED _).all
 refine Ac Tryz.func191 I I I ?_
 refine zA (zB (wP I (Aa (zE (zA (zB (wP I (Aa (zE (zA (zA (zB (wP I (wP I ?_))))))))))))))
 refine Ah 6 (.int .i64 (s.length:Nat)) I (congrArg (fun n:Nat=>Value.int .i64 (n:Int)) (A5 s)) ?_
 refine wP I (wU 7 true I (dT (by omega)) (wP I (wP I ?_)))
 refine AV 0 tH I I I I I I I I hc0 ?_
 refine wP I (wU 11 (decide (z<0)) I ((Dt c0 45).trans hc45) (wP I (Aa (AH ?_))))
 try refine Ar ?_
 refine AC (X:=Unit) (fun _=>[(0,str s),(3, .int .i64 (f:Nat))]) (fun _=>[]) (fun _=>True) ?_ ?_
 ·refine Aw I (fun h=> ?_) (fun h=> ?_)
  ·have h:z<0:=of_decide_eq_true h
   exact zB (wP I (Aa (An () tO ⟨I,by rw[hf];unfold FT;rw[if_pos h];rfl,tO⟩ [] I)))
  ·have h: ¬z<0:=of_decide_eq_false h
   exact zI (An () tO ⟨I,by rw[hf];unfold FT;rw[if_neg h];rfl,tO⟩ [] I)
 intro _ _
 refine Ar (Ar ?_)
 refine AC (X:=Unit) (fun _=>[(0,str s),(3, .int .i64 (f:Nat)),(27, .bool false)]) (fun _=>[]) (fun _=>True) ?_ ?_
 ·refine zB (wP I (wP I (wP I ?_)))
  refine Ah 15 (.int .i64 (s.length:Nat)) I (congrArg (fun n:Nat=>Value.int .i64 (n:Int)) (A5 s)) ?_
  refine wP I (wU 16 false I (by rw[beq_eq_false_iff_ne];omega) ?_)
  obtain⟨b,hb⟩: ∃b,dd[0]? =some b:=⟨dd[0],List.getElem?_eq_getElem hd0⟩
  have hsb:s[f]? =some b:=by rw[hget f (Nat.le_refl _),Nat.sub_self];exact hb
  refine wP I (wP I (wP I ?_))
  refine AV f tH I I I I I I I I hsb ?_
  refine wP I ?_
  by_cases h48:b=48
  ·rw[h48,hdd] at hb
   have h0:=P7 hb
   have hz:z=0:=by omega
   have hs1:s.length=1:=by rw[hs,hz,Ck];rfl
   refine wU 21 true I ((Dt b 48).trans (dT h48)) (wP I (wP I (wP I ?_)))
   refine Ah 24 (.int .i64 (s.length:Nat)) I (congrArg (fun n:Nat=>Value.int .i64 (n:Int)) (A5 s)) ?_
   exact wP I (wU 25 false I (dF (by omega)) (wP I (wP I (Aa (An () tO ⟨I,I,I,tO⟩ [] I)))))
  ·refine wU 21 false I ((Dt b 48).trans (dF h48)) (wP I ?_)
   iterate 3 refine Ao I I ?_
   exact wP I (wP I (Aa (An () tO ⟨I,I,I,tO⟩ [] I)))
 intro _ _
 refine zS I (zI (zE (zA (zA (zB (wP I (wP I (Aa (zE (zH ?_))))))))))
 refine A9 (X:=Nat) (fun i=>[(0,str s),(3, .int .i64 (f:Nat)),(4, .int .i64 (i:Nat))]) (fun _=>[]) (fun i=>i≤s.length∧f≤i) (fun i=>s.length-i) f ⟨by omega,Nat.le_refl _⟩ ⟨I,I,I,tO⟩ [] I ?_
 rintro i ⟨hi,hfi⟩
 have hi:i≤s.length:=hi
 have hfi:f≤i:=hfi
 refine zA (zA (zB (wP I (wP I (wP I ?_)))))
 refine Ah 31 (.int .i64 (s.length:Nat)) I (congrArg (fun n:Nat=>Value.int .i64 (n:Int)) (A5 s)) ?_
 refine wP I ?_
 by_cases hlt:i<s.length
 ·refine wU 32 true I (dT (by omega)) (Aa (zE (zR I (zI (zE (zA (zH (zA (zB ?_)))))))))
  obtain⟨b,hb⟩: ∃b,dd[i-f]? =some b:=⟨dd[i-f]'(by omega),List.getElem?_eq_getElem (by omega)⟩
  have hsb:s[i]? =some b:=by rw[hget i hfi];exact hb
  have hbd:=C5.1 (hdg b (List.mem_of_getElem? hb))
  refine wP I (wP I ?_)
  refine AV i tH I I I I I I I I hsb ?_
  refine wP I (wU 38 false I ((Q2 b).trans (dF (by omega))) (wP I (wP I (wP I ?_))))
  refine AV i tH I I I I I I I I hsb ?_
  refine wP I (wU 43 false I ((Q4 b).trans (dF (by omega))) (wP I (Aa (zE (zS I (zI (zN (zE (zB (wP I (wP I (wV 34 ((i+1:Nat):Int) I (Ax (by omega)) (wP I ?_)))))))))))))
  exact Aa (A4 (i+1) ⟨hlt,by show f≤i+1;omega⟩ (by show s.length-(i+1)<s.length-i;omega) ⟨I,I,I,tO⟩ [] I)
 ·refine wU 32 false I (dF (by omega)) (Aa (zE (zS I (zJ (zK (zK (zL (zE (zA (zA (zB (wP I (wP I ?_)))))))))))))
  refine Ah 46 (.int .i64 (s.length:Nat)) I (congrArg (fun n:Nat=>Value.int .i64 (n:Int)) (A5 s)) ?_
  refine wP I (wP I (wV 48 (dd.length:Nat) I (by show w64 ((s.length:Int)-f)=_;rw[A0 (by omega) (by omega)];omega) (wP I (wU 49 false I (dF (by omega)) (Aa (zE (zS I (zI (zE (zA (zB (wP I (Aa ?_)))))))))))))
  exact zE (zO (wR1 I I I))
theorem CX (a b:Int) (ha:(decDigits a.natAbs).length≤300) (hb:(decDigits b.natAbs).length≤300):B0 Tryz.prog 141 [str (itoa a),str (itoa b)] (.int .i64 0):=by
 intro W
 refine Ac Tryz.func141 I I I ?_
 refine zA (zB (wP I (Aa (zE (zA (zA (zB (wP I (wC I I (fun W _=>ER a ha W) (wP I (Aa (zE (zA ?_)))))))))))))
 refine zB (wP I (wP I (Aa (zE (zS I (zI (zE (zA (zB (wP I (wC I I (fun W _=>ER b hb W) (wP I (Aa ?_)))))))))))))
 exact zE (zO (wR1 I I I))
def smI (z:Int):Bool:=decide ((itoa z).length≤17)
theorem Hq {z:Int} (h:smI z=true):z.natAbs<100000000000000000:=by
 have h:(itoa z).length≤17:=of_decide_eq_true h
 rw[Co,List.length_append] at h
 exact Nat.lt_of_lt_of_le (DG _) (show _≤10^17 from Nat.pow_le_pow_right (by decide) (by omega))
theorem IQ (z:Int) (hl:(itoa z).length<4611686018427387904):B0 Tryz.prog 192 [str (itoa z)] (.tuple #[.int .i64 (if smI z=true then z else 0), .bool (smI z)]):=by
 intro W
 obtain⟨s,hs⟩: ∃s,s=itoa z:=⟨_,rfl⟩
 obtain⟨dd,hdd⟩: ∃dd,dd=decDigits z.natAbs:=⟨_,rfl⟩
 obtain⟨f,hf⟩: ∃f,f=(FT z).length:=⟨_,rfl⟩
 have hss:s=FT z++dd:=by rw[hs,hdd];exact Co z
 have hf1:f≤1:=hf▸Km z
 have hsl:s.length=f+dd.length:=by rw[hss,List.length_append,hf]
 have hd0:0<dd.length:=by rw[hdd];exact List.length_pos_iff.2 (Fx _)
 have hget: ∀i,f≤i→s[i]? =dd[i-f]? :=fun i hi=>by rw[hss,List.getElem?_append_right (by omega),hf]
 have hneg: ∀i,i<f→s[i]? =some 45:=fun i hi=>by
  have h0:i=0:=by omega
  subst h0
  rw[hss]
  unfold FT at hf⊢
  split
  ·rfl
  ·rename_i h;rw[if_neg h] at hf;simp at hf;omega
 obtain⟨c0,hc0,hc45⟩:=E0 z
 have hsm:smI z=decide (s.length≤17):=by rw[hs];rfl
 rw[←hs] at hc0 hl⊢
 have hdg: ∀b∈dd,DC b=true:=by rw[hdd];exact(ED _).all
 refine Ac Tryz.func192 I I I ?_
 refine zA (zB (wP I (wP I (Aa (zE (zA (zA (zB (wP I (wP I ?_))))))))))
 refine Ah 7 (.int .i64 (s.length:Nat)) I (congrArg (fun n:Nat=>Value.int .i64 (n:Int)) (A5 s)) ?_
 refine wP I ?_
 by_cases h17:s.length≤17
 rotate_left
 ·exact wU 8 true I (dT (by show((s.length:Nat):Int)>17;omega)) (Aa (zE (zR I (zA (zB (wP I (wP I (Aa (zE (zO (zP (wR2 I I (by rw[hsm,dF h17];rfl)))))))))))))
 have hlt: ∀i,AN (dd.take i)<100000000000000000:=fun i=>by
  have h1:=F8 (dd.take i).length (s:=dd.take i) rfl fun b hb=>hdg b (List.mem_of_mem_take hb)
  have h2:(dd.take i).length≤17:=by rw[List.length_take];omega
  exact Nat.lt_of_lt_of_le h1 (show _≤10^17 from Nat.pow_le_pow_right (by decide) h2)
 refine wU 8 false I (dF (by show¬((s.length:Nat):Int)>17;omega)) (Aa (zE (zS I (zI (zE (zA (zB (wP I (Aa (zE (zA (zA (zB ?_)))))))))))))
 refine wP I (Aa (zE (zH ?_)))
 refine A9 (X:=Nat) (fun i=>[(0,str s),(4, .int .i64 (AN (dd.take (i-f)):Nat)),(5, .int .i64 (i:Nat))]) (fun _=>[]) (fun i=>i≤s.length) (fun i=>s.length-i) 0 (Nat.zero_le _) ⟨I,by show some _=some (Value.int .i64 (AN (dd.take (0-f)):Nat));rw[Nat.zero_sub,List.take_zero];rfl,I,tO⟩ [] I ?_
 intro i hi
 have hi:i≤s.length:=hi
 refine zA (zA (zB (wP I (wP I (wP I ?_)))))
 refine Ah 11 (.int .i64 (s.length:Nat)) I (congrArg (fun n:Nat=>Value.int .i64 (n:Int)) (A5 s)) ?_
 refine wP I ?_
 by_cases hlt':i<s.length
 ·refine wU 12 true I (dT (by omega)) (Aa (zE (zR I (zI (zE ?_)))))
  try refine Ar ?_
  refine AC (X:=Unit) (fun _=>[(0,str s),(4, .int .i64 (AN (dd.take (i+1-f)):Nat)),(5, .int .i64 (i:Nat))]) (fun _=>[]) (fun _=>True) ?_ ?_
  ·refine zH (zA (zB (wP I (wP I ?_))))
   by_cases hif:i<f
   ·refine AV i tH I I I I I I I I (hneg i hif) ?_
    exact wP I (Aa (zE (zS I (zI (zN (An () tO ⟨I,by rw[show i+1-f=0 by omega,show i-f=0 by omega];rfl,I,tO⟩ [] I))))))
   obtain⟨b,hb⟩: ∃b,dd[i-f]? =some b:=⟨dd[i-f]'(by omega),List.getElem?_eq_getElem (by omega)⟩
   have hsb:s[i]? =some b:=by rw[hget i (by omega)];exact hb
   have hbd:=C5.1 (hdg b (List.mem_of_getElem? hb))
   have e1:AN (dd.take (i+1-f))=10*AN (dd.take (i-f))+(b.toNat-48):=by
    rw[show i+1-f=i-f+1 by omega,List.take_add_one,hb];exact Dj _ _
   have l1:=hlt (i-f)
   have l2:=hlt (i+1-f)
   refine AV i tH I I I I I I I I hsb ?_
   refine wP I ?_
   refine Ah 18 (.bool true) I (congrArg Value.bool (by
    show(!((((b.toNat:Nat):Int))==(45:Int)))=true
    rw[Bool.not_eq_true',beq_eq_false_iff_ne];omega)) ?_
   refine Aa (zE (zR I (zB (wP I (wP I (wV 20 ((10*AN (dd.take (i-f)):Nat):Int) I (show w64 (10*(AN (dd.take (i-f)):Nat))=_ by rw[A0 (by omega) (by omega)];omega) (wP I (wP I ?_))))))))
   refine AV i tH I I I I I I I I hsb ?_
   refine wP I ?_
   refine Ah 24 (.int .u8 ((b.toNat-48:Nat):Int)) I (congrArg (Value.int .u8) (by show IntKind.u8.wrap (((b.toNat:Nat):Int)-48)=_;rw[show((b.toNat:Nat):Int)-48=((b.toNat-48:Nat):Int) by omega,Oj (by omega) (by omega)])) ?_
   refine Ja Tryz.underlying5 Tryz.underlying3 I I I I ?_
   exact wV 25 ((b.toNat-48:Nat):Int) I (BG (by omega)) (wP I (wV 26 ((AN (dd.take (i+1-f)):Nat):Int) I (show w64 (((10*AN (dd.take (i-f)):Nat):Int)+((b.toNat-48:Nat):Int))=_ by rw[A0 (by omega) (by omega),e1];omega) (wP I (Aa (zN (An () tO ⟨I,I,I,tO⟩ [] I))))))
  intro _ _
  exact zB (wP I (wP I (wV 14 ((i+1:Nat):Int) I (Ax (by omega)) (wP I (Aa (A4 (i+1) hlt' (by show s.length-(i+1)<s.length-i;omega) ⟨I,I,I,tO⟩ [] I))))))
 ·refine wU 12 false I (dF (by omega)) (Aa (zE (zS I (zJ (zK (zK (zL (zE (zA (zA (zB ?_)))))))))))
  have hv:AN (dd.take (i-f))=z.natAbs:=by rw[List.take_of_length_le (by omega),hdd,BP]
  have hzl:z.natAbs<100000000000000000:=by rw[←hv];exact hlt _
  refine wP I ?_
  refine AV 0 tH I I I I I I I I hc0 ?_
  refine wP I (wU 29 (decide (z<0)) I ((Dt c0 45).trans hc45) (Aa (AH ?_)))
  try refine Ar ?_
  refine AC (X:=Unit) (fun _=>[(4, .int .i64 z)]) (fun _=>[]) (fun _=>True) ?_ ?_
  ·refine Aw I (fun h=> ?_) (fun h=> ?_)
   ·have h:z<0:=of_decide_eq_true h
    exact zB (wP I (wP I (wV 31 z I (by rw[hv];show w64 (0-((z.natAbs:Nat):Int))=_;rw[A0 (by omega) (by omega)];omega) (wP I (Aa (An () tO ⟨I,tO⟩ [] I))))))
   ·have h: ¬z<0:=of_decide_eq_false h
    exact zI (An () tO ⟨congrArg (fun z=>some (Value.int .i64 z)) (by rw[hv];omega),tO⟩ [] I)
  intro _ _
  exact zA (zB (wP I (wP I (wP I (Aa (zE (zO (wR2 I I (by rw[hsm,dT h17,if_pos I])))))))))
theorem KA (a b:Int) (ha:(itoa a).length<4611686018427387904) (hb:(itoa b).length<4611686018427387904):B0 Tryz.prog 142 [str (itoa a),str (itoa b)] (.tuple #[.int .i64 (if smI a=true then a else 0), .int .i64 (if smI a=true then(if smI b=true then b else 0) else 0), .bool (smI a&&smI b)]):=by
 intro W
 refine Ac Tryz.func142 I I I ?_
 refine zA (zB (wP I (wP I (wP I (Aa (zE (zA (zB (wP I (wC I I (fun W _=>IQ a ha W) ?_))))))))))
 iterate 5 refine wP I ?_
 refine Aa ?_
 cases hsa:smI a with
 |false=>
  refine zE (zA (zA (zB (wP I (wP I (Aa (zE (zR I (zA (zB (wP I (wP I (wP I ?_)))))))))))))
  exact Aa (zE (zO (zP (wR3 I I I))))
 |true=>
  refine zE (zA (zA (zB (wP I (wP I (Aa (zE (zS I (zI (zE (zA (zB (wP I ?_)))))))))))))
  refine wC I I (fun W _=>IQ b hb W) ?_
  iterate 5 refine wP I ?_
  refine Aa (zE (zA (zB ?_)))
  iterate 6 refine wP I ?_
  exact Aa (zE (zO (wR3 I I I)))
-- BOXES 4
-- CODE2
theorem Mg (a:List UInt8): ∀(n:Nat) (b:List UInt8),b.length=n→AN (a++b)=AN a*10^n+AN b
 |0,b,h=>by
  rw[List.length_eq_zero_iff.1 h,List.append_nil,Nat.pow_zero,Nat.mul_one];rfl
 |n+1,b,h=>by
  obtain⟨c,d,rfl⟩: ∃c d,b=c++[d]:=⟨b.dropLast,b.getLast (fun e=>by rw[e] at h;cases h),(List.dropLast_concat_getLast _).symm⟩
  have hc:c.length=n:=by rw[List.length_append] at h;exact Nat.succ.inj h
  rw[←List.append_assoc,Dj,Mg a n c hc,Dj,Nat.pow_succ]
  grind
theorem Oc (a b:List UInt8):AN (a++b)=AN a*10^b.length+AN b:=Mg a b.length b rfl
theorem To {m lo e:Nat} (_h1:lo≤e) (h2:e≤(decDigits m).length):AN (((decDigits m).take e).drop lo)=m/10^((decDigits m).length-e)%10^(e-lo):=by
 obtain⟨dd,hdd⟩: ∃dd,dd=decDigits m:=⟨_,rfl⟩
 have hdg: ∀b∈dd,DC b=true:=by rw[hdd];exact(ED m).all
 have hv:AN dd=m:=by rw[hdd];exact BP m
 rw[←hdd] at h2⊢
 have a1:=Oc (dd.take e) (dd.drop e)
 rw[List.take_append_drop,hv,List.length_drop] at a1
 have b1:=F8 (dd.drop e).length (s:=dd.drop e) rfl fun b hb=>hdg b (List.mem_of_mem_drop hb)
 rw[List.length_drop] at b1
 have c1:m/10^(dd.length-e)=AN (dd.take e):=by
  rw[a1,Nat.mul_comm,Nat.mul_add_div (Nat.pow_pos (by decide)),Nat.div_eq_of_lt b1,Nat.add_zero]
 rw[c1]
 have a2:=Oc ((dd.take e).take lo) ((dd.take e).drop lo)
 have b2:=F8 ((dd.take e).drop lo).length (s:=(dd.take e).drop lo) rfl fun b hb=>hdg b (List.mem_of_mem_take (List.mem_of_mem_drop hb))
 rw[List.take_append_drop] at a2
 have hl:((dd.take e).drop lo).length=e-lo:=by rw[List.length_drop,List.length_take,Nat.min_eq_left h2]
 rw[hl] at a2 b2
 rw[a2,Nat.mul_comm,Nat.mul_add_mod,Nat.mod_eq_of_lt b2]
def rdL (m:Nat) (j:Nat):List Nat:=(List.range j).map fun i=>m/br^i%br
theorem OW (m j:Nat):rdL m (j+1)=rdL m j++[m/br^j%br]:=by unfold rdL;rw[List.range_succ,List.map_append];rfl
theorem Kb (m j:Nat):(rdL m j).length=j:=by unfold rdL;rw[List.length_map,List.length_range]
theorem Tm (m j:Nat): ∀x∈rdL m j,x<br:=fun x hx=>by
 obtain⟨i,_,rfl⟩:=List.mem_map.1 hx
 exact Nat.mod_lt _ (by decide)
theorem QS (m:Nat): ∀j,lv br (rdL m j)=m%br^j
 |0=>by show 0=_;rw[Nat.pow_zero,Nat.mod_one]
 |j+1=>by rw[OW,MR (Kb m j),QS m j, ←DT]
theorem IY (j:Nat):br^j=10^(6*j):=by rw[Nat.pow_mul]
theorem Tu {m k:Nat} (h:m<10^(6*k)):(lbs br m).length≤k:=(BR br2).2 (by rw[IY];exact h)
theorem Vj {m e k:Nat} (h:(decDigits m).length≤e) (he:e=6*k):(lbs br m).length≤k:=by
 subst he
 exact Tu (Nat.lt_of_lt_of_le (DG m) (Nat.pow_le_pow_right (by decide) h))
theorem Cn {m:Nat} (h:(decDigits m).length≤606):(lbs br m).length≤101:=Vj h rfl
abbrev Uk (z:Int) (x:NV):Value:= .agg #[.bool (decide (z<0)),B3 x (lbs br z.natAbs).length]
theorem Us (y:Int):(if y>0 then y else 0)=max 0 y:=by omega
theorem Bb (z:Int) (hl:(decDigits z.natAbs).length≤1000) (W:World):
  Ai Tryz.prog 143 #[str (itoa z)] W (fun x:NV=>Uk z x) (fun x=>Cv x (lbs br z.natAbs)) (fun x=>[BH x (lbs br z.natAbs)]):=by
 obtain⟨m,hm⟩: ∃m,m=z.natAbs:=⟨_,rfl⟩
 obtain⟨c0,hc0,hc45⟩:=E0 z
 have hzl:=Co z
 refine Ac (args:=[str (itoa z)]) Tryz.func143 I I I ?_
 refine zA (zB ?_)
 (refine Af Tryz.hZ rfl rfl rfl rfl ?_;intro)
 refine Aa ?_
 rename_i b2
 refine zE (zA (zB ?_))
 refine Ay Tryz.hZ tH I I I I I I I I ?_
 (refine Af Tryz.hZ rfl rfl rfl rfl ?_;intro)
 refine wS 1 I I I (Aa ?_)
 rename_i b3
 refine zE (zA (zA (zB (wP I ?_))))
 refine AV 0 tH I I I I I I I I hc0 ?_
 refine wP I (wU 10 (decide (z<0)) I ((Dt c0 45).trans hc45) (Aa (AH ?_)))
 try refine Ar ?_
 refine AC (X:=Unit) (fun _=>[(0,str (decDigits m)),(2,Ag b2),(3,Ag b3)]) (fun _=>[⟨b2,153,[.bool false, .slice none 0 0],true,none⟩,⟨b3,153,[.bool (decide (z<0)), .slice none 0 0],true,none⟩]) (fun _=>True) ?_ ?_
 ·refine Aw I (fun h=> ?_) (fun h=> ?_)
  ·have h:z<0:=of_decide_eq_true h
   have e:itoa z=45::decDigits m:=by rw[hzl,hm];unfold FT;rw[if_pos h];rfl
   refine zA (zB (wP I (wS 1 I I I (Aa (zE (zB (wP I ?_)))))))
   refine EI 1 tH I I I I I I I I (by rw[e,List.length_cons];omega) ?_
   exact wP I (Aa (An () tO ⟨by rw[e];rfl,I,I,tO⟩ [] (by rw[dT h];rfl)))
  ·have h: ¬z<0:=of_decide_eq_false h
   have e:itoa z=decDigits m:=by rw[hzl,hm];unfold FT;rw[if_neg h];rfl
   exact zI (An () tO ⟨by rw[e];rfl,I,I,tO⟩ [] (by rw[dF h];rfl))
 intro _ _
 rw[←hm] at hl⊢
 obtain⟨dd,hdd⟩: ∃dd,dd=decDigits m:=⟨_,rfl⟩
 have hdg: ∀b∈dd,DC b=true:=by rw[hdd];exact(ED m).all
 have hd0:0<dd.length:=by rw[hdd];exact List.length_pos_iff.2 (Fx _)
 have hmid: ∀lo e,lo≤e→e≤dd.length→AN ((dd.take e).drop lo)=m/10^(dd.length-e)%10^(e-lo):=fun lo e h1 h2=>by
  rw[hdd] at h2⊢;exact To h1 h2
 have hmlt:m<10^dd.length:=by rw[hdd];exact DG m
 rw[←hdd] at hl⊢
 refine zA (zA (zB (wP I (wP I ?_))))
 refine Ah 15 (.int .i64 (dd.length:Nat)) I (congrArg (fun n:Nat=>Value.int .i64 (n:Int)) (A5 dd)) ?_
 refine wP I (Aa (zE (zH ?_)))
 refine De ?_
 refine A9 (X:=Nat×Vec) (fun x=>[(0,str dd),(2,Ag b2),(3,Ag b3),(4, .int .i64 ((dd.length:Int)-6*(x.1:Nat)))])
  (fun x=>[⟨b2,153,[.bool false, .slice none 0 0],true,none⟩,⟨b3,153,[.bool (decide (z<0)),x.2.val x.1],true,none⟩,x.2.bx 3 (nI (rdL m x.1))])
  (fun x=>x.2.OK 1 x.1 (nI (rdL m x.1))∧6*x.1<dd.length+6) (fun x=>dd.length+6-6*x.1) (0,Vec.empty) ⟨Vec.OK.empty 1,by show 6*0<_;omega⟩ ⟨rfl,rfl,rfl,congrArg (fun z=>some (Value.int .i64 z)) (by show((dd.length:Nat):Int)=(dd.length:Int)-6*((0:Nat):Int);omega),trivial⟩ [] rfl ?_
 rintro⟨j,V⟩ ⟨hV,hj⟩
 have hV:V.OK 1 j (nI (rdL m j)):=hV
 have hj:6*j<dd.length+6:=hj
 refine zA (zA (zB (wP I (wP I ?_))))
 by_cases hlt:6*j<dd.length
 ·refine wU 17 true I (dT (by show(dd.length:Int)-6*(j:Nat)>0;omega)) (Aa (zE (zR I (zI (zE (zA (zH (zA (zB ?_)))))))))
  obtain⟨e,he⟩: ∃e,e=dd.length-6*j:=⟨_,rfl⟩
  have hev:(dd.length:Int)-6*(j:Nat)=(e:Nat):=by omega
  obtain⟨lo,hlo⟩: ∃lo,lo=e-6:=⟨_,rfl⟩
  have hlim:AN ((dd.take e).drop lo)=m/br^j%br:=by
   rw[hmid lo e (by omega) (by omega),IY,show dd.length-e=6*j by omega]
   by_cases h6:6≤e
   ·rw[show e-lo=6 by omega]
   ·have hl0:lo=0:=by omega
    have h1:m/10^(6*j)<10^e:=by
     apply Nat.div_lt_of_lt_mul
     rw[←Nat.pow_add,show 6*j+e=dd.length by omega];exact hmlt
    have h2:(10:Nat)^e≤10^6:=Nat.pow_le_pow_right (by decide) (by omega)
    rw[hl0,Nat.sub_zero,Nat.mod_eq_of_lt h1,Nat.mod_eq_of_lt (show m/10^(6*j)<br by show _<10^6;omega)]
  refine wP I (Aa (zE (zA (zA (zB (wP I (wP I (wV 21 ((e:Int)-6) I (by show w64 ((dd.length:Int)-6*(j:Nat)-6)=_;rw[hev,A0 (by omega) (by omega)]) (wP I (wV 22 (lo:Nat) I (by show(if (e:Int)-6>0 then(e:Int)-6 else 0)=_;rw[Us];omega) (wP I (Aa (zE ?_)))))))))))))
  refine zH ?_
  refine A9 (X:=Nat) (fun i=>[(0,str dd),(2,Ag b2),(3,Ag b3),(4, .int .i64 (e:Nat)),(5, .int .i64 (AN ((dd.take i).drop lo):Nat)),(6, .int .i64 (i:Nat))])
   (fun _=>[⟨b2,153,[.bool false, .slice none 0 0],true,none⟩,⟨b3,153,[.bool (decide (z<0)),V.val j],true,none⟩,V.bx 3 (nI (rdL m j))])
   (fun i=>lo≤i∧i≤e) (fun i=>e-i) lo ⟨Nat.le_refl _,by omega⟩ ⟨rfl,rfl,rfl,(by rw[hev];rfl),by show some _=some (Value.int .i64 (AN ((dd.take lo).drop lo):Nat));rw[List.drop_of_length_le (by rw[List.length_take];omega)];rfl,rfl,trivial⟩ [] rfl ?_
  rintro i ⟨hi1,hi2⟩
  have hi1:lo≤i:=hi1
  have hi2:i≤e:=hi2
  refine zA (zA (zB (wP I (wP I (wP I ?_)))))
  by_cases hie:i<e
  ·refine wU 25 true I (dT (by omega)) (Aa (zE (zR I (zI (zE (zA (zH (zB ?_))))))))
   obtain⟨b,hb⟩: ∃b,dd[i]? =some b:=⟨dd[i]'(by omega),List.getElem?_eq_getElem (by omega)⟩
   have hbd:=C5.1 (hdg b (List.mem_of_getElem? hb))
   have e1:AN ((dd.take (i+1)).drop lo)=10*AN ((dd.take i).drop lo)+(b.toNat-48):=by
    rw[List.take_add_one,hb,List.drop_append_of_le_length (by rw[List.length_take];omega)]
    exact Dj _ _
   have hbnd: ∀k,k≤e→AN ((dd.take k).drop lo)<1000000:=fun k hk=>by
    have h1:=F8 ((dd.take k).drop lo).length (s:=(dd.take k).drop lo) rfl fun b hb=>hdg b (List.mem_of_mem_take (List.mem_of_mem_drop hb))
    have h2:((dd.take k).drop lo).length≤6:=by rw[List.length_drop,List.length_take];omega
    exact Nat.lt_of_lt_of_le h1 (show _≤10^6 from Nat.pow_le_pow_right (by decide) h2)
   have l1:=hbnd i hi2
   have l2:=hbnd (i+1) hie
   refine wP I (wP I (wV 29 ((10*AN ((dd.take i).drop lo):Nat):Int) I (show w64 (10*(AN ((dd.take i).drop lo):Nat))=_ by rw[A0 (by omega) (by omega)];omega) (wP I (wP I ?_))))
   refine AV i tH I I I I I I I I hb ?_
   refine wP I ?_
   refine Ah 33 (.int .u8 ((b.toNat-48:Nat):Int)) I (congrArg (Value.int .u8) (by show IntKind.u8.wrap (((b.toNat:Nat):Int)-48)=_;rw[show((b.toNat:Nat):Int)-48=((b.toNat-48:Nat):Int) by omega,Oj (by omega) (by omega)])) ?_
   refine Ja Tryz.underlying5 Tryz.underlying3 I I I I ?_
   exact wV 34 ((b.toNat-48:Nat):Int) I (BG (by omega)) (wP I (wV 35 ((AN ((dd.take (i+1)).drop lo):Nat):Int) I (show w64 (((10*AN ((dd.take i).drop lo):Nat):Int)+((b.toNat-48:Nat):Int))=_ by rw[A0 (by omega) (by omega),e1];omega) (wP I (Aa (zN (zE (zB (wP I (wP I (wV 27 ((i+1:Nat):Int) I (Ax (by omega)) (wP I (Aa (A4 (i+1) ⟨by show lo≤i+1;omega,hie⟩ (by show e-(i+1)<e-i;omega) ⟨I,I,I,I,I,I,tO⟩ [] I)))))))))))))
  ·have hie:i=e:=by omega
   subst hie
   refine wU 25 false I (dF (by omega)) (Aa (zE (zS I (zJ (zK (zK (zL (zE (zB ?_)))))))))
   rw[hlim]
   refine wP I (wB 1 I I I (wP I ?_))
   refine A8 Tryz.hZ tH I I I I I I I I I I I fun bN=> ?_
   refine Bk (V:=V) (len:=j) (xs:=nI (rdL m j)) 2 3 Tryz.vec130 (j+1) (nI (rdL m (j+1))) I I I I I I I I I I I hV I I I (by rw[OW,HV];rfl) (by simp only[maxLen];omega) (by omega) I ?_
   intro g1 c1 j1 hV1
   exact wP I (wS 1 I I I (Aa (zN (zE (zB (wP I (wP I (wV 19 ((dd.length:Int)-6*((j+1:Nat):Int)) I (by show w64 (((i:Nat):Int)-6)=_;rw[A0 (by omega) (by omega)];omega) (wP I (Aa (A4 (j+1,⟨some g1,c1,j1⟩) ⟨hV1,by show 6*(j+1)<_;omega⟩ (by show dd.length+6-6*(j+1)<dd.length+6-6*j;omega) ⟨I,I,I,I,tO⟩ _ I)))))))))))
 ·refine wU 17 false I (dF (by show¬(dd.length:Int)-6*(j:Nat)>0;omega)) (Aa (zE (zS I (zJ (zK (zK (zL (zE (zA (zB ?_))))))))))
  obtain⟨pV,cV,jV⟩:=V
  cases pV with
  |none=>have:=hV.nil rfl;omega
  |some g=>
  have hval:lv br (rdL m j)=m:=by
   rw[QS,IY]
   exact Nat.mod_eq_of_lt (Nat.lt_of_lt_of_le hmlt (Nat.pow_le_pow_right (by decide) (by omega)))
  have hV2:(⟨some g,cV,jV⟩:Vec).OK 1 (rdL m j).length (nI (rdL m j)):=by rw[Kb];exact hV
  obtain⟨j2,hj1,hj2⟩:=DK hV2 (Tm m j)
  rw[hval] at hj1 hj2
  refine wP I (wB 1 I I I ?_)
  refine Ah 43 (slv (some ⟨g,0,none⟩) (rdL m j).length cV) I (by rw[Kb];rfl) ?_
  refine wC I I (fun W' hp=>(CA W' (some ⟨g,0,none⟩) cV (rdL m j) (Az.of_bx hp 2 I) (Tm m j) (by have:=(hV2.cap (by simp)).1;exact this) (by rw[Kb];omega)).cast (v':=slv (some ⟨g,0,none⟩) (lbs br m).length cV) (by rw[hval])) (wP I (wS 1 I I I (Aa (zE (zA (zB (wB 1 I I I (wS 0 I I I (Aa (zE (zO ?_)))))))))))
  subst hm
  exact Av tH I (.cell 0 I I I I I) ((g,cV,j2):NV) I hj1 fun W hp=>Ap.of_hp1 hp 2 (by
   show some (⟨g,3,nI (rdL z.natAbs j)++jV,true,none⟩:Bx)=some (⟨g,3,nI (lbs br z.natAbs)++j2,true,none⟩:Bx)
   rw[hj2])
def FF (m:Nat):Nat→List UInt8
 |0=>[]
 |d+1=>UInt8.ofNat (48+m/10^d%10)::FF m d
theorem I5 (m:Nat): ∀d,(FF m d).length=d
 |0=>rfl
 |d+1=>by show(FF m d).length+1=_;rw[I5 m d]
theorem NP (m:Nat): ∀(d i:Nat),i<d→(FF m d)[d-1-i]? =some (UInt8.ofNat (48+m/10^i%10))
 |0,_,h=>absurd h (Nat.not_lt_zero _)
 |d+1,i,h=>by
  by_cases e:i=d
  ·subst e
   rw[show i+1-1-i=0 by omega];rfl
  ·rw[show d+1-1-i=(d-1-i)+1 by omega]
   show(_::FF m d)[_+1]? =_
   rw[List.getElem?_cons_succ]
   exact NP m d i (by omega)
theorem TK {m d:Nat} (h:(decDigits m).length≤d):FF m d=List.replicate (d-(decDigits m).length) 48++decDigits m:=by
 apply List.ext_getElem?
 intro t
 by_cases ht:t<d
 ·have h1:=NP m d (d-1-t) (by omega)
  rw[show d-1-(d-1-t)=t by omega] at h1
  rw[h1]
  by_cases h2:t<d-(decDigits m).length
  ·rw[List.getElem?_append_left (by rw[List.length_replicate];exact h2),List.getElem?_replicate_of_lt h2]
   have h3:m/10^(d-1-t)=0:=Nat.div_eq_of_lt (Nat.lt_of_lt_of_le (DG m) (Nat.pow_le_pow_right (by decide) (by omega)))
   rw[h3];rfl
  ·rw[List.getElem?_append_right (by rw[List.length_replicate];omega),List.length_replicate]
   have h3:=Tv (n:=m) (i:=d-1-t) (by omega)
   rw[←h3]
   congr 1;omega
 ·rw[List.getElem?_eq_none (by rw[I5];omega),List.getElem?_eq_none (by rw[List.length_append,List.length_replicate];omega)]
theorem SM {m i k:Nat} (hk:k<6):m/br^i%br/10^k%10=m/10^(6*i+k)%10:=by
 rw[Nat.pow_add, ←IY, ←Nat.div_div_eq_div_mul]
 generalize m/br^i=x
 have h:k=0∨k=1∨k=2∨k=3∨k=4∨k=5:=by omega
 show x%1000000/10^k%10=x/10^k%10
 rcases h with rfl|rfl|rfl|rfl|rfl|rfl<;>simp only[Nat.reducePow,Nat.div_one]<;>omega
theorem EN (z:Int) (hl:(decDigits z.natAbs).length≤606) (W:World) (p:Option Addr) (cap:Nat) (hA:Az W p (lbs br z.natAbs)):
  Ai Tryz.prog 145 #[.agg #[.bool (decide (z<0)),slv p (lbs br z.natAbs).length cap]] W (fun _:Unit=>str (itoa z)) (fun _=>True) (fun _=>[]):=by
 obtain⟨m,hm⟩: ∃m,z.natAbs=m:=⟨_,rfl⟩
 rw[hm] at hl hA⊢
 obtain⟨L,hL⟩: ∃L,(lbs br m).length=L:=⟨_,rfl⟩
 have hL101:L≤101:=by rw[←hL];exact Cn hl
 have hml:m<br^L:=by rw[←hL];exact AK br2 m
 refine Ac (args:=[.agg #[.bool (decide (z<0)),slv p (lbs br m).length cap]]) Tryz.func145 I I I ?_
 rw[hL]
 refine zA (zB ?_)
 (refine At rfl rfl rfl rfl ?_;intro)
 refine wP I (Aa ?_)
 rename_i b1
 refine zE (zA (zA (zB (wP I (wB 0 I I I (wP I (wP I ?_)))))))
 by_cases hm0:m=0
 ·have hL0:L=0:=by rw[←hL,hm0,AZ];rfl
  have hz:z=0:=by omega
  exact wU 10 true I (by rw[beq_iff_eq,hL0];rfl) (Aa (zE (zR I (zA (zB (wP I (Aa (zE (zO (zP (wR1 I I (by rw[hz,Ck]))))))))))))
 have hL0:L≠0:=fun e=>hm0 ((Do br2).1 (List.length_eq_zero_iff.1 (hL.trans e)))
 refine wU 10 false I (by rw[beq_eq_false_iff_ne];omega) (Aa (zE (zS I (zI (zE (zA (zB ?_)))))))
 obtain⟨K,hK⟩: ∃K,K=6*L:=⟨_,rfl⟩
 refine wP I (wB 0 I I I (wP I (wP I (wV 14 (K:Nat) I (by show w64 (6*(L:Int))=_;rw[A0 (by omega) (by omega)];omega) ?_))))
 refine Ce Tryz.vec202 K I I I I I I I (by simp only[maxLen];omega) (by omega) ?_
 intro g
 refine wP I (Aa (zE (zA (zA (zB (wP I (Aa (AH ?_))))))))
 try refine Ar ?_
 refine AC (X:=Unit) (fun _=>[(1,Ag b1),(3, .slice (some ⟨g,0,none⟩) K K)]) (fun _=>[⟨b1,153,[.bool (decide (z<0)),slv p L cap],true,none⟩,⟨g,5,zrV 0++byV (FF m K),true,none⟩]) (fun _=>True) ?_ ?_
 ·refine zH ?_
  refine A9 (X:=Nat) (fun i=>[(1,Ag b1),(3, .slice (some ⟨g,0,none⟩) K K),(4, .int .i64 (i:Nat))]) (fun i=>[⟨b1,153,[.bool (decide (z<0)),slv p L cap],true,none⟩,⟨g,5,zrV (K-6*i)++byV (FF m (6*i)),true,none⟩]) (fun i=>i≤L) (fun i=>L-i) 0 (Nat.zero_le _) ⟨I,I,I,tO⟩ [] (by show _=[_,(⟨g,5,zrV (K-0)++[],true,none⟩:Bx)]++[];simp only[List.append_nil,Nat.sub_zero];rfl) ?_
  intro i hi
  have hi:i≤L:=hi
  refine zA (zA (zB (wP I (wP I (wB 0 I I I (wP I (wP I ?_)))))))
  by_cases hiL:i<L
  ·refine wU 20 true I (dT (by omega)) (Aa (zE (zR I (zI (zE (zA (zH (zA (zB ?_)))))))))
   obtain⟨bA,oA,rfl,rA⟩:=hA.row (show i<(lbs br m).length by omega)
   have rA:=rA i (by omega)
   rw[Bh br2] at rA
   obtain⟨v,hv⟩: ∃v,v=m/br^i%br:=⟨_,rfl⟩
   rw[←hv] at rA
   have hvb:v<1000000:=by rw[hv];exact Nat.mod_lt _ (by decide)
   refine wP I (wB 0 I I I (wP I ?_))
   refine wJ ?_
   refine wL 0 I I (fun W hp=>rA.hp hp) I (wP I (Aa (zE (zA (zB (wP I (Aa (zE (zH ?_)))))))))
   refine A9 (X:=Nat) (fun k=>[(1,Ag b1),(3, .slice (some ⟨g,0,none⟩) K K),(4, .int .i64 (i:Nat)),(5, .int .i64 ((v/10^k:Nat):Int)),(6, .int .i64 ((k+1:Nat):Int))]) (fun k=>[⟨b1,153,[.bool (decide (z<0)),slv (some ⟨bA,oA,none⟩) L cap],true,none⟩,⟨g,5,zrV (K-(6*i+k))++byV (FF m (6*i+k)),true,none⟩]) (fun k=>k≤6) (fun k=>6-k) 0 (by decide) ⟨I,I,I,by show some _=some (Value.int .i64 ((v/1:Nat):Int));rw[Nat.div_one],I,tO⟩ [] I ?_
   intro k hk
   have hk:k≤6:=hk
   refine zA (zA (zB (wP I (wP I ?_))))
   by_cases hk6:k<6
   ·refine wU 29 true I (dT (by show((k+1:Nat):Int)≤6;omega)) (Aa (zE (zR I (zI (zE (zA (zH (zA (zB ?_)))))))))
    obtain⟨u,hu⟩: ∃u,u=v/10^k:=⟨_,rfl⟩
    have hub:u<1000000:=by rw[hu];exact Nat.lt_of_le_of_lt (Nat.div_le_self ..) hvb
    have hdig:u%10=m/10^(6*i+k)%10:=by rw[hu,hv];exact SM hk6
    have hu2:v/10^(k+1)=u/10:=by rw[hu,Nat.pow_succ,Nat.div_div_eq_div_mul]
    obtain⟨d,hd⟩: ∃d,d=6*i+k:=⟨_,rfl⟩
    have hdK:d<K:=by omega
    rw[←hu, ←hd]
    rw[←hd] at hdig
    iterate 5 refine wP I ?_
    refine wV 36 ((6*i:Nat):Int) I (by show w64 (6*(i:Int))=_;rw[A0 (by omega) (by omega)];omega) (wP I (wV 37 ((K-6*i:Nat):Int) I (by show w64 ((K:Int)-((6*i:Nat):Int))=_;rw[A0 (by omega) (by omega)];omega) (wP I (wP I (wV 39 ((K-d-1:Nat):Int) I (by show w64 (((K-6*i:Nat):Int)-((k+1:Nat):Int))=_;rw[A0 (by omega) (by omega)];omega) (wP I ?_))))))
    refine Ej I I I I I (by decide) ?_
    refine wV 41 ((u%10:Nat):Int) I (show Int.tmod (u:Nat) ((10:Nat):Int)=_ from(Int.ofNat_tmod _ _).symm) (wP I (wV 42 ((48+u%10:Nat):Int) I (show w64 (48+((u%10:Nat):Int))=_ by rw[A0 (by omega) (by omega)];omega) ?_))
    refine T2 Tryz.underlying3 Tryz.underlying5 I I I I ?_
    refine Ah 43 (.int .u8 ((UInt8.ofNat (48+m/10^d%10)).toNat:Int)) I (congrArg (Value.int .u8) (by rw[Sp u,hdig])) ?_
    refine wJ ?_
    refine AJ 1 (zrV (K-d-1)++byV (FF m (d+1))) tH I I I I I I I I I I (by show 0+(K-d-1)*1+1≤(zrV (K-d)++byV (FF m d)).length;rw[List.length_append,I7];omega) (by
     show Cr (zrV (K-d)++byV (FF m d)) _ _=_
     rw[show K-d=K-d-1+1 by omega]
     exact QY) ?_
    refine Aa (zE (zB (wP I ?_)))
    refine DD I I I I I (by decide) ?_
    exact wV 46 ((u/10:Nat):Int) I (show w64 (Int.tdiv (u:Nat) ((10:Nat):Int))=_ by rw[←Int.ofNat_tdiv,A0 (by omega) (by omega)]) (wP I (Aa (zN (zE (zB (wP I (wP I (wV 31 ((k+1+1:Nat):Int) I (Ax (by omega)) (wP I (Aa (A4 (k+1) hk6 (by show 6-(k+1)<6-k;omega) ⟨I,I,I,by show some _=some (Value.int .i64 ((v/10^(k+1):Nat):Int));rw[hu2],I,tO⟩ [] (by show _=[_,(⟨g,5,zrV (K-(6*i+(k+1)))++byV (FF m (6*i+(k+1))),true,none⟩:Bx)]++[];rw[show 6*i+(k+1)=d+1 by omega,show K-(d+1)=K-d-1 by omega];rfl))))))))))))
   ·have hk6:k=6:=by omega
    subst hk6
    refine wU 29 false I (dF (by decide)) (Aa (zE (zS I (zJ (zK (zK (zL (zN (zE (zB (wP I (wP I (wV 22 ((i+1:Nat):Int) I (Ax (by omega)) ?_)))))))))))))
    exact wP I (Aa (A4 (i+1) hiL (by show L-(i+1)<L-i;omega) ⟨I,I,I,tO⟩ [] (by show _=[_,(⟨g,5,zrV (K-6*(i+1))++byV (FF m (6*(i+1))),true,none⟩:Bx)]++[];rw[show 6*(i+1)=6*i+6 by omega];rfl)))
  ·have hiL:i=L:=by omega
   subst hiL
   exact wU 20 false I (dF (by omega)) (Aa (zE (zS I (zJ (zK (zK (zL (An () tO ⟨I,I,tO⟩ [] (by rw[←hK,Nat.sub_self];rfl)))))))))
 intro _ _
 obtain⟨nd,hnd⟩: ∃nd,(decDigits m).length=nd:=⟨_,rfl⟩
 have hndK:nd≤K:=by
  rw[←hnd]
  refine D9 K m (by omega) ?_
  rw[hK, ←IY];exact hml
 have hnd0:0<nd:=by rw[←hnd];exact List.length_pos_iff.2 (Fx _)
 have hlow:=TK (m:=m) (d:=K) (by rw[hnd];exact hndK)
 rw[hnd] at hlow
 have hgetB: ∀j,j<K→ ∃b,(FF m K)[j]? =some b∧(zrV 0++byV (FF m K))[0+j]? =some (.int .u8 (b.toNat:Int)):=fun j hj=>by
  refine⟨(FF m K)[j]'(by rw[I5];exact hj),List.getElem?_eq_getElem _, ?_⟩
  exact QR (k:=0) (by rw[I5];exact hj)
 try refine AH ?_
 try refine Ar ?_
 refine AC (X:=Unit) (fun _=>[(1,Ag b1),(3, .slice (some ⟨g,K-nd,none⟩) nd nd)]) (fun _=>[⟨b1,153,[.bool (decide (z<0)),slv p L cap],true,none⟩,⟨g,5,zrV 0++byV (FF m K),true,none⟩]) (fun _=>True) ?_ ?_
 ·refine zH ?_
  refine A9 (X:=Nat) (fun j=>[(1,Ag b1),(3, .slice (some ⟨g,j,none⟩) (K-j) (K-j))]) (fun _=>[⟨b1,153,[.bool (decide (z<0)),slv p L cap],true,none⟩,⟨g,5,zrV 0++byV (FF m K),true,none⟩]) (fun j=>j≤K-nd) (fun j=>K-nd-j) 0 (Nat.zero_le _) ⟨I,I,tO⟩ [] I ?_
  intro j hj
  have hj:j≤K-nd:=hj
  obtain⟨b,hb,hbc⟩:=hgetB j (by omega)
  rw[Nat.zero_add] at hbc
  have hrow: ∀W1 bxs,Hp W bxs W1→nth bxs 1=some (⟨g,5,zrV 0++byV (FF m K),true,none⟩:Bx)→Aj W1 g j [.int .u8 (b.toNat:Int)]:=fun W1 bxs hp h1=>by
   have h:=Aj.of_bx hp 1 h1 rfl
   exact⟨h.lt,fun t u hu=>by
    have ht:t=0:=by have:=(List.getElem?_eq_some_iff.1 hu).1;simpa using this
    subst ht
    have hu:u= .int .u8 (b.toNat:Int):=by simpa using hu.symm
    rw[hu]
    have:=h.get j _ hbc
    rwa [Nat.zero_add] at this⟩
  refine zA (zA (zB (wP I (wI I I (by decide) (by show(0:Int)<((K-j:Nat):Int);omega) ?_))))
  refine Ah 48 (.pointer (some ⟨g,j,none⟩)) I I ?_
  refine wL 0 I I (fun W1 hp=>hrow W1 _ hp I) I (wP I (wU 50 (decide (b=48)) I (Dt b 48) (Aa (zE ?_))))
  refine Aw I (fun h48=> ?_) (fun h48=> ?_)
  ·have h48:b=48:=of_decide_eq_true h48
   have hjl:j<K-nd:=by
    rcases Nat.lt_or_ge j (K-nd) with h|h
    ·exact h
    ·have e:j=K-nd:=by omega
     rw[hlow,List.getElem?_append_right (by rw[List.length_replicate];omega),List.length_replicate,e,Nat.sub_self,h48] at hb
     exact absurd (P7 hb) hm0
   refine zI (zE (zH (zB (wP I ?_))))
   refine Cp 1 tH I I I I I I I I (by show 1≤K-j;omega) (Nat.le_refl _) ?_
   refine Ah 52 (.slice (some ⟨g,j+1,none⟩) (K-(j+1)) (K-(j+1))) I (by rw[if_neg (show¬K-j=1 by omega)];show Value.slice (some ⟨g,j+1*1,none⟩) (K-j-1) (K-j-1)=_;rw[show K-(j+1)=K-j-1 by omega]) ?_
   exact wP I (Aa (zN (A4 (j+1) hjl (by show K-nd-(j+1)<K-nd-j;omega) ⟨I,I,tO⟩ [] I)))
  ·have h48: ¬b=48:=of_decide_eq_false h48
   have e:j=K-nd:=by
    rcases Nat.lt_or_ge j (K-nd) with h|h
    ·rw[hlow,List.getElem?_append_left (by rw[List.length_replicate];exact h),List.getElem?_replicate_of_lt h] at hb
     exact absurd (Option.some.inj hb).symm h48
    ·omega
   exact zJ (zK (zK (zL (An () tO ⟨I,by rw[e,show K-(K-nd)=nd by omega];rfl,tO⟩ [] I))))
 intro _ _
 have hbytes: ∀j (hj:j<(decDigits m).length),(zrV 0++byV (FF m K))[K-nd+j]? =some (.int .u8 ((decDigits m)[j].toNat:Int)):=fun j hj=>by
  obtain⟨b,hb,hbc⟩:=hgetB (K-nd+j) (by omega)
  rw[Nat.zero_add] at hbc
  rw[hbc]
  rw[hlow,List.getElem?_append_right (by rw[List.length_replicate];omega),List.length_replicate,Nat.add_sub_cancel_left,List.getElem?_eq_getElem hj] at hb
  rw[Option.some.inj hb]
 refine zA (zA (zB (wP I (wB 0 I I I (Aa (zE ?_))))))
 refine Aw I (fun hn=> ?_) (fun hn=> ?_)
 ·have hn:z<0:=of_decide_eq_true hn
  refine zA (zB (wP I ?_))
  refine GX 1 (decDigits m) (e:=5) (by kernel_rfl) Tryz.underlying5 (by kernel_rfl) I I I I I I hnd.symm hbytes ?_
  refine BX I I I I I (a:=[45]) (b:=decDigits m) (by decide) (by omega) ?_
  exact wP I (Aa (zE (zO (zP (wR1 I I (by rw[Co,hm];unfold FT;rw[if_pos hn]))))))
 ·have hn: ¬z<0:=of_decide_eq_false hn
  refine zI (zE (zA (zB (wP I ?_))))
  refine GX 1 (decDigits m) (e:=5) (by kernel_rfl) Tryz.underlying5 (by kernel_rfl) I I I I I I hnd.symm hbytes ?_
  exact wP I (Aa (zE (zO (wR1 I I (by rw[Co,hm];unfold FT;rw[if_neg hn];rfl)))))
theorem Eu (z:Int) (hl:(decDigits z.natAbs).length≤300) (W:World) (p:Option Addr) (cap:Nat) (hA:Az W p (lbs br z.natAbs)):
  Ai Tryz.prog 200 #[.agg #[.bool (decide (z<0)),slv p (lbs br z.natAbs).length cap]] W (fun _:Unit=> .tuple #[str (itoa z), .int .i64 0]) (fun _=>True) (fun _=>[]):=by
 refine Ac (args:=[.agg #[.bool (decide (z<0)),slv p (lbs br z.natAbs).length cap]]) Tryz.func200 I I I ?_
 refine zA (zB ?_)
 (refine At rfl rfl rfl rfl ?_;intro)
 refine wP I (wP I (Aa (zE (zA (zB (wB 0 I I I (wC I I (fun W hp=>EN z (by omega) W p cap (hA.hp hp)) (wP I (Aa (zE (zA (zA (zB ?_)))))))))))))
 refine wP I (wC I I (fun W _=>ER z hl W) (wP I (Aa (zE (zS I (zI (zE (zA (zB (wP I (wP I (wP I (Aa ?_)))))))))))))
 exact zE (zO (wR2 I I I))
-- BOXES 6
-- CODE2
abbrev IT (z:Int) (p:Option Addr) (cap:Nat):Value:= .agg #[.bool (decide (z<0)),slv p (lbs br z.natAbs).length cap]
abbrev LU (b:Nat) (z:Int) (p:Option Addr) (cap:Nat):Bx:=⟨b,153,[.bool (decide (z<0)),slv p (lbs br z.natAbs).length cap],true,none⟩
theorem Pz (z:Int) (W:World) (p:Option Addr) (cap:Nat):Ai Tryz.prog 177 #[IT z p cap] W (fun _:Unit=>IT (-z) p cap) (fun _=>True) (fun _=>[]):=by
 obtain⟨n,hn⟩: ∃n,z.natAbs=n:=⟨_,rfl⟩
 refine Ac (args:=[IT z p cap]) Tryz.func177 I I I ?_
 unfold IT
 rw[Int.natAbs_neg,hn]
 refine zA (zB ?_)
 (refine At rfl rfl rfl rfl ?_;intro)
 (refine Af Tryz.hZ rfl rfl rfl rfl ?_;intro)
 refine Aa (zE (zA (zA (zB (wP I (wB 0 I I I (wP I (wP I ?_))))))))
 by_cases h0:n=0
 ·have hz:z=0:=by omega
  exact wU 6 true I (by rw[h0,AZ];rfl) (Aa (zE (zR I (zA (zB (wB 0 I I I (wS 1 I I I (Aa (zE (zO (zP (Av tH I (.cell 1 I I I I I) () (by rw[hz];rfl) tO fun W _=>Ap.nil _ _))))))))))))
 ·have hL:(lbs br n).length≠0:=fun e=>h0 ((Do br2).1 (List.length_eq_zero_iff.1 e))
  refine wU 6 false I (by rw[beq_eq_false_iff_ne];omega) (Aa (zE (zS I (zI (zE (zA (zB (wP I (wB 0 I I I (wP I (wP I (wB 0 I I I ?_))))))))))))
  refine Ay Tryz.hZ tH I I I I I I I I ?_
  refine wS 1 I I I (Aa (zE (zO ?_)))
  exact Av tH I (.cell 1 I I I I I) () (by
   show Value.agg #[.bool (!decide (z<0)),_]=_
   have e:(!decide (z<0))=decide (-z<0):=by
    by_cases h:z<0
    ·rw[dT h,dF (by omega)];rfl
    ·rw[dF h,dT (by omega)];rfl
   rw[e]) trivial fun W _=>Ap.nil _ _
theorem HS (a b:Int) (W:World) (p q:Option Addr) (cap cap2:Nat) (hA:Az W p (lbs br a.natAbs)) (hB:Az W q (lbs br b.natAbs)) (hna:(lbs br a.natAbs).length≤1000) (hnb:(lbs br b.natAbs).length≤1000):
  Ai Tryz.prog 176 #[IT a p cap,IT b q cap2] W (fun x:NV=>Uk (a+b) x) (fun x=>Cv x (lbs br (a+b).natAbs)) (fun x=>[BH x (lbs br (a+b).natAbs)]):=by
 refine Ac (args:=[IT a p cap,IT b q cap2]) Tryz.func176 I I I ?_
 refine zA (zB ?_)
 (refine At rfl rfl rfl rfl ?_;intro)
 (refine At rfl rfl rfl rfl ?_;intro)
 (refine Af Tryz.hZ rfl rfl rfl rfl ?_;intro)
 refine Aa ?_
 rename_i b2 b3 b4
 refine zE (zA (zA (zB (wP I (wB 0 I I I (wP I (wB 1 I I I ?_)))))))
 by_cases hs:decide (a<0)=decide (b<0)
 ·refine Hd (c:=true) Tryz.underlying4 I I I I I (congrArg some (by rw[hs];exact beq_self_eq_true _)) ?_
  refine Aa ?_
  have en:(a+b).natAbs=a.natAbs+b.natAbs:=by
   by_cases h1:a<0<;>by_cases h2:b<0<;>simp[h1,h2] at hs<;>omega
  have es:decide (a<0)=decide (a+b<0):=by
   by_cases h1:a<0<;>by_cases h2:b<0<;>simp[h1,h2] at hs⊢ <;>omega
  refine zE (zR I (Ar ?_))
  refine AE (X:= { x:NV//Cv x (lbs br (a+b).natAbs) }) [true,true,true,true,true,true,false,false,false] (fun _=>[(4,Ag b4)]) (fun x=>[LU b2 a p cap,LU b3 b q cap2,⟨b4,153,[.bool (decide (a+b<0)),B3 x.1 (lbs br (a+b).natAbs).length],true,none⟩,BH x.1 (lbs br (a+b).natAbs)])
   3 [LU b2 a p cap,LU b3 b q cap2,⟨b4,153,[.bool false, .slice none 0 0],true,none⟩] Tryz.mixed (by kernel_rfl) ?_ ?_
  ·refine qP I (qB 0 I I I (qP I (qB 0 I I I (qP I (qB 1 I I I (Bq (wX (wZ ?_))))))))
   refine wD (X:=NV) rfl rfl (fun W' hp=>OG W' p q cap cap2 a.natAbs b.natAbs (hA.hp hp) (hB.hp hp) (by omega) (by omega)) ?_;intro x hx
   refine Aa (Ab (wX (wZ ?_)))
   refine Ay Tryz.hZ tH I I I I I I I I ?_
   refine Aa (Ab (wX (wZ (wS 2 I I I (Aa (Ab ?_))))))
   rw[←en] at hx⊢;first|refine Au rfl (by((repeat (first|refine A3.same ?_|refine A3.off rfl ?_));exact trivial)) ?_|refine AD rfl (by kernel_rfl) ?_
   exact Al ⟨x,hx⟩ ⟨I,tO⟩ [0,1,2,3] (by decide) (by rw[es];rfl)
  rintro⟨x,hx⟩
  exact zE (zO (zP (Av tH I (.cell 2 I I I I I) x I hx fun W hp=>Ap.of_hp1 hp 3 I)))
 refine Hd (c:=false) Tryz.underlying4 I I I I I (congrArg some (beq_eq_false_iff_ne.2 hs)) ?_
 refine Aa (zE (zS I (zI (zE (zA (zA (zB (wP I (wB 0 I I I (wP I (wB 1 I I I (wC I I (fun W' hp=>Jz W' p q cap cap2 a.natAbs b.natAbs (hA.hp hp) (hB.hp hp) (by omega) (by omega)) (wP I ?_)))))))))))))
 refine wU 24 (decide (a.natAbs<b.natAbs)) I (decide_eq_decide.2 (by unfold Lc;split<;>(try split)<;>omega)) (Aa (AH ?_))
 try refine Ar ?_
 refine AC (X:=(Int×Option Addr×Nat)×(Int×Option Addr×Nat)) (fun _=>[(2,Ag b2),(3,Ag b3),(4,Ag b4)]) (fun x=>[LU b2 x.1.1 x.1.2.1 x.1.2.2,LU b3 x.2.1 x.2.2.1 x.2.2.2,⟨b4,153,[.bool false, .slice none 0 0],true,none⟩])
  (fun x=>Az W x.1.2.1 (lbs br x.1.1.natAbs)∧Az W x.2.2.1 (lbs br x.2.1.natAbs)∧x.2.1.natAbs≤x.1.1.natAbs∧x.1.1+x.2.1=a+b∧(decide (x.1.1<0)≠decide (x.2.1<0))∧(lbs br x.1.1.natAbs).length≤1000) ?_ ?_
 ·refine Aw I (fun h=> ?_) (fun h=> ?_)
  ·have h:a.natAbs<b.natAbs:=of_decide_eq_true h
   exact zB (wB 1 I I I (wB 0 I I I (wS 0 I I I (wS 1 I I I (Aa (An ((b,q,cap2),(a,p,cap)) ⟨hB,hA,Nat.le_of_lt h,Int.add_comm ..,Ne.symm hs,hnb⟩ ⟨I,I,I,tO⟩ [] I))))))
  ·have h: ¬a.natAbs<b.natAbs:=of_decide_eq_false h
   exact zI (An ((a,p,cap),(b,q,cap2)) ⟨hA,hB,by show b.natAbs≤a.natAbs;omega,I,hs,hna⟩ ⟨I,I,I,tO⟩ [] I)
 rintro⟨⟨u,pu,cu⟩,⟨v,pv,cv⟩⟩ ⟨hU,hV,hle,hsum,hsg,hul⟩
 have hU:Az W pu (lbs br u.natAbs):=hU
 have hV:Az W pv (lbs br v.natAbs):=hV
 have hle:v.natAbs≤u.natAbs:=hle
 have hsum:u+v=a+b:=hsum
 have hsg:decide (u<0)≠decide (v<0):=hsg
 have hul:(lbs br u.natAbs).length≤1000:=hul
 have en:(a+b).natAbs=u.natAbs-v.natAbs:=by
  rw[←hsum]
  by_cases h1:u<0<;>by_cases h2:v<0<;>simp[h1,h2] at hsg<;>omega
 have es:(a+b).natAbs≠0→decide (u<0)=decide (a+b<0):=fun h0=>by
  rw[←hsum] at h0⊢
  by_cases h1:u<0<;>by_cases h2:v<0<;>simp[h1,h2] at hsg⊢ <;>omega
 refine Ar ?_
 refine AE (X:= { y:Nat×NV//Cv y.2 (lbs br (a+b).natAbs) }) [true,true,true,true,true,true,false,false,false,false] (fun y=>[(4,Ag b4),(5,Ag y.1.1)]) (fun y=>[⟨b4,153,[.bool false, .slice none 0 0],true,none⟩,⟨y.1.1,153,[.bool (decide (u<0)),B3 y.1.2 (lbs br (a+b).natAbs).length],true,none⟩,BH y.1.2 (lbs br (a+b).natAbs)])
  4 [LU b2 u pu cu,LU b3 v pv cv,⟨b4,153,[.bool false, .slice none 0 0],true,none⟩] Tryz.mixed (by kernel_rfl) ?_ ?_
 ·refine qP I (qB 0 I I I (qP I (qB 0 I I I (qP I (qB 1 I I I (Bq (wX ?_)))))))
  refine RS.cons ?_ (RS.cons ?_ (RS.nil))
  ·refine wD (X:=NV) rfl rfl (fun W' hp=>EP W' pu pv cu cv u.natAbs v.natAbs hle (hU.hp hp) (hV.hp hp) (by omega)) ?_;intro x hx
   refine Aa (Ab (wX ?_))
   refine RS.cons ?_ (RS.cons ?_ (RS.nil))
   ·refine Ay Tryz.hZ tH I I I I I I I I ?_
    refine Aa (Ab (wX (wZ ?_)))
    refine Af Tryz.hZ rfl rfl rfl rfl ?_;intro b5
    refine Aa (Ab (wX (wZ (wS 4 I I I (Aa (Ab ?_))))))
    rw[←en] at hx⊢;first|refine Au rfl (by((repeat (first|refine A3.same ?_|refine A3.off rfl ?_));exact trivial)) ?_|refine AD rfl (by kernel_rfl) ?_
    exact Al ⟨(b5,x),hx⟩ ⟨I,I,tO⟩ [2,4,3] (by decide) I
   ·refine Af Tryz.hZ rfl rfl rfl rfl ?_;intro b5
    refine Aa (Ab (wX (wZ ?_)))
    refine Ay Tryz.hZ tH I I I I I I I I ?_
    refine Aa (Ab (wX (wZ (wS 4 I I I (Aa (Ab ?_))))))
    rw[←en] at hx⊢;first|refine Au rfl (by((repeat (first|refine A3.same ?_|refine A3.off rfl ?_));exact trivial)) ?_|refine AD rfl (by kernel_rfl) ?_
    exact Al ⟨(b5,x),hx⟩ ⟨I,I,tO⟩ [2,4,3] (by decide) I
  ·refine Af Tryz.hZ rfl rfl rfl rfl ?_;intro b5
   refine Aa (Ab (wX (wZ ?_)))
   refine wD (X:=NV) rfl rfl (fun W' hp=>EP W' pu pv cu cv u.natAbs v.natAbs hle (hU.hp hp) (hV.hp hp) (by omega)) ?_;intro x hx
   refine Aa (Ab (wX (wZ ?_)))
   refine Ay Tryz.hZ tH I I I I I I I I ?_
   refine Aa (Ab (wX (wZ (wS 3 I I I (Aa (Ab ?_))))))
   rw[←en] at hx⊢;first|refine Au rfl (by((repeat (first|refine A3.same ?_|refine A3.off rfl ?_));exact trivial)) ?_|refine AD rfl (by kernel_rfl) ?_
   exact Al ⟨(b5,x),hx⟩ ⟨I,I,tO⟩ [2,3,4] (by decide) I
 rintro⟨⟨b5,x⟩,hx⟩
 have hx:Cv x (lbs br (a+b).natAbs):=hx
 refine zE (zA (zA (zB (wP I (wB 1 I I I (wP I (wP I ?_)))))))
 refine Ah 38 (.bool (decide ((a+b).natAbs=0))) I (congrArg Value.bool (by
  by_cases h0:(a+b).natAbs=0
  ·rw[dT h0,h0,AZ];rfl
  ·have hL:(lbs br (a+b).natAbs).length≠0:=fun e=>h0 ((Do br2).1 (List.length_eq_zero_iff.1 e))
   rw[dF h0,beq_eq_false_iff_ne];omega)) ?_
 refine Aa (AH ?_)
 try refine Ar ?_
 refine AC (X:=Unit) (fun _=>[(4,Ag b4),(5,Ag b5)]) (fun _=>[⟨b4,153,[.bool false, .slice none 0 0],true,none⟩,⟨b5,153,[.bool (decide (a+b<0)),B3 x (lbs br (a+b).natAbs).length],true,none⟩,BH x (lbs br (a+b).natAbs)]) (fun _=>True) ?_ ?_
 ·refine Aw I (fun h=> ?_) (fun h=> ?_)
  ·have h:(a+b).natAbs=0:=of_decide_eq_true h
   exact zB (wP I (wS 1 I I I (Aa (An () tO ⟨I,I,tO⟩ [] (by rw[dF (show¬a+b<0 by omega)];rfl)))))
  ·have h: ¬(a+b).natAbs=0:=of_decide_eq_false h
   exact zI (An () tO ⟨I,I,tO⟩ [] (by rw[←es h];rfl))
 intro _ _
 exact zA (zB (wB 1 I I I (wS 0 I I I (Aa (zE (zO (Av tH I (.cell 0 I I I I I) x I hx fun W hp=>Ap.of_hp1 hp 2 I)))))))
theorem Gv (a b:Int) (W:World) (p q:Option Addr) (cap cap2:Nat) (hA:Az W p (lbs br a.natAbs)) (hB:Az W q (lbs br b.natAbs)) (hna:(lbs br a.natAbs).length≤1000) (hnb:(lbs br b.natAbs).length≤1000):
  Ai Tryz.prog 220 #[IT a p cap,IT b q cap2] W (fun x:NV=>Uk (a*b) x) (fun x=>Cv x (lbs br (a*b).natAbs)) (fun x=>[BH x (lbs br (a*b).natAbs)]):=by
 have en:(a*b).natAbs=a.natAbs*b.natAbs:=Int.natAbs_mul a b
 have es:(a*b).natAbs≠0→(decide (a<0) !=decide (b<0))=decide (a*b<0):=fun h0=>by
  rw[en] at h0
  have ha:a≠0:=fun e=>h0 (by rw[e];simp)
  have hb:b≠0:=fun e=>h0 (by rw[e];simp)
  by_cases h1:a<0<;>by_cases h2:b<0
  ·rw[dT h1,dT h2,dF (by have:=Int.mul_pos_of_neg_of_neg h1 h2;omega)];rfl
  ·rw[dT h1,dF h2,dT (Int.mul_neg_of_neg_of_pos h1 (by omega))];rfl
  ·rw[dF h1,dT h2,dT (Int.mul_neg_of_pos_of_neg (by omega) h2)];rfl
  ·rw[dF h1,dF h2,dF (by have:=Int.mul_pos (show 0<a by omega) (show 0<b by omega);omega)];rfl
 refine Ac (args:=[IT a p cap,IT b q cap2]) Tryz.func220 I I I ?_
 refine zA (zB ?_)
 (refine At rfl rfl rfl rfl ?_;intro)
 (refine At rfl rfl rfl rfl ?_;intro)
 (refine Af Tryz.hZ rfl rfl rfl rfl ?_;intro)
 refine Aa ?_
 rename_i b2 b3 b4
 refine zE (Ar ?_)
 refine AE (X:= { y:Nat×NV//Cv y.2 (lbs br (a*b).natAbs) }) [true,true,true,true,true,true,true,true,true,false,false,false,false] (fun y=>[(4,Ag b4),(5,Ag y.1.1)]) (fun y=>[⟨b4,153,[.bool false, .slice none 0 0],true,none⟩,⟨y.1.1,153,[.bool (decide (a<0) !=decide (b<0)),B3 y.1.2 (lbs br (a*b).natAbs).length],true,none⟩,BH y.1.2 (lbs br (a*b).natAbs)])
  4 [LU b2 a p cap,LU b3 b q cap2,⟨b4,153,[.bool false, .slice none 0 0],true,none⟩] Tryz.mixed (by kernel_rfl) ?_ ?_
 ·refine qP I (qB 0 I I I (qP I (qB 1 I I I ?_)))
  refine SF Tryz.underlying4 I I I I I I ?_
  refine qP I (qB 0 I I I (qP I (qB 1 I I I (Bq (wX ?_)))))
  refine RS.cons ?_ (RS.cons ?_ (RS.nil))
  ·refine wD (X:=NV) rfl rfl (fun W' hp=>IA W' p q cap cap2 a.natAbs b.natAbs (hA.hp hp) (hB.hp hp) (by omega) (by omega)) ?_;intro x hx
   refine Aa (Ab (wX ?_))
   refine RS.cons ?_ (RS.cons ?_ (RS.nil))
   ·refine Ay Tryz.hZ tH I I I I I I I I ?_
    refine Aa (Ab (wX (wZ ?_)))
    refine Af Tryz.hZ rfl rfl rfl rfl ?_;intro b5
    refine Aa (Ab (wX (wZ (wS 4 I I I (Aa (Ab ?_))))))
    rw[←en] at hx⊢;first|refine Au rfl (by((repeat (first|refine A3.same ?_|refine A3.off rfl ?_));exact trivial)) ?_|refine AD rfl (by kernel_rfl) ?_
    exact Al ⟨(b5,x),hx⟩ ⟨I,I,tO⟩ [2,4,3] (by decide) I
   ·refine Af Tryz.hZ rfl rfl rfl rfl ?_;intro b5
    refine Aa (Ab (wX (wZ ?_)))
    refine Ay Tryz.hZ tH I I I I I I I I ?_
    refine Aa (Ab (wX (wZ (wS 4 I I I (Aa (Ab ?_))))))
    rw[←en] at hx⊢;first|refine Au rfl (by((repeat (first|refine A3.same ?_|refine A3.off rfl ?_));exact trivial)) ?_|refine AD rfl (by kernel_rfl) ?_
    exact Al ⟨(b5,x),hx⟩ ⟨I,I,tO⟩ [2,4,3] (by decide) I
  ·refine Af Tryz.hZ rfl rfl rfl rfl ?_;intro b5
   refine Aa (Ab (wX (wZ ?_)))
   refine wD (X:=NV) rfl rfl (fun W' hp=>IA W' p q cap cap2 a.natAbs b.natAbs (hA.hp hp) (hB.hp hp) (by omega) (by omega)) ?_;intro x hx
   refine Aa (Ab (wX (wZ ?_)))
   refine Ay Tryz.hZ tH I I I I I I I I ?_
   refine Aa (Ab (wX (wZ (wS 3 I I I (Aa (Ab ?_))))))
   rw[←en] at hx⊢;first|refine Au rfl (by((repeat (first|refine A3.same ?_|refine A3.off rfl ?_));exact trivial)) ?_|refine AD rfl (by kernel_rfl) ?_
   exact Al ⟨(b5,x),hx⟩ ⟨I,I,tO⟩ [2,3,4] (by decide) I
 rintro⟨⟨b5,x⟩,hx⟩
 have hx:Cv x (lbs br (a*b).natAbs):=hx
 refine zE (zA (zA (zB (wP I (wB 1 I I I (wP I (wP I ?_)))))))
 refine Ah 20 (.bool (decide ((a*b).natAbs=0))) I (congrArg Value.bool (by
  by_cases h0:(a*b).natAbs=0
  ·rw[dT h0,h0,AZ];rfl
  ·have hL:(lbs br (a*b).natAbs).length≠0:=fun e=>h0 ((Do br2).1 (List.length_eq_zero_iff.1 e))
   rw[dF h0,beq_eq_false_iff_ne];omega)) ?_
 refine Aa (AH ?_)
 try refine Ar ?_
 refine AC (X:=Unit) (fun _=>[(4,Ag b4),(5,Ag b5)]) (fun _=>[⟨b4,153,[.bool false, .slice none 0 0],true,none⟩,⟨b5,153,[.bool (decide (a*b<0)),B3 x (lbs br (a*b).natAbs).length],true,none⟩,BH x (lbs br (a*b).natAbs)]) (fun _=>True) ?_ ?_
 ·refine Aw I (fun h=> ?_) (fun h=> ?_)
  ·have h:(a*b).natAbs=0:=of_decide_eq_true h
   exact zB (wP I (wS 1 I I I (Aa (An () tO ⟨I,I,tO⟩ [] (by rw[dF (show¬a*b<0 by omega)];rfl)))))
  ·have h: ¬(a*b).natAbs=0:=of_decide_eq_false h
   exact zI (An () tO ⟨I,I,tO⟩ [] (by rw[←es h];rfl))
 intro _ _
 exact zA (zB (wB 1 I I I (wS 0 I I I (Aa (zE (zO (Av tH I (.cell 0 I I I I I) x I hx fun W hp=>Ap.of_hp1 hp 2 I)))))))
-- BOXES 6
-- CODE2
theorem Fg {z:Int} (h:(decDigits z.natAbs).length≤300):(itoa z).length≤301:=by
 rw[Co,List.length_append]
 have:=Km z
 omega
theorem G0 {a b:Int} (h:(smI a&&smI b)=true):B0 Tryz.prog 142 [str (itoa a),str (itoa b)] (.tuple #[.int .i64 a, .int .i64 b, .bool true]):=fun W=>by
 obtain⟨h1,h2⟩:=Bool.and_eq_true_iff.1 h
 have l1:(itoa a).length≤17:=of_decide_eq_true h1
 have l2:(itoa b).length≤17:=of_decide_eq_true h2
 have:=KA a b (by omega) (by omega) W
 rw[h1,h2] at this
 exact this
theorem G6 {a b:Int} (h:(smI a&&smI b)=false) (ha:(decDigits a.natAbs).length≤300) (hb:(decDigits b.natAbs).length≤300): ∃x y:Int,B0 Tryz.prog 142 [str (itoa a),str (itoa b)] (.tuple #[.int .i64 x, .int .i64 y, .bool false]):=
 ⟨_,_,fun W=>by
  have l1:=Fg ha
  have l2:=Fg hb
  have:=KA a b (by omega) (by omega) W
  rw[h] at this
  exact this⟩
theorem HQ (a b:Int) (ha:(decDigits a.natAbs).length≤300) (hb:(decDigits b.natAbs).length≤300) (hab:(decDigits (a*b).natAbs).length≤300) (W:World) (ht:AI W):
  Ai Tryz.prog 175 #[str (itoa a),str (itoa b)] W (fun _:Unit=> .tuple #[str (itoa (a*b)), .int .i64 0]) (fun _=>True) (fun _=>[]):=by
 have la:=Cn (m:=a.natAbs) (by omega)
 have lb:=Cn (m:=b.natAbs) (by omega)
 have l1:=Fg ha
 have l2:=Fg hb
 refine Ac (args:=[str (itoa a),str (itoa b)]) Tryz.func175 I I I ?_
 refine zA (zB (wP I (wP I (Aa (zE (zA (zA (zB (wP I (wP I (wC I I (fun W _=>CX a b ha hb W) (wP I (Aa ?_)))))))))))))
 refine zE (zA (zB (wP I (wP I (Aa (zE (zS I (zI (zE (zA (zA (zB ?_))))))))))))
 cases hs:smI a&&smI b with
 |true=>
  refine wP I (wP I (wC I I (fun W _=>G0 hs W) ?_))
  iterate 7 refine wP I ?_
  refine Aa (zE (zA (zB (wP I (wP I (wP I (wP I ?_)))))))
  refine Ah 26 (.int .i64 ((itoa a).length:Nat)) I (congrArg (fun n:Nat=>Value.int .i64 (n:Int)) (A5 _)) ?_
  refine wP I (wP I ?_)
  refine Ah 28 (.int .i64 ((itoa b).length:Nat)) I (congrArg (fun n:Nat=>Value.int .i64 (n:Int)) (A5 _)) ?_
  refine wP I (wV 29 (((itoa a).length+(itoa b).length:Nat):Int) I (AO (by omega)) (wP I (wU 30 (decide ((itoa a).length+(itoa b).length≤18)) I (decide_eq_decide.2 (by omega)) (wP I (Aa (zE ?_))))))
  refine Aw I (fun h18=> ?_) (fun h18=> ?_)
  ·have h18:(itoa a).length+(itoa b).length≤18:=of_decide_eq_true h18
   have hm:(a*b).natAbs<1000000000000000000:=by
    have p1:=DG a.natAbs
    have p2:=DG b.natAbs
    have q1:(decDigits a.natAbs).length≤(itoa a).length:=by rw[Co,List.length_append];omega
    have q2:(decDigits b.natAbs).length≤(itoa b).length:=by rw[Co,List.length_append];omega
    rw[Int.natAbs_mul]
    have r1:=Nat.mul_lt_mul'' p1 p2
    rw[←Nat.pow_add] at r1
    exact Nat.lt_of_lt_of_le r1 (show _≤10^18 from Nat.pow_le_pow_right (by decide) (by omega))
   exact zA (zB (wP I (wP I (wP I (wV 34 (a*b) I (A0 (by omega) (by omega)) (wC I I (fun W hp=>Bu (a*b) (by omega) (by omega) W (ht.hp hp)) (wP I (wP I (Aa (zE (zO (zP (wR2 I I I)))))))))))))
  ·refine zI (zE (zA (zB (wP I ?_))))
   refine wD (X:=NV) I I (fun W' _=>Bb a (by omega) W') ?_
   intro x hx
   refine wP I ?_
   refine wD (X:=NV) I I (fun W' _=>Bb b (by omega) W') ?_
   intro y hy
   refine wD (X:=NV) I I (fun W' hp=>Gv a b W' (some ⟨x.1,0,none⟩) (some ⟨y.1,0,none⟩) x.2.1 y.2.1 (Az.of_bx hp 0 I) (Az.of_bx hp 1 I) (by omega) (by omega)) ?_
   intro w hw
   exact wC I I (fun W' hp=>Eu (a*b) hab W' (some ⟨w.1,0,none⟩) w.2.1 (Az.of_bx hp 2 I)) (wP I (wP I (wP I (wP I (Aa (zE (zO (wR2 I I I))))))))
 |false=>
  obtain⟨x0,y0,h2⟩:=G6 hs ha hb
  refine wP I (wP I (wC I I (fun W _=>h2 W) ?_))
  iterate 7 refine wP I ?_
  refine Aa (zE (zA (zB (wP I (wP I ?_)))))
  iterate 6 refine Ao I I ?_
  refine wP I (Aa (zE (zS I (zI (zE (zA (zB (wP I ?_))))))))
  refine wD (X:=NV) I I (fun W' _=>Bb a (by omega) W') ?_
  intro x hx
  refine wP I ?_
  refine wD (X:=NV) I I (fun W' _=>Bb b (by omega) W') ?_
  intro y hy
  refine wD (X:=NV) I I (fun W' hp=>Gv a b W' (some ⟨x.1,0,none⟩) (some ⟨y.1,0,none⟩) x.2.1 y.2.1 (Az.of_bx hp 0 I) (Az.of_bx hp 1 I) (by omega) (by omega)) ?_
  intro w hw
  exact wC I I (fun W' hp=>Eu (a*b) hab W' (some ⟨w.1,0,none⟩) w.2.1 (Az.of_bx hp 2 I)) (wP I (wP I (wP I (wP I (Aa (zE (zO (wR2 I I I))))))))
theorem Qg (a b:Int) (ha:(decDigits a.natAbs).length≤300) (hb:(decDigits b.natAbs).length≤300) (W:World):
  Ai Tryz.prog 123 #[str (itoa a),str (itoa b)] W (fun _:Unit=> .tuple #[.int .i64 (FE a b), .int .i64 0]) (fun _=>True) (fun _=>[]):=by
 have la:=Cn (m:=a.natAbs) (by omega)
 have lb:=Cn (m:=b.natAbs) (by omega)
 refine Ac (args:=[str (itoa a),str (itoa b)]) Tryz.func123 I I I ?_
 refine zA (zB (wP I (wP I (Aa (zE (zA (zA (zB (wP I (wP I (wC I I (fun W _=>CX a b ha hb W) (wP I (Aa ?_)))))))))))))
 refine zE (zA (zB (wP I (wP I (Aa (zE (zS I (zI (zE (zA (zA (zB ?_))))))))))))
 cases hs:smI a&&smI b with
 |true=>
  refine wP I (wP I (wC I I (fun W _=>G0 hs W) ?_))
  iterate 7 refine wP I ?_
  refine Aa (zE (zA (zB (wP I (Aa (zE (zR I (zA (zA (zB (wP I (wP I (wP I ?_)))))))))))))
  by_cases h1:a<b
  ·exact wU 27 true I (dT h1) (Aa (zE (zR I (zA (zB (wP I (wP I (Aa (zE (zO (zP (zP (wR2 I I (by rw[FE,if_pos h1]))))))))))))))
  refine wU 27 false I (dF h1) (Aa (zE (zS I (zI (zE (zA (zA (zB (wP I (wP I (wP I ?_)))))))))))
  by_cases h2:b<a
  ·exact wU 30 true I (dT h2) (Aa (zE (zR I (zA (zB (wP I (wP I (Aa (zE (zO (zP (zP (wR2 I I (by rw[FE,if_neg h1,if_neg (by omega)]))))))))))))))
  exact wU 30 false I (dF h2) (Aa (zE (zS I (zI (zE (zA (zB (wP I (wP I (Aa (zE (zO (zP (wR2 I I (by rw[FE,if_neg h1,if_pos (by omega)])))))))))))))))
 |false=>
  obtain⟨x0,y0,h2⟩:=G6 hs ha hb
  refine wP I (wP I (wC I I (fun W _=>h2 W) ?_))
  iterate 7 refine wP I ?_
  refine Aa (zE (zA (zB (wP I (Aa (zE (zS I (zI (zE (zA (zB (wP I ?_))))))))))))
  refine wD (X:=NV) I I (fun W' _=>Bb a (by omega) W') ?_
  intro x hx
  refine wP I ?_
  refine wD (X:=NV) I I (fun W' _=>Bb b (by omega) W') ?_
  intro y hy
  refine wC I I (fun W' hp=>Pz b W' (some ⟨y.1,0,none⟩) y.2.1) ?_
  refine wD (X:=NV) I I (fun W' hp=>HS a (-b) W' (some ⟨x.1,0,none⟩) (some ⟨y.1,0,none⟩) x.2.1 y.2.1 (Az.of_bx hp 0 I) (by rw[Int.natAbs_neg];exact Az.of_bx hp 1 I) (by omega) (by rw[Int.natAbs_neg];omega)) ?_
  intro w hw
  (refine Af Tryz.hZ rfl rfl rfl rfl ?_;intro)
  refine wS 3 I I I (Aa ?_)
  rename_i b10
  refine zE (zA (zA (zB (wP I (wB 3 I I I (wP I (wP I ?_)))))))
  refine Ah 40 (.bool (decide (a=b))) I (congrArg Value.bool (by
   by_cases h0:a=b
   ·rw[dT h0,show(a+ -b).natAbs=0 by omega,AZ];rfl
   ·have hL:(lbs br (a+ -b).natAbs).length≠0:=fun e=>by have:=(Do br2).1 (List.length_eq_zero_iff.1 e);omega
    rw[dF h0,beq_eq_false_iff_ne];omega)) ?_
  refine Aa (zE ?_)
  refine Aw I (fun h0=> ?_) (fun h0=> ?_)
  ·have h0:a=b:=of_decide_eq_true h0
   exact zA (zB (wP I (wP I (Aa (zE (zO (zP (wR2 I I (by rw[FE,if_neg (by omega),if_pos h0])))))))))
  have h0: ¬a=b:=of_decide_eq_false h0
  refine zI (zE (zA (zA (zB (wP I (wB 3 I I I (Aa (zE ?_))))))))
  refine Aw I (fun h1=> ?_) (fun h1=> ?_)
  ·have h1:a+ -b<0:=of_decide_eq_true h1
   exact zA (zB (wP I (wP I (Aa (zE (zO (zP (wR2 I I (by rw[FE,if_pos (by omega)])))))))))
  ·have h1: ¬a+ -b<0:=of_decide_eq_false h1
   exact zI (zE (zA (zB (wP I (wP I (Aa (zE (zO (wR2 I I (by rw[FE,if_neg (by omega),if_neg h0]))))))))))
-- BOXES 6
-- CODE2
theorem Pq (a b:Int) (ha:(decDigits a.natAbs).length≤300) (hb:(decDigits b.natAbs).length≤300) (hab:(decDigits (a+b).natAbs).length≤300) (W:World) (ht:AI W):
  Ai Tryz.prog 149 #[str (itoa a),str (itoa b)] W (fun _:Unit=> .tuple #[str (itoa (a+b)), .int .i64 0]) (fun _=>True) (fun _=>[]):=by
 have la:=Cn (m:=a.natAbs) (by omega)
 have lb:=Cn (m:=b.natAbs) (by omega)
 refine Ac (args:=[str (itoa a),str (itoa b)]) Tryz.func149 I I I ?_
 refine zA (zB (wP I (wP I (Aa (zE (zA (zA (zB (wP I (wP I (wC I I (fun W _=>CX a b ha hb W) (wP I (Aa ?_)))))))))))))
 refine zE (zA (zB (wP I (wP I (Aa (zE (zS I (zI (zE (zA (zA (zB ?_))))))))))))
 cases hs:smI a&&smI b with
 |true=>
  obtain⟨h1,h2⟩:=Bool.and_eq_true_iff.1 hs
  have b1:=Hq h1
  have b2:=Hq h2
  refine wP I (wP I (wC I I (fun W _=>G0 hs W) ?_))
  iterate 7 refine wP I ?_
  refine Aa (zE (zA (zB (wP I (Aa (zE (zR I (zA (zB (wP I (wP I (wP I (wV 26 (a+b) I (A0 (by omega) (by omega)) ?_)))))))))))))
  exact wC I I (fun W hp=>Bu (a+b) (by omega) (by omega) W (ht.hp hp)) (wP I (wP I (Aa (zE (zO (zP (wR2 I I I)))))))
 |false=>
  obtain⟨x0,y0,h2⟩:=G6 hs ha hb
  refine wP I (wP I (wC I I (fun W _=>h2 W) ?_))
  iterate 7 refine wP I ?_
  refine Aa (zE (zA (zB (wP I (Aa (zE (zS I (zI (zE (zA (zB (wP I ?_))))))))))))
  refine wD (X:=NV) I I (fun W' _=>Bb a (by omega) W') ?_
  intro x hx
  refine wP I ?_
  refine wD (X:=NV) I I (fun W' _=>Bb b (by omega) W') ?_
  intro y hy
  refine wD (X:=NV) I I (fun W' hp=>HS a b W' (some ⟨x.1,0,none⟩) (some ⟨y.1,0,none⟩) x.2.1 y.2.1 (Az.of_bx hp 0 I) (Az.of_bx hp 1 I) (by omega) (by omega)) ?_
  intro w hw
  exact wC I I (fun W' hp=>Eu (a+b) hab W' (some ⟨w.1,0,none⟩) w.2.1 (Az.of_bx hp 2 I)) (wP I (wP I (wP I (wP I (Aa (zE (zO (wR2 I I I))))))))
-- BOXES 6
-- CODE2
theorem Es {z:Int} (h: ¬okN z):H7 z= .tuple #[str [], .int .i64 4]:=if_neg h
theorem Vf {a b:Int} (ha:(decDigits a.natAbs).length≤300) (hb:(decDigits b.natAbs).length≤300):(decDigits (a*b).natAbs).length≤606:=by
 obtain⟨e,he⟩: ∃e:Nat,e=300:=⟨_,rfl⟩
 obtain⟨k,hk⟩: ∃k:Nat,k=606:=⟨_,rfl⟩
 rw[←he] at ha hb
 rw[←hk]
 have h1:=Nat.lt_of_lt_of_le (DG a.natAbs) (Nat.pow_le_pow_right (by decide) ha)
 have h2:=Nat.lt_of_lt_of_le (DG b.natAbs) (Nat.pow_le_pow_right (by decide) hb)
 have h3:=Nat.mul_lt_mul'' h1 h2
 rw[←Nat.pow_add] at h3
 rw[Int.natAbs_mul]
 exact D9 k _ (by omega) (Nat.lt_of_lt_of_le h3 (Nat.pow_le_pow_right (by decide) (by omega)))
theorem Vv {a b:Int} (ha:(decDigits a.natAbs).length≤300) (hb:(decDigits b.natAbs).length≤300):(decDigits (a+b).natAbs).length≤606:=by
 obtain⟨e,he⟩: ∃e:Nat,e=300:=⟨_,rfl⟩
 obtain⟨k,hk⟩: ∃k:Nat,k=606:=⟨_,rfl⟩
 rw[←he] at ha hb
 rw[←hk]
 have h1:=Nat.lt_of_lt_of_le (DG a.natAbs) (Nat.pow_le_pow_right (by decide) ha)
 have h2:=Nat.lt_of_lt_of_le (DG b.natAbs) (Nat.pow_le_pow_right (by decide) hb)
 have h3:10^(e+1)=10*10^e:=by rw[Nat.pow_succ,Nat.mul_comm]
 have h4:(a+b).natAbs<10^(e+1):=by omega
 exact D9 k _ (by omega) (Nat.lt_of_lt_of_le h4 (Nat.pow_le_pow_right (by decide) (by omega)))
theorem MV (z:Int) (hg:300<(decDigits z.natAbs).length) (hl:(decDigits z.natAbs).length≤606):B0 Tryz.prog 191 [str (itoa z)] (.int .i64 4):=by
 intro W
 obtain⟨s,hs⟩: ∃s,s=itoa z:=⟨_,rfl⟩
 obtain⟨dd,hdd⟩: ∃dd,dd=decDigits z.natAbs:=⟨_,rfl⟩
 obtain⟨f,hf⟩: ∃f,f=(FT z).length:=⟨_,rfl⟩
 have hss:s=FT z++dd:=by rw[hs,hdd];exact Co z
 have hf1:f≤1:=hf▸Km z
 have hsl:s.length=f+dd.length:=by rw[hss,List.length_append,hf]
 have hd0:0<dd.length:=by rw[hdd];exact List.length_pos_iff.2 (Fx _)
 have hget: ∀i,f≤i→s[i]? =dd[i-f]? :=fun i hi=>by rw[hss,List.getElem?_append_right (by omega),hf]
 obtain⟨c0,hc0,hc45⟩:=E0 z
 rw[←hs] at hc0⊢
 rw[←hdd] at hl hg
 have hdg: ∀b∈dd,DC b=true:=by rw[hdd];exact(ED _).all
 refine Ac Tryz.func191 I I I ?_
 refine zA (zB (wP I (Aa (zE (zA (zB (wP I (Aa (zE (zA (zA (zB (wP I (wP I ?_))))))))))))))
 refine Ah 6 (.int .i64 (s.length:Nat)) I (congrArg (fun n:Nat=>Value.int .i64 (n:Int)) (A5 s)) ?_
 refine wP I (wU 7 true I (dT (by omega)) (wP I (wP I ?_)))
 refine AV 0 tH I I I I I I I I hc0 ?_
 refine wP I (wU 11 (decide (z<0)) I ((Dt c0 45).trans hc45) (wP I (Aa (AH ?_))))
 try refine Ar ?_
 refine AC (X:=Unit) (fun _=>[(0,str s),(3, .int .i64 (f:Nat))]) (fun _=>[]) (fun _=>True) ?_ ?_
 ·refine Aw I (fun h=> ?_) (fun h=> ?_)
  ·have h:z<0:=of_decide_eq_true h
   exact zB (wP I (Aa (An () tO ⟨I,by rw[hf];unfold FT;rw[if_pos h];rfl,tO⟩ [] I)))
  ·have h: ¬z<0:=of_decide_eq_false h
   exact zI (An () tO ⟨I,by rw[hf];unfold FT;rw[if_neg h];rfl,tO⟩ [] I)
 intro _ _
 refine Ar (Ar ?_)
 refine AC (X:=Unit) (fun _=>[(0,str s),(3, .int .i64 (f:Nat)),(27, .bool false)]) (fun _=>[]) (fun _=>True) ?_ ?_
 ·refine zB (wP I (wP I (wP I ?_)))
  refine Ah 15 (.int .i64 (s.length:Nat)) I (congrArg (fun n:Nat=>Value.int .i64 (n:Int)) (A5 s)) ?_
  refine wP I (wU 16 false I (by rw[beq_eq_false_iff_ne];omega) ?_)
  obtain⟨b,hb⟩: ∃b,dd[0]? =some b:=⟨dd[0],List.getElem?_eq_getElem hd0⟩
  have hsb:s[f]? =some b:=by rw[hget f (Nat.le_refl _),Nat.sub_self];exact hb
  refine wP I (wP I (wP I ?_))
  refine AV f tH I I I I I I I I hsb ?_
  refine wP I ?_
  by_cases h48:b=48
  ·rw[h48,hdd] at hb
   have h0:=P7 hb
   have hz:z=0:=by omega
   have hs1:s.length=1:=by rw[hs,hz,Ck];rfl
   refine wU 21 true I ((Dt b 48).trans (dT h48)) (wP I (wP I (wP I ?_)))
   refine Ah 24 (.int .i64 (s.length:Nat)) I (congrArg (fun n:Nat=>Value.int .i64 (n:Int)) (A5 s)) ?_
   exact wP I (wU 25 false I (dF (by omega)) (wP I (wP I (Aa (An () tO ⟨I,I,I,tO⟩ [] I)))))
  ·refine wU 21 false I ((Dt b 48).trans (dF h48)) (wP I ?_)
   iterate 3 refine Ao I I ?_
   exact wP I (wP I (Aa (An () tO ⟨I,I,I,tO⟩ [] I)))
 intro _ _
 refine zS I (zI (zE (zA (zA (zB (wP I (wP I (Aa (zE (zH ?_))))))))))
 refine A9 (X:=Nat) (fun i=>[(0,str s),(3, .int .i64 (f:Nat)),(4, .int .i64 (i:Nat))]) (fun _=>[]) (fun i=>i≤s.length∧f≤i) (fun i=>s.length-i) f ⟨by omega,Nat.le_refl _⟩ ⟨I,I,I,tO⟩ [] I ?_
 rintro i ⟨hi,hfi⟩
 have hi:i≤s.length:=hi
 have hfi:f≤i:=hfi
 refine zA (zA (zB (wP I (wP I (wP I ?_)))))
 refine Ah 31 (.int .i64 (s.length:Nat)) I (congrArg (fun n:Nat=>Value.int .i64 (n:Int)) (A5 s)) ?_
 refine wP I ?_
 by_cases hlt:i<s.length
 ·refine wU 32 true I (dT (by omega)) (Aa (zE (zR I (zI (zE (zA (zH (zA (zB ?_)))))))))
  obtain⟨b,hb⟩: ∃b,dd[i-f]? =some b:=⟨dd[i-f]'(by omega),List.getElem?_eq_getElem (by omega)⟩
  have hsb:s[i]? =some b:=by rw[hget i hfi];exact hb
  have hbd:=C5.1 (hdg b (List.mem_of_getElem? hb))
  refine wP I (wP I ?_)
  refine AV i tH I I I I I I I I hsb ?_
  refine wP I (wU 38 false I ((Q2 b).trans (dF (by omega))) (wP I (wP I (wP I ?_))))
  refine AV i tH I I I I I I I I hsb ?_
  refine wP I (wU 43 false I ((Q4 b).trans (dF (by omega))) (wP I (Aa (zE (zS I (zI (zN (zE (zB (wP I (wP I (wV 34 ((i+1:Nat):Int) I (Ax (by omega)) (wP I ?_)))))))))))))
  exact Aa (A4 (i+1) ⟨hlt,by show f≤i+1;omega⟩ (by show s.length-(i+1)<s.length-i;omega) ⟨I,I,I,tO⟩ [] I)
 ·refine wU 32 false I (dF (by omega)) (Aa (zE (zS I (zJ (zK (zK (zL (zE (zA (zA (zB (wP I (wP I ?_)))))))))))))
  refine Ah 46 (.int .i64 (s.length:Nat)) I (congrArg (fun n:Nat=>Value.int .i64 (n:Int)) (A5 s)) ?_
  refine wP I (wP I (wV 48 (dd.length:Nat) I (by show w64 ((s.length:Int)-f)=_;rw[A0 (by omega) (by omega)];omega) (wP I (wU 49 true I (dT (by omega)) (Aa (zE (zR I (zA (zB (wP I (Aa (zE (zO ?_)))))))))))))
  exact zP (wR1 I I I)
theorem FL (z:Int) (hl:(decDigits z.natAbs).length≤606) (W:World) (p:Option Addr) (cap:Nat) (hA:Az W p (lbs br z.natAbs)):
  Ai Tryz.prog 200 #[.agg #[.bool (decide (z<0)),slv p (lbs br z.natAbs).length cap]] W (fun _:Unit=>H7 z) (fun _=>True) (fun _=>[]):=by
 refine Ac (args:=[.agg #[.bool (decide (z<0)),slv p (lbs br z.natAbs).length cap]]) Tryz.func200 I I I ?_
 refine zA (zB ?_)
 (refine At rfl rfl rfl rfl ?_;intro)
 refine wP I (wP I (Aa (zE (zA (zB (wB 0 I I I (wC I I (fun W hp=>EN z (by omega) W p cap (hA.hp hp)) (wP I (Aa ?_)))))))))
 by_cases h:okN z
 ·refine zE (zA (zA (zB (wP I (wC I I (fun W _=>ER z h.dd W) (wP I (Aa (zE (zS I (zI (zE (zA (zB ?_)))))))))))))
  exact wP I (wP I (wP I (Aa (zE (zO (A7 tH I (.tmp I) (.tmp I) () (Eh h).symm tO fun W _=>Ap.nil _ _))))))
 ·have hgt:300<(decDigits z.natAbs).length:=by
   rcases Nat.lt_or_ge 300 (decDigits z.natAbs).length with q|q
   ·exact q
   ·exact absurd (FV.1 q) h
  refine zE (zA (zA (zB (wP I (wC I I (fun W _=>MV z hgt hl W) (wP I (Aa (zE (zR I (zA (zB (wP I (wP I ?_)))))))))))))
  exact Aa (zE (zO (zP (A7 tH I (.tmp I) (.tmp I) () (Es h).symm tO fun W _=>Ap.nil _ _))))
theorem LL (a b:Int) (ha:(decDigits a.natAbs).length≤300) (hb:(decDigits b.natAbs).length≤300) (W:World) (ht:AI W):
  Ai Tryz.prog 175 #[str (itoa a),str (itoa b)] W (fun _:Unit=>H7 (a*b)) (fun _=>True) (fun _=>[]):=by
 have hab:(decDigits (a*b).natAbs).length≤606:=Vf ha hb
 obtain⟨rs,re,hres⟩:=Gk (a*b)
 have la:=Cn (m:=a.natAbs) (by omega)
 have lb:=Cn (m:=b.natAbs) (by omega)
 have l1:=Fg ha
 have l2:=Fg hb
 refine Ac (args:=[str (itoa a),str (itoa b)]) Tryz.func175 I I I ?_
 refine zA (zB (wP I (wP I (Aa (zE (zA (zA (zB (wP I (wP I (wC I I (fun W _=>CX a b ha hb W) (wP I (Aa ?_)))))))))))))
 refine zE (zA (zB (wP I (wP I (Aa (zE (zS I (zI (zE (zA (zA (zB ?_))))))))))))
 cases hs:smI a&&smI b with
 |true=>
  refine wP I (wP I (wC I I (fun W _=>G0 hs W) ?_))
  iterate 7 refine wP I ?_
  refine Aa (zE (zA (zB (wP I (wP I (wP I (wP I ?_)))))))
  refine Ah 26 (.int .i64 ((itoa a).length:Nat)) I (congrArg (fun n:Nat=>Value.int .i64 (n:Int)) (A5 _)) ?_
  refine wP I (wP I ?_)
  refine Ah 28 (.int .i64 ((itoa b).length:Nat)) I (congrArg (fun n:Nat=>Value.int .i64 (n:Int)) (A5 _)) ?_
  refine wP I (wV 29 (((itoa a).length+(itoa b).length:Nat):Int) I (AO (by omega)) (wP I (wU 30 (decide ((itoa a).length+(itoa b).length≤18)) I (decide_eq_decide.2 (by omega)) (wP I (Aa (zE ?_))))))
  refine Aw I (fun h18=> ?_) (fun h18=> ?_)
  ·have h18:(itoa a).length+(itoa b).length≤18:=of_decide_eq_true h18
   have hm:(a*b).natAbs<1000000000000000000:=by
    have p1:=DG a.natAbs
    have p2:=DG b.natAbs
    have q1:(decDigits a.natAbs).length≤(itoa a).length:=by rw[Co,List.length_append];omega
    have q2:(decDigits b.natAbs).length≤(itoa b).length:=by rw[Co,List.length_append];omega
    rw[Int.natAbs_mul]
    have r1:=Nat.mul_lt_mul'' p1 p2
    rw[←Nat.pow_add] at r1
    exact Nat.lt_of_lt_of_le r1 (show _≤10^18 from Nat.pow_le_pow_right (by decide) (by omega))
   exact zA (zB (wP I (wP I (wP I (wV 34 (a*b) I (A0 (by omega) (by omega)) (wC I I (fun W hp=>Bu (a*b) (by omega) (by omega) W (ht.hp hp)) (wP I (wP I (Aa (zE (zO (zP (A7 tH I (.tmp I) (.tmp I) () (Eh (Dh (by omega))).symm tO fun W _=>Ap.nil _ _)))))))))))))
  ·refine zI (zE (zA (zB (wP I ?_))))
   refine wD (X:=NV) I I (fun W' _=>Bb a (by omega) W') ?_
   intro x hx
   refine wP I ?_
   refine wD (X:=NV) I I (fun W' _=>Bb b (by omega) W') ?_
   intro y hy
   refine wD (X:=NV) I I (fun W' hp=>Gv a b W' (some ⟨x.1,0,none⟩) (some ⟨y.1,0,none⟩) x.2.1 y.2.1 (Az.of_bx hp 0 I) (Az.of_bx hp 1 I) (by omega) (by omega)) ?_
   intro w hw
   exact wC I I (fun W' hp=>(FL (a*b) hab W' (some ⟨w.1,0,none⟩) w.2.1 (Az.of_bx hp 2 I)).cast hres) (wP I (wP I (wP I (wP I (Aa (zE (zO (wR2 I I hres.symm))))))))
 |false=>
  obtain⟨x0,y0,h2⟩:=G6 hs ha hb
  refine wP I (wP I (wC I I (fun W _=>h2 W) ?_))
  iterate 7 refine wP I ?_
  refine Aa (zE (zA (zB (wP I (wP I ?_)))))
  iterate 6 refine Ao I I ?_
  refine wP I (Aa (zE (zS I (zI (zE (zA (zB (wP I ?_))))))))
  refine wD (X:=NV) I I (fun W' _=>Bb a (by omega) W') ?_
  intro x hx
  refine wP I ?_
  refine wD (X:=NV) I I (fun W' _=>Bb b (by omega) W') ?_
  intro y hy
  refine wD (X:=NV) I I (fun W' hp=>Gv a b W' (some ⟨x.1,0,none⟩) (some ⟨y.1,0,none⟩) x.2.1 y.2.1 (Az.of_bx hp 0 I) (Az.of_bx hp 1 I) (by omega) (by omega)) ?_
  intro w hw
  exact wC I I (fun W' hp=>(FL (a*b) hab W' (some ⟨w.1,0,none⟩) w.2.1 (Az.of_bx hp 2 I)).cast hres) (wP I (wP I (wP I (wP I (Aa (zE (zO (wR2 I I hres.symm))))))))
theorem PP (a b:Int) (ha:(decDigits a.natAbs).length≤300) (hb:(decDigits b.natAbs).length≤300) (W:World) (ht:AI W):
  Ai Tryz.prog 149 #[str (itoa a),str (itoa b)] W (fun _:Unit=>H7 (a+b)) (fun _=>True) (fun _=>[]):=by
 have hab:(decDigits (a+b).natAbs).length≤606:=Vv ha hb
 obtain⟨rs,re,hres⟩:=Gk (a+b)
 have la:=Cn (m:=a.natAbs) (by omega)
 have lb:=Cn (m:=b.natAbs) (by omega)
 refine Ac (args:=[str (itoa a),str (itoa b)]) Tryz.func149 I I I ?_
 refine zA (zB (wP I (wP I (Aa (zE (zA (zA (zB (wP I (wP I (wC I I (fun W _=>CX a b ha hb W) (wP I (Aa ?_)))))))))))))
 refine zE (zA (zB (wP I (wP I (Aa (zE (zS I (zI (zE (zA (zA (zB ?_))))))))))))
 cases hs:smI a&&smI b with
 |true=>
  obtain⟨h1,h2⟩:=Bool.and_eq_true_iff.1 hs
  have b1:=Hq h1
  have b2:=Hq h2
  refine wP I (wP I (wC I I (fun W _=>G0 hs W) ?_))
  iterate 7 refine wP I ?_
  refine Aa (zE (zA (zB (wP I (Aa (zE (zR I (zA (zB (wP I (wP I (wP I (wV 26 (a+b) I (A0 (by omega) (by omega)) ?_)))))))))))))
  exact wC I I (fun W hp=>Bu (a+b) (by omega) (by omega) W (ht.hp hp)) (wP I (wP I (Aa (zE (zO (zP (A7 tH I (.tmp I) (.tmp I) () (Eh (Dh (by omega))).symm tO fun W _=>Ap.nil _ _)))))))
 |false=>
  obtain⟨x0,y0,h2⟩:=G6 hs ha hb
  refine wP I (wP I (wC I I (fun W _=>h2 W) ?_))
  iterate 7 refine wP I ?_
  refine Aa (zE (zA (zB (wP I (Aa (zE (zS I (zI (zE (zA (zB (wP I ?_))))))))))))
  refine wD (X:=NV) I I (fun W' _=>Bb a (by omega) W') ?_
  intro x hx
  refine wP I ?_
  refine wD (X:=NV) I I (fun W' _=>Bb b (by omega) W') ?_
  intro y hy
  refine wD (X:=NV) I I (fun W' hp=>HS a b W' (some ⟨x.1,0,none⟩) (some ⟨y.1,0,none⟩) x.2.1 y.2.1 (Az.of_bx hp 0 I) (Az.of_bx hp 1 I) (by omega) (by omega)) ?_
  intro w hw
  exact wC I I (fun W' hp=>(FL (a+b) hab W' (some ⟨w.1,0,none⟩) w.2.1 (Az.of_bx hp 2 I)).cast hres) (wP I (wP I (wP I (wP I (Aa (zE (zO (wR2 I I hres.symm))))))))
-- BOXES 4
-- CODE2
theorem Nu (r:Nat):lv br [r]=r:=by show r+br*0=r;rw[Nat.mul_zero,Nat.add_zero]
theorem Nc (W:World) (p:Option Addr) (cap a dv:Nat) (hA:Az W p (lbs br a)) (hna:(lbs br a).length≤1000000) (hd0:0<dv) (hd1:dv<br):
  Ai Tryz.prog 194 #[slv p (lbs br a).length cap, .int .i64 (dv:Nat)] W (fun x:NV×NV=> .tuple #[B3 x.1 (lbs br (a/dv)).length,B3 x.2 (lbs br (a%dv)).length]) (fun x=>Cv x.1 (lbs br (a/dv))∧Cv x.2 (lbs br (a%dv))) (fun x=>[BH x.1 (lbs br (a/dv)),BH x.2 (lbs br (a%dv))]):=by
 obtain⟨K,hK⟩: ∃K,(lbs br a).length=K:=⟨_,rfl⟩
 have hd1':dv<1000000:=hd1
 have hal:=AK br2 a
 rw[hK] at hna hal
 refine Ac (args:=[slv p (lbs br a).length cap, .int .i64 (dv:Nat)]) Tryz.func194 I I I ?_
 rw[hK]
 refine zA (zB (wP I (wP I (Aa (zE (zA (zB (wP I (wP I ?_)))))))))
 refine Ce Tryz.vec130 K I I I I I I I (by simp only[maxLen];omega) (by omega) ?_
 intro g
 have ez:CR (Value.cells (.int .i64 0)).toList K=nI (List.replicate K 0)++[]:=by rw[List.append_nil];exact Fm K
 rw[ez]
 refine wP I (Aa (zE (zA (zB (wP I (Aa (zE (zA (zA (zB (wP I (wP I (wP I ?_)))))))))))))
 refine wV 14 ((K:Int)-1) I (A0 (by omega) (by omega)) (wP I (Aa (zE (zH ?_))))
 refine A9 (X:=Nat×List Nat×Nat×Nat) (fun x=>[(0,slv p K cap),(1, .int .i64 (dv:Nat)),(6,slv (some ⟨g,0,none⟩) K K),(7, .int .i64 (x.2.2.2:Nat)),(8, .int .i64 ((x.1:Nat)-1:Int))]) (fun x=>[⟨g,3,nI x.2.1++[],true,none⟩])
  (fun x=>x.1≤K∧x.2.1.length=K∧(∀y∈x.2.1,y<br)∧lv br x.2.1=br^x.1*x.2.2.1∧a/br^x.1=x.2.2.1*dv+x.2.2.2∧x.2.2.2<dv) (fun x=>x.1) (K,List.replicate K 0,0,0) ⟨Nat.le_refl _,List.length_replicate,GT (by decide) K,by rw[E4];show 0=br^K*0;rw[Nat.mul_zero],by show a/br^K=0*dv+0;rw[Nat.div_eq_of_lt hal];omega,hd0⟩ ⟨rfl,rfl,rfl,rfl,rfl,trivial⟩ [] rfl ?_
 rintro⟨k,l,qh,rs⟩ ⟨hk,hl,hlb,hlv,hq,hr⟩
 have hk:k≤K:=hk
 have hl:l.length=K:=hl
 have hlv:lv br l=br^k*qh:=hlv
 have hq:a/br^k=qh*dv+rs:=hq
 have hr:rs<dv:=hr
 refine zA (zA (zB (wP I (wP I ?_))))
 cases k with
 |zero=>
  have hq:a=qh*dv+rs:=by simpa using hq
  have hlv:lv br l=qh:=by rw[hlv];simp
  have eq1:a/dv=qh:=by rw[hq,Nat.mul_comm,Nat.mul_add_div hd0,Nat.div_eq_of_lt hr,Nat.add_zero]
  have eq2:a%dv=rs:=by rw[hq,Nat.mul_comm,Nat.mul_add_mod,Nat.mod_eq_of_lt hr]
  refine wU 16 false I (dF (by show¬(((0:Nat):Int)-1≥0);omega)) (Aa (zE (zS I (zJ (zK (zK (zL (zE (zA (zB ?_))))))))))
  have hV0:(⟨some g,K,[]⟩:Vec).OK 1 l.length (nI l):=⟨Er _,(fun h=>by cases h),fun _=>⟨by show _≤K;omega,by show K≤maxLen;simp only[maxLen];omega,by show(nI l).length+0=K*1;rw[BC];omega⟩⟩
  obtain⟨j1,hV1,he1⟩:=DK hV0 hlb
  have hrb: ∀x∈[rs],x<br:=fun x hx=>by obtain rfl:=List.mem_singleton.1 hx;show x<1000000;omega
  refine wP I ?_
  refine Ah 35 (slv (some ⟨g,0,none⟩) l.length K) I (by rw[hl]) ?_
  refine wC I I (fun W hp=>CA W _ K _ (Az.of_bx hp 0 I) hlb (by omega) (by omega)) (wP I ?_)
  refine A8 Tryz.hZ tH I I I I I I I I I I I fun bN=> ?_
  have hV2:(⟨some bN,1,[]⟩:Vec).OK 1 [rs].length (nI [rs]):=⟨rfl,(fun h=>by cases h),fun _=>⟨Nat.le_refl _,(by show 1≤maxLen;decide),rfl⟩⟩
  obtain⟨j2,hV3,he2⟩:=DK hV2 hrb
  refine wC I I (fun W hp=>CA W (some ⟨bN,0,none⟩) 1 [rs] (Az.of_bx (junk:=[]) hp 1 I) hrb (by show 1≤1;omega) (by show 1<_;decide)) (wP I (wP I (Aa (zE (zO ?_)))))
  rw[hlv, ←eq1] at hV1 he1
  rw[Nu, ←eq2] at hV3 he2
  exact A7 tH I (.tmp I) (.tmp I) (((g,K,j1):NV),((bN,1,j2):NV)) (by rw[hlv, ←eq1,Nu, ←eq2]) ⟨hV1,hV3⟩ fun W hp=>Ap.of_hp (hp.pick (l:=[BH (g,K,j1) (lbs br (a/dv)),BH (bN,1,j2) (lbs br (a%dv))]) [0,1] (by decide) (by
   show some [(⟨g,3,nI l++[],true,none⟩:Bx),⟨bN,3,nI [rs]++[],true,none⟩]=some [⟨g,3,nI (lbs br (a/dv))++j1,true,none⟩,⟨bN,3,nI (lbs br (a%dv))++j2,true,none⟩]
   rw[he1, ←eq2,he2]))
 |succ k=>
  have hq:a/br^(k+1)=qh*dv+rs:=hq
  have hi:k<l.length:=by rw[hl];omega
  obtain⟨b1,o1,rfl,r1⟩:=hA.row (show k<(lbs br a).length by omega)
  have r1:=r1 k (by omega)
  obtain⟨v,hv⟩: ∃v,lim (lbs br a) k=v:=⟨_,rfl⟩
  rw[hv] at r1
  have hvb:v<br:=by rw[←hv];exact Bf br2 (Bl br2 a) _
  have hvb':v<1000000:=hvb
  have hve:v=a/br^k%br:=by rw[←hv];exact Bh br2 a _
  obtain⟨n,hn⟩: ∃n,n=v+rs*br:=⟨_,rfl⟩
  have hn':n=v+rs*1000000:=hn
  have hn63:n<1000000000000:=by omega
  have hnq:=Ob (B:=br) (d:=dv) hvb hr hn
  have hnq':n/dv<1000000:=hnq
  have hs:=HT (B:=br) (d:=dv) (q:=qh) (r:=rs) (i:=k) hq (n:=n) (by rw[hn,hve])
  have hzero:l[k]? =some 0:=by
   rw[Du hi,C2 br2 _ hlb,hlv,Nat.pow_succ,Nat.mul_assoc,Nat.mul_div_cancel_left _ (Nat.pow_pos (by decide)),Nat.mul_mod_right]
  have hset:=Hl (B:=br) (n/dv) hzero
  rw[Nat.mul_zero,Nat.add_zero,hlv,Nat.pow_succ,Nat.mul_assoc, ←Nat.mul_add] at hset
  have hrm:n%dv<dv:=Nat.mod_lt _ hd0
  refine wU 16 true I (dT (by show(((k+1:Nat):Int)-1≥0);omega)) (Aa (zE (zR I (zI (zE (zA (zH (zA (zB (wP I (wP I (wP I (wP I ?_)))))))))))))
  refine wV 22 (k:Nat) I (by show((k+1:Nat):Int)-1=_;omega) ?_
  refine wJ ?_
  refine wL 0 I I (fun W hp=>r1.hp hp) I (wP I (wV 25 (n:Nat) I (by show w64 (w64 ((rs:Int)*((1000000:Nat):Int))+v)=_;rw[Cw (by omega),AO (by omega),hn',Nat.add_comm]) (wP I (Aa (zE (zA (zB (wP I (wP I (wV 27 (k:Nat) I (by show((k+1:Nat):Int)-1=_;omega) (wP I (wP I ?_))))))))))))
  refine DD I I I I I (by omega) ?_
  refine wV 30 ((n/dv:Nat):Int) I (BG (by omega)) ?_
  refine wJ ?_
  refine AJ 0 (nI (l.set k (n/dv))++[]) tH I I I I I I I I I I (by show 0+k*1+1≤(nI l++[]).length;rw[List.append_nil,BC];omega) (C4 hi (n/dv)) ?_
  refine Aa (zE (zB (wP I (wP I ?_))))
  refine Ej I I I I I (by omega) ?_
  refine Ah 34 (.int .i64 ((n%dv:Nat):Int)) I I ?_
  exact wP I (Aa (zN (zE (zB (wP I (wV 17 (k:Nat) I (by show((k+1:Nat):Int)-1=_;omega) (wP I (wV 18 ((k:Nat)-1:Int) I (A0 (by omega) (by omega)) (wP I (Aa (A4 (k,l.set k (n/dv),qh*br+n/dv,n%dv) ⟨by show k≤K;omega,by rw[List.length_set];exact hl,CH hlb hnq,by show lv br (l.set k (n/dv))=br^k*(qh*br+n/dv);rw[hset,Nat.mul_comm qh],by show a/br^k=_;exact hs,hrm⟩ (by show k<k+1;omega) ⟨I,I,I,I,I,tO⟩ [] I)))))))))))
-- BOXES 4
-- CODE2
theorem Wz {W m:Nat} (h:W<br^(m+3)):((W/br^(m+2)%br)*br+W/br^(m+1)%br)*br+W/br^m%br=W/br^m:=by
 have h1:W/br^(m+1)=W/br^m/br:=by rw[Nat.pow_succ,Nat.div_div_eq_div_mul]
 have h2:W/br^(m+2)=W/br^m/br/br:=by rw[Nat.pow_succ, ←Nat.div_div_eq_div_mul,h1]
 have h3:W/br^m<br*br*br:=by
  apply Nat.div_lt_of_lt_mul
  have:br^(m+3)=br^m*(br*br*br):=by rw[Nat.pow_succ,Nat.pow_succ,Nat.pow_succ];simp[Nat.mul_assoc]
  rw[←this];exact h
 rw[h2,h1]
 generalize W/br^m=x at h3⊢
 have h3:x<1000000*1000000*1000000:=h3
 show((x/1000000/1000000%1000000)*1000000+x/1000000%1000000)*1000000+x%1000000=x
 omega
theorem W5 {b m:Nat} (h:b<br^(m+2)):(b/br^(m+1)%br)*br+b/br^m%br=b/br^m:=by
 have h1:b/br^(m+1)=b/br^m/br:=by rw[Nat.pow_succ,Nat.div_div_eq_div_mul]
 have h3:b/br^m<br*br:=by
  apply Nat.div_lt_of_lt_mul
  have:br^(m+2)=br^m*(br*br):=by rw[Nat.pow_succ,Nat.pow_succ];simp[Nat.mul_assoc]
  rw[←this];exact h
 rw[h1]
 generalize b/br^m=x at h3⊢
 have h3:x<1000000*1000000:=h3
 show(x/1000000%1000000)*1000000+x%1000000=x
 omega
theorem Vl {W b m g:Nat} (hg:g=W/m/(b/m+1)) (hm:0<m):g*b≤W:=by
 have h1:b<(b/m+1)*m:=Nat.lt_mul_of_div_lt (Nat.lt_succ_self _) hm
 have h2:g*(b/m+1)≤W/m:=by rw[hg];exact Nat.div_mul_le_self ..
 have h3:g*(b/m+1)*m≤W/m*m:=Nat.mul_le_mul_right _ h2
 have h4:W/m*m≤W:=Nat.div_mul_le_self ..
 have h5:g*b≤g*((b/m+1)*m):=Nat.mul_le_mul_left _ (by omega)
 rw[←Nat.mul_assoc] at h5
 omega
theorem Sx {x r:Nat} (_hx:x<br):lv br (x::lbs br r)=r*br+x:=by
 show x+br*lv br (lbs br r)=_
 rw[Jc br2,Nat.mul_comm,Nat.add_comm]
theorem Mo {w b g r:Nat} (h:w=g*b+r) (hr:r<b):w/b=g∧w%b=r:=by
 have hb:0<b:=by omega
 subst h
 rw[Nat.mul_comm]
 exact⟨by rw[Nat.mul_add_div hb,Nat.div_eq_of_lt hr,Nat.add_zero],by rw[Nat.mul_add_mod,Nat.mod_eq_of_lt hr]⟩
theorem HJ (W:World) (p q:Option Addr) (cap cap2:Nat) (a b:Nat) (hb0:0<b) (hA:Az W p (lbs br a)) (hB:Az W q (lbs br b)) (hna:(lbs br a).length≤1000) (hnb:(lbs br b).length≤1000):
  Ai Tryz.prog 144 #[slv p (lbs br a).length cap,slv q (lbs br b).length cap2] W (fun x:NV×NV=> .tuple #[B3 x.1 (lbs br (a/b)).length,B3 x.2 (lbs br (a%b)).length]) (fun x=>Cv x.1 (lbs br (a/b))∧Cv x.2 (lbs br (a%b))) (fun x=>[BH x.1 (lbs br (a/b)),BH x.2 (lbs br (a%b))]):=by
 have hla:=Bl br2 a
 have hlb:=Bl br2 b
 have hal:=AK br2 a
 have hbl:=AK br2 b
 obtain⟨K,hK⟩: ∃n,(lbs br a).length=n:=⟨_,rfl⟩
 obtain⟨n,hn⟩: ∃n,(lbs br b).length=n:=⟨_,rfl⟩
 have hn0:n≠0:=fun e=>by
  have:=(Do br2).1 (List.length_eq_zero_iff.1 (hn.trans e));omega
 rw[hK] at hna hal
 rw[hn] at hnb hbl
 refine Ac (args:=[slv p (lbs br a).length cap,slv q (lbs br b).length cap2]) Tryz.func144 I I I ?_
 rw[hK,hn]
 refine zA (zB (wP I (wP I (Aa (zE (zA (zA (zB (wP I (wP I (wP I ?_)))))))))))
 by_cases hn1:n=1
 ·subst hn1
  obtain⟨b1,o1,rfl,r1⟩:=hB.row (show 0<(lbs br b).length by omega)
  have r1:=r1 0 (by omega)
  obtain⟨v,hv⟩: ∃v,lim (lbs br b) 0=v:=⟨_,rfl⟩
  rw[hv] at r1
  have hvb:v<br:=by rw[←hv];exact Bf br2 hlb _
  rw[Bh br2,Nat.pow_zero,Nat.div_one,Nat.mod_eq_of_lt (by rw[Nat.pow_one] at hbl;exact hbl)] at hv
  subst hv
  refine wU 14 true I (by simp) (Aa (zE (zR I (zA (zB (wP I (wP I ?_)))))))
  refine wJ ?_
  refine wL 0 I I (fun W hp=>r1.hp hp) I ?_
  refine wD (X:=NV×NV) I I (fun W' hp=>by have h:=Nc W' p cap a b (hA.hp hp) (by omega) hb0 hvb;rw[hK] at h;exact h) ?_
  rintro⟨x,y⟩ ⟨h1,h2⟩
  exact wP I (wP I (wP I (wP I (Aa (zE (zO (zP (A7 tH I (.tmp I) (.tmp I) (x,y) I ⟨h1,h2⟩ fun W hp=>Ap.of_hp hp))))))))
 obtain⟨m,rfl⟩: ∃m,n=m+2:=⟨n-2,by omega⟩
 refine wU 14 false I (by rw[beq_eq_false_iff_ne];omega) (Aa ?_)
 obtain⟨bq,oq,rfl,rq⟩:=hB.row (show 0<(lbs br b).length by omega)
 obtain⟨u1,hu1⟩: ∃v,lim (lbs br b) (m+1)=v:=⟨_,rfl⟩
 obtain⟨u0,hu0⟩: ∃v,lim (lbs br b) m=v:=⟨_,rfl⟩
 have rq1:=rq (m+1) (by omega)
 have rq0:=rq m (by omega)
 rw[hu1] at rq1
 rw[hu0] at rq0
 have hu1b:u1<1000000:=by rw[←hu1];exact Bf br2 hlb _
 have hu0b:u0<1000000:=by rw[←hu0];exact Bf br2 hlb _
 rw[Bh br2] at hu1 hu0
 have ht2:=W5 hbl
 rw[hu1,hu0] at ht2
 have ht2:u1*1000000+u0=b/br^m:=ht2
 obtain⟨tp,htp⟩: ∃tp,tp=b/br^m:=⟨_,rfl⟩
 have hpm:0<br^m:=Nat.pow_pos (by decide)
 refine zE (zS I (zI (zE (zA (zB (wP I (wP I (wP I (Aa (zE (zA (zU (qP I (qP I (qP I ?_)))))))))))))))
 refine qV 26 ((m+1:Nat):Int) I (by show w64 (((m+2:Nat):Int)-1)=_;rw[A0 (by omega) (by omega)];omega) ?_
 refine qJ ?_
 refine qL 0 I I (fun W hp=>rq1.hp hp) I (qP I (qP I (qP I (qP I (qV 32 (m:Nat) I (by show w64 (((m+2:Nat):Int)-2)=_;rw[A0 (by omega) (by omega)];omega) ?_)))))
 refine qJ ?_
 refine qL 0 I I (fun W hp=>rq0.hp hp) I (qP I (qV 35 (tp:Nat) I (by show w64 (w64 ((u1:Int)*((1000000:Nat):Int))+u0)=_;rw[Cw (by omega),AO (by omega),htp,ht2]) (qP I (AS (Aa (zE (zA (zB (wP I (wP I ?_))))))))))
 refine Ce Tryz.vec130 K I I I I I I I (by simp only[maxLen];omega) (by omega) ?_
 intro g
 have ez:CR (Value.cells (.int .i64 0)).toList K=nI (List.replicate K 0)++[]:=by rw[List.append_nil];exact Fm K
 rw[ez]
 refine wP I (Aa (zE (zA (zB ?_))))
 refine BF tH I I I I I ?_
 intro gr
 refine wP I (Aa (zE (zA (zA (zB (wP I (wP I (wP I (wV 42 ((K:Int)-1) I (A0 (by omega) (by omega)) (wP I (Aa (zE (zH ?_)))))))))))))
 have e0:lbs br 0=[]:=AZ
 refine A9 (X:=Nat×List Nat×Nat×Nat×NV) (fun x=>[(0,slv p K cap),(1,slv (some ⟨bq,oq,none⟩) (m+2) cap2),(6, .int .i64 ((m+2:Nat):Int)),(7, .int .i64 (tp:Nat)),(8,slv (some ⟨g,0,none⟩) K K),(9,B3 x.2.2.2.2 (lbs br x.2.2.2.1).length),(10, .int .i64 ((x.1:Nat)-1:Int))]) (fun x=>[⟨g,3,nI x.2.1++[],true,none⟩,BH x.2.2.2.2 (lbs br x.2.2.2.1)])
  (fun x=>(x.1≤K∧x.2.1.length=K∧(∀y∈x.2.1,y<br)∧lv br x.2.1=br^x.1*x.2.2.1∧a/br^x.1=x.2.2.1*b+x.2.2.2.1∧x.2.2.2.1<b)∧Cv x.2.2.2.2 (lbs br x.2.2.2.1)) (fun x=>x.1) (K,List.replicate K 0,0,0,(gr,0,[])) ⟨⟨Nat.le_refl _,List.length_replicate,GT (by decide) K,by rw[E4];show 0=br^K*0;rw[Nat.mul_zero],by show a/br^K=0*b+0;rw[Nat.div_eq_of_lt hal];omega,hb0⟩,by show Cv _ (lbs br 0);rw[e0];exact⟨rfl,(fun h=>by cases h),fun _=>⟨Nat.le_refl _,Nat.zero_le _,rfl⟩⟩⟩ ⟨rfl,rfl,rfl,rfl,rfl,by show _=some (slv _ (lbs br 0).length 0);rw[e0];rfl,rfl,trivial⟩ [] (by show _=[_,BH _ (lbs br 0)]++[];rw[e0];rfl) ?_
 rintro⟨k,l,qh,rs,x⟩ ⟨⟨hk,hl,hllt,hlv,hq,hr⟩,hx⟩
 have hk:k≤K:=hk
 have hl:l.length=K:=hl
 have hlv:lv br l=br^k*qh:=hlv
 have hq:a/br^k=qh*b+rs:=hq
 have hr:rs<b:=hr
 have hx:Cv x (lbs br rs):=hx
 refine zA (zA (zB (wP I (wP I ?_))))
 cases k with
 |zero=>
  have hq:a=qh*b+rs:=by simpa using hq
  have hlv:lv br l=qh:=by rw[hlv];simp
  obtain⟨eq1,eq2⟩:=Mo hq hr
  refine wU 44 false I (dF (by show¬(((0:Nat):Int)-1≥0);omega)) (Aa (zE (zS I (zJ (zK (zK (zL (zE (zA (zB ?_))))))))))
  have hV0:(⟨some g,K,[]⟩:Vec).OK 1 l.length (nI l):=⟨Er _,(fun h=>by cases h),fun _=>⟨by show _≤K;omega,by show K≤maxLen;simp only[maxLen];omega,by show(nI l).length+0=K*1;rw[BC];omega⟩⟩
  obtain⟨j1,hV1,he1⟩:=DK hV0 hllt
  refine wP I ?_
  refine Ah 92 (slv (some ⟨g,0,none⟩) l.length K) I (by rw[hl]) ?_
  refine wC I I (fun W hp=>CA W _ K _ (Az.of_bx hp 0 I) hllt (by omega) (by omega)) (wP I (wP I (wP I (Aa (zE (zO ?_))))))
  rw[hlv, ←eq1] at hV1 he1
  rw[←eq2] at hx
  exact A7 tH I (.tmp I) (.tmp I) (((g,K,j1):NV),x) (by rw[hlv, ←eq1, ←eq2]) ⟨hV1,hx⟩ fun W hp=>Ap.of_hp (hp.pick (l:=[BH (g,K,j1) (lbs br (a/b)),BH x (lbs br (a%b))]) [0,1] (by decide) (by
   show some [(⟨g,3,nI l++[],true,none⟩:Bx),BH x (lbs br rs)]=some [⟨g,3,nI (lbs br (a/b))++j1,true,none⟩,BH x (lbs br (a%b))]
   rw[he1,eq2]))
 |succ k=>
  have hq:a/br^(k+1)=qh*b+rs:=hq
  have hi:k<l.length:=by rw[hl];omega
  obtain⟨b1,o1,rfl,r1⟩:=hA.row (show k<(lbs br a).length by omega)
  have r1:=r1 k (by omega)
  obtain⟨v,hv⟩: ∃v,lim (lbs br a) k=v:=⟨_,rfl⟩
  rw[hv] at r1
  have hvb:v<br:=by rw[←hv];exact Bf br2 hla _
  have hvb':v<1000000:=hvb
  have hve:v=a/br^k%br:=by rw[←hv];exact Bh br2 a _
  obtain⟨w,hw⟩: ∃w,w=v+rs*br:=⟨_,rfl⟩
  have hlw:lv br (v::lbs br rs)=w:=by rw[Sx hvb,hw,Nat.add_comm]
  have hrsb:=hr
  have hwlt:w<br*b:=by
   have:(rs+1)*br≤b*br:=Nat.mul_le_mul_right _ hr
   rw[Nat.add_mul,Nat.one_mul] at this
   rw[hw,Nat.mul_comm br b];omega
  have hwlt3:w<br^(m+3):=by
   have h1:br*b<br*br^(m+2):=Nat.mul_lt_mul_of_pos_left hbl (by decide)
   rw[show br^(m+3)=br*br^(m+2) by rw[Nat.pow_succ,Nat.mul_comm]];omega
  have hwb:w/b<br:=Nat.div_lt_of_lt_mul (by rw[Nat.mul_comm];exact hwlt)
  have hs:=HT (B:=br) (d:=b) (q:=qh) (r:=rs) (i:=k) hq (n:=w) (by rw[hw,hve])
  have hzero:l[k]? =some 0:=by
   rw[Du hi,C2 br2 _ hllt,hlv,Nat.pow_succ,Nat.mul_assoc,Nat.mul_div_cancel_left _ (Nat.pow_pos (by decide)),Nat.mul_mod_right]
  have hset:=Hl (B:=br) (w/b) hzero
  rw[Nat.mul_zero,Nat.add_zero,hlv,Nat.pow_succ,Nat.mul_assoc, ←Nat.mul_add] at hset
  have hrl:(lbs br rs).length≤m+2:=(BR br2).2 (by omega)
  have hwl:(lbs br w).length≤m+3:=(BR br2).2 hwlt3
  refine wU 44 true I (dT (by show(((k+1:Nat):Int)-1≥0);omega)) (Aa (zE (zR I (zI (zE (zA (zH (zA (zB (wP I (wP I (wV 48 (k:Nat) I (by show((k+1:Nat):Int)-1=_;omega) ?_))))))))))))
  refine wJ ?_
  refine wL 0 I I (fun W hp=>r1.hp hp) I ?_
  refine A8 Tryz.hZ tH I I I I I I I I I I I fun bN=> ?_
  refine wP I ?_
  refine Bt (len:=1) (V:=⟨some bN,1,[]⟩) (xs:=nI [v]) (news:=nI (lbs br rs)) 2 Tryz.vec130 rfl rfl rfl rfl rfl rfl rfl rfl rfl ⟨rfl,(fun h=>by cases h),fun _=>⟨Nat.le_refl _,(by show 1≤maxLen;decide),rfl⟩⟩ (Er _) (fun W' hp j u hj=> ?_) (fun u hu=> ?_) (by dsimp only;simp only[maxLen];omega) (by dsimp only;omega) ?_
  ·have hrow:=Aj.of_bx hp 1 rfl rfl
   have:=hrow.get j u (by show(nI (lbs br rs)++x.2.2)[j]? =_;rw[List.getElem?_append_left (List.getElem?_eq_some_iff.1 hj).1];exact hj)
   rw[Addr.add_none]
   exact this
  ·obtain⟨z,_,rfl⟩:=List.mem_map.1 hu;rfl
  intro V' hV' hV0
  obtain⟨pv,cv,jv⟩:=V'
  cases pv with
  |none=>have:=hV'.nil rfl;omega
  |some gv=>
  have ecat:nI [v]++nI (lbs br rs)=nI (v::lbs br rs):=rfl
  rw[ecat] at hV'⊢
  have hV':(⟨some gv,cv,jv⟩:Vec).OK 1 (v::lbs br rs).length (nI (v::lbs br rs)):=by rw[List.length_cons,Nat.add_comm];exact hV'
  have hclt: ∀y∈v::lbs br rs,y<br:=fun y hy=>by
   rcases List.mem_cons.1 hy with rfl|hy
   ·exact hvb
   ·exact Bl br2 rs y hy
  obtain⟨jw,hVw,hew⟩:=DK hV' hclt
  rw[hlw] at hVw hew
  refine Ah 53 (slv (some ⟨gv,0,none⟩) (v::lbs br rs).length cv) I (by show slv _ (1+_) _=_;rw[List.length_cons,Nat.add_comm]) ?_
  refine wC I I (fun W hp=>(CA W (some ⟨gv,0,none⟩) cv _ (Az.of_bx hp 2 I) hclt (by have:=(hV'.cap (by simp)).1;exact this) (by rw[List.length_cons];omega)).cast (v':=slv (some ⟨gv,0,none⟩) (lbs br w).length cv) (by rw[hlw])) (wP I (Aa ?_))
  obtain⟨l2,hl2⟩: ∃v,lim (lbs br w) (m+2)=v:=⟨_,rfl⟩
  obtain⟨l1,hl1⟩: ∃v,lim (lbs br w) (m+1)=v:=⟨_,rfl⟩
  obtain⟨l0,hl0⟩: ∃v,lim (lbs br w) m=v:=⟨_,rfl⟩
  have hl2b:l2<1000000:=by rw[←hl2];exact Bf br2 (Bl br2 w) _
  have hl1b:l1<1000000:=by rw[←hl1];exact Bf br2 (Bl br2 w) _
  have hl0b:l0<1000000:=by rw[←hl0];exact Bf br2 (Bl br2 w) _
  have ht3:=Wz hwlt3
  rw[←Bh br2, ←Bh br2, ←Bh br2,hl2,hl1,hl0] at ht3
  have ht3:(l2*1000000+l1)*1000000+l0=w/br^m:=ht3
  obtain⟨e,he⟩: ∃e,e=w/br^m/(b/br^m+1):=⟨_,rfl⟩
  have hest:=Vl he hpm
  have heb:e≤w/b:=(Nat.le_div_iff_mul_le hb0).2 hest
  have hebr:e<1000000:=Nat.lt_of_le_of_lt heb hwb
  have htpb:tp<1000000000000:=by rw[htp, ←ht2];omega
  have hlW: ∀ {W1:World} {bxs:List Bx},Hp W bxs W1→nth bxs 2=some (⟨gv,3,nI (v::lbs br rs)++jv,true,none⟩:Bx)→Az W1 (some ⟨gv,0,none⟩) (lbs br w):=fun hp h2=>by rw[hew] at h2;exact Az.of_bx hp 2 h2
  refine zE (zA (zB (wP I (wP I (wC I I (fun W' hp=>Da W' (some ⟨gv,0,none⟩) cv _ (lbs br w) (m+2) l2 (hlW hp I) I (by omega) hl2) (wP I (wP I (wP I (wP I (wV 61 ((m+1:Nat):Int) I (by show w64 (((m+2:Nat):Int)-1)=_;rw[A0 (by omega) (by omega)];omega) (wC I I (fun W' hp=>Da W' (some ⟨gv,0,none⟩) cv _ (lbs br w) (m+1) l1 (hlW hp I) I (by omega) hl1) ?_)))))))))))
  iterate 5 refine wP I ?_
  refine wV 67 (m:Nat) I (by show w64 (((m+2:Nat):Int)-2)=_;rw[A0 (by omega) (by omega)];omega) (wC I I (fun W' hp=>Da W' (some ⟨gv,0,none⟩) cv _ (lbs br w) m l0 (hlW hp I) I (by omega) hl0) (wP I (wV 69 ((w/br^m:Nat):Int) I (by show w64 (w64 (w64 (w64 ((l2:Int)*((1000000:Nat):Int))+l1)*((1000000:Nat):Int))+l0)=_;rw[Cw (by omega),AO (by omega),Cw (by omega),AO (by omega),ht3]) (wP I (wP I (wV 71 ((tp+1:Nat):Int) I (Ax (by omega)) ?_))))))
  refine DD I I I I I (by omega) ?_
  refine wV 72 (e:Nat) I (by rw[he, ←htp];exact BG (by rw[←htp] at he;rw[←he];omega)) (wP I (Aa (zE (zA (zB (wP I (wP I (wP I ?_))))))))
  refine A8 Tryz.hZ tH I I I I I I I I I I I fun bE=> ?_
  refine wD (X:=NV) I I (fun W' hp=>by
   have h:=HG W' (some ⟨bq,oq,none⟩) (some ⟨bE,0,none⟩) cap2 1 b [e] (fun y hy=>by obtain rfl:=List.mem_singleton.1 hy;exact hebr) (hB.hp hp) (Az.of_bx (junk:=[]) hp 3 rfl) (by omega) (by show 1≤1000000;decide)
   rw[hn,Nu] at h
   exact h) ?_
  intro xt hxt
  refine wD (X:=NV) I I (fun W' hp=>EP W' (some ⟨gv,0,none⟩) (some ⟨xt.1,0,none⟩) cv xt.2.1 w (b*e) (by rw[Nat.mul_comm];exact hest) (hlW hp I) (Az.of_bx hp 4 I) (by omega)) ?_
  intro x1 hx1
  refine wP I (Aa (AH ?_))
  try refine Ar ?_
  refine AC (X:=NV) (fun x2=>[(0,slv (some ⟨b1,o1,none⟩) K cap),(1,slv (some ⟨bq,oq,none⟩) (m+2) cap2),(6, .int .i64 ((m+2:Nat):Int)),(7, .int .i64 (tp:Nat)),(8,slv (some ⟨g,0,none⟩) K K),(9,B3 x2 (lbs br (w%b)).length),(10, .int .i64 (k:Nat)),(11, .int .i64 ((w/b:Nat):Int))]) (fun x2=>[⟨g,3,nI l++[],true,none⟩,BH x2 (lbs br (w%b))]) (fun x2=>Cv x2 (lbs br (w%b))) ?_ ?_
  ·refine zH ?_
   refine Fh (X:=Nat×Nat×NV) (fun y=>[(0,slv (some ⟨b1,o1,none⟩) K cap),(1,slv (some ⟨bq,oq,none⟩) (m+2) cap2),(6, .int .i64 ((m+2:Nat):Int)),(7, .int .i64 (tp:Nat)),(8,slv (some ⟨g,0,none⟩) K K),(9,B3 y.2.2 (lbs br y.2.1).length),(10, .int .i64 (k:Nat)),(11, .int .i64 (y.1:Nat))]) (fun y=>Hp W [⟨g,3,nI l++[],true,none⟩,BH y.2.2 (lbs br y.2.1)]) (fun y=>w=y.1*b+y.2.1∧Cv y.2.2 (lbs br y.2.1)) (fun y=>y.2.1) (e,w-b*e,x1) ⟨by show w=e*b+(w-b*e);rw[Nat.mul_comm b e];omega,hx1⟩ ⟨I,I,I,I,I,I,congrArg (fun z=>some (Value.int .i64 z)) (by show((k+1:Nat):Int)-1=(k:Nat);omega),I,tO⟩ (fun W hp=>hp.pick [0,5] (by decide) I) ?_
   rintro⟨e1,w1,x2⟩ ⟨hw1,hx2⟩
   have hw1:w=e1*b+w1:=hw1
   have hx2:Cv x2 (lbs br w1):=hx2
   have hw1l:(lbs br w1).length≤m+3:=(BR br2).2 (by omega)
   refine zA (zA (zB (wP I (wP I ?_))))
   refine wC I I (fun W' hp=>by
    have h:=Jz W' (some ⟨x2.1,0,none⟩) (some ⟨bq,oq,none⟩) x2.2.1 cap2 w1 b (Az.of_bx hp 1 rfl) (hB.hp hp) (by omega) (by omega)
    rw[hn] at h
    exact h) ?_
   refine wP I ?_
   by_cases hge:b≤w1
   ·have hc:0≤Lc w1 b:=by unfold Lc;rw[if_neg (by omega)];split<;>decide
    have he1:e1<w/b:=by
     have h1:(e1+1)*b≤w:=by rw[Nat.add_mul,Nat.one_mul];omega
     have:=(Nat.le_div_iff_mul_le hb0).2 h1
     omega
    have he1b:e1<1000000:=Nat.lt_trans he1 hwb
    refine wU 82 true I (dT hc) (Aa (zE (zR I (zI (zE (zH (zA (zB (wP I (wP I ?_))))))))))
    refine wD (X:=NV) I I (fun W' hp=>by
     have h:=EP W' (some ⟨x2.1,0,none⟩) (some ⟨bq,oq,none⟩) x2.2.1 cap2 w1 b hge (Az.of_bx hp 1 rfl) (hB.hp hp) (by omega)
     rw[hn] at h
     exact h) ?_
    intro x3 hx3
    exact wP I (Aa (zE (zB (wP I (wP I (wV 87 ((e1+1:Nat):Int) I (Ax (by omega)) (wP I (Aa (zN (Fc (e1+1,w1-b,x3) ⟨by show w=(e1+1)*b+(w1-b);rw[Nat.add_mul,Nat.one_mul];omega,hx3⟩ (by show w1-b<w1;omega) ⟨I,I,I,I,I,I,I,I,tO⟩ (fun W hp=>hp.pick [0,2] (by decide) I)))))))))))
   ·have hc: ¬(0:Int)≤Lc w1 b:=by unfold Lc;rw[if_pos (by omega)];decide
    obtain⟨d1,d2⟩:=Mo hw1 (show w1<b by omega)
    exact wU 82 false I (dF hc) (Aa (zE (zS I (zJ (zK (zK (zL (An x2 (by show Cv x2 (lbs br (w%b));rw[d2];exact hx2) ⟨I,I,I,I,I,by rw[d2];rfl,I,by rw[d1];rfl,tO⟩ [] (by rw[d2];rfl)))))))))
  intro x2 hx2
  have hx2:Cv x2 (lbs br (w%b)):=hx2
  refine zB (wP I (wP I (wP I ?_)))
  refine wJ ?_
  refine AJ 0 (nI (l.set k (w/b))++[]) tH I I I I I I I I I I (by show 0+k*1+1≤(nI l++[]).length;rw[List.append_nil,BC];omega) (C4 hi (w/b)) ?_
  exact Aa (zN (zE (zB (wP I (wP I (wV 46 ((k:Nat)-1:Int) I (A0 (by omega) (by omega)) (wP I (Aa (A4 (k,l.set k (w/b),qh*br+w/b,w%b,x2) ⟨⟨by show k≤K;omega,by rw[List.length_set];exact hl,CH hllt hwb,by show lv br (l.set k (w/b))=br^k*(qh*br+w/b);rw[hset,Nat.mul_comm qh],by show a/br^k=_;exact hs,Nat.mod_lt _ hb0⟩,hx2⟩ (by show k<k+1;omega) ⟨I,I,I,I,I,I,I,tO⟩ [] I)))))))))
-- BOXES 6
-- CODE2
theorem RK (x y:Int):Nat.gcd y.natAbs (x.tmod y).natAbs=Nat.gcd x.natAbs y.natAbs:=by
 rw[Int.natAbs_tmod,Nat.gcd_comm, ←Nat.gcd_rec,Nat.gcd_comm]
theorem L7 (a b:Int) (ha:(decDigits a.natAbs).length≤300) (hb:(decDigits b.natAbs).length≤300) (W:World) (ht:AI W):
  Ai Tryz.prog 86 #[str (itoa a),str (itoa b)] W (fun _:Unit=> .tuple #[str (itoa ((Nat.gcd a.natAbs b.natAbs:Nat):Int)), .int .i64 0]) (fun _=>True) (fun _=>[]):=by
 have la:=Cn (m:=a.natAbs) (by omega)
 have lb:=Cn (m:=b.natAbs) (by omega)
 refine Ac (args:=[str (itoa a),str (itoa b)]) Tryz.func86 I I I ?_
 refine zA (zB (wP I (wP I (Aa (zE (zA (zA (zB (wP I (wP I (wC I I (fun W _=>CX a b ha hb W) (wP I (Aa ?_)))))))))))))
 refine zE (zA (zB (wP I (wP I (Aa (zE (zS I (zI (zE (zA (zA (zB ?_))))))))))))
 cases hs:smI a&&smI b with
 |true=>
  obtain⟨h1,h2⟩:=Bool.and_eq_true_iff.1 hs
  have b1:=Hq h1
  have b2:=Hq h2
  refine wP I (wP I (wC I I (fun W _=>G0 hs W) ?_))
  iterate 7 refine wP I ?_
  refine Aa (zE (zA (zB (wP I (Aa (zE (zR I (zA (zH ?_)))))))))
  refine A9 (X:=Int×Int) (fun x=>[(7, .int .i64 x.1),(8, .int .i64 x.2)]) (fun _=>[]) (fun x=>x.1.natAbs<100000000000000000∧x.2.natAbs<100000000000000000∧Nat.gcd x.1.natAbs x.2.natAbs=Nat.gcd a.natAbs b.natAbs) (fun x=>x.2.natAbs) (a,b) ⟨b1,b2,I⟩ ⟨I,I,tO⟩ [] I ?_
  rintro⟨x,y⟩ ⟨hx,hy,hg⟩
  have hx:x.natAbs<100000000000000000:=hx
  have hy:y.natAbs<100000000000000000:=hy
  have hg:Nat.gcd x.natAbs y.natAbs=Nat.gcd a.natAbs b.natAbs:=hg
  refine zA (zA (zB (wP I (wP I ?_))))
  by_cases h0:y=0
  ·refine wU 29 false I (by rw[bne_eq_false_iff_eq];exact h0) (Aa (zE (zS I (zJ (zK (zK (zL (zE (zA (zB (wP I (wP I (wP I ?_)))))))))))))
   refine wV 36 (-x) I (show w64 (0-x)=_ by rw[A0 (by omega) (by omega)];omega) (wP I ?_)
   refine Ah 37 (.int .i64 ((Nat.gcd a.natAbs b.natAbs:Nat):Int)) I (congrArg (Value.int .i64) (by
    rw[←hg,h0,Int.natAbs_zero,Nat.gcd_zero_right]
    show(if -x>x then -x else x)=_;split<;>omega)) ?_
   have hgl:Nat.gcd a.natAbs b.natAbs<100000000000000000:=by rw[←hg,h0,Int.natAbs_zero,Nat.gcd_zero_right];exact hx
   exact wC I I (fun W hp=>Bu ((Nat.gcd a.natAbs b.natAbs:Nat):Int) (by omega) (by omega) W (ht.hp hp)) (wP I (wP I (Aa (zE (zO (zP (wR2 I I I)))))))
  ·refine wU 29 true I (by rw[bne_iff_ne];exact h0) (Aa (zE (zR I (zI (zE (zH (zU (qP I (qP I (qP I ?_))))))))))
   refine Dv I I I I I h0 ?_
   refine qP I (qP I (AS (Aa (zN ?_))))
   have hr:(x.tmod y).natAbs<y.natAbs:=by rw[Int.natAbs_tmod];exact Nat.mod_lt _ (by omega)
   exact A4 (y,x.tmod y) ⟨hy,Nat.lt_trans hr hy,by show Nat.gcd y.natAbs (x.tmod y).natAbs=_;rw[RK];exact hg⟩ hr ⟨I,I,tO⟩ [] I
 |false=>
  obtain⟨x0,y0,h2⟩:=G6 hs ha hb
  refine wP I (wP I (wC I I (fun W _=>h2 W) ?_))
  iterate 7 refine wP I ?_
  refine Aa (zE (zA (zB (wP I (Aa (zE (zS I (zI (zE (zA (zB (wP I ?_))))))))))))
  refine wD (X:=NV) I I (fun W' _=>Bb a (by omega) W') ?_
  intro x hx
  refine wP I (wP I ?_)
  refine wD (X:=NV) I I (fun W' _=>Bb b (by omega) W') ?_
  intro y hy
  refine wP I (wP I (wP I (Aa (zE (zA (zH ?_))))))
  refine Fh (X:=(Nat×NV)×(Nat×NV)) (fun s=>[(10,B3 s.1.2 (lbs br s.1.1).length),(11,B3 s.2.2 (lbs br s.2.1).length)]) (fun s=>Hp W [BH s.1.2 (lbs br s.1.1),BH s.2.2 (lbs br s.2.1)]) (fun s=>Nat.gcd s.1.1 s.2.1=Nat.gcd a.natAbs b.natAbs∧(lbs br s.1.1).length≤101∧(lbs br s.2.1).length≤101) (fun s=>s.2.1) ((a.natAbs,x),(b.natAbs,y)) ⟨I,la,lb⟩ ⟨I,I,tO⟩ (fun W hp=>hp) ?_
  rintro⟨⟨u,x⟩,⟨v,y⟩⟩ ⟨hg,hu,hv⟩
  have hg:Nat.gcd u v=Nat.gcd a.natAbs b.natAbs:=hg
  have hu:(lbs br u).length≤101:=hu
  have hv:(lbs br v).length≤101:=hv
  refine zA (zA (zB (wP I (wP I (wP I ?_)))))
  by_cases h0:v=0
  ·have e1:Nat.gcd a.natAbs b.natAbs=u:=by rw[←hg,h0,Nat.gcd_zero_right]
   have key: ∀e k,e=6*k→0<e→(lbs br u).length≤k→(decDigits u).length≤e:=fun e k he h0e hk=>by
    refine D9 e u (by omega) ?_
    have:=AK br2 u
    refine Nat.lt_of_lt_of_le this ?_
    rw[IY];exact Nat.pow_le_pow_right (by decide) (by omega)
   have hul:=key 606 101 rfl (by decide) hu
   refine wU 47 false I (dF (by rw[h0,AZ];decide)) (Aa (zE (zS I (zJ (zK (zK (zL (zE (zA (zB (wP I ?_)))))))))))
   refine Ay Tryz.hZ tH I I I I I I I I ?_
   refine Ah 57 (IT ((u:Nat):Int) (some ⟨x.1,0,none⟩) x.2.1) I (by unfold IT;rw[dF (show¬((u:Nat):Int)<0 by omega),Int.natAbs_natCast];rfl) ?_
   exact wC I I (fun W' hp=>EN ((u:Nat):Int) (by rw[Int.natAbs_natCast];exact hul) W' (some ⟨x.1,0,none⟩) x.2.1 (by rw[Int.natAbs_natCast];exact Az.of_bx hp 0 I)) (wP I (wP I (Aa (zE (zO (wR2 I I (by rw[e1])))))))
  ·have hL:(lbs br v).length≠0:=fun e=>h0 ((Do br2).1 (List.length_eq_zero_iff.1 e))
   have hr:u%v<v:=Nat.mod_lt _ (by omega)
   refine wU 47 true I (dT (by show(((lbs br v).length:Nat):Int)>0;omega)) (Aa (zE (zR I (zI (zE (zH (zA (zB (wP I (wP I ?_))))))))))
   refine wD (X:=NV×NV) I I (fun W' hp=>HJ W' (some ⟨x.1,0,none⟩) (some ⟨y.1,0,none⟩) x.2.1 y.2.1 u v (by omega) (Az.of_bx hp 0 I) (Az.of_bx hp 1 I) (by omega) (by omega)) ?_
   rintro⟨q,w⟩ ⟨hq,hw⟩
   iterate 5 refine wP I ?_
   exact Aa (zE (zB (wP I (wP I (wP I (wP I (Aa (zN (Fc ((v,y),(u%v,w)) ⟨by show Nat.gcd v (u%v)=_;rw[Nat.gcd_comm, ←Nat.gcd_rec,Nat.gcd_comm];exact hg,hv,by show(lbs br (u%v)).length≤101;exact Nat.le_trans ((BR br2).2 (Nat.lt_trans hr (AK br2 v))) hv⟩ hr ⟨I,I,tO⟩ (fun W hp=>hp.pick [1,3] (by decide) I))))))))))
-- BOXES 4
def Ha (W:World) (p:Option Addr) (l:List (List UInt8)):Prop:=l=[]∨ ∃b off,p=some ⟨b,off,none⟩∧Aj W b off (l.map str)
theorem Ha.below {W W':World} {p:Option Addr} {l:List (List UInt8)} {n:Nat} (h:Ha W p l) (hn:W.heap.size≤n) (hb:Below n W W'):Ha W' p l:=by
 rcases h with h|⟨b,off,h1,h2⟩
 ·exact .inl h
 ·exact .inr ⟨b,off,h1,h2.below hn hb⟩
theorem Ha.hp {W0 W:World} {bxs:List Bx} {p:Option Addr} {l:List (List UInt8)} (h:Ha W0 p l) (hp:Hp W0 bxs W):Ha W p l:=h.below (Nat.le_refl _) hp.below
theorem Ha.row {W:World} {p:Option Addr} {l:List (List UInt8)} (h:Ha W p l) {i:Nat} (hi:i<l.length): ∃b off,p=some ⟨b,off,none⟩∧ ∀k (hk:k<l.length),Aj W b (off+k*1) [str l[k]]:=by
 rcases h with rfl|⟨b,off,h1,h2⟩
 ·exact absurd hi (Nat.not_lt_zero _)
 ·refine⟨b,off,h1,fun k hk=>⟨h2.lt,fun j u hu=> ?_⟩⟩
  have hj:j=0:=by have:=(List.getElem?_eq_some_iff.1 hu).1;simpa using this
  subst hj
  have:=h2.get k (str l[k]) (by rw[List.getElem?_map,List.getElem?_eq_getElem hk];rfl)
  rw[Nat.mul_one,Nat.add_zero,this]
  simpa using hu
theorem Gz (n:Nat):itoa (n:Int)=decDigits n:=by
 unfold itoa;rw[if_neg (by omega)];rfl
abbrev q2 (n:Int) (d:Nat) (h:d≠0:=by decide) (hc:n.natAbs.Coprime d:=by decide):Rat:=⟨n,d,h,hc⟩
theorem dd1 (n:Nat) (h:n<10):decDigits n=[UInt8.ofNat (48+n)]:=by rw[decDigits,dif_pos h]
theorem ns2:Ad (q2 2 1)=[50]:=by rw[Ad,Fu,if_pos rfl];exact(Gz 2).trans (dd1 2 (by decide))
theorem ns3:Ad (q2 3 1)=[51]:=by rw[Ad,Fu,if_pos rfl];exact(Gz 3).trans (dd1 3 (by decide))
-- BOXES 2
-- CODE2
theorem Sn (a:List UInt8):cut a [47]=(if hasPrefix a [45]=true then 45::(cut (trimPrefix a [45]) [47]).1 else(cut (trimPrefix a [45]) [47]).1,(cut (trimPrefix a [45]) [47]).2):=by
 rw[Bv,AU]
 by_cases h:a[0]? =some 45
 ·rw[if_pos h,if_pos (dT h)]
  obtain⟨t,rfl⟩: ∃t,a=45::t:=by
   cases a with
   |nil=>cases h
   |cons b t=>
    have e:b=45:=by simpa using h
    exact⟨t,by rw[e]⟩
  show cut (45::t) [47]=(45::(cut t [47]).1,(cut t [47]).2)
  rcases Gh 47 t with h1|⟨x,y,rfl,h1⟩
  ·rw[E2 h1,E2 (show(47:UInt8)∉45::t from fun h=>by
    rcases List.mem_cons.1 h with h|h
    ·cases h
    ·exact h1 h)]
  ·rw[FI y h1,show 45::(x++47::y)=(45::x)++47::y from rfl,FI y (show(47:UInt8)∉45::x from fun h=>by
    rcases List.mem_cons.1 h with h|h
    ·cases h
    ·exact h1 h)]
 ·rw[if_neg h,if_neg (by rw[dF h];decide)]
theorem Ux {a:List UInt8} {c:UInt8} (h:(cut a [47]).1[0]? =some c):a[0]? =some c:=by
 rcases Gh 47 a with h1|⟨x,y,rfl,h1⟩
 ·rwa [E2 h1] at h
 ·rw[FI y h1] at h
  cases x with
  |nil=>cases h
  |cons b t=>exact h
theorem RW {m:Bool} {n:List UInt8} (h:m=false→n[0]? ≠some 45):FS (if m=true then 45::n else n)=if dgB n=true∧ ¬(m=true∧n=[48]) then some (if m=true then -(AN n:Int) else AN n) else none:=by
 have hd:dgB n=true↔(ldn n=n.length∧n≠[]∧(1<n.length→n[0]? ≠some 48)):=by
  rw[Gs];exact⟨Kd,Is⟩
 have key: ∀(x:List UInt8),hasPrefix x [45]=m→trimPrefix x [45]=n→FS x=if dgB n=true∧ ¬(m=true∧n=[48]) then some (if m=true then -(AN n:Int) else AN n) else none:=fun x h1 h2=>by
  unfold FS
  rw[h1,h2]
  by_cases hc:dgB n=true∧ ¬(m=true∧n=[48])
  ·rw[if_pos hc]
   obtain⟨c1,c2,c3⟩:=hd.1 hc.1
   rw[if_pos ⟨c1,c2,c3,hc.2⟩]
  ·rw[if_neg hc,if_neg fun h4=>hc ⟨hd.2 ⟨h4.1,h4.2.1,h4.2.2.1⟩,h4.2.2.2⟩]
 cases m with
 |true=>
  refine key _ ?_ ?_
  ·rw[if_pos rfl,Bv];rfl
  ·rw[if_pos rfl,AU];rfl
 |false=>
  have h0:=h rfl
  refine key _ ?_ ?_
  ·rw[if_neg (by decide),Bv,dF h0]
  ·rw[if_neg (by decide),AU,if_neg h0]
def LS (m:Bool) (n d:List UInt8) (sl:Bool):Bool:= !dgB n||(sl&&(!dgB d||decide (d=[48])||decide (d=[49])))||(m&&decide (n=[48]))
theorem Up (a:List UInt8):frm a=if LS (hasPrefix a [45]) (cut (trimPrefix a [45]) [47]).1 (cut (trimPrefix a [45]) [47]).2.1 (cut (trimPrefix a [45]) [47]).2.2=true then none
  else some (if hasPrefix a [45]=true then -(AN (cut (trimPrefix a [45]) [47]).1:Int) else AN (cut (trimPrefix a [45]) [47]).1,if (cut (trimPrefix a [45]) [47]).2.2=true then AN (cut (trimPrefix a [45]) [47]).2.1 else 1):=by
 have h1:=Sn a
 have h2:hasPrefix a [45]=false→(cut (trimPrefix a [45]) [47]).1[0]? ≠some 45:=fun hm hc=>by
  have h3:=Ux hc
  rw[Bv] at hm
  have hm:=of_decide_eq_false hm
  rw[AU,if_neg hm] at h3
  exact hm h3
 have h3:=RW h2
 unfold frm
 generalize hasPrefix a [45]=m at*
 generalize cut (trimPrefix a [45]) [47]=c at*
 obtain⟨n,d,sl⟩:=c
 rw[h1]
 simp only at h3⊢
 rw[h3]
 have hd:dgB d=true↔(ldn d=d.length∧d≠[]∧(1<d.length→d[0]? ≠some 48)):=by
  rw[Gs];exact⟨Kd,Is⟩
 by_cases hc:dgB n=true∧ ¬(m=true∧n=[48])
 ·rw[if_pos hc]
  have e1:LS m n d sl=(sl&&(!dgB d||decide (d=[48])||decide (d=[49]))):=by
   unfold LS
   rw[hc.1]
   have:(m&&decide (n=[48]))=false:=by
    by_cases hm:m=true
    ·rw[hm,dF fun h=>hc.2 ⟨hm,h⟩];rfl
    ·rw[show m=false by simpa using hm];rfl
   rw[this,Bool.or_false];rfl
  rw[e1]
  simp only
  cases sl with
  |false=>rfl
  |true=>
   simp only[Bool.true_eq_false,if_false,Bool.true_and,if_true]
   by_cases hk:dgB d=true∧d≠[48]∧d≠[49]
   ·obtain⟨k1,k2,k3⟩:=hd.1 hk.1
    have e0:(!dgB d||decide (d=[48])||decide (d=[49]))=false:=by rw[hk.1,dF hk.2.1,dF hk.2.2];rfl
    rw[if_pos ⟨k1,k2,k3,hk.2⟩,e0,if_neg (show¬(false=true) by decide)]
   ·rw[if_neg fun h4=>hk ⟨hd.2 ⟨h4.1,h4.2.1,h4.2.2.1⟩,h4.2.2.2⟩,if_pos]
    by_cases k1:dgB d=true
    ·by_cases k2:d=[48]
     ·rw[dT k2];simp
     ·by_cases k3:d=[49]
      ·rw[dT k3];simp
      ·exact absurd ⟨k1,k2,k3⟩ hk
    ·rw[show dgB d=false by simpa using k1];rfl
 ·rw[if_neg hc,if_pos]
  unfold LS
  by_cases k1:dgB n=true
  ·by_cases k2:m=true
   ·by_cases k3:n=[48]
    ·rw[k2,dT k3];simp
    ·exact absurd ⟨k1,fun h=>k3 h.2⟩ hc
   ·exact absurd ⟨k1,fun h=>k2 h.1⟩ hc
  ·rw[show dgB n=false by simpa using k1];rfl
theorem Kw {n:List UInt8} (h:dgB n=true):n=decDigits (AN n):=Oq.1 (Gs.1 h)
theorem NX {n:List UInt8} (h:dgB n=true) (hl:n.length≤9):AN n<1000000000:=by
 have e:=Kw h
 rw[e] at hl
 exact Lv hl
theorem G9 (a:List UInt8) (ha:a.length<4611686018427387904) (W:World) (ht:AI W):
  Ai Tryz.prog 31 #[str a] W (fun _:Unit=> .int .i64 (rdR a).2) (fun _=>True) (fun _=>[]):=by
 have hfr:=Up a
 have hsv:Pf a=Pf a:=rfl
 have hcl:=QJ (trimPrefix a [45])
 have htl:(trimPrefix a [45]).length≤a.length:=by rw[AU];split<;>simp
 have hmiss:(cut (trimPrefix a [45]) [47]).2.2=false→(cut (trimPrefix a [45]) [47]).2.1=[]:=fun h=>by
  rcases Gh 47 (trimPrefix a [45]) with h1|⟨x,y,e,h1⟩
  ·rw[E2 h1]
  ·rw[e,FI y h1] at h;cases h
 conv at hsv=>rhs;unfold Pf
 generalize hasPrefix a [45]=m at*
 generalize cut (trimPrefix a [45]) [47]=c at*
 obtain⟨n,d,sl⟩:=c
 simp only at hfr hsv hcl hmiss
 refine Ac (args:=[str a]) Tryz.func31 I I I ?_
 refine zA (zB (wP I (Aa (zE (zA (zB (wP I (wC I I (fun W _=>(F5 a ha W).cast hsv) ?_))))))))
 iterate 9 refine wP I ?_
 refine Aa ?_
 obtain⟨P1,e1⟩: ∃b,dgB n=b:=⟨_,rfl⟩
 obtain⟨P2,e2⟩: ∃b,dgB d=b:=⟨_,rfl⟩
 obtain⟨P3,e3⟩: ∃b,decide (d=[48])=b:=⟨_,rfl⟩
 obtain⟨P4,e4⟩: ∃b,decide (d=[49])=b:=⟨_,rfl⟩
 obtain⟨P5,e5⟩: ∃b,decide (n=[48])=b:=⟨_,rfl⟩
 have hB:LS m n d sl=(!P1||(sl&&(!P2||P3||P4))||(m&&P5)):=by unfold LS;rw[e1,e2,e3,e4,e5]
 refine AH (Ar (Ar ?_))
 refine AC (X:=Unit) (fun _=>[(4,str n),(5,str d),(6, .bool sl),(41, .bool (LS m n d sl))]) (fun _=>[]) (fun _=>True) ?_ ?_
 ·refine zB (wP I (wC I I (fun W _=>(Hk n (by omega) W).cast (v':= .bool P1) (by rw[e1])) (wP I (wP I ?_))))
  refine CI 19 I (fun h19=> ?_) (fun h19=> ?_)
  ·refine Ao I I ?_
   iterate 13 refine Ao I I ?_
   refine wP I (wP I ?_)
   iterate 5 refine Ao I I ?_
   exact wP I (Aa (An () tO ⟨I,I,I,congrArg (fun b=>some (Value.bool b)) (by rw[hB];simp_all),tO⟩ [] I))
  ·refine wP I (wP I ?_)
   refine CI 21 I (fun h21=> ?_) (fun h21=> ?_)
   ·refine wP I (wC I I (fun W _=>(Hk d (by omega) W).cast (v':= .bool P2) (by rw[e2])) (wP I (wP I ?_)))
    refine CI 25 I (fun h25=> ?_) (fun h25=> ?_)
    ·refine Ao I I ?_
     refine Ao I I ?_
     refine wP I (wP I ?_)
     iterate 2 refine Ao I I ?_
     refine wP I (wP I (wP I (wP I ?_)))
     iterate 5 refine Ao I I ?_
     exact wP I (Aa (An () tO ⟨I,I,I,congrArg (fun b=>some (Value.bool b)) (by rw[hB];simp_all),tO⟩ [] I))
    ·refine wP I (wP I (wU 27 P3 I ((Be _ _).trans e3) (wP I (wP I ?_))))
     refine CI 29 I (fun h29=> ?_) (fun h29=> ?_)
     ·refine Ao I I ?_
      refine Ao I I ?_
      refine wP I (wP I (wP I (wP I ?_)))
      iterate 5 refine Ao I I ?_
      exact wP I (Aa (An () tO ⟨I,I,I,congrArg (fun b=>some (Value.bool b)) (by rw[hB];simp_all),tO⟩ [] I))
     ·refine wP I (wP I (wU 31 P4 I ((Be _ _).trans e4) (wP I (wP I (wP I (wP I ?_))))))
      refine CI 35 I (fun h35=> ?_) (fun h35=> ?_)
      ·refine Ao I I ?_
       iterate 4 refine Ao I I ?_
       exact wP I (Aa (An () tO ⟨I,I,I,congrArg (fun b=>some (Value.bool b)) (by rw[hB];simp_all),tO⟩ [] I))
      ·refine wP I (wP I ?_)
       refine CI 37 I (fun h37=> ?_) (fun h37=> ?_)
       ·exact wP I (wP I (wU 39 P5 I ((Be _ _).trans e5) (wP I (wP I (Aa (An () tO ⟨I,I,I,congrArg (fun b=>some (Value.bool b)) (by rw[hB];simp_all),tO⟩ [] I))))))
       ·refine Ao I I ?_
        refine Ao I I ?_
        exact wP I (wP I (Aa (An () tO ⟨I,I,I,congrArg (fun b=>some (Value.bool b)) (by rw[hB];simp_all),tO⟩ [] I)))
   ·refine Ao I I ?_
    iterate 10 refine Ao I I ?_
    iterate 5 refine wP I ?_
    refine CI 37 I (fun h37=> ?_) (fun h37=> ?_)
    ·exact wP I (wP I (wU 39 P5 I ((Be _ _).trans e5) (wP I (wP I (Aa (An () tO ⟨I,I,I,congrArg (fun b=>some (Value.bool b)) (by rw[hB];simp_all),tO⟩ [] I))))))
    ·refine Ao I I ?_
     refine Ao I I ?_
     exact wP I (wP I (Aa (An () tO ⟨I,I,I,congrArg (fun b=>some (Value.bool b)) (by rw[hB];simp_all),tO⟩ [] I)))
 intro _ _
 refine Aw I (fun hbad=> ?_) (fun hbad=> ?_)
 ·rw[if_pos hbad] at hfr
  exact zA (zB (wP I (Aa (zE (zO (zP (wR1 I I (by unfold rdR;rw[hfr]))))))))
 have hbad:LS m n d sl=false:=hbad
 rw[if_neg (by rw[hbad];decide)] at hfr
 have hn:dgB n=true:=by
  cases h:dgB n with
  |true=>rfl
  |false=>unfold LS at hbad;rw[h] at hbad;cases hbad
 have hdl:sl=true→dgB d=true:=fun hs=>by
  cases h:dgB d with
  |true=>rfl
  |false=>unfold LS at hbad;rw[h,hs,hn] at hbad;cases hbad
 have hna:(if m=true then -(AN n:Int) else AN n).natAbs=AN n:=by split<;>omega
 have hne:=Kw hn
 have hlen1:n.length≤300↔AN n<Bo:=by
  conv=>lhs;rw[hne]
  exact FV
 have hlen2:d.length≤300↔(if sl=true then AN d else 1)<Bo:=by
  cases hs:sl with
  |true=>
   rw[if_pos rfl]
   conv=>lhs;rw[Kw (hdl hs)]
   exact FV
  |false=>
   rw[hmiss hs,if_neg (by decide)]
   exact⟨fun _=>FV.1 (by rw[Fi];decide),fun _=>by decide⟩
 have hcode:(rdR a).2=if AN n<Bo∧(if sl=true then AN d else 1)<Bo then(if Nat.gcd (AN n) (if sl=true then AN d else 1)=1 then 0 else 11) else 4:=by
  unfold rdR
  rw[hfr]
  simp only[hna]
  generalize (if sl=true then AN d else 1)=k
  by_cases c1:AN n<Bo∧k<Bo
  ·rw[if_pos c1,if_pos c1]
   by_cases c2:Nat.gcd (AN n) k=1
   ·rw[if_pos c2,if_pos c2]
   ·rw[if_neg c2,if_neg c2]
  ·rw[if_neg c1,if_neg c1]
 refine zI (zE (Ar (Ar ?_)))
 refine AC (X:=Unit) (fun _=>[(4,str n),(5,str d),(6, .bool sl),(49, .bool (decide (¬(n.length≤300∧d.length≤300))))]) (fun _=>[]) (fun _=>True) ?_ ?_
 ·refine zB (wP I (wP I ?_))
  refine Ah 43 (.int .i64 (n.length:Nat)) I (congrArg (fun n:Nat=>Value.int .i64 (n:Int)) (A5 n)) ?_
  refine wP I ?_
  by_cases h1:n.length≤300
  ·refine wU 44 false I (dF (by omega)) (wP I (wP I (wP I ?_)))
   refine Ah 47 (.int .i64 (d.length:Nat)) I (congrArg (fun n:Nat=>Value.int .i64 (n:Int)) (A5 d)) ?_
   exact wP I (wU 48 (decide (¬(n.length≤300∧d.length≤300))) I (decide_eq_decide.2 (by show((d.length:Nat):Int)>300↔_;omega)) (wP I (Aa (An () tO ⟨I,I,I,I,tO⟩ [] I))))
  ·refine wU 44 true I (dT (by show((n.length:Nat):Int)>300;omega)) (wP I ?_)
   iterate 3 refine Ao I I ?_
   exact wP I (Aa (An () tO ⟨I,I,I,by rw[dT (show¬(n.length≤300∧d.length≤300) by omega)];rfl,tO⟩ [] I))
 intro _ _
 refine Aw I (fun hlong=> ?_) (fun hlong=> ?_)
 ·have hlong:=of_decide_eq_true hlong
  exact zA (zB (wP I (Aa (zE (zO (zP (wR1 I I (by rw[hcode,if_neg fun h=>hlong ⟨hlen1.2 h.1,hlen2.2 h.2⟩]))))))))
 have hlong:n.length≤300∧d.length≤300:=Decidable.byContradiction fun h=>of_decide_eq_false hlong h
 rw[if_pos ⟨hlen1.1 hlong.1,hlen2.1 hlong.2⟩] at hcode
 refine zI (zE (zA (zA (zB (wP I (wP I (Aa ?_)))))))
 cases hs:sl with
 |false=>
  have hcode:(rdR a).2=0:=by rw[hcode,hs];exact if_pos (show Nat.gcd (AN n) 1=1 from Nat.gcd_one_right _)
  exact zE (zR I (zA (zB (wP I (Aa (zE (zO (zP (wR1 I I (by rw[hcode]))))))))))
 |true=>
  have hd:=hdl hs
  have hde:=Kw hd
  rw[hs,if_pos rfl] at hcode
  refine zE (zS I (zI (zE (Ar (Ar ?_)))))
  refine AC (X:=Unit) (fun _=>[(4,str n),(5,str d),(59, .bool (decide (n.length≤9∧d.length≤9)))]) (fun _=>[]) (fun _=>True) ?_ ?_
  ·refine zB (wP I (wP I ?_))
   refine Ah 53 (.int .i64 (n.length:Nat)) I (congrArg (fun n:Nat=>Value.int .i64 (n:Int)) (A5 n)) ?_
   refine wP I ?_
   by_cases h1:n.length≤9
   ·refine wU 54 true I (dT (by omega)) (wP I (wP I (wP I ?_)))
    refine Ah 57 (.int .i64 (d.length:Nat)) I (congrArg (fun n:Nat=>Value.int .i64 (n:Int)) (A5 d)) ?_
    exact wP I (wU 58 (decide (n.length≤9∧d.length≤9)) I (decide_eq_decide.2 (by omega)) (wP I (Aa (An () tO ⟨I,I,I,tO⟩ [] I))))
   ·refine wU 54 false I (dF (by omega)) (wP I ?_)
    iterate 3 refine Ao I I ?_
    exact wP I (Aa (An () tO ⟨I,I,by rw[dF (fun h:n.length≤9∧d.length≤9=>h1 h.1)];rfl,tO⟩ [] I))
  intro _ _
  refine Aw I (fun h9=> ?_) (fun h9=> ?_)
  ·obtain⟨h9,h9'⟩:=of_decide_eq_true h9
   have l1:AN n<1000000000:=NX hn h9
   have l2:AN d<1000000000:=NX hd h9'
   refine zA (zA (zB (wP I (wC I I (fun W _=>Ch n (by omega) (Gs.1 hn).all W) (wP I (wC I I (fun W _=>Ch d (by omega) (Gs.1 hd).all W) (wC I I (fun W _=>JF (AN n) (AN d) (by omega) (by omega) W) (wP I ?_))))))))
   by_cases hg:Nat.gcd (AN n) (AN d)=1
   ·exact wU 65 false I (by rw[bne_eq_false_iff_eq];omega) (Aa (zE (zS I (zI (zE (zA (zB (wP I (Aa (zE (zO (zP (wR1 I I (by rw[hcode,if_pos hg]))))))))))))))
   ·exact wU 65 true I (by rw[bne_iff_ne];omega) (Aa (zE (zR I (zA (zB (wP I (Aa (zE (zO (zP (zP (wR1 I I (by rw[hcode,if_neg hg])))))))))))))
  ·have e1:n=itoa ((AN n:Nat):Int):=by rw[Gz];exact hne
   have e2:d=itoa ((AN d:Nat):Int):=by rw[Gz];exact hde
   refine zI (zE (zA (zA (zB (wP I (wP I ?_))))))
   refine wC I I (fun W1 hp=>by
    have h:=L7 ((AN n:Nat):Int) ((AN d:Nat):Int) (by rw[Int.natAbs_natCast, ←hne];exact hlong.1) (by rw[Int.natAbs_natCast, ←hde];exact hlong.2) W1 (ht.hp hp)
    rw[←e1, ←e2,Int.natAbs_natCast,Int.natAbs_natCast,Gz] at h
    exact h) ?_
   iterate 5 refine wP I ?_
   refine Aa (zE (zA (zB (wP I (wP I ?_)))))
   by_cases hg:Nat.gcd (AN n) (AN d)=1
   ·exact wU 73 false I (by show(!_)=false;rw[Be,hg,Fi];rfl) (Aa (zE (zS I (zI (zE (zA (zB (wP I (Aa (zE (zO (wR1 I I (by rw[hcode,if_pos hg])))))))))))))
   ·refine Ah 73 (.bool true) I (congrArg Value.bool (by
     show(!_)=true
     rw[Be,dF fun h=>hg (by have:=congrArg AN h;rw[BP] at this;exact this)];rfl)) ?_
    exact Aa (zE (zR I (zA (zB (wP I (Aa (zE (zO (zP (wR1 I I (by rw[hcode,if_neg hg])))))))))))
-- BOXES 1
-- CODE2
theorem EQ (a b c d:Int) (ha:okN a) (hb:okN b) (hc:okN c) (hd:okN d) (hab:okN (a*b)) (hcd:okN (c*d)) (W:World) (ht:AI W):
  Ai Tryz.prog 122 #[str (itoa a),str (itoa b),str (itoa c),str (itoa d)] W (fun _:Unit=> .tuple #[str (itoa (a*b)),str (itoa (c*d)), .int .i64 0]) (fun _=>True) (fun _=>[]):=by
 refine Ac (args:=[str (itoa a),str (itoa b),str (itoa c),str (itoa d)]) Tryz.func122 I I I ?_
 refine zA (zB (wP I (wP I (wP I (Aa (zE (zA (zB (wP I (wP I (wC I I (fun W1 hp=>HQ a b ha.dd hb.dd hab.dd W1 (ht.hp hp)) ?_)))))))))))
 iterate 5 refine wP I ?_
 refine Aa (zE (zA (zA (zB (wP I (wP I (Aa (zE (zS I (zI (zE (zA (zB ?_)))))))))))))
 refine wP I (wP I (wC I I (fun W1 hp=>HQ c d hc.dd hd.dd hcd.dd W1 (ht.hp hp)) ?_))
 iterate 5 refine wP I ?_
 refine Aa (zE (zA (zB ?_)))
 iterate 6 refine wP I ?_
 exact Aa (zE (zO (wR3 I I I)))
-- BOXES 8
-- CODE2
theorem M4 {a:Int} {g:Nat} (hg:0<g) (h:(g:Int)∣a):(a/(g:Int)).natAbs=a.natAbs/g∧a.natAbs%g=0∧(a/(g:Int)<0↔a<0)∧a.tdiv (g:Int)=a/(g:Int)∧a.tmod (g:Int)=0:=by
 obtain⟨k,rfl⟩:=h
 have e1:(g:Int)*k/(g:Int)=k:=Int.mul_ediv_cancel_left _ (by omega)
 refine⟨?_, ?_, ?_, ?_, ?_⟩
 ·rw[e1,Int.natAbs_mul,Int.natAbs_natCast,Nat.mul_div_cancel_left _ hg]
 ·rw[Int.natAbs_mul,Int.natAbs_natCast,Nat.mul_mod_right]
 ·rw[e1]
  constructor
  ·intro h;exact Int.mul_neg_of_pos_of_neg (by omega) h
  ·intro h
   by_cases h1:k<0
   ·exact h1
   ·have:=Int.mul_nonneg (show(0:Int)≤(g:Int) by omega) (show 0≤k by omega);omega
 ·rw[e1];exact Int.mul_tdiv_cancel_left _ (by omega)
 ·exact Int.mul_tmod_right _ _
theorem Lh (a:Int) (g:Nat) (hg:0<g) (h:(g:Int)∣a) (ha:(decDigits a.natAbs).length≤300) (hgl:(decDigits g).length≤300) (W:World) (ht:AI W):
  Ai Tryz.prog 201 #[str (itoa a),str (itoa (g:Int))] W (fun _:Unit=> .tuple #[str (itoa (a/(g:Int))),str [48], .int .i64 0]) (fun _=>True) (fun _=>[]):=by
 obtain⟨q1,q2,q3,q4,q5⟩:=M4 hg h
 have la:=Cn (m:=a.natAbs) (by omega)
 have lg:=Cn (m:=g) (by omega)
 have hgn:((g:Int)).natAbs=g:=Int.natAbs_natCast g
 have hgl2:(decDigits ((g:Int)).natAbs).length≤300:=by rw[hgn];exact hgl
 have hql:(decDigits (a/(g:Int)).natAbs).length≤300:=by
  rw[q1]
  have key: ∀e,0<e→(decDigits a.natAbs).length≤e→(decDigits (a.natAbs/g)).length≤e:=fun e he h=>D9 e _ (by omega) (Nat.lt_of_le_of_lt (Nat.div_le_self ..) (Nat.lt_of_lt_of_le (DG _) (Nat.pow_le_pow_right (by decide) h)))
  exact key 300 (by decide) ha
 have hneg:decide ((g:Int)<0)=false:=dF (by omega)
 have hg48:itoa (g:Int)≠[48]:=fun e=>by
  have:=Hb.1 e
  omega
 refine Ac (args:=[str (itoa a),str (itoa (g:Int))]) Tryz.func201 I I I ?_
 refine zA (zB (wP I (wP I (wP I (Aa (zE (zA (zA (zB (wP I (wP I (wC I I (fun W _=>CX a (g:Int) ha hgl2 W) (wP I ?_)))))))))))))
 refine Aa (zE (zA (zB (wP I (wP I (Aa (zE (zS I (zI (zE (zA (zA (zB ?_)))))))))))))
 refine wP I (wP I (wU 28 false I ((Be _ _).trans (dF hg48)) (Aa (zE (zS I (zI (zE (zA (zA (zB ?_))))))))))
 cases hs:smI a&&smI (g:Int) with
 |true=>
  obtain⟨h1,h2⟩:=Bool.and_eq_true_iff.1 hs
  have b1:=Hq h1
  have b2:=Hq h2
  have b3:(a/(g:Int)).natAbs≤a.natAbs:=by rw[q1];exact Nat.div_le_self ..
  refine wP I (wP I (wC I I (fun W _=>G0 hs W) ?_))
  iterate 7 refine wP I ?_
  refine Aa (zE (zA (zB (wP I (Aa (zE (zR I (zA (zU (qP I (qP I ?_)))))))))))
  refine Ih I I I I I (by omega) ?_
  refine qV 39 (a/(g:Int)) I (by rw[q4];exact A0 (by omega) (by omega)) (qP I (qP I ?_))
  refine Dv I I I I I (by omega) ?_
  refine qV 42 0 I q5 (qP I (qP I (AS (Aa (zE (zA (zA (zB (wP I (wP I ?_))))))))))
  refine Ah 44 (.bool false) I I ?_
  refine wP I ?_
  iterate 5 refine Ao I I ?_
  refine wP I (Aa (zE (zS I (zI (zE (zA (zB (wP I (wC I I (fun W hp=>Bu (a/(g:Int)) (by omega) (by omega) W (ht.hp hp)) (wP I (wC I I (fun W hp=>(Bu 0 (by decide) (by decide) W (ht.hp hp)).cast (v':=str [48]) (by rw[Ck])) (wP I (wP I (wP I ?_))))))))))))))
  exact Aa (zE (zO (zP (wR3 I I I))))
 |false=>
  obtain⟨x0,y0,h2⟩:=G6 hs ha hgl2
  refine wP I (wP I (wC I I (fun W _=>h2 W) ?_))
  iterate 7 refine wP I ?_
  refine Aa (zE (zA (zB (wP I (Aa (zE (zS I (zI (zE (zA (zB (wP I ?_))))))))))))
  refine wD (X:=NV) I I (fun W' _=>Bb a (by omega) W') ?_
  intro x hx
  refine wP I ?_
  refine wD (X:=NV) I I (fun W' _=>Bb (g:Int) (by omega) W') ?_
  intro y hy
  refine Ah 64 (.agg #[.bool false,B3 y (lbs br g).length]) I (by unfold Uk;rw[hneg,hgn]) ?_
  rw[hgn] at hy⊢
  (refine Af Tryz.hZ rfl rfl rfl rfl ?_;intro)
  (refine Af Tryz.hZ rfl rfl rfl rfl ?_;intro)
  refine wS 2 I I I (wS 3 I I I (Aa ?_))
  rename_i b13 b14
  refine zE (zA (zB (wP I (wB 2 I I I (wP I (wB 3 I I I ?_))))))
  refine wD (X:=NV×NV) I I (fun W' hp=>HJ W' (some ⟨x.1,0,none⟩) (some ⟨y.1,0,none⟩) x.2.1 y.2.1 a.natAbs g hg (Az.of_bx hp 0 I) (Az.of_bx hp 1 I) (by omega) (by omega)) ?_
  rintro⟨q,w⟩ ⟨hq,hw⟩
  have e0:lbs br (a.natAbs%g)=[]:=by rw[q2];exact AZ
  have hq:Cv q (lbs br (a.natAbs/g)):=hq
  simp only[e0]
  iterate 5 refine wP I ?_
  refine Aa (AH ?_)
  try refine Ar ?_
  refine AC (X:=Nat×Nat) (fun s=>[(13,Ag b13),(14,Ag b14),(15,B3 q (lbs br (a.natAbs/g)).length),(16,B3 w 0),(17,Ag s.1),(18,Ag s.2)]) (fun s=>[BH q (lbs br (a.natAbs/g)),BH w [],⟨s.1,153,[.bool (decide (a/(g:Int)<0)),B3 q (lbs br (a.natAbs/g)).length],true,none⟩,⟨s.2,153,[.bool false,B3 w 0],true,none⟩]) (fun _=>True) ?_ ?_
  ·by_cases hn:a<0
   ·have hqn:a/(g:Int)<0:=q3.2 hn
    have hqL:0<(lbs br (a.natAbs/g)).length:=List.length_pos_iff.2 fun e=>by have:=(Do br2).1 e;omega
    have e1:decide (a<0)=true:=dT hn
    have e2:decide (a/(g:Int)<0)=true:=dT hqn
    simp only[e2]
    refine zB (wP I (wB 2 I I I (wU 74 true I e1 (wP I (wB 3 I I I ?_)))))
    refine Hd Tryz.underlying4 I I I I I I ?_
    refine wP I (wP I (wP I (wP I (wU 81 true I (dT (by omega)) (wP I (wP I ?_))))))
    refine Ay Tryz.hZ tH I I I I I I I I ?_
    refine wP I (wB 2 I I I (wU 86 true I e1 (wP I (wP I (wP I (wP I ?_))))))
    refine Ah 90 (.bool false) I I ?_
    refine wP I (wP I ?_)
    refine Ay Tryz.hZ tH I I I I I I I I ?_
    (refine Af Tryz.hZ rfl rfl rfl rfl ?_;intro)
    (refine Af Tryz.hZ rfl rfl rfl rfl ?_;intro)
    refine wS 6 I I I (wS 7 I I I (Aa ?_))
    rename_i b17 b18
    exact Q5 (b17,b18) tO ⟨I,I,I,I,I,I,tO⟩ [4,5,6,7] (by decide) I
   ·have hqn: ¬a/(g:Int)<0:=fun h=>hn (q3.1 h)
    have e1:decide (a<0)=false:=dF hn
    have e2:decide (a/(g:Int)<0)=false:=dF hqn
    simp only[e2]
    refine zB (wP I (wB 2 I I I (wU 74 false I e1 (wP I (wB 3 I I I ?_)))))
    refine Hd Tryz.underlying4 I I I I I I ?_
    refine wP I ?_
    iterate 3 refine Ao I I ?_
    refine wP I (wP I ?_)
    refine Ay Tryz.hZ tH I I I I I I I I ?_
    refine wP I (wB 2 I I I (wU 86 false I e1 (wP I ?_)))
    iterate 3 refine Ao I I ?_
    refine wP I (wP I ?_)
    refine Ay Tryz.hZ tH I I I I I I I I ?_
    (refine Af Tryz.hZ rfl rfl rfl rfl ?_;intro)
    (refine Af Tryz.hZ rfl rfl rfl rfl ?_;intro)
    refine wS 6 I I I (wS 7 I I I (Aa ?_))
    rename_i b17 b18
    exact Q5 (b17,b18) tO ⟨I,I,I,I,I,I,tO⟩ [4,5,6,7] (by decide) I
  rintro⟨b17,b18⟩ _
  refine zA (zA (zB (wP I (wP I (wP I ?_)))))
  refine Ah 96 (.bool false) I I ?_
  refine wP I ?_
  iterate 5 refine Ao I I ?_
  refine wP I (Aa (zE (zS I (zI (zE (zA (zB (wB 2 I I I ?_))))))))
  refine wC I I (fun W' hp=>by
   have h:=Eu (a/(g:Int)) hql W' (some ⟨q.1,0,none⟩) q.2.1
   rw[q1] at h
   exact h (Az.of_bx hp 0 I)) ?_
  iterate 5 refine wP I ?_
  refine Aa (zE (zA (zA (zB (wP I (wP I (Aa (zE (zS I (zI (zE (zA (zB ?_)))))))))))))
  refine wP I (wB 3 I I I ?_)
  refine wC I I (fun W' hp=>by
   have h:=EN 0 (by decide+kernel) W' (some ⟨w.1,0,none⟩) w.2.1 (.inl AZ)
   rw[Ck,show(0:Int).natAbs=0 from rfl,AZ] at h
   exact h) ?_
  exact wP I (wP I (wP I (Aa (zE (zO (wR3 I I I))))))
end
end Go.Proofs.YthndmdimmgkpgaaGreatDoor
