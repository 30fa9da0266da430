/-
  Lemmas that the theorem openingCheeks_upto_card needs (part 8 of 8).
-/
import Derived.Test.YtndkgionklmdfaaGreatDoorOcg
import Derived.Test.YtndkgionklmdfaaGreatDoorRows
import Derived.Deep.Slices
import Derived.ChangeArms
import Derived.ChangeShapes
import Derived.WideShapes
import Derived.Carry
import Derived.Test.YtndkgionklmdfaaGreatDoorCards
import Derived.Test.YtndkgionklmdfaaGreatDoorTie
import Derived.ProofKit
import Derived.OpenShut
import Derived.Deep.DeepHandedRow
import Derived.Lib.LaidTab
import Derived.Stop.LaidErr
import Derived.Lay
import Derived.SevenTiedAt
import Derived.Shelf.Vars
set_option maxHeartbeats 64000000
namespace Go.Proofs.YtndkgionklmdfaaGreatDoor
section
open Go Go.RowKit Go.Am Go.Lib
set_option maxRecDepth 10000
section
variable {r:Option Nat} {n:Nat} {P:Program} {W0:World} {N:Nat} {D:List Deferred} {ops:List Oper} {Q:Exit->Act->World->Prop} {o:Oper} {rest:List Oper} {env:Env} {bxs:List Bx}
theorem NW {c:Call} {f:Operand} {g d:Nat} {first vs:List Value} {v:Value}
  (hg:Ay ops N env o=some true) (hd:o.dst=some d) (ho:o.op= .call c) (hc:c.callee= .value f) (hf:evO N env f=some (.func (.func g) first.toArray #[])) (ha:Ch (evO N env) c.args.toList=some vs) (hE:AO P g=true)
  (hC: ∀W,Hp W0 bxs W->Ad P g (first++vs).toArray W (fun _:Unit=>v) (fun _=>True) (fun _=>[]))
  (h:WL r n P N D ops Q rest ((d,v)::env) (Hp W0 bxs)):WL r n P N D ops Q (o::rest) env (Hp W0 bxs):= .mk fun a W h1 h2 hp=>by
 refine BC hg h1 (fun c e=>by rw[ho] at e;cases e) ?_
 rw[Pa ho hc (A9 h1 _ _ hf) (Ev (A9 h1) ha) hE]
 simp only[Oper.uponIn,hd]
 refine⟨fun hx=>(by cases hx),DT ((hC W hp).out.mono ?_)⟩
 rintro e W' ⟨x,rfl,hx,hb,hn⟩
 exact h.out a W' h1 h2 (hp.grow hb)
end
theorem OI {q:Rat} (h:q.num.natAbs<10^8/\q.den<10^8):okQ q:=(sO h).ok (by decide)
abbrev cG (v:Value):List Value:=[.func (.func 169) #[v] #[], .func (.func 44) #[] #[], .func (.func 170) #[v] #[]]
theorem O4 (W:World) (hv:AE W) (ht:A7 W):
  Ad Tryz.prog 44 #[opE] W (fun _:Unit=> .int .i64 0) (fun _=>True) (fun _=>[]):=
 Jg 0 3 7 1 3 (OI (by decide+kernel)) (OI (by decide+kernel)) (OI (by decide+kernel)) (OI (by decide+kernel)) (by rw[nO3];decide) (by rw[nO7];decide) (by rw[nO1];decide) (by rw[nO3];decide) (by decide+kernel) (by decide+kernel) W hv ht
theorem Kf (x:SfX) (bT:Nat) (W:World) (h:SfP W x bT) (hv:AE W) (ht:A7 W):
  Ad Tryz.prog 102 #[x.v bT,opE] W (fun _:Unit=> .int .i64 0) (fun _=>True) (fun _=>[]):=by
 refine Ab (args:=[WU (slv (some ⟨x.gF,0,none⟩) 4 x.cF) (slv (some ⟨bT,0,none⟩) 1 1) (slv (some ⟨x.gA,0,none⟩) 1 x.cA),opE]) Tryz.func102 I I I (zA (zB (wF I I fun _=>(wF I I fun _=>(wP I (Aa ?_))))))
 rename_i b2 b3
 refine zE (zA (zA (zB (wB 0 I I I (wP I (wB 0 I I I (wP I (Iy .nilFunc tH I I I I I (fun W=>by kernel_rfl) I I I I I (fun bA=> ?_)))))))))
 refine wP I (wP I (Aa (zE (zH ?_))))
 refine Ar (X:=Nat) (fun i=>[(3,Af b3),(4, .int .i64 0),(12,slv (some ⟨bA,0,none⟩) 3 3),(13, .int .i64 3),(14, .int .i64 (i:Nat))])
  (fun _=>[⟨b2,148,(x.v bT).cells.toList,true,none⟩,⟨b3,27,opE.cells.toList,true,none⟩,⟨bA,92,cG (x.v bT),true,none⟩])
  (fun i=>i<=3) (fun i=>3-i) 0 (Nat.zero_le _) ⟨rfl,rfl,rfl,rfl,rfl,trivial⟩ [] rfl ?_
 intro i hi
 have hi:i<=3:=hi
 have hc:i=0\/i=1\/i=2\/i=3:=by omega
 rcases hc with rfl|rfl|rfl|rfl
 ·refine zA (zB (wP I (Aa (zE (zA (zR I (zI (zE (zA (zH (zA (zB (wI I I (by decide) (by decide) (wL 0 I I (fun W1 hp=>Ai.of_bx hp 2 I I) I (wP I (Aa (zE (zA (zB (wP I (wB 1 I I I (NW (first:=[x.v bT]) I I I I I I (by kernel_rfl) (fun W1 hp=>RA (some ⟨x.gF,0,none⟩) 4 x.cF (slv (some ⟨bT,0,none⟩) 1 1) (slv (some ⟨x.gA,0,none⟩) 1 x.cA) 0 (by decide) (Ac 3) (Ac 7) (Ac 1) (Ac 3) W1) ?_))))))))))))))))))))))
  exact wP I (Aa (zE (zA (zB (wP I (wP I (Aa (zE (zS I (zI (zN (zE (zB (wP I (wP I (Aa (Aj 1 (by decide) (by decide) ⟨I,I,I,I,I,tO⟩ [] I)))))))))))))))))
 ·refine zA (zB (wP I (Aa (zE (zA (zR I (zI (zE (zA (zH (zA (zB (wI I I (by decide) (by decide) (wL 0 I I (fun W1 hp=>(Ai.of_bx hp 2 I I).sub 1) I (wP I (Aa (zE (zA (zB (wP I (wB 1 I I I (NW (first:=[]) I I I I I I (by kernel_rfl) (fun W1 hp=>O4 W1 (hv.hp hp) (ht.hp hp)) ?_))))))))))))))))))))))
  exact wP I (Aa (zE (zA (zB (wP I (wP I (Aa (zE (zS I (zI (zN (zE (zB (wP I (wP I (Aa (Aj 2 (by decide) (by decide) ⟨I,I,I,I,I,tO⟩ [] I)))))))))))))))))
 ·refine zA (zB (wP I (Aa (zE (zA (zR I (zI (zE (zA (zH (zA (zB (wI I I (by decide) (by decide) (wL 0 I I (fun W1 hp=>(Ai.of_bx hp 2 I I).sub 2) I (wP I (Aa (zE (zA (zB (wP I (wB 1 I I I (NW (first:=[x.v bT]) I I I I I I (by kernel_rfl) (fun W1 hp=>Sv x bT W1 (h.hp hp) (hv.hp hp) (ht.hp hp)) ?_))))))))))))))))))))))
  exact wP I (Aa (zE (zA (zB (wP I (wP I (Aa (zE (zS I (zI (zN (zE (zB (wP I (wP I (Aa (Aj 3 (by decide) (by decide) ⟨I,I,I,I,I,tO⟩ [] I)))))))))))))))))
 ·exact zA (zB (wP I (Aa (zE (zA (zS I (zJ (zK (zK (zL (zE (zA (zB (wP I (Aa (zE (zO (wR1 I I I))))))))))))))))))
structure Nj (W:World) (bR bT:Nat):Prop where
 r:Bd W (some ⟨bR,0,none⟩) [sqL]
 t:Ai W bT 0 (stV 0 S0).cells.toList
theorem Nj.hp {W0 W:World} {bxs:List Bx} {bR bT:Nat} (h:Nj W0 bR bT) (hp:Hp W0 bxs W):Nj W bR bT:=⟨h.r.hp hp,h.t.hp hp⟩
theorem SfP.of {W0 W:World} {bxs:List Bx} {x:SfX} {bR bT:Nat} (h:Nj W0 bR bT) (hp:Hp W0 bxs W) (i j k:Nat) (h1:nth bxs i=some (fbB x.gF x.jF)) (h2:nth bxs j=some (BI x.gC Ez x.jC)) (h3:nth bxs k=some (arB x.gA x.gC x.cC x.jA)):SfP W x bT:=
 ⟨QC hp i h1,h.t.hp hp,Dr (a:=[slv (some ⟨x.gC,0,none⟩) 3 x.cC]) (b:=x.jA) (Ai.of_bx hp k h3 rfl),BY.of_row (junk:=x.jC) (Ai.of_bx hp j h2 rfl)⟩
theorem PM (bR bT:Nat) (W:World) (h:Nj W bR bT) (hd:Fk W) (hv:AE W) (ht:A7 W):
  Ad Tryz.prog 97 #[Gm bR bT,opE] W (fun _:Unit=> .int .i64 0) (fun _=>True) (fun _=>[]):=by
 refine Ab (args:=[Gm bR bT,opE]) Tryz.func97 I I I (zA (zB (wF I I fun _=>(wF I I fun _=>(wP I (Aa (zE (zA (zB (wB 0 I I I (wD (X:=SfX) I I (fun W1 hp=>Ls bR bT W1 (h.hp hp).r (h.hp hp).t (hd.hp hp) (hv.hp hp) (ht.hp hp)) ?_)))))))))))
 rintro⟨gF,cF,jF,gC,cC,jC,gA,cA,jA⟩ _
 refine wP I (wP I (wP I (wG I I fun _=>(wS 5 I I I (wP I (Aa (zE (zA (zA (zB (wP I (wP I (Aa (zE (zS I (zI (zE (zA (zB (wB 5 I I I (wB 1 I I I (wC I I (fun W1 hp=>Kf ⟨gF,cF,jF,gC,cC,jC,gA,cA,jA⟩ bT W1 (SfP.of h hp 2 3 4 I I I) (hv.hp hp) (ht.hp hp)) (wP I ?_)))))))))))))))))))))))
 exact Aa (zE (zO (wR1 I I I)))
theorem N9 (bR bT:Nat) (W:World) (h:Nj W bR bT) (hd:Fk W) (hv:AE W) (ht:A7 W):
  Ad Tryz.prog 36 #[Gm bR bT,opE] W (fun V:Vec=> .tuple #[V.val 4, .int .i64 0]) (fun V=>V.OK 3 4 (spC f0 (crn 3 7 1 3))) (fun V=>[V.bx 45 (spC f0 (crn 3 7 1 3))]):=by
 have zz: ∀q:Rat,(q.num.natAbs<10^8/\q.den<10^8)->szQ q 8:=fun q hq=>hq
 have z1:=zz 1 (by decide+kernel)
 have z3:=zz 3 (by decide+kernel)
 have z7:=zz 7 (by decide+kernel)
 refine Ab (args:=[Gm bR bT,opE]) Tryz.func36 I I I (zA (zB (wF I I fun _=>(wF I I fun _=>(wP I (wP I (Aa ?_)))))))
 rename_i b2 b3
 refine zE (zA (zA (zB (wB 0 I I I (wB 1 I I I (wC I I (fun W1 hp=>PM bR bT W1 (h.hp hp) (hd.hp hp) (hv.hp hp) (ht.hp hp)) (wP I (Aa (zE (zA (zB (wP I (wP I (Aa (zE (zS I (zI (zE (zA (zB (wP I (wB 0 I I I ?_))))))))))))))))))))))
 refine wD (X:=Vec) I I (fun W1 hp=>by
  have h:=Hr W1 (some ⟨bR,0,none⟩) 1 [sqL] (by decide) ((h.hp hp).r) Jo (hd.hp hp) (ht.hp hp)
  rw[UE] at h
  exact h) ?_
 rintro⟨pF,cF,jF⟩ hF
 have hF:Vec.OK ⟨pF,cF,jF⟩ 5 4 (frC (DV [sqL])):=hF
 obtain⟨gF,rfl⟩: ∃g,pF=some g:=Option.ne_none_iff_exists'.1 (fun e=>absurd (hF.nil e) (by decide))
 refine wP I (wP I (wP I (wP I (wP I (Aa (zE (zA (zA (zB (wP I (wP I (Aa (zE (zS I (zI (zE (Av ?_)))))))))))))))))
 refine AW (X:= { V:Vec//V.OK 3 4 (spC f0 (crn 3 7 1 3)) }) [true,true,true,true,true,true,false,false,false,false,false] (fun V=>[(4,V.1.val 4),(5, .int .i64 0)]) (fun V=>[V.1.bx 45 (spC f0 (crn 3 7 1 3))])
  5 [⟨b2,81,(Gm bR bT).cells.toList,true,none⟩,⟨b3,27,opE.cells.toList,true,none⟩,fbB gF jF] Tryz.mixed (by kernel_rfl) ?_ ?_
 ·refine qP I (qP I (qB 1 I I I (qI I I (by decide) (by decide) (qL 0 I I (fun W1 hp=>QC hp 2 I) I (qB 1 I I I (BU (wX (wZ ?_))))))))
  refine wD (X:=Vec) rfl rfl (fun W1 hp=>Ix f0 Rv 0 3 7 1 3 z3 z7 z1 z3 W1 (hv.hp hp) (ht.hp hp)) ?_;intro V hV
  refine Aa (Ag (wX (RS.cons ?_ (RS.cons ?_ (RS.nil)))))
  ·refine wP I (Aa (Ag (wX (wZ (wP I (Aa (Ag (wX (wZ (wP I (Aa (Ag (wX (wZ (wP I (Aa (Ag ?_)))))))))))))))))
   refine AD I (by((repeat (first|refine AJ.same ?_|refine AJ.off I ?_));exact tO)) ?_
   exact A4 (⟨V,hV⟩: { V:Vec//V.OK 3 4 (spC f0 (crn 3 7 1 3)) }) ⟨I,I,tO⟩ [3] (by decide) I
  ·refine wP I (Aa (Ag (wX (wZ (wP I (Aa (Ag (wX (wZ (wP I (Aa (Ag (wX (wZ (wP I (Aa (Ag ?_)))))))))))))))))
   refine AD I (by((repeat (first|refine AJ.same ?_|refine AJ.off I ?_));exact tO)) ?_
   exact A4 (⟨V,hV⟩: { V:Vec//V.OK 3 4 (spC f0 (crn 3 7 1 3)) }) ⟨I,I,tO⟩ [3] (by decide) I
 rintro⟨V,hV⟩
 exact zE (zO (A0 tH I (.tmp I) (.tmp I) V I hV fun W1 hp=>As.of_hp (hp.pick (l:=[V.bx 45 (spC f0 (crn 3 7 1 3))]) [0] (by decide) I)))
theorem Pt : ∃ f1 f2 f3 : Field, (Tryz.prog.fieldsOf 45).toList = [f1, f2, f3] /\ (f1.name ≠ "_" /\ f1.type = 25 /\ f1.offset = 0) /\ (f2.name ≠ "_" /\ f2.type = 25 /\ f2.offset = 1) /\ (f3.name ≠ "_" /\ f3.type = 25 /\ f3.offset = 2) := by
 unfold Program.fieldsOf;rw[Tryz.underlying45]
 exact⟨_,_,_,I,⟨by decide,I,I⟩,⟨by decide,I,I⟩,⟨by decide,I,I⟩⟩
theorem Z4 (W:World) (a b s c d t:List UInt8):(binOp .eql 45 (.agg #[str a,str b,str s]) (.agg #[str c,str d,str t])).run Tryz.prog W= .ok (.bool (decide (a=c/\b=d/\s=t))) W:=by
 rw[run_eql_struct,run_equalIn_agg W 9999 45 _ _ (by kernel_rfl) (by kernel_rfl)]
 obtain⟨f1,f2,f3,hf,⟨n1,t1,o1⟩,⟨n2,t2,o2⟩,⟨n3,t3,o3⟩⟩:=Pt
 rw[hf]
 have e: ∀(x y:List UInt8) W,(Op.equalIn 9999 25 (str x) (str y)).run Tryz.prog W= .ok (decide (x=y)) W:=fun x y W=>by
  rw[run_equalIn_string W 9998 25 _ _ Tryz.underlying25,AS]
 by_cases h1:a=c<;>by_cases h2:b=d<;>by_cases h3:s=t<;>simp[Op.eqFields,part,Tryz.isAgg25,e,h1,h2,h3,n1,n2,n3,t1,t2,t3,o1,o2,o3]
theorem ZK (W:World) (a b s c d t:List UInt8):(binOp .neq 45 (.agg #[str a,str b,str s]) (.agg #[str c,str d,str t])).run Tryz.prog W= .ok (.bool (!decide (a=c/\b=d/\s=t))) W:=by
 rw[run_neq_struct,run_equalIn_agg W 9999 45 _ _ (by kernel_rfl) (by kernel_rfl)]
 obtain⟨f1,f2,f3,hf,⟨n1,t1,o1⟩,⟨n2,t2,o2⟩,⟨n3,t3,o3⟩⟩:=Pt
 rw[hf]
 have e: ∀(x y:List UInt8) W,(Op.equalIn 9999 25 (str x) (str y)).run Tryz.prog W= .ok (decide (x=y)) W:=fun x y W=>by
  rw[run_equalIn_string W 9998 25 _ _ Tryz.underlying25,AS]
 by_cases h1:a=c<;>by_cases h2:b=d<;>by_cases h3:s=t<;>simp[Op.eqFields,part,Tryz.isAgg25,e,h1,h2,h3,n1,n2,n3,t1,t2,t3,o1,o2,o3]
section
variable {r:Option Nat} {n:Nat} {N:Nat} {D:List Deferred} {ops:List Oper} {Q:Exit->Act->World->Prop} {o:Oper} {rest:List Oper} {env:Env} {A A2:World->Prop} {R:Act->World->Prop}
theorem YZ (a b s c d e:List UInt8) {t:Nat} {u:TypeId} {x y:Operand} (hg:Ay ops N env o=some true) (hd:o.dst=some t) (ho:o.op= .binOp .eql 45 x y u)
  (hx:evO N env x=some (.agg #[str a,str b,str s])) (hy:evO N env y=some (.agg #[str c,str d,str e]))
  (h:WL r n Tryz.prog N D ops Q rest ((t, .bool (decide (a=c/\b=d/\s=e)))::env) A):WL r n Tryz.prog N D ops Q (o::rest) env A:=
 CJ hg hd (fun c e=>by rw[ho] at e;cases e) (fun _ W hρ _=>by
  have hm:Tryz.prog.eqGuardType Tryz.prog.depth 45=false:=by kernel_rfl
  simp[execOp,ho,hρ _ _ hx,hρ _ _ hy,run_eqGuard_agg W .eql 45 x y _ _ hm,Z4]) h
theorem Ys (a b s c d e:List UInt8) {t:Nat} {u:TypeId} {x y:Operand} (hg:Ay ops N env o=some true) (hd:o.dst=some t) (ho:o.op= .binOp .neq 45 x y u)
  (hx:evO N env x=some (.agg #[str a,str b,str s])) (hy:evO N env y=some (.agg #[str c,str d,str e]))
  (h:WQ Tryz.prog N D ops A2 R rest ((t, .bool (!decide (a=c/\b=d/\s=e)))::env) A):WQ Tryz.prog N D ops A2 R (o::rest) env A:=
 DS hg hd (fun c e=>by rw[ho] at e;cases e) (fun _ W hρ _=>by
  have hm:Tryz.prog.eqGuardType Tryz.prog.depth 45=false:=by kernel_rfl
  simp[execOp,ho,hρ _ _ hx,hρ _ _ hy,run_eqGuard_agg W .neq 45 x y _ _ hm,ZK]) h
end
abbrev SpS:Type:=List UInt8×List UInt8×List UInt8
def G7 (L:List SpS):List Value:=L.flatMap fun x=>[str x.1,str x.2.1,str x.2.2]
theorem Wq (a b:List SpS):G7 (a++b)=G7 a++G7 b:=List.flatMap_append
theorem X9 (l:List SpS):(G7 l).length=l.length*3:=by
 induction l with
 |nil=>rfl
 |cons p l ih=>show(G7 l).length+1+1+1=(l.length+1)*3;rw[ih];omega
theorem YQ {l:List SpS} {i:Nat} (hi:i<l.length):G7 l=G7 (l.take i)++([str l[i].1,str l[i].2.1,str l[i].2.2]++G7 (l.drop (i+1))):=by
 conv=>lhs;rw[<-List.take_append_drop i l,List.drop_eq_getElem_cons hi,Wq]
 rfl
def Rf (W:World) (p:Option Addr) (l:List SpS):Prop:=l=[]\/ ∃g off,p=some ⟨g,off,none⟩/\ ∀i (hi:i<l.length),Ai W g (off+i*3) [str l[i].1,str l[i].2.1,str l[i].2.2]
theorem Rf.at_ {W:World} {p:Option Addr} {l:List SpS} (h:Rf W p l) {i:Nat} (hi:i<l.length): ∃g off,p=some ⟨g,off,none⟩/\ ∀k (hk:k<l.length),Ai W g (off+k*3) [str l[k].1,str l[k].2.1,str l[k].2.2]:=by
 rcases h with rfl|h
 ·exact absurd hi (Nat.not_lt_zero _)
 ·exact h
theorem Rf.of_row {W:World} {g off:Nat} {l:List SpS} {junk:List Value} (h:Ai W g off (G7 l++junk)):Rf W (some ⟨g,off,none⟩) l:= .inr ⟨g,off,rfl,fun i hi=>by
 have h1:=Dr h
 rw[YQ hi] at h1
 have h2:=Dr (KF h1)
 rwa [X9,List.length_take,Nat.min_eq_left (Nat.le_of_lt hi)] at h2⟩
theorem N5 (l:List SpS) (hn:l.length<=100000) (p q:Option Addr) (cap cap2:Nat) (W:World) (hA:Rf W p l) (hB:Rf W q l):
  Ad Tryz.prog 33 #[slv p l.length cap,slv q l.length cap2] W (fun _:Unit=> .bool true) (fun _=>True) (fun _=>[]):=by
 refine Ab (args:=[slv p l.length cap,slv q l.length cap2]) Tryz.func33 I I I (zA (zB (wP I (Aa (zE (zA (zA (zB (wP I (wP I (wP I (wP I (wP I (wU 10 false I (bne_eq_false_iff_eq.2 I) (Aa (zE (zS I (zI (zE (zA (zA (zB (wP I (wP I (wP I ?_)))))))))))))))))))))))))
 refine Aa (zE (zH (Ar (X:=Nat) (fun i=>[(0,slv p l.length cap),(1,slv q l.length cap2),(12, .int .i64 (l.length:Nat)),(13, .int .i64 (i:Nat))]) (fun _=>[]) (fun i=>i<=l.length) (fun i=>l.length-i) 0 (Nat.zero_le _) ⟨I,I,I,I,tO⟩ [] I ?_)))
 intro i hi
 have hi:i<=l.length:=hi
 refine zA (zB (wP I ?_))
 by_cases hlt:i<l.length
 ·refine wU 14 true I (dT (by omega)) (Aa (zE (zA (zR I (zI (zE (zA (zH (zA (zB ?_))))))))))
  obtain⟨g,off,e1,h1⟩:=hA.at_ hlt
  obtain⟨g2,off2,e2,h2⟩:=hB.at_ hlt
  have h1:=h1 i hlt
  have h2:=h2 i hlt
  obtain⟨x,hx⟩: ∃x,x=l[i]:=⟨_,rfl⟩
  rw[<-hx] at h1 h2
  subst e1 e2
  refine wP I (wP I (Aa (zE (zA (zU (qP I (qP I (qJ ?_))))))))
  refine qL 0 I I (fun W1 hp=>h1.hp hp) I (qP I (qP I (qJ ?_)))
  refine qL 0 I I (fun W1 hp=>h2.hp hp) I (Ys x.1 x.2.1 x.2.2 x.1 x.2.1 x.2.2 I I I I I ?_)
  exact qU 24 false I (by rw[dT ⟨I,I,I⟩];rfl) (A8 (Aa (zE (zS I (zI (zN (zE (zB (wP I (wV 25 ((i+1:Nat):Int) I (Aw (by omega)) (wP I (Aa (Aj (i+1) hlt (by show l.length-(i+1)<l.length-i;omega) ⟨I,I,I,I,tO⟩ [] I)))))))))))))
 exact wU 14 false I (dF (by omega)) (Aa (zE (zA (zS I (zJ (zK (zK (zL (zE (zA (zB (wP I (Aa (zE (zO (wR1 I I I))))))))))))))))
def exS:List SpS:=[([51],[49],[49]),([55],[49],[49]),([55],[51],[51]),([51],[51],[51])]
theorem YE (f:FrP) (L:List At):spC f L=G7 (L.map fun q=>(Ac (f.px q.1 q.2),Ac (f.py q.1 q.2),Ac (f.pz q.2))):=by
 unfold spC G7
 rw[List.flatMap_map]
theorem aL:spC f0 (crn 3 7 1 3)=G7 exS:=by
 rw[YE]
 exact congrArg G7 (by decide+kernel)
structure OpR where
 s:Int
 l:Rat
 r:Rat
 o:Rat
 i:Rat
 deriving Inhabited
abbrev OpR.v (x:OpR):Value:=GC x.s (Ac x.l) (Ac x.r) (Ac x.o) (Ac x.i)
structure OpR.OK (x:OpR):Prop where
 ol:okQ x.l
 or:okQ x.r
 oo:okQ x.o
 oi:okQ x.i
 ll:(Ac x.l).length<=8
 lr:(Ac x.r).length<=8
 lo:(Ac x.o).length<=8
 li:(Ac x.i).length<=8
 h1:x.l<x.r
 h2:x.o<x.i
def ovl (a b:OpR):Bool:=decide (a.s=b.s/\a.l<b.r/\b.l<a.r/\a.o<b.i/\b.o<a.i)
theorem Nl (a b:OpR) (ha:a.OK) (hb:b.OK) (W:World) (hv:AE W) (ht:A7 W):
  Ad Tryz.prog 45 #[a.v,b.v] W (fun _:Unit=> .bool (ovl a b)) (fun _=>True) (fun _=>[]):=by
 have zz: ∀ {q:Rat},(Ac q).length<=8->szQ q 8:=fun h=>DL h (by decide)
 have s1:Sz2 a.l b.r:=sz2 (zz ha.ll) (zz hb.lr) (by decide)
 have s2:Sz2 b.l a.r:=sz2 (zz hb.ll) (zz ha.lr) (by decide)
 have s3:Sz2 a.o b.i:=sz2 (zz ha.lo) (zz hb.li) (by decide)
 have s4:Sz2 b.o a.i:=sz2 (zz hb.lo) (zz ha.li) (by decide)
 refine Ab (args:=[GC a.s (Ac a.l) (Ac a.r) (Ac a.o) (Ac a.i),GC b.s (Ac b.l) (Ac b.r) (Ac b.o) (Ac b.i)]) Tryz.func45 I I I (zA (zB (wF I I fun _=>(wF I I fun _=>(wP I (Aa (zE (zA (zB (wP I (wB 0 I I I (wP I (wB 1 I I I (wP I ?_))))))))))))))
 by_cases h1:a.s=b.s
 rotate_left
 ·refine wU 9 false I (beq_eq_false_iff_ne.2 h1) (wP I ?_)
  iterate 6 refine Ae I I ?_
  refine wP I (wP I ?_)
  iterate 6 refine Ae I I ?_
  refine wP I (wP I ?_)
  iterate 6 refine Ae I I ?_
  refine wP I (wP I ?_)
  iterate 6 refine Ae I I ?_
  exact wP I (wP I (Aa (zE (zO (wR1 I I (congrArg Value.bool (dF fun h=>h1 h.1).symm))))))
 refine wU 9 true I (beq_iff_eq.2 h1) (wP I (wP I (wB 0 I I I (wP I (wB 1 I I I (wC I I (fun W1 hp=>BF a.l b.r s1 W1 (hv.hp hp) (ht.hp hp)) (wP I ?_)))))))
 by_cases h2:a.l<b.r
 rotate_left
 ·refine wU 16 false I ((BP _ _).trans (dF h2)) (wP I (wP I ?_))
  iterate 6 refine Ae I I ?_
  refine wP I (wP I ?_)
  iterate 6 refine Ae I I ?_
  refine wP I (wP I ?_)
  iterate 6 refine Ae I I ?_
  exact wP I (wP I (Aa (zE (zO (wR1 I I (congrArg Value.bool (dF fun h=>h2 h.2.1).symm))))))
 refine wU 16 true I ((BP _ _).trans (dT h2)) (wP I (wP I (wP I (wB 1 I I I (wP I (wB 0 I I I (wC I I (fun W1 hp=>BF b.l a.r s2 W1 (hv.hp hp) (ht.hp hp)) (wP I ?_))))))))
 by_cases h3:b.l<a.r
 rotate_left
 ·refine wU 24 false I ((BP _ _).trans (dF h3)) (wP I (wP I ?_))
  iterate 6 refine Ae I I ?_
  refine wP I (wP I ?_)
  iterate 6 refine Ae I I ?_
  exact wP I (wP I (Aa (zE (zO (wR1 I I (congrArg Value.bool (dF fun h=>h3 h.2.2.1).symm))))))
 refine wU 24 true I ((BP _ _).trans (dT h3)) (wP I (wP I (wP I (wB 0 I I I (wP I (wB 1 I I I (wC I I (fun W1 hp=>BF a.o b.i s3 W1 (hv.hp hp) (ht.hp hp)) (wP I ?_))))))))
 by_cases h4:a.o<b.i
 rotate_left
 ·refine wU 32 false I ((BP _ _).trans (dF h4)) (wP I (wP I ?_))
  iterate 6 refine Ae I I ?_
  exact wP I (wP I (Aa (zE (zO (wR1 I I (congrArg Value.bool (dF fun h=>h4 h.2.2.2.1).symm))))))
 refine wU 32 true I ((BP _ _).trans (dT h4)) (wP I (wP I (wP I (wB 1 I I I (wP I (wB 0 I I I (wC I I (fun W1 hp=>BF b.o a.i s4 W1 (hv.hp hp) (ht.hp hp)) (wP I ?_))))))))
 by_cases h5:b.o<a.i
 rotate_left
 ·exact wU 40 false I ((BP _ _).trans (dF h5)) (wP I (wP I (Aa (zE (zO (wR1 I I (congrArg Value.bool (dF fun h=>h5 h.2.2.2.2).symm)))))))
 exact wU 40 true I ((BP _ _).trans (dT h5)) (wP I (wP I (Aa (zE (zO (wR1 I I (congrArg Value.bool (dT ⟨h1,h2,h3,h4,h5⟩).symm)))))))
def ZN (W:World) (p:Option Addr) (L:List OpR):Prop:=L=[]\/ ∃g off,p=some ⟨g,off,none⟩/\ ∀i (hi:i<L.length),Ai W g (off+i*5) (L[i]).v.cells.toList
theorem ZN.row {W:World} {p:Option Addr} {L:List OpR} (h:ZN W p L) {i:Nat} (hi:i<L.length): ∃g off,p=some ⟨g,off,none⟩/\ ∀k (hk:k<L.length),Ai W g (off+k*5) (L[k]).v.cells.toList:=by
 rcases h with rfl|h
 ·exact absurd hi (Nat.not_lt_zero _)
 ·exact h
def djt (L:List OpR):Bool:=decide (∀i,i<L.length-> ∀j,j<i->ovl (L.getD i default) (L.getD j default)=false)
def djK (L:List OpR) (i:Nat):Prop:= ∀i',i'<i-> ∀j,j<i'->ovl (L.getD i' default) (L.getD j default)=false
theorem opg {L:List OpR} {i:Nat} (h:i<L.length):L.getD i default=L[i]:=by rw[List.getD_eq_getElem?_getD,List.getElem?_eq_getElem h];rfl
theorem ZZ {L:List OpR} {i j:Nat} (hi:i<L.length) (hj:j<i) (h:ovl L[i] (L[j]'(by omega))=true):djt L=false:=by
 refine dF fun hh=> ?_
 have:=hh i hi j hj
 rw[opg hi,opg (by omega),h] at this
 cases this
theorem Yg {L:List OpR} (h:djK L L.length):djt L=true:=dT h
abbrev opB (b:Nat) (x:OpR):Bx:=⟨b,27,x.v.cells.toList,true,none⟩
theorem RW (L:List OpR) (hL: ∀x∈L,x.OK) (hn:L.length<=32) (p:Option Addr) (cap:Nat) (hcap:L.length<=cap) (W:World) (hA:ZN W p L) (hv:AE W) (ht:A7 W):
  Ad Tryz.prog 10 #[slv p L.length cap] W (fun _:Unit=> .tuple #[.bool (djt L), .int .i64 0]) (fun _=>True) (fun _=>[]):=by
 refine Ab (args:=[slv p L.length cap]) Tryz.func10 I I I (zA (zB (wP I (wP I (Aa (zE (zA (zA (zB (wP I (wP I (wP I (wU 13 false I (dF (by omega)) (Aa (zE (zS I (zI (zE (zA (zA (zB (wP I (wP I (wP I ?_))))))))))))))))))))))))
 refine Aa (zE (zH (Ar (X:=Nat) (fun i=>[(0,slv p L.length cap),(2, .bool false),(3, .int .i64 0),(14,slv p L.length cap),(15, .int .i64 (L.length:Nat)),(16, .int .i64 (i:Nat))]) (fun _=>[]) (fun i=>i<=L.length) (fun i=>L.length-i) 0 (Nat.zero_le _) ⟨I,I,I,I,I,I,tO⟩ [] I ?_)))
 intro i hi
 have hi:i<=L.length:=hi
 refine zA (zB (wP I ?_))
 by_cases hlt:i<L.length
 ·refine wU 17 true I (dT (by omega)) (Aa (zE (zA (zR I (zI (zE (zA (zH (zA (zB ?_))))))))))
  obtain⟨g,off,rfl,hrow⟩:=hA.row hlt
  have hr:=hrow i hlt
  have hx:=hL L[i] (List.getElem_mem _)
  obtain⟨x,hxe⟩: ∃x,x=L[i]:=⟨_,rfl⟩
  rw[<-hxe] at hr hx
  refine wJ ?_
  refine wL 0 I I (fun W1 hp=>hr.hp hp) I (wG I I fun _=>(wS 0 I I I (Aa ?_)))
  rename_i b5
  exact zE (zA (zB (wB 0 I I I (wC I I (fun W1 hp=>Jg x.s x.l x.r x.o x.i hx.ol hx.or hx.oo hx.oi hx.ll hx.lr hx.lo hx.li hx.h1 hx.h2 W1 (hv.hp hp) (ht.hp hp)) (wP I (Aa (zE (zA (zB (wP I (wP I (Aa (zE (zS I (zI (zN (zE (zB (wP I (wV 25 ((i+1:Nat):Int) I (Aw (by omega)) (wP I (Aa (Aj (i+1) hlt (by show L.length-(i+1)<L.length-i;omega) ⟨I,I,I,I,I,I,tO⟩ [_] I)))))))))))))))))))))))
 refine wU 17 false I (dF (by omega)) (Aa (zE (zA (zS I (zJ (zK (zK (zL (zE (zA (zA (zB ?_))))))))))))
 clear hi hlt
 refine wP I (wP I (wP I (Aa (zE (zH (Ar (X:=Nat) (fun i=>[(0,slv p L.length cap),(2, .bool false),(3, .int .i64 0),(26,slv p L.length cap),(27, .int .i64 (L.length:Nat)),(28, .int .i64 (i:Nat))]) (fun _=>[]) (fun i=>i<=L.length/\djK L i) (fun i=>L.length-i) 0 ⟨Nat.zero_le _,fun i' hi'=>absurd hi' (Nat.not_lt_zero _)⟩ ⟨I,I,I,I,I,I,tO⟩ [] I ?_))))))
 rintro i ⟨hi,hK⟩
 have hi:i<=L.length:=hi
 have hK:djK L i:=hK
 refine zA (zB (wP I ?_))
 by_cases hlt:i<L.length
 rotate_left
 ·exact wU 29 false I (dF (by omega)) (Aa (zE (zA (zS I (zJ (zK (zK (zL (zE (zA (zB (wP I (wP I (Aa (zE (zO (wR2 I I (by rw[Yg (by rw[show L.length=i by omega];exact hK)]))))))))))))))))))
 refine wU 29 true I (dT (by omega)) (Aa (zE (zA (zR I (zI (zE (zA (zH (zA (zB ?_))))))))))
 obtain⟨g,off,rfl,hrow⟩:=hA.row hlt
 have hr:=hrow i hlt
 have hx:=hL L[i] (List.getElem_mem _)
 have hno: ∀j (hj:j<i),ovl L[i] (L[j]'(by omega))=true->djt L=false:=fun j hj h=>ZZ hlt hj h
 have hgi:=opg hlt
 obtain⟨x,hxe⟩: ∃x,x=L[i]:=⟨_,rfl⟩
 rw[<-hxe] at hr hx hno hgi
 refine wP I (wJ ?_)
 refine wL 0 I I (fun W1 hp=>hr.hp hp) I (wG I I fun _=>(wP I (wS 0 I I I (Aa ?_))))
 rename_i b8
 refine zE (zA (zB (wP I (wP I (B6 i tH I I I I I I I I (by omega) ?_)))))
 refine wP I (wP I (Aa (zE (zH (Ar (X:=Nat) (fun j=>[(0,slv (some ⟨g,off,none⟩) L.length cap),(2, .bool false),(3, .int .i64 0),(8,Af b8),(26,slv (some ⟨g,off,none⟩) L.length cap),(27, .int .i64 (L.length:Nat)),(28, .int .i64 (i:Nat)),(35,slv (some ⟨g,off,none⟩) i cap),(36, .int .i64 (i:Nat)),(37, .int .i64 (j:Nat))]) (fun _=>[opB b8 x]) (fun j=>j<=i/\ ∀j' (hj:j'<j) (hi:j'<i),ovl x (L[j']'(by omega))=false) (fun j=>i-j) 0 ⟨Nat.zero_le _,fun _ h=>absurd h (Nat.not_lt_zero _)⟩ ⟨I,I,I,I,I,I,I,I,I,I,tO⟩ [] I ?_)))))
 rintro j ⟨hj,hF⟩
 have hj:j<=i:=hj
 have hF: ∀j' (hj:j'<j) (hi:j'<i),ovl x (L[j']'(by omega))=false:=hF
 refine zA (zB (wP I ?_))
 by_cases hlj:j<i
 rotate_left
 ·refine wU 38 false I (dF (by omega)) (Aa (zE (zA (zS I (zJ (zK (zK (zL (zN (zE (zB (wP I (wV 45 ((i+1:Nat):Int) I (Aw (by omega)) (wP I (Aa ?_)))))))))))))))
  refine Aj (i+1) ⟨hlt,fun i' hi' j' hj'=> ?_⟩ (by show L.length-(i+1)<L.length-i;omega) ⟨I,I,I,I,I,I,tO⟩ [_] I
  by_cases e:i'=i
  ·subst e
   rw[hgi,opg (by omega)]
   exact hF j' (by omega) (by omega)
  ·exact hK i' (by omega) j' hj'
 refine wU 38 true I (dT (by omega)) (Aa (zE (zA (zR I (zI (zE (zA (zH (zA (zB ?_))))))))))
 have hjL:j<L.length:=by omega
 have hr2:=hrow j hjL
 have hy:=hL L[j] (List.getElem_mem _)
 have hno:=hno j hlj
 have hF2: ∀b,ovl x L[j]=b->b=false-> ∀j' (hj:j'<j+1) (hi:j'<i),ovl x (L[j']'(by omega))=false:=fun b e eb j' h1 h2=>by
  by_cases e':j'=j
  ·subst e';rw[e,eb]
  ·exact hF j' (by omega) h2
 obtain⟨y,hye⟩: ∃y,y=L[j]:=⟨_,rfl⟩
 rw[<-hye] at hr2 hy hno hF2
 refine wJ ?_
 refine wL 0 I I (fun W1 hp=>hr2.hp hp) I (wG I I fun _=>(wS 1 I I I (Aa ?_)))
 rename_i b10
 refine zE (zA (zB (wB 0 I I I (wB 1 I I I (wC I I (fun W1 hp=>Nl x y hx hy W1 (hv.hp hp) (ht.hp hp)) (Aa (zE (Ah I (fun hov=> ?_) (fun hov=> ?_)))))))))
 ·have hov:ovl x y=true:=hov
  exact zA (zB (wP I (wP I (Aa (zE (zO (zQ (zP (zP (zQ (zQ (zP (zP (zQ (zP (wR2 I I (by rw[hno hov])))))))))))))))))
 ·have hov:ovl x y=false:=hov
  exact zI (zN (zE (zB (wP I (wV 44 ((j+1:Nat):Int) I (Aw (by omega)) (wP I (Aa (Aj (j+1) ⟨hlj,hF2 _ hov I⟩ (by show i-(j+1)<i-j;omega) ⟨I,I,I,I,I,I,I,I,I,I,tO⟩ [_] I))))))))
abbrev olB (b:Nat) (p:Option Addr) (n cap:Nat):Bx:=⟨b,22,[slv p n cap],true,none⟩
abbrev inB (b:Nat) (s:Int):Bx:=⟨b,3,[.int .i64 s],true,none⟩
theorem Pd (p:Option Addr) (n cap:Nat) (s:Int) (W:World):Ad Tryz.prog 101 #[slv p n cap, .int .i64 s] W (fun b:Nat×Nat=> .func (.func 168) #[] #[Af b.1,Af b.2]) (fun _=>True) (fun b=>[olB b.1 p n cap,inB b.2 s]):=by
 refine Ab (args:=[slv p n cap, .int .i64 s]) Tryz.func101 I I I (zA (zB (wF I I fun _=>(wF I I fun _=>(wP I (Aa ?_))))))
 rename_i b1 b2
 exact zE (zA (zB (wP I (wP I (Aa (zE (zO (Ax tH I (.tmp I) (b1,b2) I tO fun W1 hp=>As.of_hp hp))))))))
structure OnN (b1 b2 g cap:Nat) (W:World):Prop where
 var:Ai W b1 0 [slv (some ⟨g,0,none⟩) 1 cap]
 sd:Ai W b2 0 [.int .i64 0]
 row:Ai W g 0 opE.cells.toList
abbrev Vx (b:Nat):List (Nat×Obj):=[(b, .cells opE.cells 27 (0,0))]
theorem RN (b1 b2 g cap:Nat):Pm Tryz.prog 168 [Af b1,Af b2] 1 (fun _=>[opE]) (fun _=>OnN b1 b2 g cap):=by
 refine⟨fun y J Jx hN hB hA hU hY W hJ=> ?_⟩
 refine CT (args:=[.func (.yield y) #[] #[],Af b1,Af b2]) (J0:=J 0 []) (Jm:=fun W=> ∃L,J 1 L W) Tryz.func168 I I I hJ ?_
 refine zA (zB (wL 0 I I (fun W hp=>(hN _ _ W hp).1.var) I (wP I (wP I (Aa (zE (zH ?_)))))))
 refine Db (X:=Nat×List (Nat×Obj)) (fun s=>[(0, .func (.yield y) #[] #[]),(1,Af b1),(2,Af b2),(6,slv (some ⟨g,0,none⟩) 1 cap),(7, .int .i64 1),(8, .int .i64 (s.1:Nat))]) (fun s W=>J s.1 s.2 W)
  (fun s=>s.1<=1) (fun s=>1-s.1) (0,[]) (Nat.zero_le _) ⟨rfl,rfl,rfl,rfl,rfl,rfl,trivial⟩ (fun W hp=>hp) ?_
 rintro⟨i,L⟩ hi
 have hi:i<=1:=hi
 refine zA (zB (wP I ?_))
 by_cases hlt:i<1
 rotate_left
 ·have e:i=1:=by omega
  subst e
  exact Al 9 (.bool false) I I (Aa (zE (zA (zS I (zJ (zK (zK (zL (Fv I fun W hp=>⟨L,hp⟩)))))))))
 have e:i=0:=by omega
 subst e
 refine Al 9 (.bool true) I I (Aa (zE (zA (zR I (zI (zE (zA (zH (zA (zB (wI I I (by show(0:Int)<=0;decide) (by show(0:Int)<1;decide) (wL 0 I I (fun W hp=>(hN _ _ W hp).1.row) I (KA (fun b W=>J 0 [(b, .cells (Value.agg #[.int .i64 0,str [],str [],str [],str []]).cells 27 (0,0))] W) I I I (Tryz.hZ.get I) (fun W W' b hp hb hl ho=>hA _ _ W W' b _ hp hb hl ho) fun b=> ?_)))))))))))))
 refine KC (cs:=[.int .i64 0,str [],str [],str [],str []]) (ty:=27) (fun W=>J 0 (Vx b) W) tH I I I I I I (fun W hp=>(hN _ _ W hp).2 (b,_) (List.mem_cons_self ..)) I I I (fun W W' hp hu=>hU _ _ _ _ W W' hp hu) ?_
 refine Aa (zE (zA (zB ?_)))
 have hown: ∀W,J 0 (Vx b) W->Ai W b 0 opE.cells.toList:=fun W hp=>Ai.of_block ((hN _ _ W hp).2 (b,_) (List.mem_cons_self ..))
 refine wP I (wL 0 I I (fun W hp=>hown W hp) I (wL 0 I I (fun W hp=>(hN _ _ W hp).1.sd) I (wP I (wP I (wP I (wL 0 I I (fun W hp=>hown W hp) I ?_))))))
 have hYk: ∀W,J 0 (Vx b) W->YieldAt (Fw none) 0 Tryz.prog y [opE].toArray W fun e W'=>(e= .returned (.bool true)/\J 1 (Vx b) W')\/(e= .returned (.bool false)/\Jx W'):=fun W h=>hY _ _ W hlt h
 refine Eo (A1:=fun W=>J 1 (Vx b) W) (A2:=Jx) I I I I I I hYk ?_ ?_
 rotate_left
 ·exact wP I (wP I (Aa (zE (zR I (zO (zQ (zP (zP (zQ (Ce I (fun W h=>h)))))))))))
 exact wP I (wP I (Aa (zE (zS I (zI (zN (zE (zB (wP I (wP I (Aa (Da (1,Vx b) (Nat.le_refl _) (by show 0<1;decide) ⟨I,I,I,I,I,I,tO⟩ (fun W hp=>hp)))))))))))))
def ZP:OpR:=⟨0,3,7,1,3⟩
theorem YA:ZP.OK:=⟨OI (q:=3) (by decide+kernel),OI (q:=7) (by decide+kernel),OI (q:=1) (by decide+kernel),OI (q:=3) (by decide+kernel),by show(Ac 3).length<=8;rw[nO3];decide,by show(Ac 7).length<=8;rw[nO7];decide,by show(Ac 1).length<=8;rw[nO1];decide,by show(Ac 3).length<=8;rw[nO3];decide,by decide+kernel,by decide+kernel⟩
theorem ZT:Ac 25=[50,53]:=by decide+kernel
theorem cY:Ac 17=[49,55]:=by decide+kernel
abbrev WB (b:Nat) (s:List UInt8):Bx:=⟨b,25,[str s],true,none⟩
abbrev sfB (b:Nat) (x:SfX) (bT:Nat):Bx:=⟨b,148,(x.v bT).cells.toList,true,none⟩
abbrev rfB (b bR bT:Nat):Bx:=⟨b,81,(Gm bR bT).cells.toList,true,none⟩
def smT (b:Bool):List UInt8:=if b then[50,53] else[48]
def smL:Nat->List UInt8
 |0=>[50,53]
 |_+1=>[49,55]
theorem LB (bR bT g cap:Nat) (hcap:1<=cap) (W:World) (h:Nj W bR bT) (hg:Ai W g 0 opE.cells.toList) (hd:Fk W) (hv:AE W) (ht:A7 W):
  Ad Tryz.prog 38 #[Gm bR bT, .int .i64 0,slv (some ⟨g,0,none⟩) 1 cap] W (fun _:Unit=> .tuple #[str [49,55], .int .i64 0]) (fun _=>True) (fun _=>[]):=by
 have zz: ∀q:Rat,(q.num.natAbs<10^8/\q.den<10^8)->szQ q 8:=fun q hq=>hq
 have z1:=zz 1 (by decide+kernel)
 have z3:=zz 3 (by decide+kernel)
 have z7:=zz 7 (by decide+kernel)
 have e8:((7:Rat)-3)*(3-1)=8:=by decide+kernel
 have e25:S0.area f0=25:=by decide+kernel
 have e17:(25:Rat)-8=17:=by decide+kernel
 have hdj:djt [ZP]=true:=by decide+kernel
 refine Ab (args:=[Gm bR bT, .int .i64 0,slv (some ⟨g,0,none⟩) 1 cap]) Tryz.func38 I I I (zA (zB (wF I I fun _=>(wG I I fun _=>(wG I I fun _=>(Aa ?_))))))
 rename_i b3 b6 b7
 refine zE (zA (zB (wB 0 I I I (wD (X:=SfX) I I (fun W1 hp=>Ls bR bT W1 (h.hp hp).r (h.hp hp).t (hd.hp hp) (hv.hp hp) (ht.hp hp)) ?_))))
 rintro x _
 obtain⟨X,hX⟩: ∃X,X=x:=⟨_,rfl⟩
 obtain⟨gF,cF,jF,gC,cC,jC,gA,cA,jA⟩:=x
 refine wP I (wP I (wP I (wG I I fun _=>(wS 6 I I I (wP I (Aa ?_))))))
 rename_i b8
 refine zE (zA (zA (zB (wP I (wP I (Aa (zE (zS I (zI (zE (zA (zA (zB (wP I (wP I (wP I (wP I (wP I (wB 6 I I I (wP I (wP I (wP I (Aa ?_)))))))))))))))))))))))
 refine zE (zS I (zI (zE (zA (zB (wP I ?_))))))
 refine wC I I (fun W1 hp=>(RW [ZP] (fun x hx=>by rw[List.mem_singleton.1 hx];exact YA) (by decide) (some ⟨g,0,none⟩) cap hcap W1 (.inr ⟨g,0,I,fun i hi=>by
  have e:i=0:=by have hi:i<1:=hi;omega
  subst e
  exact hg.hp hp⟩) (hv.hp hp) (ht.hp hp)).cast (v':= .tuple #[.bool true, .int .i64 0]) (by rw[hdj])) ?_
 refine wP I (wP I (wP I (wP I (wP I (Aa (zE (zA (zA (zB (wP I (wP I (Aa (zE (zS I (zI (zE (zA (zA (zB (wP I (wP I (wD (X:=Nat×Nat) I I (fun W1 _=>Pd (some ⟨g,0,none⟩) 1 cap 0 W1) ?_))))))))))))))))))))))
 rintro⟨c1,c2⟩ _
 refine Aa (zE (zH ?_))
 refine EE (X:=Unit) (fun _=>[rfB b3 bR bT,WB b6 [],erK b7 0,fbB gF jF,BI gC Ez jC,arB gA gC cC jA,sfB b8 ⟨gF,cF,jF,gC,cC,jC,gA,cA,jA⟩ bT,olB c1 (some ⟨g,0,none⟩) 1 cap,inB c2 0])
  (fun _ _=>True) (fun _ _=>False) () rfl (by kernel_rfl) (RN c1 c2 g cap) (fun _=>rfl)
  trivial [] rfl (fun k x W1 _ hp=>⟨Ai.of_bx hp 7 rfl rfl,Ai.of_bx hp 8 rfl rfl,hg.hp hp⟩) ?_ ?_ (fun _ _ _ _ _ h=>h.elim)
 ·rintro k _ d l' rec L hk _ hrec
  refine zB (wG I I fun _=>(wS 12 I I I (Aa ?_)))
  rename_i b11
  refine BJ 11 hrec I ?_
  exact zH (zA (zB (wB 7 I I I (wB 12 I I I (wC I I (fun W1 hp=>Kf ⟨gF,cF,jF,gC,cC,jC,gA,cA,jA⟩ bT W1 (SfP.of h hp 4 5 6 I I I) (hv.hp hp) (ht.hp hp)) (wP I (Aa (zE (zA (zB (wP I (wP I (Aa (zE (zS I (zI (zN (Bk 11 () hrec I tO [_] I))))))))))))))))))
 rintro _ d1 l1 rec1 _
 refine zN (zE (zA (zA (zB (wP I (wP I (Aa (zE (zS I (zI (zE (zA (zB (wG I I fun _=>(wS 11 I I I (Aa ?_))))))))))))))))
 rename_i b13
 refine zE (zA (zA (zB (wP I (wB 0 I I I (wP I (wP I (Aa (zE (zH ?_))))))))))
 refine Ar (X:=Bool) (fun b=>[(1, .int .i64 0),(2,slv (some ⟨g,0,none⟩) 1 cap),(3,Af b3),(6,Af b6),(7,Af b7),(8,Af b8),(13,Af b13),(59,slv (some ⟨bT,0,none⟩) 1 1),(60, .int .i64 1),(61, .int .i64 (cE b))])
  (fun b=>[rfB b3 bR bT,WB b6 [],erK b7 0,fbB gF jF,BI gC Ez jC,arB gA gC cC jA,sfB b8 ⟨gF,cF,jF,gC,cC,jC,gA,cA,jA⟩ bT,olB c1 (some ⟨g,0,none⟩) 1 cap,inB c2 0,BG d1,Be l1 rec1 .exhausted none,WB b13 (smT b)])
  (fun _=>True) smM false trivial ⟨rfl,rfl,rfl,rfl,rfl,rfl,rfl,rfl,rfl,rfl,trivial⟩ [] rfl ?_
 intro b _
 cases b with
 |false=>
  refine zA (zB (wP I (Aa (zE (zA (zR I (zI (zE (zA (zH (zA (zB (wI I I (by decide) (by decide) (wL 0 I I (fun W1 hp=>(h.hp hp).t) I (wG I I fun _=>(wS 12 I I I (Aa ?_)))))))))))))))))
  rename_i b15
  refine zE (zA (zA (zB (wP I (wB 12 I I I (wP I (wP I (Aa (zE (zS I (zI (zE (zA (zU (qP I (qB 6 I I I (qP I (qI I I (by decide) (by decide) (qL 0 I I (fun W1 hp=>QC hp 3 I) I (qB 12 I I I (qC I I (fun W1 hp=>(Q0 f0 Rv 0 S0 Zj (by decide+kernel) W1 (hv.hp hp) (ht.hp hp)).cast (v':= .tuple #[str [50,53], .int .i64 0]) (by rw[e25,ZT])) (qP I (qP I (qP I (qP I (qP I ?_))))))))))))))))))))))))))
  refine A8 (Aa (zE (zA (zA (zB (wP I (wP I (Aa (zE (zS I (zI (zE (zA (zB (wB 11 I I I (wP I ?_))))))))))))))))
  refine wC I I (fun W1 hp=>(show Ad Tryz.prog 19 #[str [48],str [50,53]] W1 (fun _:Unit=> .tuple #[str [50,53], .int .i64 0]) (fun _=>True) (fun _=>[]) by
   have h2:=Ca 0 25 (eO (by decide+kernel)) W1 (hv.hp hp) (ht.hp hp)
   rwa [Rat.zero_add,nO0,ZT] at h2)) ?_
  exact wP I (wP I (wP I (wS 11 I I I (wP I (Aa (zE (zA (zB (wP I (wP I (Aa (zE (zS I (zI (zN (zE (zB (wP I (wP I (Aa (Aj true tO (by decide) ⟨I,I,I,I,I,I,I,I,I,I,tO⟩ [_] I)))))))))))))))))))))
 |true=>
 refine zA (zB (wP I (Aa (zE (zA (zS I (zJ (zK (zK (zL (zE (zA (zA (zB (wP I (wP I (wD (X:=Nat×Nat) I I (fun W1 _=>Pd (some ⟨g,0,none⟩) 1 cap 0 W1) ?_)))))))))))))))))
 rintro⟨c3,c4⟩ _
 refine Aa (zE (zH ?_))
 refine EE (X:=Nat) (fun k=>[rfB b3 bR bT,WB b6 [],erK b7 0,fbB gF jF,BI gC Ez jC,arB gA gC cC jA,sfB b8 ⟨gF,cF,jF,gC,cC,jC,gA,cA,jA⟩ bT,olB c1 (some ⟨g,0,none⟩) 1 cap,inB c2 0,BG d1,Be l1 rec1 .exhausted none,WB b13 (smL k),olB c3 (some ⟨g,0,none⟩) 1 cap,inB c4 0])
  (fun j k=>k=j) (fun _ _=>False) 0 rfl (by kernel_rfl) (RN c3 c4 g cap) (fun _=>rfl)
  rfl [] rfl (fun k x W1 _ hp=>⟨Ai.of_bx hp 12 rfl rfl,Ai.of_bx hp 13 rfl rfl,hg.hp hp⟩) ?_ ?_ (fun _ _ _ _ _ h=>h.elim)
 ·rintro k x d l' rec L hk e1 hrec
  have hk:k=0:=by omega
  subst hk
  have e1:x=0:=e1
  subst e1
  refine zB (wG I I fun _=>(wS 17 I I I (Aa ?_)))
  rename_i b18
  refine BJ 16 hrec I ?_
  refine zH (zA (zB (wB 17 I I I (wC I I (fun W1 hp=>(IS 0 3 7 1 3 z3 z7 z1 z3 W1 (hv.hp hp) (ht.hp hp)).cast (v':= .tuple #[str [56], .int .i64 0]) (by rw[e8,nO8])) (wP I (wP I (wP I (wP I (wP I (Aa (zE (zA (zA (zB (wP I (wP I (Aa (zE (zS I (zI (zE (zA (zB ?_)))))))))))))))))))))))
  refine wB 12 I I I (wP I ?_)
  refine wC I I (fun W1 hp=>(show Ad Tryz.prog 21 #[str [50,53],str [56]] W1 (fun _:Unit=> .tuple #[str [49,55], .int .i64 0]) (fun _=>True) (fun _=>[]) by
   have h2:=BM 25 8 (eO (by decide+kernel)) W1 (hv.hp hp) (ht.hp hp)
   rwa [e17,ZT,nO8,cY] at h2)) ?_
  exact wP I (wP I (wP I (wS 12 I I I (wP I (Aa (zE (zA (zB (wP I (wP I (Aa (zE (zS I (zI (zN (Bk 16 1 hrec I I [_] I))))))))))))))))
 rintro x d2 l2 rec2 e1
 have e1:x=1:=e1
 subst e1
 refine zN (zE (zA (zB (wB 11 I I I (wS 1 I I I (wS 2 I I I (Aa (zE (zO (Ci 14 I ?_))))))))))
 refine Ci 9 I ?_
 exact A0 tH I (.cell 1 I I I I I) (.cell 2 I I I I I) () I tO fun W _=>As.nil _ _
theorem nO2:Ac 2=[50]:=by decide+kernel
theorem nO4:Ac 4=[52]:=by decide+kernel
theorem nO5:Ac 5=[53]:=by decide+kernel
theorem TK:f0=frs [sqL] 0:=Option.some.inj (Zl.symm.trans (JB (by decide)))
theorem XG:bsE [sqL] 0 [53] [50] [50] 1 1=0:=by
 have e5:(rdR [53]).2=0:=by rw[<-nO5];exact congrArg Prod.snd (CV (OI (by decide+kernel)))
 have e2:(rdR [50]).2=0:=by rw[<-nO2];exact congrArg Prod.snd (CV (OI (by decide+kernel)))
 have hn:ner [[53],[50],[50]]=0:=by
  unfold ner ner ner ner
  rw[if_pos e5,if_pos e2,if_pos e2]
 have q2:rdQ [50]=2:=by rw[<-nO2,DH]
 unfold bsE
 rw[if_neg (by decide),if_neg (by decide),if_neg (fun h=>h hn),q2,show(0:Int).toNat=0 from rfl, <-TK,if_neg (by
  rintro(h|h|h)
  ·exact absurd h (by decide+kernel)
  ·exact absurd h (by decide+kernel)
  ·cases h)]
theorem aY:Yw [sqL] 0 [53] [50] [50] 1 1 f0 5 2 2:=
 ⟨by decide,by decide,TK,nO5.symm,nO2.symm,nO2.symm,by unfold szQ;decide+kernel,by unfold szQ;decide+kernel,by unfold szQ;decide+kernel,Rv,by decide+kernel,by decide+kernel,by decide,by decide,by rw[bsV,if_pos XG,TK];rfl⟩
theorem Zs:opE= .agg #[.int .i64 0,str [51],str [55],str [49],str [51]]:=by unfold opE GC;rw[nO3,nO7,nO1]
theorem CH (W:World) (hd:Fk W) (hv:AE W) (ht:A7 W):
  Ad Tryz.prog 8 #[] W (fun _:Unit=> .bool true) (fun _=>True) (fun _=>[]):=by
 have eZ:Mx 2 2 1 1=4:=by decide+kernel
 have eS:f0.spot 5 ((4-f0.st)*f0.sp)= .agg #[str [53],str [52],str [52]]:=by
  unfold FrP.spot
  rw[show f0.px 5 ((4-f0.st)*f0.sp)=5 by decide+kernel,show f0.py 5 ((4-f0.st)*f0.sp)=4 by decide+kernel,show f0.pz ((4-f0.st)*f0.sp)=4 by decide+kernel,nO5,nO4]
 refine Ab (args:=[]) Tryz.func8 I I I (zA (zB (wP I (Aa (zE (zA (zB (Ap Tryz.hZ tH I I I I I I I I ?_))))))))
 refine wG I I fun _=>(wS 0 I I I (Aa ?_))
 rename_i b1
 refine X3 (bxs':=[⟨b1,27,opE.cells.toList,true,none⟩]) (by rw[Zs];rfl) ?_
 refine zE (Av ?_)
 refine AW (X:= { y:Nat×Nat×List Value//Vec.OK ⟨some y.1,y.2.1,y.2.2⟩ 3 4 (G7 exS) }) [false,true,false,false,false,false,false,false] (fun y=>[(1,Af b1),(2,slv (some ⟨y.1.1,0,none⟩) 4 y.1.2.1),(3, .int .i64 0)])
  (fun y=>[⟨b1,27,opE.cells.toList,true,none⟩,⟨y.1.1,45,G7 exS++y.1.2.2,true,none⟩])
  7 [⟨b1,27,opE.cells.toList,true,none⟩] Tryz.mixed (by kernel_rfl) ?_ ?_
 ·refine qB 0 I I I (BU (wX (wZ ?_)))
  refine wD (X:=Nat×Nat×Nat) rfl rfl (fun W1 _=>F0 W1) ?_;rintro⟨bS,bR,bT⟩ _
  refine Aa (Ag (wX (wZ ?_)))
  refine wD (X:=Vec) rfl rfl (fun W1 hp=>N9 bR bT W1 ⟨Dy hp 1 2 rfl rfl,Ai.of_bx hp 3 rfl rfl⟩ (hd.hp hp) (hv.hp hp) (ht.hp hp)) ?_;rw[aL];rintro⟨pV,cV,jV⟩ hV;have hV:Vec.OK ⟨pV,cV,jV⟩ 3 4 (G7 exS):=hV;obtain⟨gV,rfl⟩: ∃g,pV=some g:=Option.ne_none_iff_exists'.1 (fun e=>absurd (hV.nil e) (by decide))
  refine Aa (Ag (wX (wZ (wP I (Aa (Ag (wX (RS.cons ?_ (RS.cons ?_ (RS.nil))))))))))
  ·refine wP I (Aa (Ag (wX (RS.cons ?_ (RS.cons ?_ (RS.nil))))))
   ·refine wP I (Aa (Ag (wX (wZ (wP I (Aa (Ag (wX (wZ (wP I (Aa (Ag ?_))))))))))))
    refine AD I (by((repeat (first|refine AJ.same ?_|refine AJ.off I ?_));exact tO)) ?_
    exact A4 (⟨(gV,cV,jV),hV⟩: { y:Nat×Nat×List Value//Vec.OK ⟨some y.1,y.2.1,y.2.2⟩ 3 4 (G7 exS) }) ⟨I,I,I,tO⟩ [0,4] (by decide) I
   ·refine wP I (Aa (Ag (wX (wZ (wP I (Aa (Ag (wX (wZ (wP I (Aa (Ag ?_))))))))))))
    refine AD I (by((repeat (first|refine AJ.same ?_|refine AJ.off I ?_));exact tO)) ?_
    exact A4 (⟨(gV,cV,jV),hV⟩: { y:Nat×Nat×List Value//Vec.OK ⟨some y.1,y.2.1,y.2.2⟩ 3 4 (G7 exS) }) ⟨I,I,I,tO⟩ [0,4] (by decide) I
  ·refine wP I (Aa (Ag (wX (wZ (wP I (Aa (Ag (wX (wZ (wP I (Aa (Ag (wX (wZ (wP I (Aa (Ag ?_)))))))))))))))))
   refine AD I (by((repeat (first|refine AJ.same ?_|refine AJ.off I ?_));exact tO)) ?_
   exact A4 (⟨(gV,cV,jV),hV⟩: { y:Nat×Nat×List Value//Vec.OK ⟨some y.1,y.2.1,y.2.2⟩ 3 4 (G7 exS) }) ⟨I,I,I,tO⟩ [0,4] (by decide) I
 rintro⟨⟨gV,cV,jV⟩,hV⟩
 refine zE (Av ?_)
 refine AW (X:=Unit) [false,true,false,false,false,false,false,false,false] (fun _=>[(2,slv (some ⟨gV,0,none⟩) 4 cV),(3, .int .i64 0),(4,str [49,55]),(5, .int .i64 0)])
  (fun _=>[⟨gV,45,G7 exS++jV,true,none⟩])
  8 [⟨b1,27,opE.cells.toList,true,none⟩,⟨gV,45,G7 exS++jV,true,none⟩] Tryz.mixed (by kernel_rfl) ?_ ?_
 ·refine qB 0 I I I (BU (wX (RS.cons ?_ (RS.cons ?_ (RS.nil)))))
  ·refine wD (X:=Nat×Nat×Nat) rfl rfl (fun W1 _=>F0 W1) ?_;rintro⟨bS,bR,bT⟩ _
   refine Aa (Ag (wX (wZ (Ao Tryz.hZ tH I I I I I I I I I I I fun bN=> ?_))))
   refine Aa (Ag (wX (wZ (wC I I (fun W1 hp=>LB bR bT bN 1 (by decide) W1 (by first|exact⟨Dy hp 2 3 I I,Ai.of_bx hp 4 I I⟩|exact⟨Dy hp 3 4 I I,Ai.of_bx hp 5 I I⟩) (by first|exact Ai.of_bx hp 5 I I|exact Ai.of_bx hp 2 I I) (hd.hp hp) (hv.hp hp) (ht.hp hp)) (Aa (Ag (wX (wZ (wP I (Aa (Ag (wX (RS.cons ?_ (RS.cons ?_ (RS.nil)))))))))))))))
   ·refine wP I (Aa (Ag (wX (RS.cons ?_ (RS.cons ?_ (RS.nil))))))
    ·refine wP I (Aa (Ag (wX (wZ (wP I (Aa (Ag (wX (wZ (wP I (Aa (Ag ?_))))))))))))
     refine AD I (by((repeat (first|refine AJ.same ?_|refine AJ.off I ?_));exact tO)) ?_
     exact A4 () ⟨I,I,I,I,tO⟩ [1] (by decide) I
    ·refine wP I (Aa (Ag (wX (wZ (wP I (Aa (Ag (wX (wZ (wP I (Aa (Ag ?_))))))))))))
     refine AD I (by((repeat (first|refine AJ.same ?_|refine AJ.off I ?_));exact tO)) ?_
     exact A4 () ⟨I,I,I,I,tO⟩ [1] (by decide) I
   ·refine wP I (Aa (Ag (wX (wZ (wP I (Aa (Ag (wX (wZ (wP I (Aa (Ag (wX (wZ (wP I (Aa (Ag ?_)))))))))))))))))
    refine AD I (by((repeat (first|refine AJ.same ?_|refine AJ.off I ?_));exact tO)) ?_
    exact A4 () ⟨I,I,I,I,tO⟩ [1] (by decide) I
  ·refine Ao Tryz.hZ tH I I I I I I I I I I I fun bN=> ?_
   refine Aa (Ag (wX (wZ ?_)))
   refine wD (X:=Nat×Nat×Nat) rfl rfl (fun W1 _=>F0 W1) ?_;rintro⟨bS,bR,bT⟩ _
   refine Aa (Ag (wX (wZ (wC I I (fun W1 hp=>LB bR bT bN 1 (by decide) W1 (by first|exact⟨Dy hp 2 3 I I,Ai.of_bx hp 4 I I⟩|exact⟨Dy hp 3 4 I I,Ai.of_bx hp 5 I I⟩) (by first|exact Ai.of_bx hp 5 I I|exact Ai.of_bx hp 2 I I) (hd.hp hp) (hv.hp hp) (ht.hp hp)) (Aa (Ag (wX (wZ (wP I (Aa (Ag (wX (RS.cons ?_ (RS.cons ?_ (RS.nil)))))))))))))))
   ·refine wP I (Aa (Ag (wX (RS.cons ?_ (RS.cons ?_ (RS.nil))))))
    ·refine wP I (Aa (Ag (wX (wZ (wP I (Aa (Ag (wX (wZ (wP I (Aa (Ag ?_))))))))))))
     refine AD I (by((repeat (first|refine AJ.same ?_|refine AJ.off I ?_));exact tO)) ?_
     exact A4 () ⟨I,I,I,I,tO⟩ [1] (by decide) I
    ·refine wP I (Aa (Ag (wX (wZ (wP I (Aa (Ag (wX (wZ (wP I (Aa (Ag ?_))))))))))))
     refine AD I (by((repeat (first|refine AJ.same ?_|refine AJ.off I ?_));exact tO)) ?_
     exact A4 () ⟨I,I,I,I,tO⟩ [1] (by decide) I
   ·refine wP I (Aa (Ag (wX (wZ (wP I (Aa (Ag (wX (wZ (wP I (Aa (Ag (wX (wZ (wP I (Aa (Ag ?_)))))))))))))))))
    refine AD I (by((repeat (first|refine AJ.same ?_|refine AJ.off I ?_));exact tO)) ?_
    exact A4 () ⟨I,I,I,I,tO⟩ [1] (by decide) I
 intro _
 refine zE (zA (zB (wD (X:=Nat×Nat×Nat) I I (fun W1 _=>F0 W1) ?_)))
 rintro⟨bS,bR,bT⟩ _
 refine wP I (Ap Tryz.hZ tH I I I I I I I I ?_)
 refine wC I I (fun W1 hp=>(Ij W1 (some ⟨bR,0,none⟩) 1 [sqL] (by decide) (Dy hp 1 2 I I) Jo (hd.hp hp) (hv.hp hp) (ht.hp hp) 0 1 1 [53] [50] [50] (by decide) (by decide) (by decide) XG f0 5 2 2 aY).cast (v':= .tuple #[str [52], .agg #[str [53],str [52],str [52]], .int .i64 0]) (by rw[eZ,eS,nO4])) (wP I (wP I (wP I (wP I (wG I I fun _=>(wP I (wS 4 I I I (wP I (Aa ?_)))))))))
 rename_i b7
 refine zE (zA (zB (wP I (wP I (wP I (wP I (wP I (wP I (wP I ?_)))))))))
 iterate 4 refine Ap Tryz.hZ tH I I I I I I I I ?_
 refine Ao Tryz.hZ tH I I I I I I I I I I I fun bN=> ?_
 refine wC I I (fun W1 hp=>N5 exS (by decide) (some ⟨gV,0,none⟩) (some ⟨bN,0,none⟩) cV 4 W1 (Rf.of_row (junk:=jV) (Ai.of_bx hp 0 I I)) (Rf.of_row (junk:=[]) (Ai.of_bx hp 5 I I))) (wP I (wP I (wP I (wP I (wU 47 true I ((AS _ _).trans (dT I)) (wP I (wP I (wP I (wP I (wU 51 true I ((AS _ _).trans (dT I)) (wP I (wP I (wB 4 I I I (Ap Tryz.hZ tH I I I I I I I I ?_))))))))))))))
 refine YZ [53] [52] [52] [53] [52] [52] I I I I I ?_
 exact wU 56 true I (dT ⟨I,I,I⟩) (wP I (wP I (Aa (zE (zO (wR1 I I I))))))
theorem KH (z:Int) (hz:z.natAbs<4611686018427387904) (W:World) (_ht:A7 W):Ad Tryz.prog 78 #[.int .i64 z] W (fun _:Unit=>str (Ac (z:Rat))) (fun _=>True) (fun _=>[]):=by
 exact Ab (args:=[.int .i64 z]) Tryz.func78 I I I (zA (zB (wP I (Aa (zE (zA (zB (wP I (wC I I (fun W1 _=>Vc z hz W1) (wP I (wP I (wP I (wP I (wP I (Aa (zE (zA (zB (wP I (wP I (Aa (zE (zO (wR1 I I I))))))))))))))))))))))))
theorem SG (p q:Rat) (h:Sz2 p q) (h0:q.num≠0) (W:World) (ht:A7 W):Ad Tryz.prog 79 #[str (Ac p),str (Ac q)] W (fun _:Unit=>str (Ac (p/q))) (fun _=>True) (fun _=>[]):=by
 refine Ab (args:=[str (Ac p),str (Ac q)]) Tryz.func79 I I I (zA (zB (wP I (Aa (zE (zA (zB (wP I (wP I (wC I I (fun W1 hp=>T5 p q h h0 W1 (ht.hp hp)) (wP I (wP I (wP I (wP I (wP I (Aa (zE (zA (zB (wP I (wP I (Aa (zE ?_)))))))))))))))))))))))
 exact zO (wR1 I I I)
end
section
open Go Go.RowKit Go.Am
set_option maxRecDepth 10000
theorem Q8 (W:World) (p:Option Addr) (cap:Nat) (rs:List (List Sd)) (hn:rs.length<4611686018427387904) (hT:tot rs<1099511627776) (hR:Bd W p rs):
  Ad Tryz.prog 12 #[BW p rs.length cap] W (fun _:Unit=> .int .i64 (chk rs)) (fun _=>True) (fun _=>[]):=
 (JV W p cap rs hn hT hR).cast (by rw[U9])
end
section
open Go Go.RowKit Go.Am Go.Lib
set_option maxRecDepth 10000
abbrev bxE (b:Nat) (t:TypeId) (v:Value):Bx:=⟨b,t,[v],true,none⟩
structure bJ (W:World) (p:Option Addr) (rs:List (List Sd)):Prop where
 n:rs.length<1099511627776
 R:Bd W p rs
 c:chk rs=0
 d:Fk W
 v:AE W
 t:A7 W
theorem SZ (W:World) (p:Option Addr) (cap:Nat) (rs:List (List Sd)) (h:bJ W p rs):
  Ad Tryz.prog 22 #[BW p rs.length cap] W (fun V:Vec=> .tuple #[V.val (DV rs).length, .int .i64 0]) (fun V=>V.OK 5 (DV rs).length (frC (DV rs))) (fun V=>[V.bx 56 (frC (DV rs))]):=by
 obtain⟨hne,h24,h0⟩:=Nd h.c
 obtain⟨hrg,_⟩:=IA h.c
 have hR:=h.R
 refine Ab (args:=[BW p rs.length cap]) Tryz.func22 I I I (zA (zB (wF I I fun _=>(wP I (wP I (Aa ?_))))))
 rename_i b1
 refine zE (zA (zA (zB (wB 0 I I I (wC I I (fun W1 hp=>(Q8 W1 p cap rs (by have:=h.n;omega) (by omega) (hR.hp hp)).cast (v':= .int .i64 0) (by rw[h.c])) (wP I (Aa (zE (zS I (zI (zE (zA (zB (EI tH I I I I I ?_))))))))))))))
 intro gE
 refine wP I (Aa (zE (zA (zA (zB (wP I (Aa (zE (zH ?_)))))))))
 refine Ar (X:=Nat×Vec) (fun s=>[(1,Af b1),(4,s.2.val (Bb rs s.1).length),(5, .int .i64 (s.1:Nat))]) (fun s=>[bxE b1 36 (slv p rs.length cap),s.2.bx 56 (frC (Bb rs s.1))])
  (fun s=>s.1<=rs.length/\s.2.OK 5 (Bb rs s.1).length (frC (Bb rs s.1))) (fun s=>rs.length-s.1) (0,⟨some gE,0,[]⟩) ⟨Nat.zero_le _,⟨rfl,(fun h=>by cases h),fun _=>⟨Nat.le_refl _,Nat.zero_le _,rfl⟩⟩⟩ ⟨rfl,rfl,rfl,trivial⟩ [] rfl ?_
 rintro⟨k,V⟩ ⟨hk,hV⟩
 have hk:k<=rs.length:=hk
 have hV:V.OK 5 (Bb rs k).length (frC (Bb rs k)):=hV
 have hl:=If k hk
 have hn:=h.n
 refine zA (zA (zB (wP I (wP I (wB 0 I I I (wP I (wP I ?_)))))))
 by_cases hlt:k<rs.length
 ·refine wU 19 true I (dT (by omega)) (Aa (zE (zR I (zI (zE (zA (zH (zA (zB ?_)))))))))
  obtain⟨l,hle⟩: ∃l,l=rg rs k:=⟨_,rfl⟩
  have hs:=Bs hlt
  have hs1:=Cz rs (k+1)
  obtain⟨gR,oR,hpe,hrows⟩:=hR.row hlt
  obtain⟨q,c,hrow,hring⟩:=hrows k hlt
  rw[<-hle] at hrow hring hs
  have hrl: ∀s∈l,rgd s=true:=fun s hs=>hrg l (by rw[hle];exact List.mem_of_getElem? (Bm hlt)) s hs
  have hln:l.length<=24:=by omega
  subst hpe
  refine wP I (wB 0 I I I (wP I (wJ ?_)))
  refine wL 0 I I (fun W1 hp=>hrow.hp hp) I (wP I (Aa (zE (zA (zB (wP I (Aa (zE (zH ?_)))))))))
  refine Ar (X:=Nat×Vec) (fun s=>[(1,Af b1),(4,s.2.val ((Bb rs k).length+s.1)),(5, .int .i64 (k:Nat)),(6,slv q l.length c),(7, .int .i64 (s.1:Nat))]) (fun s=>[bxE b1 36 (slv (some ⟨gR,oR,none⟩) rs.length cap),s.2.bx 56 (frC (Bb rs k++D6 l s.1))])
   (fun s=>s.1<=l.length/\s.2.OK 5 ((Bb rs k).length+s.1) (frC (Bb rs k++D6 l s.1))) (fun s=>l.length-s.1) (0,V) ⟨Nat.zero_le _,by show V.OK 5 _ (frC (Bb rs k++[]));rw[List.append_nil];exact hV⟩ ⟨rfl,rfl,rfl,rfl,rfl,trivial⟩ [] (congrArg (fun x=>[bxE b1 36 (slv (some ⟨gR,oR,none⟩) rs.length cap),V.bx 56 (frC x)]) (List.append_nil (Bb rs k)).symm) ?_
  rintro⟨i,U⟩ ⟨hi,hU⟩
  have hi:i<=l.length:=hi
  have hU:U.OK 5 ((Bb rs k).length+i) (frC (Bb rs k++D6 l i)):=hU
  refine zA (zA (zB (wP I (wP I (wP I (wP I ?_))))))
  by_cases hil:i<l.length
  ·refine wU 30 true I (dT (by omega)) (Aa ?_)
   obtain⟨gS,oS,hqe,hsd⟩:=hring.row hil
   have hs0:=hsd i hil
   have hs1:=hsd (nxt l.length i) (DW hil)
   have hnl:=DW hil
   have hsuc:=Pg l i
   subst hqe
   refine zE (zR I (zI (zE (Av (Bv (Av ?_))))))
   refine AW (X:=Nat×Nat) [true,true,true,true,true,true,true,true,true,true,true,true,false,false,false,false] (fun x=>[(1,Af b1),(4,U.val ((Bb rs k).length+i)),(5, .int .i64 (k:Nat)),(6,slv (some ⟨gS,oS,none⟩) l.length c),(7, .int .i64 (i:Nat)),(8,Af x.1),(9,Af x.2)])
    (fun x=>[bxE b1 36 (slv (some ⟨gR,oR,none⟩) rs.length cap),U.bx 56 (frC (Bb rs k++D6 l i)),⟨x.1,97,(sd l i).cells,true,none⟩,⟨x.2,97,(sd l (nxt l.length i)).cells,true,none⟩])
    4 [bxE b1 36 (slv (some ⟨gR,oR,none⟩) rs.length cap),U.bx 56 (frC (Bb rs k++D6 l i))] Tryz.mixed (by kernel_rfl) ?_ ?_
   ·refine qP I (qP I (qJ ?_))
    refine qL 0 I I (fun W1 hp=>hs0.hp hp) I (qP I (qP I (qP I (qV 39 ((i+1:Nat):Int) I (Aw (by omega)) (qP I (qP I (DB I I I I I (by omega) ?_)))))))
    refine qV 42 (nxt l.length i:Nat) I (by rw[Int.tmod_eq_emod_of_nonneg (by omega)];exact(Int.natCast_emod _ _).symm) (qJ ?_)
    refine qL 0 I I (fun W1 hp=>hs1.hp hp) I (BU (wX (RS.cons ?_ (RS.cons ?_ (RS.nil)))))
    ·refine B8 Tryz.hZ rfl rfl rfl rfl ?_;intro b8
     refine Aa (Ag (wX (wZ ?_)))
     refine B8 Tryz.hZ rfl rfl rfl rfl ?_;intro b9
     refine Aa (Ag (wX (wZ (wS 2 I I I (Aa (Ag (wX (wZ (wS 3 I I I (Aa (Ag ?_)))))))))))
     refine AD I (by((repeat (first|refine AJ.same ?_|refine AJ.off I ?_));exact tO)) ?_
     exact A4 (b8,b9) ⟨I,I,I,I,I,I,I,tO⟩ [0,1,2,3] (by decide) I
    ·refine B8 Tryz.hZ rfl rfl rfl rfl ?_;intro b9
     refine Aa (Ag (wX (wZ ?_)))
     refine B8 Tryz.hZ rfl rfl rfl rfl ?_;intro b8
     refine Aa (Ag (wX (wZ (wS 3 I I I (Aa (Ag (wX (wZ (wS 2 I I I (Aa (Ag ?_)))))))))))
     refine AD I (by((repeat (first|refine AJ.same ?_|refine AJ.off I ?_));exact tO)) ?_
     exact A4 (b8,b9) ⟨I,I,I,I,I,I,I,tO⟩ [0,1,3,2] (by decide) I
   rintro⟨b8,b9⟩
   have hsm:=hrl _ (List.mem_of_getElem? (Hk hil))
   obtain⟨hx,hy,hpl,hgb⟩:=GV hsm
   refine zE (zA (zB (wP I (wB 2 I I I (wC I I (fun W1 hp=>KH (sd l i).plate (by omega) W1 (h.t.hp hp)) (Ap Tryz.hZ tH I I I I I I I I ?_))))))
   refine B8 Tryz.hZ I I I I ?_
   intro b10
   refine wS 4 I I I (Aa ?_)
   obtain⟨sp,hsp⟩: ∃q:Rat,q=if (sd l i).gable=true then 0 else nrm (sd l i).run (sd l i).rise:=⟨_,rfl⟩
   refine zE (zA (zA (zB (wP I (wB 2 I I I (wP I (Aa (A6 ?_))))))))
   try refine Av ?_
   refine AA (X:=Unit) (fun _=>[(1,Af b1),(4,U.val ((Bb rs k).length+i)),(5, .int .i64 (k:Nat)),(6,slv (some ⟨gS,oS,none⟩) l.length c),(7, .int .i64 (i:Nat)),(8,Af b8),(9,Af b9),(10,Af b10)]) (fun _=>[bxE b1 36 (slv (some ⟨gR,oR,none⟩) rs.length cap),U.bx 56 (frC (Bb rs k++D6 l i)),⟨b8,97,(sd l i).cells,true,none⟩,⟨b9,97,(sd l (nxt l.length i)).cells,true,none⟩,⟨b10,56,[.bool false, .int .i64 0, .int .i64 0,str (Ac sp),str (Ac ((sd l i).plate:Rat))],true,none⟩]) (fun _=>True) ?_ ?_
   ·refine Ah I (fun hg=> ?_) (fun hg=> ?_)
    ·have hg:(sd l i).gable=false:=by simpa using hg
     obtain⟨hrun,hrise⟩:=hgb hg
     rw[hg,if_neg (by decide)] at hsp
     have hq:((sd l i).run:Rat)/((sd l i).rise:Rat)=sp:=by rw[hsp,Gi _ (by omega)];exact(Rat.divInt_eq_div ..).symm
     have zr:szQ ((sd l i).run:Rat) 5:=Ge (k:=5) (by show _<100000;omega) (by decide)
     have zs:szQ ((sd l i).rise:Rat) 5:=Ge (k:=5) (by show _<100000;omega) (by decide)
     refine AW (X:=Unit) [true,true,true,true,true,true,true,true,false] (fun _=>[(1,Af b1),(4,U.val ((Bb rs k).length+i)),(5, .int .i64 (k:Nat)),(6,slv (some ⟨gS,oS,none⟩) l.length c),(7, .int .i64 (i:Nat)),(8,Af b8),(9,Af b9),(10,Af b10)]) (fun _=>[bxE b1 36 (slv (some ⟨gR,oR,none⟩) rs.length cap),U.bx 56 (frC (Bb rs k++D6 l i)),⟨b8,97,(sd l i).cells,true,none⟩,⟨b9,97,(sd l (nxt l.length i)).cells,true,none⟩,⟨b10,56,[.bool false, .int .i64 0, .int .i64 0,str (Ac sp),str (Ac ((sd l i).plate:Rat))],true,none⟩])
      1 [bxE b1 36 (slv (some ⟨gR,oR,none⟩) rs.length cap),U.bx 56 (frC (Bb rs k++D6 l i)),⟨b8,97,(sd l i).cells,true,none⟩,⟨b9,97,(sd l (nxt l.length i)).cells,true,none⟩,⟨b10,56,[.bool false, .int .i64 0, .int .i64 0,str [48],str (Ac ((sd l i).plate:Rat))],true,none⟩] Tryz.mixed (by kernel_rfl) ?_ ?_
     ·refine qP I (qB 2 I I I (qC I I (fun W1 hp=>KH (sd l i).run (by omega) W1 (h.t.hp hp)) (qP I (qB 2 I I I (qC I I (fun W1 hp=>KH (sd l i).rise (by omega) W1 (h.t.hp hp)) (qC I I (fun W1 hp=>(SG ((sd l i).run:Rat) ((sd l i).rise:Rat) (sz2 zr zs (by decide)) (by rw[Rat.num_intCast];omega) W1 (h.t.hp hp)).cast (v':=str (Ac sp)) (by rw[hq])) (qP I (BU (wX (wZ (wS 4 I I I (Aa (Ag (AT I (by kernel_rfl) ?_))))))))))))))
      exact A4 () ⟨I,I,I,I,I,I,I,I,tO⟩ [0,1,2,3,4] (by decide) I
     intro _
     exact An () tO ⟨I,I,I,I,I,I,I,I,tO⟩ [] I
    ·have hg:(sd l i).gable=true:=by simpa using hg
     rw[hg,if_pos rfl] at hsp
     exact zI (An () tO ⟨I,I,I,I,I,I,I,I,tO⟩ [] (by rw[hsp,GY.2 (show(0:Rat).num=0 from I)];rfl))
   intro _ _
   have hlm:l∈rs:=by rw[hle];exact List.mem_of_getElem? (Bm hlt)
   obtain⟨_,hsh,_⟩:=IA h.c
   have hax:=(ET (fun s hs=>Ud (hrl s hs)) (hsh _ hlm) hil).1
   obtain⟨f,hf⟩: ∃f,f=MD l i:=⟨_,rfl⟩
   have fsp:f.sp=sp:=by rw[hf,hsp];rfl
   have fst:f.st=((sd l i).plate:Rat):=by rw[hf];rfl
   have fax:f.ax=Pu (hdg (sd l i) (sd l (nxt l.length i))):=by rw[hf];rfl
   have fpos:f.pos=if Pu (hdg (sd l i) (sd l (nxt l.length i))) then(sd l i).x else(sd l i).y:=by rw[hf];rfl
   have fhd:f.hd=M9 (hdg (sd l i) (sd l (nxt l.length i))):=by rw[hf];rfl
   refine zA (zA (zB (wP I (wB 2 I I I (wP I (wB 3 I I I (wP I (wU 64 (decide ((sd l i).y=(sd l (nxt l.length i)).y)) I (by rw[Bool.eq_iff_iff,beq_iff_eq,decide_eq_true_eq]) (Aa (A6 ?_))))))))))
   try refine Av ?_
   refine AA (X:=Unit) (fun _=>[(1,Af b1),(4,U.val ((Bb rs k).length+i)),(5, .int .i64 (k:Nat)),(6,slv (some ⟨gS,oS,none⟩) l.length c),(7, .int .i64 (i:Nat)),(10,Af b10)]) (fun _=>[bxE b1 36 (slv (some ⟨gR,oR,none⟩) rs.length cap),U.bx 56 (frC (Bb rs k++D6 l i)),⟨b8,97,(sd l i).cells,true,none⟩,⟨b9,97,(sd l (nxt l.length i)).cells,true,none⟩,⟨b10,56,[.bool f.ax, .int .i64 f.pos, .int .i64 f.hd,str (Ac sp),str (Ac ((sd l i).plate:Rat))],true,none⟩]) (fun _=>True) ?_ ?_
   ·refine Ah I (fun hyy=> ?_) (fun hyy=> ?_)
    ·have hyy:(sd l i).y=(sd l (nxt l.length i)).y:=of_decide_eq_true hyy
     refine zA (zB (wP I (wB 2 I I I (wP I (wS 4 I I I (wP I (wS 4 I I I (Aa (zE (zA (zB (wP I (wB 3 I I I (wP I (wB 2 I I I (wP I ?_))))))))))))))))
     by_cases hxx:(sd l (nxt l.length i)).x<(sd l i).x
     ·have hk:hdg (sd l i) (sd l (nxt l.length i))=2:=by unfold hdg;rw[if_neg (by omega),if_neg (by omega),if_pos hxx]
      exact wU 73 true I (dT hxx) (Aa (zE (zR I (zB (wP I (wS 4 I I I (Aa (An () tO ⟨I,I,I,I,I,I,tO⟩ [] (by rw[fax,fpos,fhd,hk];rfl)))))))))
     ·have hk:hdg (sd l i) (sd l (nxt l.length i))=0:=by unfold hdg;rw[if_pos (by omega)]
      exact wU 73 false I (dF hxx) (Aa (zE (zS I (zI (An () tO ⟨I,I,I,I,I,I,tO⟩ [] (by rw[fax,fpos,fhd,hk];rfl))))))
    ·have hyy: ¬(sd l i).y=(sd l (nxt l.length i)).y:=of_decide_eq_false hyy
     refine Av ?_
     refine AW (X:=Unit) [true,true,true,false,false,false,false,false] (fun _=>[(1,Af b1),(4,U.val ((Bb rs k).length+i)),(5, .int .i64 (k:Nat)),(6,slv (some ⟨gS,oS,none⟩) l.length c),(7, .int .i64 (i:Nat)),(8,Af b8),(9,Af b9),(10,Af b10)]) (fun _=>[bxE b1 36 (slv (some ⟨gR,oR,none⟩) rs.length cap),U.bx 56 (frC (Bb rs k++D6 l i)),⟨b8,97,(sd l i).cells,true,none⟩,⟨b9,97,(sd l (nxt l.length i)).cells,true,none⟩,⟨b10,56,[.bool true, .int .i64 (sd l i).x, .int .i64 (-1),str (Ac sp),str (Ac ((sd l i).plate:Rat))],true,none⟩])
      5 [bxE b1 36 (slv (some ⟨gR,oR,none⟩) rs.length cap),U.bx 56 (frC (Bb rs k++D6 l i)),⟨b8,97,(sd l i).cells,true,none⟩,⟨b9,97,(sd l (nxt l.length i)).cells,true,none⟩,⟨b10,56,[.bool false, .int .i64 0, .int .i64 0,str (Ac sp),str (Ac ((sd l i).plate:Rat))],false,none⟩] Tryz.mixed (by kernel_rfl) ?_ ?_
     ·refine qP I (qB 2 I I I (qP I (BU (wX (wZ (wS 4 I I I (Aa (Ag (wX (wZ (wP I (Aa (Ag (wX (wZ (wS 4 I I I (Aa (Ag (wX (wZ (wP I (Aa (Ag ?_)))))))))))))))))))))))
      refine wX (wZ (wS 4 I I I (Aa (Ag ?_))))
      refine AD I (by((repeat (first|refine AJ.same ?_|refine AJ.off I ?_));exact tO)) ?_
      exact A4 () ⟨I,I,I,I,I,I,I,I,tO⟩ [0,1,2,3,4] (by decide) I
     intro _
     refine zE (zA (zB (wP I (wB 3 I I I (wP I (wB 2 I I I (wP I ?_)))))))
     by_cases hyl:(sd l (nxt l.length i)).y<(sd l i).y
     ·have hk:hdg (sd l i) (sd l (nxt l.length i))=3:=by unfold hdg;rw[if_neg (by omega),if_neg (by omega),if_neg (by omega)]
      exact wU 84 true I (dT hyl) (Aa (zE (zR I (zB (wP I (wS 4 I I I (Aa (An () tO ⟨I,I,I,I,I,I,tO⟩ [] (by rw[fax,fpos,fhd,hk];rfl)))))))))
     ·have hk:hdg (sd l i) (sd l (nxt l.length i))=1:=by unfold hdg;rw[if_neg (by omega),if_pos (by omega)]
      exact wU 84 false I (dF hyl) (Aa (zE (zS I (zI (An () tO ⟨I,I,I,I,I,I,tO⟩ [] (by rw[fax,fpos,fhd,hk];rfl))))))
   intro _ _
   refine zB (wP I (wB 4 I I I (Ao Tryz.hZ tH I I I I I I I I I I I fun bN=> ?_)))
   refine AK (V:=U) (len:=(Bb rs k).length+i) (xs:=frC (Bb rs k++D6 l i)) 1 5 Tryz.vec48 ((Bb rs k).length+(i+1)) (frC (Bb rs k++D6 l (i+1))) I I I I I I I I I I I hU I I I (by rw[hsuc, <-List.append_assoc,P9 (Bb rs k++D6 l i), <-hf, <-fsp, <-fst];rfl) (by simp only[maxLen];omega) (by omega) I ?_
   intro gV cV jV hV1
   exact wP I (Aa (zN (zE (zB (wP I (wP I (wV 32 ((i+1:Nat):Int) I (Aw (by omega)) (wP I (Aa (Aj (i+1,⟨some gV,cV,jV⟩) ⟨hil,hV1⟩ (by show l.length-(i+1)<l.length-i;omega) ⟨I,I,I,I,I,tO⟩ _ I))))))))))
  ·have e:i=l.length:=by omega
   subst e
   refine wU 30 false I (dF (by omega)) (Aa (zE (zS I (zJ (zK (zK (zL (zN (zE (zB ?_))))))))))
   have hall:Bb rs (k+1)=Bb rs k++D6 l l.length:=by rw[hle];rfl
   have hall2:(Bb rs (k+1)).length=(Bb rs k).length+l.length:=by rw[hall,List.length_append,Ny]
   exact wP I (wP I (wV 21 ((k+1:Nat):Int) I (Aw (by omega)) (wP I (Aa (Aj (k+1,U) ⟨hlt,by show U.OK 5 (Bb rs (k+1)).length (frC (Bb rs (k+1)));rw[hall2,hall];exact hU⟩ (by show rs.length-(k+1)<rs.length-k;omega) ⟨I,(by show some (U.val _)=some (U.val (Bb rs (k+1)).length);rw[hall2]),I,tO⟩ _ (by show _=[_,U.bx _ (frC (Bb rs (k+1)))]++_;rw[hall];rfl))))))
 ·have e:k=rs.length:=by omega
  subst e
  exact wU 19 false I (dF (by omega)) (Aa (zE (zS I (zJ (zK (zK (zL (zE (zA (zB (wP I (wP I (wP I (Aa (zE (zO (A0 tH I (.tmp I) (.tmp I) V I hV fun W1 hp=>As.of_hp (hp.pick (l:=[V.bx 56 (frC (Bb rs rs.length))]) [1] (by decide) I))))))))))))))))))
theorem FrP.Go.pxzC {f:FrP} (h:f.Go) {u d:Rat} (zu:szQ u 17) (zd:szQ d 27):szQ (f.px u d) 34/\szQ (f.py u d) 34:=by
 have zo:=h.offz zd
 constructor
 ·unfold FrP.px;split
  ·exact zo
  ·exact zu.mono (by decide)
 ·unfold FrP.py;split
  ·exact zu.mono (by decide)
  ·exact zo
theorem SL {f:FrP} (h:f.OK) (u d:Rat):f.way (if f.ax then f.px u d else f.py u d)=d:=by
 unfold FrP.way FrP.px FrP.py FrP.off
 rcases h.hd2 with e|e<;>rw[e]<;>cases f.ax<;>simp only[Bool.false_eq_true,if_false,if_true]<;>grind
theorem aI {f:FrP} (h:f.OK) (h0:f.sp≠0):0<f.sp:=by
 have h1:0<=f.sp:=Rat.num_nonneg.1 h.sp0
 grind
theorem dA {a b:Int} (ha:1<=a) (hb:1<=b):0<nrm a b:=by
 have h1:((0:Int):Rat)<((a:Int):Rat):=Rat.intCast_lt_intCast.2 (by omega)
 have h2:((0:Int):Rat)<((b:Int):Rat):=Rat.intCast_lt_intCast.2 (by omega)
 have h1:(0:Rat)<(a:Rat):=h1
 have h2:(0:Rat)<(b:Rat):=h2
 rw[Gi _ (by omega),Rat.divInt_eq_div]
 have h3:(a:Rat)/(b:Rat)*(b:Rat)=(a:Rat):=by grind
 refine Rat.not_le.1 fun h=> ?_
 have h4:0<= -((a:Rat)/(b:Rat)):=by grind
 have h5:=Rat.mul_nonneg h4 (Rat.le_of_lt h2)
 grind
theorem XP {f:FrP} (h:f.Go) (e n:Rat):Vq f e ((e-f.st)*f.sp-n)=n/f.sp:=by
 have:=h.h0
 unfold Vq
 grind
theorem aD {n s:Rat} (hn:0<=n) (hs:0<s): ¬n/s<0:=by
 intro h
 have h1:n/s*s<0:=by
  have:=Rat.mul_pos (show 0< -(n/s) by grind) hs
  grind
 have h2:n/s*s=n:=by grind
 grind
theorem Ow (W:World) (p:Option Addr) (cap:Nat) (rs:List (List Sd)) (hn:rs.length<1099511627776) (hT:tot rs<1099511627776) (hR:Bd W p rs) (hd:Fk W) (hv:AE W) (ht:A7 W)
  (s a b:Int) (x h e:List UInt8) (n:Nat) (hn8:n<256):
  Ad Tryz.prog 5 #[BW p rs.length cap,dmS s x h e a b, .int .u8 (n:Nat)] W (fun _:Unit=> .bool true) (fun _=>True) (fun _=>[]):=by
 refine Ab (args:=[BW p rs.length cap,dmS s x h e a b, .int .u8 (n:Nat)]) Tryz.func5 I I I (zA (zB (wF I I fun _=>(wF I I fun _=>(wP I (Aa ?_))))))
 rename_i b3 b4
 refine zE (zA (zA (zB (wB 0 I I I (wC I I (fun W1 hp=>RU W1 p cap rs 8 (by omega) (by omega) (hR.hp hp)) (wP I ?_))))))
 by_cases hg:grt rs 8=true
 ·refine wU 24 true I hg ?_
  iterate 3 refine Ae I I ?_
  refine wP I (wP I ?_)
  iterate 11 refine Ae I I ?_
  exact wP I (Aa (zE (zR I (zA (zB (wC I I (fun W1 hp=>CH W1 (hd.hp hp) (hv.hp hp) (ht.hp hp)) (wP I (Aa (zE (zO (zP (wR1 I I I))))))))))))
 have hg:grt rs 8=false:=by simpa using hg
 refine wU 24 false I hg (wB 0 I I I (wC I I (fun W1 hp=>(JV W1 p cap rs (by omega) (by omega) (hR.hp hp)).cast (by rw[U9])) (wP I ?_)))
 by_cases hc:chk rs=0
 rotate_left
 ·refine wU 27 true I (bne_iff_ne.2 hc) (wP I (wP I ?_))
  iterate 11 refine Ae I I ?_
  exact wP I (Aa (zE (zR I (zA (zB (wC I I (fun W1 hp=>CH W1 (hd.hp hp) (hv.hp hp) (ht.hp hp)) (wP I (Aa (zE (zO (zP (wR1 I I I))))))))))))
 refine wU 27 false I (by rw[hc];rfl) (wP I (wP I (wP I (wB 1 I I I (wP I (Al 32 (.int .i64 (x.length:Nat)) I (congrArg (fun n:Nat=>Value.int .i64 (n:Int)) (A3 _)) (wP I (wB 1 I I I (wP I (Al 35 (.int .i64 (h.length:Nat)) I (congrArg (fun n:Nat=>Value.int .i64 (n:Int)) (A3 _)) (wP I (wB 1 I I I (wP I (Al 38 (.int .i64 (e.length:Nat)) I (congrArg (fun n:Nat=>Value.int .i64 (n:Int)) (A3 _)) (wP I (wP I ?_))))))))))))))))
 by_cases hl:x.length<=8/\h.length<=8/\e.length<=8
 rotate_left
 ·exact wU 40 true I (dT (by omega)) (wP I (Aa (zE (zR I (zA (zB (wC I I (fun W1 hp=>CH W1 (hd.hp hp) (hv.hp hp) (ht.hp hp)) (wP I (Aa (zE (zO (zP (wR1 I I I)))))))))))))
 obtain⟨hx,hh,he⟩:=hl
 refine wU 40 false I (dF (by omega)) (wP I (Aa (zE (zS I (zI (zE (zA (zB ?_))))))))
 by_cases hE:bsE rs s x h e a b=0
 rotate_left
 ·skip
  refine wB 0 I I I (wB 1 I I I (wC I I (fun W1 hp=>Qy W1 p cap rs (by omega) (hR.hp hp) hc (hd.hp hp) (hv.hp hp) (ht.hp hp) s a b x h e hx hh he hE) (wP I (wP I (wP I (wP I (wP I (Aa (zE (zA (zA (zB (wP I (wP I (wU 50 true I (bne_iff_ne.2 hE) (Aa (zE (zR I (zA (zB (wC I I (fun W1 hp=>CH W1 (hd.hp hp) (hv.hp hp) (ht.hp hp)) (wP I (Aa ?_)))))))))))))))))))))))
  exact zE (zO (zP (wR1 I I I)))
 have hX:boE rs s x h e a b=0:=(ZX hx hh he).trans hE
 obtain⟨f,x',h',e',ho⟩:=Zz hc hE hx hh he
 have ho2:=ho
 obtain⟨s0,s1,hf,rfl,rfl,rfl,zx,zh,ze,hgo,h0',he',ha,hb,hV⟩:=ho
 obtain⟨m,rfl⟩: ∃m:Nat,s=m:=⟨s.toNat,by omega⟩
 have hm:m<tot rs:=by omega
 have hf:f=frs rs m:=hf
 have hfm:=JB hm
 rw[<-hf] at hfm
 have eF:=Ia rs
 have hbV:boV rs m (Ac x') (Ac h') (Ac e') a b=frV f:=by rw[boV,if_pos hX,hf];rfl
 have hDX:DmX rs m (Ac x') (Ac h') (Ac e') a b f x' h' e':=⟨s0,s1,hf,rfl,rfl,rfl,zx.mono (by decide),zh.mono (by decide),ze.mono (by decide),hgo,h0',he',ha,hb,hbV⟩
 obtain⟨z,hz⟩: ∃z,z=Mx h' e' a b:=⟨_,rfl⟩
 have zp:=F8 ha hb
 have zz:szQ z 19:=by rw[hz];exact ze.add (zh.mul zp)
 have zf:szQ ((e'-f.st)*f.sp) 16:=(ze.sub hgo.st).mul hgo.sp
 have zd:szQ ((z-f.st)*f.sp) 27:=(zz.sub hgo.st).mul hgo.sp
 have zn:szQ (n:Rat) 3:=Ge (z:=(n:Int)) (by omega) (by decide)
 have hx1:=hgo.pxzC (u:=x'-h') (d:=(e'-f.st)*f.sp) (zx.sub zh) (zf.mono (by decide))
 have hx2:=hgo.pxzC (u:=x') (d:=(z-f.st)*f.sp) (zx.mono (by decide)) zd
 have hsp:=aI hgo.ok hgo.h0
 have hnn:(0:Rat)<=(n:Rat):=by have h:=Rat.intCast_le_intCast.2 (show(0:Int)<=(n:Int) by omega);exact h
 have hzgt:e'<z:=by
  have h1:0<nrm a b:=dA ha.1 hb.1
  have h2:=Rat.mul_pos h0' h1
  rw[hz]
  show e'<e'+h'*nrm a b
  grind
 have hlt:(e'-f.st)*f.sp-(n:Rat)<(z-f.st)*f.sp:=by
  have h3:=Rat.mul_pos (show 0<z-e' by grind) hsp
  grind
 refine wB 0 I I I (wB 1 I I I (wD (X:=Nat) I I (fun W1 hp=>P6 W1 p cap rs (by omega) (hR.hp hp) hc (hd.hp hp) (hv.hp hp) (ht.hp hp) m a b (Ac x') (Ac h') (Ac e') hx hh he hE f x' h' e' ho2) ?_))
 intro gV _
 rw[<-hz]
 refine wP I (wP I (wP I (wP I (wP I (Aa (zE (zA (zA (zB (wP I (wP I (Aa (zE (zS I (zI (zE (zA (zB (wB 0 I I I (wD (X:=Vec) I I (fun W1 hp=>SZ W1 p cap rs ⟨hn,hR.hp hp,hc,hd.hp hp,hv.hp hp,ht.hp hp⟩) ?_))))))))))))))))))))
 intro F hF
 have hF:F.OK 5 (DV rs).length (frC (DV rs)):=hF
 obtain⟨gF,cF,hFv,hFr⟩:=Vec.frs hF (by omega)
 rw[hFv,eF]
 refine wP I (wP I (wP I (wP I (wP I (Aa (zE (zA (zA (zB (wP I (wP I (wP I (wP I (wP I (wB 1 I I I (wP I (wU 63 false I (dF (by omega)) (wP I (wP I (wP I (wB 1 I I I (wP I (wP I (wP I ?_))))))))))))))))))))))))
 refine wU 70 false I (dF (by omega)) (wP I (Aa (zE (zS I (zI (zE (zA (zB (wP I (wP I (wB 1 I I I (wJ ?_))))))))))))
 refine wL 0 I I (fun W1 hp=>hFr hp 3 I m f hfm) I (wG I I fun _=>(wS 4 I I I (Aa ?_)))
 rename_i b11
 refine zE (zA (zU (qB 4 I I I (qP I (qI I I (by decide) (by decide) (qP I (qL 0 I I (fun W1 hp=>Ai.of_bx hp 2 I I) I (qP I (qI I I (by decide) (by decide) (qP I (qL 0 I I (fun W1 hp=>(Ai.of_bx hp 2 I I).sub 1) I (IN Tryz.hZ tH I I I I I I I I ?_))))))))))))
 refine qC I I (fun W1 hp=>(Lu f hgo.ok (f.px (x'-h') ((e'-f.st)*f.sp)) (f.py (x'-h') ((e'-f.st)*f.sp)) (hx1.1.mono (by decide)) (hx1.2.mono (by decide)) W1 (hv.hp hp) (ht.hp hp)).cast (v':= .tuple #[str (Ac ((e'-f.st)*f.sp)), .int .i64 0]) (by rw[SL hgo.ok])) (qP I (qP I (qP I (qP I (qP I (A8 (Aa (zE (zA (zU (qB 4 I I I (qP I (qI I I (by decide) (by decide) (qP I (qL 0 I I (fun W1 hp=>(Ai.of_bx hp 2 I I).sub 3) I (qP I (qI I I (by decide) (by decide) (qP I (qL 0 I I (fun W1 hp=>(Ai.of_bx hp 2 I I).sub 4) I (IN Tryz.hZ tH I I I I I I I I ?_))))))))))))))))))))
 refine qC I I (fun W1 hp=>(Lu f hgo.ok (f.px x' ((z-f.st)*f.sp)) (f.py x' ((z-f.st)*f.sp)) (hx2.1.mono (by decide)) (hx2.2.mono (by decide)) W1 (hv.hp hp) (ht.hp hp)).cast (v':= .tuple #[str (Ac ((z-f.st)*f.sp)), .int .i64 0]) (by rw[SL hgo.ok])) (qP I (qP I (qP I (qP I (qP I (A8 (Aa ?_)))))))
 obtain⟨q,hq⟩: ∃q,q=(e'-f.st)*f.sp-(n:Rat):=⟨_,rfl⟩
 have zq:szQ q 20:=by rw[hq];exact zf.sub zn
 obtain⟨d,hdd⟩: ∃d,d=(z-f.st)*f.sp:=⟨_,rfl⟩
 refine zE (zA (zB (wP I (J4 Tryz.underlying5 Tryz.underlying3 I I I I ?_))))
 refine wV 107 (n:Nat) I (BE (by omega)) (wC I I (fun W1 hp=>(EF (n:Int) 1 (by omega) (by decide) W1 (ht.hp hp)).cast (v':= .tuple #[str (Ac (n:Rat)), .int .i64 0]) (by rw[LY];rfl)) (wP I (wP I (wP I (wP I (wP I (Aa (zE (zA (zB (wP I (wP I (wC I I (fun W1 hp=>(BM ((e'-f.st)*f.sp) (n:Rat) (sz2 zf zn (by decide)) W1 (hv.hp hp) (ht.hp hp)).cast (v':= .tuple #[str (Ac q), .int .i64 0]) (by rw[hq])) (wP I (wP I (wP I (wP I (wP I (Aa (zE (zA (zA (zB ?_)))))))))))))))))))))))
 refine wP I (wP I (wP I (wP I (wP I (wP I (Aa (zE (zS I (zI (zE (zA (zB ?_))))))))))))
 have okq:okQ q:=zq.ok (by decide)
 have lq:(Ac q).length<=4000000:=by have:=AP okq;omega
 have hne:nrs [Ac q]=if Ef q=true then 4 else 0:=by
  have h1:ner [Ac q]=0:=by unfold ner ner;rw[CV okq];rfl
  unfold nrs
  rw[if_neg (fun h=>h h1)]
  show(if (HO (Ac q)||false)=true then(4:Int) else 0)=_
  unfold HO
  rw[DH,Bool.or_false]
 have hbm:bmE rs m (Ac x') (Ac h') (Ac e') a b [Ac q]=if Ef q=true then 4 else 0:=by rw[bmE,if_pos hX,hne]
 have l1:(Ac x').length<=4000000:=by omega
 have l2:(Ac h').length<=4000000:=by omega
 have l3:(Ac e').length<=4000000:=by omega
 cases hbig:Ef q with
 |true=>
  rw[hbig] at hbm
  have hbm:bmE rs m (Ac x') (Ac h') (Ac e') a b [Ac q]=4:=hbm
  refine wB 0 I I I (wB 1 I I I (wP I (wC I I (fun W1 hp=>(MU W1 p cap rs (by omega) (hR.hp hp) hc (hd.hp hp) (hv.hp hp) (ht.hp hp) m a b (Ac x') (Ac h') (Ac e') (Ac q) l1 l2 l3 lq (by rw[hbm];decide)).cast (v':= .tuple #[str [], .int .i64 4]) (by rw[hbm])) (wP I (wP I (wP I (wP I (wP I (Aa (zE (zA (zB (wB 0 I I I (wB 1 I I I (wP I (wC I I (fun W1 hp=>(HH W1 p cap rs (by omega) (hR.hp hp) hc (hd.hp hp) (hv.hp hp) (ht.hp hp) m a b (Ac x') (Ac h') (Ac e') (Ac q) l1 l2 l3 lq (by rw[hbm];decide)).cast (v':= .tuple #[opZ, .int .i64 4]) (by rw[hbm])) (wP I (wP I (wP I (wG I I fun _=>(wS 5 I I I (wP I (Aa ?_)))))))))))))))))))))))
  refine zE (zA (zA (zB (wP I (wP I (wP I ?_))))))
  iterate 2 refine Ae I I ?_
  exact wP I (Aa (zE (zR I (zA (zB (wC I I (fun W1 hp=>CH W1 (hd.hp hp) (hv.hp hp) (ht.hp hp)) (wP I (Aa (zE (zO (zP (wR1 I I I))))))))))))
 |false=>
 rw[hbig] at hbm
 have hbm:bmE rs m (Ac x') (Ac h') (Ac e') a b [Ac q]=0:=hbm
 have zq12:=NH hbig
 have hch:Vq f e' q=(n:Rat)/f.sp:=by rw[hq];exact XP hgo e' (n:Rat)
 have hge: ¬(n:Rat)/f.sp<0:=aD hnn hsp
 have hnle: ¬(Mx h' e' a b-f.st)*f.sp<=q:=by rw[<-hz,hq];exact Rat.not_le.2 hlt
 refine wB 0 I I I (wB 1 I I I (wP I (wC I I (fun W1 hp=>(MZ W1 p cap rs (by omega) (hR.hp hp) hc (hd.hp hp) (hv.hp hp) (ht.hp hp) m a b (Ac x') (Ac h') (Ac e') l1 l2 l3 q zq12 lq hbm f x' h' e' hDX).cast (v':= .tuple #[str (Ac ((n:Rat)/f.sp)), .int .i64 0]) (by rw[hch,if_neg hge])) (wP I (wP I (wP I (wP I (wP I (Aa (zE (zA (zB (wB 0 I I I (wB 1 I I I (wP I (wC I I (fun W1 hp=>(Iv W1 p cap rs (by omega) (hR.hp hp) hc (hd.hp hp) (hv.hp hp) (ht.hp hp) m a b (Ac x') (Ac h') (Ac e') l1 l2 l3 q zq12 lq hbm f x' h' e' hDX).cast (v':= .tuple #[GC m (Ac (x'-h')) (Ac (x'+h')) (Ac q) (Ac d), .int .i64 0]) (by rw[if_neg hnle, <-hz, <-hdd];rfl)) (wP I (wP I (wP I (wG I I fun _=>(wS 5 I I I (wP I (Aa ?_)))))))))))))))))))))))
 rename_i b20
 refine zE (zA (zA (zB (wP I (wP I (wP I (wP I (wP I (wP I (Aa (zE (zS I (zI (zE (zA (zB (wP I (wP I (wB 4 I I I (wC I I (fun W1 hp=>(Hn (n:Rat) f.sp (sz2 zn hgo.sp (by decide)) W1 (hv.hp hp) (ht.hp hp)).cast (v':= .tuple #[str (Ac ((n:Rat)/f.sp)), .int .i64 0]) (by rw[KE,if_neg (NQ hgo.h0)])) (wP I (wP I (wP I (wP I (wP I ?_)))))))))))))))))))))))))
 refine Aa (zE (zA (zA (zB ?_))))
 iterate 9 refine wP I ?_
 refine wU 159 false I (congrArg (!·) ((AS _ _).trans (dT I))) (wP I (wP I (wP I (wB 5 I I I (wP I (wP I (wU 165 false I (congrArg (!·) ((AS _ _).trans (dT I))) (wP I (wP I (wP I (wB 5 I I I (wP I (wP I (wU 171 false I (congrArg (!·) ((AS _ _).trans (dT (by rw[hdd])))) (wP I (wP I (wP I (wB 5 I I I (wP I (wB 1 I I I (wP I (wU 178 false I (bne_eq_false_iff_eq.2 I) (wP I ?_)))))))))))))))))))))))
 refine Aa (zE (zS I (zI (zE (zA (zB ?_))))))
 have okd:okQ d:=by rw[hdd];exact zd.ok (by decide)
 have ld:(Ac d).length<=4000000:=by have:=AP okd;omega
 have hned:nrs [Ac d]=if Ef d=true then 4 else 0:=by
  have h1:ner [Ac d]=0:=by unfold ner ner;rw[CV okd];rfl
  unfold nrs
  rw[if_neg (fun h=>h h1)]
  show(if (HO (Ac d)||false)=true then(4:Int) else 0)=_
  unfold HO
  rw[DH,Bool.or_false]
 have hbd:bmE rs m (Ac x') (Ac h') (Ac e') a b [Ac d]=if Ef d=true then 4 else 0:=by rw[bmE,if_pos hX,hned]
 rw[<-hdd]
 cases hbg2:Ef d with
 |true=>
  rw[hbg2] at hbd
  have hbd:bmE rs m (Ac x') (Ac h') (Ac e') a b [Ac d]=4:=hbd
  refine wB 0 I I I (wB 1 I I I (wP I (wC I I (fun W1 hp=>(HH W1 p cap rs (by omega) (hR.hp hp) hc (hd.hp hp) (hv.hp hp) (ht.hp hp) m a b (Ac x') (Ac h') (Ac e') (Ac d) l1 l2 l3 ld (by rw[hbd];decide)).cast (v':= .tuple #[opZ, .int .i64 4]) (by rw[hbd])) (wP I (wP I (wP I (wP I (Aa (zE (zA (zB (wP I (wP I (wP I (wP I (wP I (wP I (wP I (wC I I (fun W1 hp=>CH W1 (hd.hp hp) (hv.hp hp) (ht.hp hp)) (wP I (wP I (Aa (zE ?_)))))))))))))))))))))))
  exact zO (wR1 I I I)
 |false=>
  rw[hbg2] at hbd
  have hbd:bmE rs m (Ac x') (Ac h') (Ac e') a b [Ac d]=0:=hbd
  refine wB 0 I I I (wB 1 I I I (wP I (wC I I (fun W1 hp=>(Iv W1 p cap rs (by omega) (hR.hp hp) hc (hd.hp hp) (hv.hp hp) (ht.hp hp) m a b (Ac x') (Ac h') (Ac e') l1 l2 l3 d (NH hbg2) ld hbd f x' h' e' hDX).cast (v':= .tuple #[opZ, .int .i64 10]) (by rw[<-hz, <-hdd,if_pos Rat.le_refl])) (wP I (wP I (wP I (wP I (Aa (zE (zA (zB (wP I (wP I (wP I ?_))))))))))))))
  iterate 2 refine Ae I I ?_
  exact wP I (wP I (wC I I (fun W1 hp=>CH W1 (hd.hp hp) (hv.hp hp) (ht.hp hp)) (wP I (wP I (Aa (zE (zO (wR1 I I I))))))))
end
section
open Go Go.RowKit Go.Am Go.ChangeShapes Go.WideShapes Go.Deep
set_option maxRecDepth 10000
theorem c42:Tryz.prog.cellsOf 97=7:=by kernel_rfl
theorem c27:Tryz.prog.cellsOf 94=1:=by kernel_rfl
theorem c24:Tryz.prog.cellsOf 36=1:=by kernel_rfl
theorem c22:Tryz.prog.cellsOf 34=1:=by kernel_rfl
theorem c3:Tryz.prog.cellsOf 3=1:=by kernel_rfl
theorem c4:Tryz.prog.cellsOf 4=1:=by kernel_rfl
theorem M6 {H:Type} (d:DataW H):1<=Rows.uptoBulk d:=by
 cases d with
 |lit l=>cases l<;>simp[Rows.uptoBulk]
 |nil=>simp[Rows.uptoBulk]
 |ptr d=>simp[Rows.uptoBulk]
 |slice elems spare=>simp[Rows.uptoBulk]
 |agg parts=>simp[Rows.uptoBulk]
 |iface t d=>simp[Rows.uptoBulk]
 |map entries=>simp[Rows.uptoBulk]
 |held h=>simp[Rows.uptoBulk]
theorem Ws {H:Type} (l:List (DataW H)):l.length<=Rows.uptoBulkAll l:=by
 induction l with
 |nil=>simp[Rows.uptoBulkAll]
 |cons x r ih=>have:=M6 x;simp only[Rows.uptoBulkAll,List.length_cons];omega
theorem Xy {H:Type} {A:Type} (L:A->Nat) (D:A->DataW H) (is:List A) (h: ∀i,i∈is->L i+1<=Rows.uptoBulk (D i)):
  (is.map L).sum+is.length<=Rows.uptoBulkAll (is.map D):=by
 induction is with
 |nil=>simp[Rows.uptoBulkAll]
 |cons x r ih=>
  have h1:=h x (.head _)
  have h2:=ih fun i hi=>h i (.tail _ hi)
  simp only[List.map_cons,List.sum_cons,List.length_cons,Rows.uptoBulkAll]
  omega
theorem M1 {H:Type} (e s:List (DataW H)):Rows.uptoBulkAll e+1<=Rows.uptoBulk (.slice e s):=by
 simp only[Rows.uptoBulk];omega
theorem SQ {w:World} {a:Addr} {v:Value} (h:w.cell? a=some v):a.spot=none/\a.block<w.heap.size:=by
 unfold World.cell? at h
 split at h
 ·rename_i hb
  refine⟨?_, ?_⟩
  ·cases hs:a.spot with
   |none=>rfl
   |some k=>simp[hs] at h
  ·exact(Array.getElem?_eq_some_iff.1 hb).1
 ·cases h
theorem Kk {w:World} {base n:Nat} {a:Addr} {cs:List Value} (h:w.cells? base a n=some cs) (hn:0<n):a.spot=none/\Ai w a.block a.off cs:=by
 obtain⟨_,hl,hg⟩:=World.cells?_some h
 have h0:=hg 0 hn
 have hv:cs[0]? =some cs[0]:=List.getElem?_eq_getElem (by omega)
 rw[hv] at h0
 have hp:=SQ h0
 have hs:a.spot=none:=by simpa[Addr.add] using hp.1
 refine⟨hs,⟨by simpa[Addr.add] using hp.2,fun j x hx=> ?_⟩⟩
 have hj:j<n:=by rw[<-hl];exact(List.getElem?_eq_some_iff.1 hx).1
 rw[<-hx, <-hg j hj]
 congr 1
 unfold Addr.add
 split
 ·subst_vars;cases a;simp_all
 ·rfl
theorem Uk {a:Addr} (hs:a.spot=none) (n:Nat):a.add n=⟨a.block,a.off+n,none⟩:=by
 unfold Addr.add
 split
 ·subst_vars;cases a;simp_all
 ·rfl
def Sd.in64 (s:Sd):Prop:= ∀z∈[s.x,s.y,s.rise,s.run,s.plate,s.over], -9223372036854775808<=z/\z<=9223372036854775807
section
variable {H:Type} {enc:TypeId×Value->H} {w:World} {base:Nat} {spare:Nat->Bool} {held:Bool} {fuel:Nat} {cs:List Value} {x:DataW H×List MemPlace}
theorem Yv (h:DataW.trod enc Tryz.prog w base spare held fuel 97 cs=some x): ∃s:Sd,cs=s.cells/\s.in64:=by
 obtain⟨xs,m,rfl,rfl,hl,hx,hf⟩:=DataW.trod_struct Tryz.underlying97 h
 rw[c42] at hl
 have g: ∀(i:Nat) (o t:Nat) (f:Field),(match Tryz.prog.underlying 97 with|some (.struct fs)=>fs[i]? |_=>none)=some f->f.offset=o->f.type=t->
   ∃y,DataW.trod enc Tryz.prog w base spare held m t ((cs.drop o).take (Tryz.prog.cellsOf t))=some y:=by
  intro i o t f hi ho ht
  rw[Tryz.underlying97] at hi
  subst ho;subst ht
  have h1:=hf i f hi
  have h2:i<xs.length:=by rw[hx];exact(Array.getElem?_eq_some_iff.1 hi).1
  rw[List.getElem?_eq_getElem h2] at h1
  exact⟨_,h1⟩
 match cs,hl with
 |[v0,v1,v2,v3,v4,v5,v6],_=>
  have gi: ∀(i o:Nat) (f:Field) (v:Value),(match Tryz.prog.underlying 97 with|some (.struct fs)=>fs[i]? |_=>none)=some f->f.offset=o->f.type=3->([v0,v1,v2,v3,v4,v5,v6].drop o).take 1=[v]->
    ∃z,v= .int .i64 z/\ -9223372036854775808<=z/\z<=9223372036854775807:=by
   intro i o f v h1 h2 h3 h4
   obtain⟨y,hy⟩:=g i o 3 f h1 h2 h3
   rw[c3,h4] at hy
   obtain⟨z,e1,_,hw⟩:=DataW.trod_int Tryz.underlying3 hy
   refine⟨z,by simpa using e1, ?_⟩
   simpa[Lit.wf,IntKind.min,IntKind.max,IntKind.signed,IntKind.bits] using hw
  obtain⟨z0,rfl,b0⟩:=gi 0 0 _ v0 (by rw[Tryz.underlying97];rfl) rfl rfl rfl
  obtain⟨z1,rfl,b1⟩:=gi 1 1 _ v1 (by rw[Tryz.underlying97];rfl) rfl rfl rfl
  obtain⟨z2,rfl,b2⟩:=gi 2 2 _ v2 (by rw[Tryz.underlying97];rfl) rfl rfl rfl
  obtain⟨z3,rfl,b3⟩:=gi 3 3 _ v3 (by rw[Tryz.underlying97];rfl) rfl rfl rfl
  obtain⟨z5,rfl,b5⟩:=gi 5 5 _ v5 (by rw[Tryz.underlying97];rfl) rfl rfl rfl
  obtain⟨z6,rfl,b6⟩:=gi 6 6 _ v6 (by rw[Tryz.underlying97];rfl) rfl rfl rfl
  obtain⟨y4,hy4⟩:=g 4 4 4 _ (by rw[Tryz.underlying97];rfl) rfl rfl
  rw[c4] at hy4
  obtain⟨z4,e4,_⟩:=DataW.trod_bool Tryz.underlying4 hy4
  obtain rfl:v4= .bool z4:=by simpa using e4
  refine⟨⟨z0,z1,z2,z3,z4,z5,z6⟩,I, ?_⟩
  intro z hz
  simp only[List.mem_cons,List.not_mem_nil,or_false] at hz
  rcases hz with rfl|rfl|rfl|rfl|rfl|rfl<;>assumption
theorem Ve (h:DataW.trod enc Tryz.prog w base spare held fuel 94 cs=some x):
  ∃(p:Option Addr) (cap:Nat) (l:List Sd),cs=[slv p l.length cap]/\Cc w p l/\(∀s∈l,s.in64)/\l.length+1<=Rows.uptoBulk x.1:=by
 rcases open_slice Tryz.underlying94 h with⟨rfl,rfl⟩|⟨a,len,cap,m,n,D,Pl,rfl,_,hl,_,hm,rfl,hx⟩
 ·exact⟨none,0,[],rfl, .inl rfl,(fun _ hs=>by cases hs),M6 _⟩
 have hlm:len<=m:=by rw[hm];split<;>omega
 obtain⟨S,hS⟩:=choose_lt (α:=Sd) (n:=len) (p:=fun i s=>w.cells? base (a.add (i*7)) 7=some s.cells/\s.in64) fun i hi=>by
  obtain⟨cs',h1,h2⟩:=hx i (by omega)
  rw[c42] at h1
  obtain⟨s,rfl,h3⟩:=Yv h2
  exact⟨s,h1,h3⟩
 refine⟨some a,cap,(List.range len).map S,by simp, ?_, ?_, ?_⟩
 ·by_cases h0:len=0
  ·subst h0;exact .inl rfl
  ·have hs:a.spot=none:=by simpa[Addr.add] using(Kk (hS 0 (by omega)).1 (by decide)).1
   refine .inr ⟨a.block,a.off,by cases a;simp_all,⟨fun i s hi=> ?_⟩⟩
   simp only[List.getElem?_map,Option.map_eq_some_iff] at hi
   obtain⟨k,hk,rfl⟩:=hi
   have hk':i<len/\k=i:=by
    have:=List.getElem?_eq_some_iff.1 hk
    obtain⟨h1,h2⟩:=this
    simp at h1 h2
    exact⟨h1,h2.symm⟩
   obtain⟨h1,rfl⟩:=hk'
   have:=(Kk (hS k h1).1 (by decide)).2
   rwa [Uk hs] at this
 ·intro s hs
  simp only[List.mem_map,List.mem_range] at hs
  obtain⟨i,hi,rfl⟩:=hs
  exact(hS i hi).2
 ·have h1:=Ws ((List.range len).map D)
  have h2:=M1 ((List.range len).map D) ((List.range (m-len)).map fun j=>D (len+j))
  simp only[List.length_map,List.length_range] at h1⊢
  omega
theorem TA (h:DataW.trod enc Tryz.prog w base spare held fuel 34 cs=some x):
  ∃(p:Option Addr) (cap:Nat) (rs:List (List Sd)),cs=[slv p rs.length cap]/\Bd w p rs/\(∀l∈rs, ∀s∈l,s.in64)/\tot rs+rs.length+1<=Rows.uptoBulk x.1:=by
 rcases open_slice Tryz.underlying34 h with⟨rfl,rfl⟩|⟨a,len,cap,m,n,D,Pl,rfl,_,hl,_,hm,rfl,hx⟩
 ·exact⟨none,0,[],rfl, .inl rfl,(fun _ hs=>by cases hs),M6 _⟩
 have hlm:len<=m:=by rw[hm];split<;>omega
 obtain⟨L,hL⟩:=choose_lt (α:=List Sd) (n:=len) (p:=fun i l=> ∃q c,w.cells? base (a.add (i*1)) 1=some [slv q l.length c]/\Cc w q l/\(∀s∈l,s.in64)/\l.length+1<=Rows.uptoBulk (D i)) fun i hi=>by
  obtain⟨cs',h1,h2⟩:=hx i (by omega)
  rw[c27] at h1
  obtain⟨q,c,l,rfl,h3,h4,h5⟩:=Ve h2
  exact⟨l,q,c,h1,h3,h4,h5⟩
 refine⟨some a,cap,(List.range len).map L,by simp, ?_, ?_, ?_⟩
 ·by_cases h0:len=0
  ·subst h0;exact .inl rfl
  ·obtain⟨q0,c0,h00,_⟩:=hL 0 (by omega)
   have hs:a.spot=none:=by simpa[Addr.add] using(Kk h00 (by decide)).1
   refine .inr ⟨a.block,a.off,by cases a;simp_all,⟨fun i l hi=> ?_⟩⟩
   simp only[List.getElem?_map,Option.map_eq_some_iff] at hi
   obtain⟨k,hk,rfl⟩:=hi
   have hk':i<len/\k=i:=by
    obtain⟨h1,h2⟩:=List.getElem?_eq_some_iff.1 hk
    simp at h1 h2
    exact⟨h1,h2.symm⟩
   obtain⟨h1,rfl⟩:=hk'
   obtain⟨q,c,h2,h3,_⟩:=hL k h1
   have:=(Kk h2 (by decide)).2
   rw[Uk hs] at this
   exact⟨q,c,this,h3⟩
 ·intro l hl'
  simp only[List.mem_map,List.mem_range] at hl'
  obtain⟨i,hi,rfl⟩:=hl'
  obtain⟨_,_,_,_,h3,_⟩:=hL i hi
  exact h3
 ·have h1:=Xy (fun i=>(L i).length) D (List.range len) fun i hi=>by
   obtain⟨_,_,_,_,_,h3⟩:=hL i (by simpa using hi)
   exact h3
  have h2:=M1 ((List.range len).map D) ((List.range (m-len)).map fun j=>D (len+j))
  simp only[tot,List.map_map,List.length_map,List.length_range] at h1⊢
  have h3:(List.range len).map (List.length∘L)=(List.range len).map fun i=>(L i).length:=rfl
  rw[h3]
  show _<=Rows.uptoBulk (DataW.slice _ _)
  omega
end
section
variable {H:Type} {enc:TypeId×Value->H} {w:World} {base:Nat} {spare:Nat->Bool} {held:Bool} {v:Value} {d:DataW H} {ps:List MemPlace}
theorem Vu {r:Reach} {b0:Nat} (hv:Value.okWide Tryz.prog w r b0 36 v) (h:DataW.Trod enc Tryz.prog w base spare held 36 v d ps):
  ∃(p:Option Addr) (cap:Nat) (rs:List (List Sd)),v=BW p rs.length cap/\Bd w p rs/\(∀l∈rs, ∀s∈l,s.in64)/\tot rs+rs.length+2<=Rows.uptoBulk d:=by
 obtain⟨cs,rfl,hc⟩:=okWide_struct Tryz.underlying36 hv
 obtain⟨fuel,hf⟩:=h
 obtain⟨xs,m,rfl,hx,hl,hn,hg⟩:=DataW.trod_struct Tryz.underlying36 hf
 rw[c24] at hc
 obtain⟨y0,rfl⟩: ∃y,xs=[y]:=by
  match xs,hn with
  |[y],_=>exact⟨y,rfl⟩
 have h0:DataW.trod enc Tryz.prog w base spare held m 34 (List.take (Tryz.prog.cellsOf 34) (List.drop 0 cs.toList))=some y0:=hg 0 _ rfl
 rw[c22] at h0
 obtain⟨c0,rfl⟩: ∃c,cs= #[c]:=by
  obtain⟨l⟩:=cs
  match l,hc with
  |[c],_=>exact⟨c,rfl⟩
 obtain⟨p,cap,rs,e1,e2,e3,e4⟩:=TA h0
 simp only[Prod.mk.injEq] at hx
 obtain⟨rfl,_⟩:=hx
 refine⟨p,cap,rs, ?_,e2,e3, ?_⟩
 ·have:c0=slv p rs.length cap:=by simpa[Value.cells] using e1
  rw[this]
 ·simp only[List.map_cons,List.map_nil,Rows.uptoBulk,Rows.uptoBulkAll]
  have:y0.1=(y0:DataW H×List MemPlace).1:=rfl
  omega
end
end
section
open Go
noncomputable abbrev laidL:List (String×DataW Unit):=Rows.openingDisjointRow.laid
end
section
open Go Go.RowKit Go.Am Go.ChangeShapes Go.WideShapes Go.Deep Go.ChangeAt
set_option maxRecDepth 100000
section
variable {H:Type} {enc:TypeId×Value->H} {w:World} {base:Nat} {spare:Nat->Bool} {held:Bool} {v:Value} {d:DataW H} {ps:List MemPlace}
end
theorem own:ownKnob Tryz.prog.godebug=none:=by kernel_rfl
theorem QT:laidOutB Tryz.prog=true:=by kernel_rfl
theorem Jw:(laidL.all fun x=>x.2.handleName?.isNone)=true:=by kernel_rfl
theorem RL {W:World} (h:laidMetH Tryz.prog laidL W):A7 W:=by
 rw[MakeChecks.laidMetH_plain _ _ _ Jw] at h
 exact Lib.tabIs_of_head (g:=1) (t:=326) (e:=281) (n:=20) (by kernel_rfl) (by kernel_rfl) (by kernel_rfl) (by kernel_rfl) (by kernel_rfl) (by kernel_rfl) h.tail.tail
theorem ZI {W:World} (hS:W.ShapedOpen Tryz.prog):AE W:=
 cell_of_shapedOpen_int (g:=6) (t:=3) (zero:= #[.int .i64 0]) hS (of_decide_eq_true (by kernel_rfl)) (by kernel_rfl) rfl (by kernel_rfl) (by kernel_rfl) Tryz.underlying3
noncomputable def witW (os:Os):World:=World.laidAll Tryz.prog os laidL
theorem Xt (os:Os) (args:Array Value):laidMetH Tryz.prog laidL ((witW os).forCall (fun _ _=>0) ⟨#[],args,[]⟩).memory:=by
 rw[MakeChecks.laidMetH_plain _ _ _ Jw]
 exact laidMet_laidAll _ (by kernel_rfl) (by kernel_rfl)
theorem T9 (os:Os) (args:Array Value):((witW os).forCall (fun _ _=>0) ⟨#[],args,[]⟩).Shaped Tryz.prog:=
 World.shaped_of_ZipB (by kernel_rfl) (by kernel_rfl)
theorem YI {H:Type} {enc:TypeId×Value->H} (os:Os) {f:FuncId} {fn:Func} {s:OpenSpec} {conds:List PathCond} (args:Array Value)
  (hok:Input.okWideB Tryz.prog ((witW os).forCall (fun _ _=>0) ⟨#[],args,[]⟩) f ⟨#[],args,[]⟩=true)
  (hrow:s.preRow enc Tryz.prog fn conds false laidL ((witW os).forCall (fun _ _=>0) ⟨#[],args,[]⟩).memory args):
  ∃(w:World) (tape:Tape) (i:Input),w.os=os/\(w.forCall tape i).Shaped Tryz.prog/\i.vars=[]/\Input.okWide Tryz.prog (w.forCall tape i) .any w.heap.size f i/\
   s.preRow enc Tryz.prog fn conds false laidL (w.forCall tape i).memory i.args/\({}:Assume).holds Tryz.prog (lone (Frame.enter Tryz.prog f i.args .normal) [] (w.forCall tape i)):=
 ⟨witW os,fun _ _=>0,⟨#[],args,[]⟩,World.laidAll_os _ _ _,T9 os args,(Input.okWide_of_okWideB (base:=0) hok).1,(Input.okWide_of_okWideB hok).2,hrow,by
  simp only[Assume.holds]
  exact⟨by simp,by simp,by simp,by simp,by simp,by simp⟩⟩
theorem aT:Tryz.prog.cellsOf 183=2:=by kernel_rfl
theorem bW:Tryz.prog.cellsOf 184=8:=by kernel_rfl
theorem cB:Tryz.prog.cellsOf 4=1:=by kernel_rfl
theorem cT:Tryz.prog.cellsOf 3=1:=by kernel_rfl
section
variable {H:Type} {enc:TypeId×Value->H} {w:World} {base:Nat} {spare:Nat->Bool} {held:Bool} {fuel:Nat} {cs:List Value} {x:DataW H×List MemPlace}
theorem K2 (h:DataW.trod enc Tryz.prog w base spare held fuel 183 cs=some x): ∃(b:Bool) (z:Int),cs=[.bool b, .int .i64 z]/\x.1= .agg [.lit (.bool b), .lit (.int .i64 z)]:=by
 obtain⟨xs,m,rfl,rfl,hl,hn,hg⟩:=DataW.trod_struct Tryz.underlying183 h
 rw[aT] at hl
 match cs,hl with
 |[u,v],_=>
  match xs,hn with
  |[y0,y1],_=>
   have h0:DataW.trod enc Tryz.prog w base spare held m 4 (([u,v].drop 0).take (Tryz.prog.cellsOf 4))=some y0:=hg 0 _ rfl
   have h1:DataW.trod enc Tryz.prog w base spare held m 3 (([u,v].drop 1).take (Tryz.prog.cellsOf 3))=some y1:=hg 1 _ rfl
   rw[cB] at h0
   rw[cT] at h1
   obtain⟨b,e0,f0⟩:=DataW.trod_bool Tryz.underlying4 h0
   obtain⟨z,e1,f1,_⟩:=DataW.trod_int Tryz.underlying3 h1
   refine⟨b,z, ?_, ?_⟩
   ·have a0:u= .bool b:=by simpa using e0
    have a1:v= .int .i64 z:=by simpa using e1
    rw[a0,a1]
   ·simp[f0,f1]
theorem UV (h:DataW.trod enc Tryz.prog w base spare held fuel 184 cs=some x) (hx:x.1= .agg [.agg [.lit (.bool false), .lit (.int .i64 1)], .agg [.lit (.bool true), .lit (.int .i64 (-1))], .agg [.lit (.bool false), .lit (.int .i64 (-1))], .agg [.lit (.bool true), .lit (.int .i64 1)]]):cs=Zq:=by
 obtain⟨xs,m,rfl,rfl,hl,hn,hg⟩:=DataW.trod_array Tryz.underlying184 h
 rw[bW] at hl
 match cs,hl with
 |[a0,a1,a2,a3,a4,a5,a6,a7],_=>
  match xs,hn with
  |[y0,y1,y2,y3],_=>
   have h0:=hg 0 (by decide)
   have h1:=hg 1 (by decide)
   have h2:=hg 2 (by decide)
   have h3:=hg 3 (by decide)
   rw[aT] at h0 h1 h2 h3
   obtain⟨b0,z0,e0,f0⟩:=K2 (x:=y0) h0
   obtain⟨b1,z1,e1,f1⟩:=K2 (x:=y1) h1
   obtain⟨b2,z2,e2,f2⟩:=K2 (x:=y2) h2
   obtain⟨b3,z3,e3,f3⟩:=K2 (x:=y3) h3
   simp only[List.map_cons,List.map_nil,f0,f1,f2,f3,DataW.agg.injEq,List.cons.injEq,DataW.lit.injEq,Lit.bool.injEq,Lit.int.injEq,true_and,and_true] at hx
   obtain⟨⟨rfl,rfl⟩,⟨rfl,rfl⟩,⟨rfl,rfl⟩,⟨rfl,rfl⟩⟩:=hx
   simp at e0 e1 e2 e3
   obtain⟨rfl,rfl⟩:=e0
   obtain⟨rfl,rfl⟩:=e1
   obtain⟨rfl,rfl⟩:=e2
   obtain⟨rfl,rfl⟩:=e3
   rfl
end
theorem Sg {W:World} (h:laidMetH Tryz.prog laidL W):Fk W:=by
 rw[MakeChecks.laidMetH_plain _ _ _ Jw] at h
 obtain⟨ps,⟨g',t',cs,fuel,p,q,hg',ht',hvar,hd,_,_⟩,_⟩:=h.tail.tail.tail.tail.tail.tail
 obtain rfl := Option.some.inj ((show Tryz.prog.globalNamed "kingpost/front.directions" = some 0 by kernel_rfl).symm.trans hg')
 obtain rfl:=Option.some.inj ((show(Tryz.prog.globals[0]?).map (·.type)=some 184 by kernel_rfl).symm.trans ht')
 have e:=UV hd rfl
 have hc: ∀i u,Zq[i]? =some u->W.cell? ⟨0,i,none⟩=some u:=fun i u hu=>by
  rw[World.var?_cell hg' hvar i]
  rw[<-e] at hu
  simpa using hu
 refine⟨?_,fun m u hu=> ?_⟩
 ·obtain⟨c,ty,fr,h1,_⟩:=Sort.cells_of_cell? (hc 0 _ rfl)
  exact(Array.getElem?_eq_some_iff.1 h1).1
 ·rw[Nat.zero_add]
  exact hc m u hu
end
section
open Go Go.RowKit Go.Am Go.ChangeShapes Go.WideShapes Go.Deep
set_option maxRecDepth 10000
theorem aZ:Tryz.prog.cellsOf 38=6:=by kernel_rfl
theorem aV:Tryz.prog.cellsOf 25=1:=by kernel_rfl
section
variable {H:Type} {enc:TypeId×Value->H} {w:World} {base:Nat} {spare:Nat->Bool} {held:Bool} {v:Value} {d:DataW H} {ps:List MemPlace}
theorem NF {fuel:Nat} {u:Value} {x:DataW H×List MemPlace} (h:DataW.trod enc Tryz.prog w base spare held fuel 25 [u]=some x): ∃b:List UInt8,u=str b/\Rows.uptoBulk x.1=b.length+1:=by
 obtain⟨s,e,hx,_⟩:=DataW.trod_string Tryz.underlying25 h
 refine⟨s.data.toList, ?_, ?_⟩
 ·have:u= .string s:=by simpa using e
  rw[this]
 ·rw[hx];simp[Rows.uptoBulk]
theorem P8 {r:Reach} {b0:Nat} (hv:Value.okWide Tryz.prog w r b0 38 v) (h:DataW.Trod enc Tryz.prog w base spare held 38 v d ps):
  ∃(s a b:Int) (x y z:List UInt8),v=dmS s x y z a b/\x.length+y.length+z.length<=Rows.uptoBulk d:=by
 obtain⟨cs,rfl,hc⟩:=okWide_struct Tryz.underlying38 hv
 obtain⟨fuel,hf⟩:=h
 obtain⟨xs,m,rfl,hx,hl,hn,hg⟩:=DataW.trod_struct Tryz.underlying38 hf
 rw[aZ] at hc
 obtain⟨x0,x1,x2,x3,x4,x5,rfl⟩: ∃x0 x1 x2 x3 x4 x5,xs=[x0,x1,x2,x3,x4,x5]:=by
  match xs,hn with
  |[a,b,c,d,e,f],_=>exact⟨a,b,c,d,e,f,rfl⟩
 obtain⟨l⟩:=cs
 match l,hc with
 |[v0,v1,v2,v3,v4,v5],_=>
  have h0:DataW.trod enc Tryz.prog w base spare held m 3 (List.take (Tryz.prog.cellsOf 3) [v0,v1,v2,v3,v4,v5])=some x0:=hg 0 _ rfl
  have h1:DataW.trod enc Tryz.prog w base spare held m 25 (List.take (Tryz.prog.cellsOf 25) [v1,v2,v3,v4,v5])=some x1:=hg 1 _ rfl
  have h2:DataW.trod enc Tryz.prog w base spare held m 25 (List.take (Tryz.prog.cellsOf 25) [v2,v3,v4,v5])=some x2:=hg 2 _ rfl
  have h3:DataW.trod enc Tryz.prog w base spare held m 25 (List.take (Tryz.prog.cellsOf 25) [v3,v4,v5])=some x3:=hg 3 _ rfl
  have h4:DataW.trod enc Tryz.prog w base spare held m 3 (List.take (Tryz.prog.cellsOf 3) [v4,v5])=some x4:=hg 4 _ rfl
  have h5:DataW.trod enc Tryz.prog w base spare held m 3 (List.take (Tryz.prog.cellsOf 3) [v5])=some x5:=hg 5 _ rfl
  rw[c3] at h0 h4 h5
  rw[aV] at h1 h2 h3
  obtain⟨a0,e0,_⟩:=DataW.trod_int Tryz.underlying3 h0
  obtain⟨a4,e4,_⟩:=DataW.trod_int Tryz.underlying3 h4
  obtain⟨a5,e5,_⟩:=DataW.trod_int Tryz.underlying3 h5
  obtain⟨s1,rfl,k1⟩:=NF h1
  obtain⟨s2,rfl,k2⟩:=NF h2
  obtain⟨s3,rfl,k3⟩:=NF h3
  have e0:v0= .int .i64 a0:=by simpa using e0
  have e4:v4= .int .i64 a4:=by simpa using e4
  have e5:v5= .int .i64 a5:=by simpa using e5
  subst e0 e4 e5
  refine⟨a0,a4,a5,s1,s2,s3,I, ?_⟩
  have hd:d= .agg [x0.1,x1.1,x2.1,x3.1,x4.1,x5.1]:=(congrArg (·.1) hx)
  rw[hd]
  simp only[Rows.uptoBulk,Rows.uptoBulkAll,k1,k2,k3]
  omega
end
end
end Go.Proofs.YtndkgionklmdfaaGreatDoor
