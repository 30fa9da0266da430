/-
  Lemmas that the theorem convexHulls_upto_card needs (part 7 of 8).
-/
import Derived.Test.YthndmdimmgkpgaaGreatDoorCyf
set_option maxHeartbeats 64000000
namespace Go.Proofs.YthndmdimmgkpgaaGreatDoor
section
open Go Go.RowKit Go.Am Go.Lib
set_option maxRecDepth 10000
-- BOXES 3
-- CODE2
section
variable {r:Option Nat} {n:Nat} {P:Program} {N:Nat} {D:List Deferred} {ops:List Oper} {Q:Exit→Act→World→Prop} {o:Oper} {rest:List Oper} {env:Env} {A A2:World→Prop} {R:Act→World→Prop}
theorem KE {d:Nat} {t u:TypeId} {x y:Operand} {k yk:IntKind} {a b:Int} (hg:A6 ops N env o=some true) (hd:o.dst=some d) (ho:o.op= .binOp .shl t x y u∨o.op= .binOp .shr t x y u)
  (hx:evO N env x=some (.int k a)) (hy:evO N env y=some (.int yk b)) (hb:0≤b) (h: ∀z,WQ P N D ops A2 R rest ((d, .int k z)::env) A):WQ P N D ops A2 R (o::rest) env A:=by
 rcases ho with ho|ho
 ·exact C4 hg hd (fun c e=>by rw[ho] at e;cases e) (fun _ W hρ _=>by
   simp[execOp,ho,hρ _ _ hx,hρ _ _ hy,eqGuard,binOp,Op.shift,Int.not_lt.2 hb];rfl) (h _)
 ·exact C4 hg hd (fun c e=>by rw[ho] at e;cases e) (fun _ W hρ _=>by
   simp[execOp,ho,hρ _ _ hx,hρ _ _ hy,eqGuard,binOp,Op.shift,Int.not_lt.2 hb];rfl) (h _)
theorem Uz {d:Nat} {t u:TypeId} {x y:Operand} {yk:IntKind} {b m:Nat} (hg:A6 ops N env o=some true) (hd:o.dst=some d) (ho:o.op= .binOp .shl t x y u)
  (hx:evO N env x=some (.int .u64 1)) (hy:evO N env y=some (.int yk (b:Nat))) (hb:b≤60) (hm:m=2^b) (h:WL r n P N D ops Q rest ((d, .int .u64 (m:Nat))::env) A):WL r n P N D ops Q (o::rest) env A:=
 CA hg hd (fun c e=>by rw[ho] at e;cases e) (fun _ W hρ _=>by
  have e2:IntKind.u64.wrap (1*2^b)=((m:Nat):Int):=by
   have h1:2^b≤2^60:=Nat.pow_le_pow_right (by decide) hb
   have h2:(1*2^b:Int)=((2^b:Nat):Int):=by rw[Int.one_mul];exact(Int.natCast_pow 2 b).symm
   rw[h2,hm]
   simp[IntKind.wrap,IntKind.bits,IntKind.signed]
   omega
  simp[execOp,ho,hρ _ _ hx,hρ _ _ hy,eqGuard,binOp]
  rw[←e2,Int.one_mul]) h
theorem PN {d:Nat} {t u:TypeId} {x y:Operand} {k:IntKind} {a b:Int} (hg:A6 ops N env o=some true) (hd:o.dst=some d) (ho:o.op= .binOp .xor t x y u)
  (hx:evO N env x=some (.int k a)) (hy:evO N env y=some (.int k b)) (h: ∀z,WQ P N D ops A2 R rest ((d, .int k z)::env) A):WQ P N D ops A2 R (o::rest) env A:=
 C4 hg hd (fun c e=>by rw[ho] at e;cases e) (fun _ W hρ _=>by
  simp[execOp,ho,hρ _ _ hx,hρ _ _ hy,eqGuard,binOp,Op.intBits];rfl) (h _)
theorem UX {d:Nat} {t u:TypeId} {x y:Operand} {a:Int} {b:Nat} (hg:A6 ops N env o=some true) (hd:o.dst=some d) (ho:o.op= .binOp .and t x y u)
  (hx:evO N env x=some (.int .u64 a)) (hy:evO N env y=some (.int .u64 (b:Nat))) (hb:b<1000) (h: ∀z:Nat,z≤b→WL r n P N D ops Q rest ((d, .int .u64 (z:Nat))::env) A):WL r n P N D ops Q (o::rest) env A:=by
 obtain⟨z,hz⟩: ∃z,z=(BitVec.ofInt 64 a&&&BitVec.ofInt 64 (b:Int)).toNat:=⟨_,rfl⟩
 have hle:z≤b:=by
  rw[hz,BitVec.toNat_and]
  refine Nat.le_trans Nat.and_le_right ?_
  rw[BitVec.toNat_ofInt]
  omega
 exact CA hg hd (fun c e=>by rw[ho] at e;cases e) (fun _ W hρ _=>by
  have e2:IntKind.u64.wrap ((z:Nat):Int)=((z:Nat):Int):=by
   simp[IntKind.wrap,IntKind.bits,IntKind.signed];omega
  simp only[execOp,ho,hρ _ _ hx,hρ _ _ hy,eqGuard,binOp,Op.intBits]
  show _=Result.ok (Next.value (Value.int .u64 ((z:Nat):Int))) W
  rw[←e2,hz]
  simp
  rfl) (h z hle)
end
theorem DG {P:Program} {N:Nat} {D:List Deferred} {ops:List Oper} {o:Oper} {rest:List Oper} {env:Env} {A A2:World→Prop} {R:Act→World→Prop} {d:Nat} {x:Operand} {a:Addr} (hg:A6 ops N env o=some true) (hd:o.dst=some d) (ho:o.op= .nilCheck x) (hx:evO N env x=some (.pointer (some a)))
  (h:WQ P N D ops A2 R rest ((d, .pointer (some a))::env) A):WQ P N D ops A2 R (o::rest) env A:=
 C4 hg hd (fun c e=>by rw[ho] at e;cases e) (fun _ W hρ _=>by simp[execOp,ho,hρ _ _ hx]) h
abbrev G7 (s:Nat) (z:Int):Bx:=⟨s,218,[.int .u64 z],true,none⟩
abbrev Te (z:Int):Obj:= .cells #[.int .u64 z] 218 (0,0)
def bln (n:Nat):Nat:=if n<16 then 4 else 5
theorem SB {n:Nat} (h1:8≤n) (h2:n≤16):Lib.bitLen n=bln n:=by
 rcases(show n=8∨n=9∨n=10∨n=11∨n=12∨n=13∨n=14∨n=15∨n=16 by omega) with h|h|h|h|h|h|h|h|h<;>subst h<;>decide+kernel
theorem N4 {n:Nat} (h:n≤16):IntKind.u64.wrap (n:Nat)=(n:Int):=by
 simp only[IntKind.wrap,IntKind.signed,IntKind.bits]
 simp
 omega
theorem S1 (n:Nat) (h1:8≤n) (h2:n≤16) (W:World):Ap Tryz.prog 223 #[.int .i64 (n:Nat)] W (fun _:Unit=> .int .u64 ((2^bln n:Nat):Int)) (fun _=>True) (fun _=>[]):=by
 refine Ae (args:=[.int .i64 (n:Nat)]) Tryz.func223 I I I ?_
 have hb:bln n≤5:=by unfold bln;split<;>omega
 refine zA (zB (wP I (Aa (zE (zA (zB (wP I ?_)))))))
 refine F9 (k:= .u64) (kt:= .i64) (by kernel_rfl) (by kernel_rfl) I I I I ?_
 refine Al 4 (.int .u64 (n:Nat)) I (congrArg (Value.int .u64) (N4 h2)) ?_
 refine AW (capt:=[]) I I I I I I (by kernel_rfl) (fun W _=>HO n (by omega) W) ?_
 refine Al 5 (.int .i64 (bln n:Nat)) I (congrArg (fun z:Nat=>Value.int .i64 (z:Int)) (SB h1 h2)) ?_
 refine Uz (m:=2^bln n) I I I I I (by omega) I ?_
 exact wP I (Aa (zE (zO (wR1 I I I))))
theorem Pc (s:Nat) (x0:Int) (W:World) (hs:W.heap[s]? =some (Te x0)):
  Calls Tryz.prog 224 #[An s] W fun e W'=> ∃x:Int,e= .returned ((fun x:Int=> .int .u64 x) x)∧True∧EE W W' s ((fun _=>s) x) ((fun x:Int=>Te x) x):=by
 have key:Calls Tryz.prog 224 [An s].toArray W fun e W'=> ∃x:Int,e= .returned ((fun x:Int=> .int .u64 x) x)∧(fun _=>True) x∧Below (AE W).heap.size (AE W) W'∧A3 (AE W) W' ((fun x:Int=>[Ax (Ai W s),G7 s x]) x):=by
  refine Ba (X:=Int) (val:=fun x:Int=> .int .u64 x) (Φ:=fun _=>True) (nb:=fun x:Int=>[Ax (Ai W s),G7 s x]) (Hp.enterT (B:=G7 s x0) I hs) Tryz.func224 I I I ?_
  refine zA (zB (wP I (Aa (zE (Au ?_)))))
  refine AU (X:=Int) [true,true,true,true,true,true,true,true,true,false] (fun _=>[(0,An s)]) (fun z=>[Ax (Ai W s),G7 s z])
   1 [Ax (Ai W s),G7 s x0] Tryz.mixed (by kernel_rfl) ?_ ?_
  ·refine qP I ?_
   refine DG I I I I ?_
   refine qB 1 I I I (qP I ?_)
   refine DG I I I I ?_
   refine qB 1 I I I ?_
   refine KE I I (.inl I) I I (by decide) fun z=> ?_
   refine PN I I I I I fun y=> ?_
   refine DG I I I I ?_
   refine B6 (wX (wZ (wS 1 I I I (Aa (Ab ?_)))))
   refine Aj I (by kernel_rfl) ?_
   exact Ag y ⟨I,tO⟩ [0,1] (by decide) I
  intro x1
  refine zE (Au ?_)
  refine AU (X:=Int) [true,true,true,true,true,true,true,true,true,false] (fun _=>[(0,An s)]) (fun z=>[Ax (Ai W s),G7 s z])
   1 [Ax (Ai W s),G7 s x1] Tryz.mixed (by kernel_rfl) ?_ ?_
  ·refine qP I ?_
   refine DG I I I I ?_
   refine qB 1 I I I (qP I ?_)
   refine DG I I I I ?_
   refine qB 1 I I I ?_
   refine KE I I (.inr I) I I (by decide) fun z=> ?_
   refine PN I I I I I fun y=> ?_
   refine DG I I I I ?_
   refine B6 (wX (wZ (wS 1 I I I (Aa (Ab ?_)))))
   refine Aj I (by kernel_rfl) ?_
   exact Ag y ⟨I,tO⟩ [0,1] (by decide) I
  intro x2
  refine zE (Au ?_)
  refine AU (X:=Int) [true,true,true,true,true,true,true,true,true,false] (fun _=>[(0,An s)]) (fun z=>[Ax (Ai W s),G7 s z])
   1 [Ax (Ai W s),G7 s x2] Tryz.mixed (by kernel_rfl) ?_ ?_
  ·refine qP I ?_
   refine DG I I I I ?_
   refine qB 1 I I I (qP I ?_)
   refine DG I I I I ?_
   refine qB 1 I I I ?_
   refine KE I I (.inl I) I I (by decide) fun z=> ?_
   refine PN I I I I I fun y=> ?_
   refine DG I I I I ?_
   refine B6 (wX (wZ (wS 1 I I I (Aa (Ab ?_)))))
   refine Aj I (by kernel_rfl) ?_
   exact Ag y ⟨I,tO⟩ [0,1] (by decide) I
  intro x3
  refine zE (zA (zB (wP I ?_)))
  refine AP I I I I ?_
  refine wB 1 I I I (wP I (Aa (zE (zO ?_))))
  refine A8 (X:=Int) (val:=fun x:Int=> .int .u64 x) (Φ:=fun _=>True) (nb:=fun x:Int=>[Ax (Ai W s),G7 s x]) (fn:=Tryz.f224) tH I (.tmp I) x3 I tO fun W1 hp=> ?_
  exact(hp.pick (l:=[Ax (Ai W s),G7 s x3]) [0,1] (by decide) I).own
 refine key.mono ?_
 rintro e W' ⟨x,he,_,hb,hn'⟩
 exact⟨x,he,tO,BL hs I hb hn'⟩
theorem Sw (c:Nat) (W:World) (g cap n a:Nat) (A M B:List Ah) (junk:List Value) (ha:A.length=a) (hn:n=(A++M++B).length) (hn4:n≤100000) (hg:W.heap[g]? =some (rwO A M B junk)) (hm:8≤M.length∧M.length≤16):
  Calls Tryz.prog 183 #[.slice (some ⟨g,0,none⟩) n cap, .int .i64 (a:Nat), .int .i64 ((a+M.length:Nat):Int),lsF c] W fun e W'=> ∃x:List Ah,e= .returned ((fun _=> .tuple #[]) x)∧Sim M x∧EE W W' g ((fun _=>g) x) ((fun x:List Ah=>rwO A (x) B junk) x):=by
 have hnn:n=a+M.length+B.length:=by rw[hn,List.length_append,List.length_append,ha]
 have key:Calls Tryz.prog 183 [.slice (some ⟨g,0,none⟩) n cap, .int .i64 (a:Nat), .int .i64 ((a+M.length:Nat):Int),lsF c].toArray W fun e W'=> ∃x:List Ah,e= .returned ((fun _=> .tuple #[]) x)∧(fun x:List Ah=>Sim M x) x∧Below (AE W).heap.size (AE W) W'∧A3 (AE W) W' ((fun x:List Ah=>[Ax (Ai W g),A5 g (A++x++B) junk]) x):=by
  refine Ba (X:=List Ah) (val:=fun _=> .tuple #[]) (Φ:=fun x:List Ah=>Sim M x) (nb:=fun x:List Ah=>[Ax (Ai W g),A5 g (A++x++B) junk]) (Hp.enterT (B:=A5 g (A++M++B) junk) I hg) Tryz.func183 I I I ?_
  have kp: ∀ {W1:World} {M1:List Ah},Hp (AE W) [Ax (Ai W g),A5 g (A++M1++B) junk] W1→CC W W1 g:=fun hp=>BV hg ⟨_,List.mem_cons_self ..⟩ hp
  obtain⟨q,hq⟩: ∃q,q=M.length/4:=⟨_,rfl⟩
  have hq2:2≤q∧q*4≤M.length:=by omega
  have quo4:((M.length:Nat):Int).tdiv 4=((q:Nat):Int):=by rw[hq];exact(Int.ofNat_tdiv M.length 4).symm
  obtain⟨m,hmd⟩: ∃m,m=2^bln M.length:=⟨_,rfl⟩
  have hm2:1≤m∧m≤2*M.length∧m≤32:=by
   rw[hmd];unfold bln
   split
   ·exact⟨by decide,by show 16≤_;omega,by decide⟩
   ·exact⟨by decide,by show 32≤_;omega,by decide⟩
  refine zA (zB (wP I (wP I (wP I (wV 15 ((M.length:Nat):Int) I (show w64 (((a+M.length:Nat):Int)-((a:Nat):Int))=_ by rw[Ak (by omega) (by omega)];omega) (wP I (Aa (zE (zA (zB (wP I (wP I (wU 17 true I (dT (by omega)) ?_)))))))))))))
  refine Aa (zE (zR I (zA (zB (wP I ?_)))))
  refine F9 (k:= .u64) (kt:= .i64) (by kernel_rfl) (by kernel_rfl) I I I I ?_
  refine Al 19 (.int .u64 (M.length:Nat)) I (congrArg (Value.int .u64) (N4 (by omega))) ?_
  (refine Ao Tryz.hZ rfl rfl rfl rfl ?_;intro)
  refine wS 2 I I I (Aa ?_)
  rename_i s
  refine zE (zA (zB (wP I ?_)))
  refine AW (capt:=[]) I I I I I I (by kernel_rfl) (fun W1 _=>S1 M.length (by omega) (by omega) W1) ?_
  refine Al 21 (.int .u64 ((m:Nat):Int)) I (congrArg (fun z:Nat=>Value.int .u64 (z:Int)) hmd.symm) ?_
  refine wP I (Aa (zE (zA (zB (wP I (wP I ?_))))))
  refine CT I I I I I (by decide) ?_
  refine wV 24 (q:Nat) I (show w64 (((M.length:Nat):Int).tdiv 4)=_ by rw[quo4,Ak (by omega) (by omega)]) (wP I (wV 25 ((q*2:Nat):Int) I (show w64 (((q:Nat):Int)*2)=_ by rw[Ak (by omega) (by omega)];omega) (wP I (wV 26 ((a+q*2:Nat):Int) I (show w64 (((a:Nat):Int)+((q*2:Nat):Int))=_ by rw[Ak (by omega) (by omega)];omega) (wP I (wV 27 ((a+(q*2-1):Nat):Int) I (show w64 (((a+q*2:Nat):Int)-1)=_ by rw[Ak (by omega) (by omega)];omega) (wP I (Aa (zE (zH ?_))))))))))
  refine A9 (X:=Nat×List Ah×Int) (fun x=>[(0, .slice (some ⟨g,0,none⟩) n cap),(1, .int .i64 (a:Nat)),(8, .int .i64 (M.length:Nat)),(9,An s),(10, .int .u64 ((m:Nat):Int)),(11, .int .i64 ((a+x.1:Nat):Int))]) (fun x=>[Ax (Ai W g),A5 g (A++x.2.1++B) junk,G7 s x.2.2]) (fun x=>x.1≤q*2+2∧Sim M x.2.1) (fun x=>q*2+2-x.1) (q*2-1,M,((M.length:Nat):Int)) ⟨by show q*2-1≤q*2+2;omega,Sim.refl M⟩ ⟨I,I,I,I,I,I,tO⟩ [] I ?_
  rintro⟨i,M1,z⟩ ⟨hi,hS⟩
  have hi:i≤q*2+2:=hi
  have hS:Sim M M1:=hS
  have hl:=hS.1
  refine zA (zA (zB (wP I (wP I (wP I ?_)))))
  refine CT I I I I I (by decide) ?_
  refine wV 31 (q:Nat) I (show w64 (((M.length:Nat):Int).tdiv 4)=_ by rw[quo4,Ak (by omega) (by omega)]) (wP I (wV 32 ((q*2:Nat):Int) I (show w64 (((q:Nat):Int)*2)=_ by rw[Ak (by omega) (by omega)];omega) (wP I (wV 33 ((a+q*2:Nat):Int) I (show w64 (((a:Nat):Int)+((q*2:Nat):Int))=_ by rw[Ak (by omega) (by omega)];omega) (wP I (wV 34 ((a+(q*2+1):Nat):Int) I (show w64 (((a+q*2:Nat):Int)+1)=_ by rw[Ak (by omega) (by omega)];omega) (wP I ?_)))))))
  by_cases hlt:i<q*2+2
  rotate_left
  ·refine wU 35 false I (dF (by show¬(((a+i:Nat):Int)≤((a+(q*2+1):Nat):Int));omega)) (Aa (zE (zS I (zJ (zK (zK (zL ?_)))))))
   refine Hy (X:=List Ah) (val:=fun _=> .tuple #[]) (Φ:=fun x:List Ah=>Sim M x) (nb:=fun x:List Ah=>[Ax (Ai W g),A5 g (A++x++B) junk]) (fn:=Tryz.f183) tH I M1 I hS fun W1 hp=> ?_
   exact(hp.pick (l:=[Ax (Ai W g),A5 g (A++M1++B) junk]) [0,1] (by decide) I).own
  refine wU 35 true I (dT (by show((a+i:Nat):Int)≤((a+(q*2+1):Nat):Int);omega)) (Aa (zE (zR I (zI (zE (zA (zH (zA (zB ?_)))))))))
  refine Bn (X:=Int) (val:=fun x:Int=> .int .u64 x) (Φ:=fun _=>True) (capt:=[]) 2 (B:=G7 s z) (L1:=[]) (L2:=[]) (b:=s) (ob:=Te z) (fun x=>G7 s x) (g':=fun _=>s) (o':=fun x=>Te x)
   rfl rfl rfl rfl rfl rfl (by kernel_rfl) rfl rfl (fun _ _=>rfl) (fun W1 hp=>Pc s z W1 (hp.own.cell 2 _ rfl (s,Te z) (List.mem_cons_self ..)).1) ?_
  intro y _
  refine wP I (wP I ?_)
  refine Al 40 (.int .u64 ((m-1:Nat):Int)) I (congrArg (Value.int .u64) (show IntKind.u64.wrap (((m:Nat):Int)-1)=_ by rw[show((m:Nat):Int)-1=((m-1:Nat):Int) by omega];simp[IntKind.wrap,IntKind.bits,IntKind.signed];omega)) ?_
  refine UX I I I I I (by omega) fun t ht=> ?_
  refine F9 (k:= .i64) (kt:= .u64) (by kernel_rfl) (by kernel_rfl) I I I I ?_
  refine wV 42 (t:Nat) I (show w64 ((t:Nat):Int)=_ from Ak (by omega) (by omega)) (wP I (Aa (zE (zA (zA (zB (wP I (wP I (wP I ?_)))))))))
  by_cases hge:M.length≤t
  ·refine wU 45 true I (dT (by omega)) (Aa (zE (zR I (zB (wP I (wP I (wP I (wV 48 ((t-M.length:Nat):Int) I (show w64 (((t:Nat):Int)-((M.length:Nat):Int))=_ by rw[Ak (by omega) (by omega)];omega) (wP I (Aa ?_))))))))))
   obtain⟨u,hu⟩: ∃u,u=t-M.length:=⟨_,rfl⟩
   rw[←hu]
   have hum:u<M1.length:=by omega
   have him:i<M1.length:=by omega
   refine zE ?_
   refine AU (X:=Unit) [true,true,false,false,false,false,true,true,true,true,true,true,true,true,true,true,true,false,false,false] (fun _=>[(0, .slice (some ⟨g,0,none⟩) n cap),(1, .int .i64 (a:Nat)),(8, .int .i64 (M.length:Nat)),(9,An s),(10, .int .u64 ((m:Nat):Int)),(11, .int .i64 ((a+i:Nat):Int))]) (fun _=>[Ax (Ai W g),A5 g (A++CB M1 i u++B) junk,G7 s y])
    7 [Ax (Ai W g),A5 g (A++M1++B) junk,G7 s y] Tryz.mixed (by kernel_rfl) ?_ ?_
   ·refine qP I ?_
    iterate 5 refine qP I ?_
    refine qV 58 ((a+u:Nat):Int) I (show w64 (((a:Nat):Int)+((u:Nat):Int))=_ by rw[Ak (by omega) (by omega)];omega) ?_
    refine qJ ?_
    refine qL 0 I I (fun W1 hp=>CR hp 1 ha I hum) I (qP I (qP I ?_))
    refine qJ ?_
    refine qL 0 I I (fun W1 hp=>CR hp 1 ha I him) I ?_
    refine qJ ?_
    refine B6 (wX ?_)
    refine RS.cons ?_ (RS.cons ?_ (RS.cons ?_ (RS.cons ?_ (RS.nil))))
    ·refine wP I (Aa (Ab (wX ?_)))
     refine RS.cons ?_ (RS.cons ?_ (RS.cons ?_ (RS.nil)))
     ·refine wP I (Aa (Ab (wX ?_)))
      refine RS.cons ?_ (RS.cons ?_ (RS.nil))
      ·refine wP I (Aa (Ab (wX ?_)))
       refine RS.cons ?_ (RS.cons ?_ (RS.nil))
       ·refine wP I (Aa (Ab (wX (wZ ?_))))
        refine Ad 1 _ tH I I I I I I I I I I (Ay ha him) (Az ha him (Ac M1 u)) ?_
        refine Aa (Ab (wY (wZ ?_)))
        refine wV 54 ((a+u:Nat):Int) I (show w64 (((a:Nat):Int)+((u:Nat):Int))=_ by rw[Ak (by omega) (by omega)];omega) ?_;(first|refine wJ ?_|refine qJ ?_)
        refine Aa (Ab (wY (wZ ?_)))
        refine Ad 1 _ tH I I I I I I I I I I (Ay (M:=M1.set i (Ac M1 u)) (u:=u) ha (by rw[List.length_set];exact hum)) (Az (M:=M1.set i (Ac M1 u)) (u:=u) ha (by rw[List.length_set];exact hum) (Ac M1 i)) ?_
        refine Aa (Ab ?_)
        refine Aj I (by kernel_rfl) ?_
        exact Ag () ⟨I,I,I,I,I,I,tO⟩ [0,1,2] (by decide) I
       ·refine Ad 1 _ tH I I I I I I I I I I (Ay ha him) (Az ha him (Ac M1 u)) ?_
        refine Aa (Ab (wY (wZ (wP I (Aa (Ab (wY (wZ ?_))))))))
        refine wV 54 ((a+u:Nat):Int) I (show w64 (((a:Nat):Int)+((u:Nat):Int))=_ by rw[Ak (by omega) (by omega)];omega) ?_;(first|refine wJ ?_|refine qJ ?_)
        refine Aa (Ab (wY (wZ ?_)))
        refine Ad 1 _ tH I I I I I I I I I I (Ay (M:=M1.set i (Ac M1 u)) (u:=u) ha (by rw[List.length_set];exact hum)) (Az (M:=M1.set i (Ac M1 u)) (u:=u) ha (by rw[List.length_set];exact hum) (Ac M1 i)) ?_
        refine Aa (Ab ?_)
        refine Aj I (by kernel_rfl) ?_
        exact Ag () ⟨I,I,I,I,I,I,tO⟩ [0,1,2] (by decide) I
      ·refine Ad 1 _ tH I I I I I I I I I I (Ay ha him) (Az ha him (Ac M1 u)) ?_
       refine Aa (Ab (wY (wZ (wP I (Aa (Ab (wY (wZ (wP I (Aa (Ab (wY (wZ ?_)))))))))))))
       refine wV 54 ((a+u:Nat):Int) I (show w64 (((a:Nat):Int)+((u:Nat):Int))=_ by rw[Ak (by omega) (by omega)];omega) ?_;(first|refine wJ ?_|refine qJ ?_)
       refine Aa (Ab (wY (wZ ?_)))
       refine Ad 1 _ tH I I I I I I I I I I (Ay (M:=M1.set i (Ac M1 u)) (u:=u) ha (by rw[List.length_set];exact hum)) (Az (M:=M1.set i (Ac M1 u)) (u:=u) ha (by rw[List.length_set];exact hum) (Ac M1 i)) ?_
       refine Aa (Ab ?_)
       refine Aj I (by kernel_rfl) ?_
       exact Ag () ⟨I,I,I,I,I,I,tO⟩ [0,1,2] (by decide) I
     ·refine wP I (Aa (Ab (wX ?_)))
      refine RS.cons ?_ (RS.cons ?_ (RS.nil))
      ·refine wP I (Aa (Ab (wX ?_)))
       refine RS.cons ?_ (RS.cons ?_ (RS.nil))
       ·refine wP I (Aa (Ab (wX (wZ ?_))))
        refine Ad 1 _ tH I I I I I I I I I I (Ay ha him) (Az ha him (Ac M1 u)) ?_
        refine Aa (Ab (wY (wZ ?_)))
        refine wV 54 ((a+u:Nat):Int) I (show w64 (((a:Nat):Int)+((u:Nat):Int))=_ by rw[Ak (by omega) (by omega)];omega) ?_;(first|refine wJ ?_|refine qJ ?_)
        refine Aa (Ab (wY (wZ ?_)))
        refine Ad 1 _ tH I I I I I I I I I I (Ay (M:=M1.set i (Ac M1 u)) (u:=u) ha (by rw[List.length_set];exact hum)) (Az (M:=M1.set i (Ac M1 u)) (u:=u) ha (by rw[List.length_set];exact hum) (Ac M1 i)) ?_
        refine Aa (Ab ?_)
        refine Aj I (by kernel_rfl) ?_
        exact Ag () ⟨I,I,I,I,I,I,tO⟩ [0,1,2] (by decide) I
       ·refine Ad 1 _ tH I I I I I I I I I I (Ay ha him) (Az ha him (Ac M1 u)) ?_
        refine Aa (Ab (wY (wZ (wP I (Aa (Ab (wY (wZ ?_))))))))
        refine wV 54 ((a+u:Nat):Int) I (show w64 (((a:Nat):Int)+((u:Nat):Int))=_ by rw[Ak (by omega) (by omega)];omega) ?_;(first|refine wJ ?_|refine qJ ?_)
        refine Aa (Ab (wY (wZ ?_)))
        refine Ad 1 _ tH I I I I I I I I I I (Ay (M:=M1.set i (Ac M1 u)) (u:=u) ha (by rw[List.length_set];exact hum)) (Az (M:=M1.set i (Ac M1 u)) (u:=u) ha (by rw[List.length_set];exact hum) (Ac M1 i)) ?_
        refine Aa (Ab ?_)
        refine Aj I (by kernel_rfl) ?_
        exact Ag () ⟨I,I,I,I,I,I,tO⟩ [0,1,2] (by decide) I
      ·refine Ad 1 _ tH I I I I I I I I I I (Ay ha him) (Az ha him (Ac M1 u)) ?_
       refine Aa (Ab (wY (wZ (wP I (Aa (Ab (wY (wZ (wP I (Aa (Ab (wY (wZ ?_)))))))))))))
       refine wV 54 ((a+u:Nat):Int) I (show w64 (((a:Nat):Int)+((u:Nat):Int))=_ by rw[Ak (by omega) (by omega)];omega) ?_;(first|refine wJ ?_|refine qJ ?_)
       refine Aa (Ab (wY (wZ ?_)))
       refine Ad 1 _ tH I I I I I I I I I I (Ay (M:=M1.set i (Ac M1 u)) (u:=u) ha (by rw[List.length_set];exact hum)) (Az (M:=M1.set i (Ac M1 u)) (u:=u) ha (by rw[List.length_set];exact hum) (Ac M1 i)) ?_
       refine Aa (Ab ?_)
       refine Aj I (by kernel_rfl) ?_
       exact Ag () ⟨I,I,I,I,I,I,tO⟩ [0,1,2] (by decide) I
     ·refine Ad 1 _ tH I I I I I I I I I I (Ay ha him) (Az ha him (Ac M1 u)) ?_
      refine Aa (Ab (wY ?_))
      refine RS.cons ?_ (RS.cons ?_ (RS.nil))
      ·refine wP I (Aa (Ab (wY (wZ (wP I (Aa (Ab (wY (wZ (wP I (Aa (Ab (wY ?_)))))))))))))
       refine wZ ?_
       refine wV 54 ((a+u:Nat):Int) I (show w64 (((a:Nat):Int)+((u:Nat):Int))=_ by rw[Ak (by omega) (by omega)];omega) ?_;(first|refine wJ ?_|refine qJ ?_)
       refine Aa (Ab (wY (wZ ?_)))
       refine Ad 1 _ tH I I I I I I I I I I (Ay (M:=M1.set i (Ac M1 u)) (u:=u) ha (by rw[List.length_set];exact hum)) (Az (M:=M1.set i (Ac M1 u)) (u:=u) ha (by rw[List.length_set];exact hum) (Ac M1 i)) ?_
       refine Aa (Ab ?_)
       refine Aj I (by kernel_rfl) ?_
       exact Ag () ⟨I,I,I,I,I,I,tO⟩ [0,1,2] (by decide) I
      ·refine wP I (Aa (Ab (wY (wZ (wP I (Aa (Ab (wY (wZ (wP I (Aa (Ab (wY ?_)))))))))))))
       refine wZ ?_
       refine wV 54 ((a+u:Nat):Int) I (show w64 (((a:Nat):Int)+((u:Nat):Int))=_ by rw[Ak (by omega) (by omega)];omega) ?_;(first|refine wJ ?_|refine qJ ?_)
       refine Aa (Ab (wY (wZ ?_)))
       refine Ad 1 _ tH I I I I I I I I I I (Ay (M:=M1.set i (Ac M1 u)) (u:=u) ha (by rw[List.length_set];exact hum)) (Az (M:=M1.set i (Ac M1 u)) (u:=u) ha (by rw[List.length_set];exact hum) (Ac M1 i)) ?_
       refine Aa (Ab ?_)
       refine Aj I (by kernel_rfl) ?_
       exact Ag () ⟨I,I,I,I,I,I,tO⟩ [0,1,2] (by decide) I
    ·refine wP I (Aa (Ab (wX ?_)))
     refine RS.cons ?_ (RS.cons ?_ (RS.cons ?_ (RS.nil)))
     ·refine wP I (Aa (Ab (wX ?_)))
      refine RS.cons ?_ (RS.cons ?_ (RS.nil))
      ·refine wP I (Aa (Ab (wX ?_)))
       refine RS.cons ?_ (RS.cons ?_ (RS.nil))
       ·refine wP I (Aa (Ab (wX (wZ ?_))))
        refine Ad 1 _ tH I I I I I I I I I I (Ay ha him) (Az ha him (Ac M1 u)) ?_
        refine Aa (Ab (wY (wZ ?_)))
        refine wV 54 ((a+u:Nat):Int) I (show w64 (((a:Nat):Int)+((u:Nat):Int))=_ by rw[Ak (by omega) (by omega)];omega) ?_;(first|refine wJ ?_|refine qJ ?_)
        refine Aa (Ab (wY (wZ ?_)))
        refine Ad 1 _ tH I I I I I I I I I I (Ay (M:=M1.set i (Ac M1 u)) (u:=u) ha (by rw[List.length_set];exact hum)) (Az (M:=M1.set i (Ac M1 u)) (u:=u) ha (by rw[List.length_set];exact hum) (Ac M1 i)) ?_
        refine Aa (Ab ?_)
        refine Aj I (by kernel_rfl) ?_
        exact Ag () ⟨I,I,I,I,I,I,tO⟩ [0,1,2] (by decide) I
       ·refine Ad 1 _ tH I I I I I I I I I I (Ay ha him) (Az ha him (Ac M1 u)) ?_
        refine Aa (Ab (wY (wZ (wP I (Aa (Ab (wY (wZ ?_))))))))
        refine wV 54 ((a+u:Nat):Int) I (show w64 (((a:Nat):Int)+((u:Nat):Int))=_ by rw[Ak (by omega) (by omega)];omega) ?_;(first|refine wJ ?_|refine qJ ?_)
        refine Aa (Ab (wY (wZ ?_)))
        refine Ad 1 _ tH I I I I I I I I I I (Ay (M:=M1.set i (Ac M1 u)) (u:=u) ha (by rw[List.length_set];exact hum)) (Az (M:=M1.set i (Ac M1 u)) (u:=u) ha (by rw[List.length_set];exact hum) (Ac M1 i)) ?_
        refine Aa (Ab ?_)
        refine Aj I (by kernel_rfl) ?_
        exact Ag () ⟨I,I,I,I,I,I,tO⟩ [0,1,2] (by decide) I
      ·refine Ad 1 _ tH I I I I I I I I I I (Ay ha him) (Az ha him (Ac M1 u)) ?_
       refine Aa (Ab (wY (wZ (wP I (Aa (Ab (wY (wZ (wP I (Aa (Ab (wY (wZ ?_)))))))))))))
       refine wV 54 ((a+u:Nat):Int) I (show w64 (((a:Nat):Int)+((u:Nat):Int))=_ by rw[Ak (by omega) (by omega)];omega) ?_;(first|refine wJ ?_|refine qJ ?_)
       refine Aa (Ab (wY (wZ ?_)))
       refine Ad 1 _ tH I I I I I I I I I I (Ay (M:=M1.set i (Ac M1 u)) (u:=u) ha (by rw[List.length_set];exact hum)) (Az (M:=M1.set i (Ac M1 u)) (u:=u) ha (by rw[List.length_set];exact hum) (Ac M1 i)) ?_
       refine Aa (Ab ?_)
       refine Aj I (by kernel_rfl) ?_
       exact Ag () ⟨I,I,I,I,I,I,tO⟩ [0,1,2] (by decide) I
     ·refine wP I (Aa (Ab (wX ?_)))
      refine RS.cons ?_ (RS.cons ?_ (RS.cons ?_ (RS.nil)))
      ·refine wP I (Aa (Ab (wX ?_)))
       refine RS.cons ?_ (RS.cons ?_ (RS.nil))
       ·refine wP I (Aa (Ab (wX (wZ ?_))))
        refine Ad 1 _ tH I I I I I I I I I I (Ay ha him) (Az ha him (Ac M1 u)) ?_
        refine Aa (Ab (wY (wZ ?_)))
        refine wV 54 ((a+u:Nat):Int) I (show w64 (((a:Nat):Int)+((u:Nat):Int))=_ by rw[Ak (by omega) (by omega)];omega) ?_;(first|refine wJ ?_|refine qJ ?_)
        refine Aa (Ab (wY (wZ ?_)))
        refine Ad 1 _ tH I I I I I I I I I I (Ay (M:=M1.set i (Ac M1 u)) (u:=u) ha (by rw[List.length_set];exact hum)) (Az (M:=M1.set i (Ac M1 u)) (u:=u) ha (by rw[List.length_set];exact hum) (Ac M1 i)) ?_
        refine Aa (Ab ?_)
        refine Aj I (by kernel_rfl) ?_
        exact Ag () ⟨I,I,I,I,I,I,tO⟩ [0,1,2] (by decide) I
       ·refine Ad 1 _ tH I I I I I I I I I I (Ay ha him) (Az ha him (Ac M1 u)) ?_
        refine Aa (Ab (wY (wZ (wP I (Aa (Ab (wY (wZ ?_))))))))
        refine wV 54 ((a+u:Nat):Int) I (show w64 (((a:Nat):Int)+((u:Nat):Int))=_ by rw[Ak (by omega) (by omega)];omega) ?_;(first|refine wJ ?_|refine qJ ?_)
        refine Aa (Ab (wY (wZ ?_)))
        refine Ad 1 _ tH I I I I I I I I I I (Ay (M:=M1.set i (Ac M1 u)) (u:=u) ha (by rw[List.length_set];exact hum)) (Az (M:=M1.set i (Ac M1 u)) (u:=u) ha (by rw[List.length_set];exact hum) (Ac M1 i)) ?_
        refine Aa (Ab ?_)
        refine Aj I (by kernel_rfl) ?_
        exact Ag () ⟨I,I,I,I,I,I,tO⟩ [0,1,2] (by decide) I
      ·refine wP I (Aa (Ab (wX ?_)))
       refine RS.cons ?_ (RS.cons ?_ (RS.nil))
       ·refine wP I (Aa (Ab (wX (wZ ?_))))
        refine Ad 1 _ tH I I I I I I I I I I (Ay ha him) (Az ha him (Ac M1 u)) ?_
        refine Aa (Ab (wY (wZ ?_)))
        refine wV 54 ((a+u:Nat):Int) I (show w64 (((a:Nat):Int)+((u:Nat):Int))=_ by rw[Ak (by omega) (by omega)];omega) ?_;(first|refine wJ ?_|refine qJ ?_)
        refine Aa (Ab (wY (wZ ?_)))
        refine Ad 1 _ tH I I I I I I I I I I (Ay (M:=M1.set i (Ac M1 u)) (u:=u) ha (by rw[List.length_set];exact hum)) (Az (M:=M1.set i (Ac M1 u)) (u:=u) ha (by rw[List.length_set];exact hum) (Ac M1 i)) ?_
        refine Aa (Ab ?_)
        refine Aj I (by kernel_rfl) ?_
        exact Ag () ⟨I,I,I,I,I,I,tO⟩ [0,1,2] (by decide) I
       ·refine Ad 1 _ tH I I I I I I I I I I (Ay ha him) (Az ha him (Ac M1 u)) ?_
        refine Aa (Ab (wY (wZ (wP I (Aa (Ab (wY (wZ ?_))))))))
        refine wV 54 ((a+u:Nat):Int) I (show w64 (((a:Nat):Int)+((u:Nat):Int))=_ by rw[Ak (by omega) (by omega)];omega) ?_;(first|refine wJ ?_|refine qJ ?_)
        refine Aa (Ab (wY (wZ ?_)))
        refine Ad 1 _ tH I I I I I I I I I I (Ay (M:=M1.set i (Ac M1 u)) (u:=u) ha (by rw[List.length_set];exact hum)) (Az (M:=M1.set i (Ac M1 u)) (u:=u) ha (by rw[List.length_set];exact hum) (Ac M1 i)) ?_
        refine Aa (Ab ?_)
        refine Aj I (by kernel_rfl) ?_
        exact Ag () ⟨I,I,I,I,I,I,tO⟩ [0,1,2] (by decide) I
      ·refine Ad 1 _ tH I I I I I I I I I I (Ay ha him) (Az ha him (Ac M1 u)) ?_
       refine Aa (Ab (wY ?_))
       refine RS.cons ?_ (RS.cons ?_ (RS.nil))
       ·refine wP I (Aa (Ab (wY (wZ (wP I (Aa (Ab (wY (wZ ?_)))))))))
        refine wV 54 ((a+u:Nat):Int) I (show w64 (((a:Nat):Int)+((u:Nat):Int))=_ by rw[Ak (by omega) (by omega)];omega) ?_;(first|refine wJ ?_|refine qJ ?_)
        refine Aa (Ab (wY (wZ ?_)))
        refine Ad 1 _ tH I I I I I I I I I I (Ay (M:=M1.set i (Ac M1 u)) (u:=u) ha (by rw[List.length_set];exact hum)) (Az (M:=M1.set i (Ac M1 u)) (u:=u) ha (by rw[List.length_set];exact hum) (Ac M1 i)) ?_
        refine Aa (Ab ?_)
        refine Aj I (by kernel_rfl) ?_
        exact Ag () ⟨I,I,I,I,I,I,tO⟩ [0,1,2] (by decide) I
       ·refine wP I (Aa (Ab (wY (wZ (wP I (Aa (Ab (wY (wZ ?_)))))))))
        refine wV 54 ((a+u:Nat):Int) I (show w64 (((a:Nat):Int)+((u:Nat):Int))=_ by rw[Ak (by omega) (by omega)];omega) ?_;(first|refine wJ ?_|refine qJ ?_)
        refine Aa (Ab (wY (wZ ?_)))
        refine Ad 1 _ tH I I I I I I I I I I (Ay (M:=M1.set i (Ac M1 u)) (u:=u) ha (by rw[List.length_set];exact hum)) (Az (M:=M1.set i (Ac M1 u)) (u:=u) ha (by rw[List.length_set];exact hum) (Ac M1 i)) ?_
        refine Aa (Ab ?_)
        refine Aj I (by kernel_rfl) ?_
        exact Ag () ⟨I,I,I,I,I,I,tO⟩ [0,1,2] (by decide) I
     ·refine Ad 1 _ tH I I I I I I I I I I (Ay ha him) (Az ha him (Ac M1 u)) ?_
      refine Aa (Ab (wY ?_))
      refine RS.cons ?_ (RS.cons ?_ (RS.nil))
      ·refine wP I (Aa (Ab (wY (wZ (wP I (Aa (Ab (wY (wZ (wP I (Aa (Ab (wY ?_)))))))))))))
       refine wZ ?_
       refine wV 54 ((a+u:Nat):Int) I (show w64 (((a:Nat):Int)+((u:Nat):Int))=_ by rw[Ak (by omega) (by omega)];omega) ?_;(first|refine wJ ?_|refine qJ ?_)
       refine Aa (Ab (wY (wZ ?_)))
       refine Ad 1 _ tH I I I I I I I I I I (Ay (M:=M1.set i (Ac M1 u)) (u:=u) ha (by rw[List.length_set];exact hum)) (Az (M:=M1.set i (Ac M1 u)) (u:=u) ha (by rw[List.length_set];exact hum) (Ac M1 i)) ?_
       refine Aa (Ab ?_)
       refine Aj I (by kernel_rfl) ?_
       exact Ag () ⟨I,I,I,I,I,I,tO⟩ [0,1,2] (by decide) I
      ·refine wP I (Aa (Ab (wY ?_)))
       refine RS.cons ?_ (RS.cons ?_ (RS.nil))
       ·refine wP I (Aa (Ab (wY (wZ (wP I (Aa (Ab (wY (wZ ?_)))))))))
        refine wV 54 ((a+u:Nat):Int) I (show w64 (((a:Nat):Int)+((u:Nat):Int))=_ by rw[Ak (by omega) (by omega)];omega) ?_;(first|refine wJ ?_|refine qJ ?_)
        refine Aa (Ab (wY (wZ ?_)))
        refine Ad 1 _ tH I I I I I I I I I I (Ay (M:=M1.set i (Ac M1 u)) (u:=u) ha (by rw[List.length_set];exact hum)) (Az (M:=M1.set i (Ac M1 u)) (u:=u) ha (by rw[List.length_set];exact hum) (Ac M1 i)) ?_
        refine Aa (Ab ?_)
        refine Aj I (by kernel_rfl) ?_
        exact Ag () ⟨I,I,I,I,I,I,tO⟩ [0,1,2] (by decide) I
       ·refine wP I (Aa (Ab (wY (wZ (wP I (Aa (Ab (wY (wZ ?_)))))))))
        refine wV 54 ((a+u:Nat):Int) I (show w64 (((a:Nat):Int)+((u:Nat):Int))=_ by rw[Ak (by omega) (by omega)];omega) ?_;(first|refine wJ ?_|refine qJ ?_)
        refine Aa (Ab (wY (wZ ?_)))
        refine Ad 1 _ tH I I I I I I I I I I (Ay (M:=M1.set i (Ac M1 u)) (u:=u) ha (by rw[List.length_set];exact hum)) (Az (M:=M1.set i (Ac M1 u)) (u:=u) ha (by rw[List.length_set];exact hum) (Ac M1 i)) ?_
        refine Aa (Ab ?_)
        refine Aj I (by kernel_rfl) ?_
        exact Ag () ⟨I,I,I,I,I,I,tO⟩ [0,1,2] (by decide) I
    ·refine wP I (Aa (Ab (wX ?_)))
     refine RS.cons ?_ (RS.cons ?_ (RS.cons ?_ (RS.nil)))
     ·refine wP I (Aa (Ab (wX ?_)))
      refine RS.cons ?_ (RS.cons ?_ (RS.nil))
      ·refine wP I (Aa (Ab (wX ?_)))
       refine RS.cons ?_ (RS.cons ?_ (RS.nil))
       ·refine wP I (Aa (Ab (wX (wZ ?_))))
        refine Ad 1 _ tH I I I I I I I I I I (Ay ha him) (Az ha him (Ac M1 u)) ?_
        refine Aa (Ab (wY (wZ ?_)))
        refine wV 54 ((a+u:Nat):Int) I (show w64 (((a:Nat):Int)+((u:Nat):Int))=_ by rw[Ak (by omega) (by omega)];omega) ?_;(first|refine wJ ?_|refine qJ ?_)
        refine Aa (Ab (wY (wZ ?_)))
        refine Ad 1 _ tH I I I I I I I I I I (Ay (M:=M1.set i (Ac M1 u)) (u:=u) ha (by rw[List.length_set];exact hum)) (Az (M:=M1.set i (Ac M1 u)) (u:=u) ha (by rw[List.length_set];exact hum) (Ac M1 i)) ?_
        refine Aa (Ab ?_)
        refine Aj I (by kernel_rfl) ?_
        exact Ag () ⟨I,I,I,I,I,I,tO⟩ [0,1,2] (by decide) I
       ·refine Ad 1 _ tH I I I I I I I I I I (Ay ha him) (Az ha him (Ac M1 u)) ?_
        refine Aa (Ab (wY (wZ (wP I (Aa (Ab (wY (wZ ?_))))))))
        refine wV 54 ((a+u:Nat):Int) I (show w64 (((a:Nat):Int)+((u:Nat):Int))=_ by rw[Ak (by omega) (by omega)];omega) ?_;(first|refine wJ ?_|refine qJ ?_)
        refine Aa (Ab (wY (wZ ?_)))
        refine Ad 1 _ tH I I I I I I I I I I (Ay (M:=M1.set i (Ac M1 u)) (u:=u) ha (by rw[List.length_set];exact hum)) (Az (M:=M1.set i (Ac M1 u)) (u:=u) ha (by rw[List.length_set];exact hum) (Ac M1 i)) ?_
        refine Aa (Ab ?_)
        refine Aj I (by kernel_rfl) ?_
        exact Ag () ⟨I,I,I,I,I,I,tO⟩ [0,1,2] (by decide) I
      ·refine Ad 1 _ tH I I I I I I I I I I (Ay ha him) (Az ha him (Ac M1 u)) ?_
       refine Aa (Ab (wY (wZ (wP I (Aa (Ab (wY (wZ (wP I (Aa (Ab (wY (wZ ?_)))))))))))))
       refine wV 54 ((a+u:Nat):Int) I (show w64 (((a:Nat):Int)+((u:Nat):Int))=_ by rw[Ak (by omega) (by omega)];omega) ?_;(first|refine wJ ?_|refine qJ ?_)
       refine Aa (Ab (wY (wZ ?_)))
       refine Ad 1 _ tH I I I I I I I I I I (Ay (M:=M1.set i (Ac M1 u)) (u:=u) ha (by rw[List.length_set];exact hum)) (Az (M:=M1.set i (Ac M1 u)) (u:=u) ha (by rw[List.length_set];exact hum) (Ac M1 i)) ?_
       refine Aa (Ab ?_)
       refine Aj I (by kernel_rfl) ?_
       exact Ag () ⟨I,I,I,I,I,I,tO⟩ [0,1,2] (by decide) I
     ·refine wP I (Aa (Ab (wX ?_)))
      refine RS.cons ?_ (RS.cons ?_ (RS.cons ?_ (RS.nil)))
      ·refine wP I (Aa (Ab (wX ?_)))
       refine RS.cons ?_ (RS.cons ?_ (RS.nil))
       ·refine wP I (Aa (Ab (wX (wZ ?_))))
        refine Ad 1 _ tH I I I I I I I I I I (Ay ha him) (Az ha him (Ac M1 u)) ?_
        refine Aa (Ab (wY (wZ ?_)))
        refine wV 54 ((a+u:Nat):Int) I (show w64 (((a:Nat):Int)+((u:Nat):Int))=_ by rw[Ak (by omega) (by omega)];omega) ?_;(first|refine wJ ?_|refine qJ ?_)
        refine Aa (Ab (wY (wZ ?_)))
        refine Ad 1 _ tH I I I I I I I I I I (Ay (M:=M1.set i (Ac M1 u)) (u:=u) ha (by rw[List.length_set];exact hum)) (Az (M:=M1.set i (Ac M1 u)) (u:=u) ha (by rw[List.length_set];exact hum) (Ac M1 i)) ?_
        refine Aa (Ab ?_)
        refine Aj I (by kernel_rfl) ?_
        exact Ag () ⟨I,I,I,I,I,I,tO⟩ [0,1,2] (by decide) I
       ·refine Ad 1 _ tH I I I I I I I I I I (Ay ha him) (Az ha him (Ac M1 u)) ?_
        refine Aa (Ab (wY (wZ (wP I (Aa (Ab (wY (wZ ?_))))))))
        refine wV 54 ((a+u:Nat):Int) I (show w64 (((a:Nat):Int)+((u:Nat):Int))=_ by rw[Ak (by omega) (by omega)];omega) ?_;(first|refine wJ ?_|refine qJ ?_)
        refine Aa (Ab (wY (wZ ?_)))
        refine Ad 1 _ tH I I I I I I I I I I (Ay (M:=M1.set i (Ac M1 u)) (u:=u) ha (by rw[List.length_set];exact hum)) (Az (M:=M1.set i (Ac M1 u)) (u:=u) ha (by rw[List.length_set];exact hum) (Ac M1 i)) ?_
        refine Aa (Ab ?_)
        refine Aj I (by kernel_rfl) ?_
        exact Ag () ⟨I,I,I,I,I,I,tO⟩ [0,1,2] (by decide) I
      ·refine wP I (Aa (Ab (wX ?_)))
       refine RS.cons ?_ (RS.cons ?_ (RS.nil))
       ·refine wP I (Aa (Ab (wX (wZ ?_))))
        refine Ad 1 _ tH I I I I I I I I I I (Ay ha him) (Az ha him (Ac M1 u)) ?_
        refine Aa (Ab (wY (wZ ?_)))
        refine wV 54 ((a+u:Nat):Int) I (show w64 (((a:Nat):Int)+((u:Nat):Int))=_ by rw[Ak (by omega) (by omega)];omega) ?_;(first|refine wJ ?_|refine qJ ?_)
        refine Aa (Ab (wY (wZ ?_)))
        refine Ad 1 _ tH I I I I I I I I I I (Ay (M:=M1.set i (Ac M1 u)) (u:=u) ha (by rw[List.length_set];exact hum)) (Az (M:=M1.set i (Ac M1 u)) (u:=u) ha (by rw[List.length_set];exact hum) (Ac M1 i)) ?_
        refine Aa (Ab ?_)
        refine Aj I (by kernel_rfl) ?_
        exact Ag () ⟨I,I,I,I,I,I,tO⟩ [0,1,2] (by decide) I
       ·refine Ad 1 _ tH I I I I I I I I I I (Ay ha him) (Az ha him (Ac M1 u)) ?_
        refine Aa (Ab (wY (wZ (wP I (Aa (Ab (wY (wZ ?_))))))))
        refine wV 54 ((a+u:Nat):Int) I (show w64 (((a:Nat):Int)+((u:Nat):Int))=_ by rw[Ak (by omega) (by omega)];omega) ?_;(first|refine wJ ?_|refine qJ ?_)
        refine Aa (Ab (wY (wZ ?_)))
        refine Ad 1 _ tH I I I I I I I I I I (Ay (M:=M1.set i (Ac M1 u)) (u:=u) ha (by rw[List.length_set];exact hum)) (Az (M:=M1.set i (Ac M1 u)) (u:=u) ha (by rw[List.length_set];exact hum) (Ac M1 i)) ?_
        refine Aa (Ab ?_)
        refine Aj I (by kernel_rfl) ?_
        exact Ag () ⟨I,I,I,I,I,I,tO⟩ [0,1,2] (by decide) I
      ·refine Ad 1 _ tH I I I I I I I I I I (Ay ha him) (Az ha him (Ac M1 u)) ?_
       refine Aa (Ab (wY ?_))
       refine RS.cons ?_ (RS.cons ?_ (RS.nil))
       ·refine wP I (Aa (Ab (wY (wZ (wP I (Aa (Ab (wY (wZ ?_)))))))))
        refine wV 54 ((a+u:Nat):Int) I (show w64 (((a:Nat):Int)+((u:Nat):Int))=_ by rw[Ak (by omega) (by omega)];omega) ?_;(first|refine wJ ?_|refine qJ ?_)
        refine Aa (Ab (wY (wZ ?_)))
        refine Ad 1 _ tH I I I I I I I I I I (Ay (M:=M1.set i (Ac M1 u)) (u:=u) ha (by rw[List.length_set];exact hum)) (Az (M:=M1.set i (Ac M1 u)) (u:=u) ha (by rw[List.length_set];exact hum) (Ac M1 i)) ?_
        refine Aa (Ab ?_)
        refine Aj I (by kernel_rfl) ?_
        exact Ag () ⟨I,I,I,I,I,I,tO⟩ [0,1,2] (by decide) I
       ·refine wP I (Aa (Ab (wY (wZ (wP I (Aa (Ab (wY (wZ ?_)))))))))
        refine wV 54 ((a+u:Nat):Int) I (show w64 (((a:Nat):Int)+((u:Nat):Int))=_ by rw[Ak (by omega) (by omega)];omega) ?_;(first|refine wJ ?_|refine qJ ?_)
        refine Aa (Ab (wY (wZ ?_)))
        refine Ad 1 _ tH I I I I I I I I I I (Ay (M:=M1.set i (Ac M1 u)) (u:=u) ha (by rw[List.length_set];exact hum)) (Az (M:=M1.set i (Ac M1 u)) (u:=u) ha (by rw[List.length_set];exact hum) (Ac M1 i)) ?_
        refine Aa (Ab ?_)
        refine Aj I (by kernel_rfl) ?_
        exact Ag () ⟨I,I,I,I,I,I,tO⟩ [0,1,2] (by decide) I
     ·refine Ad 1 _ tH I I I I I I I I I I (Ay ha him) (Az ha him (Ac M1 u)) ?_
      refine Aa (Ab (wY ?_))
      refine RS.cons ?_ (RS.cons ?_ (RS.nil))
      ·refine wP I (Aa (Ab (wY (wZ (wP I (Aa (Ab (wY (wZ (wP I (Aa (Ab (wY ?_)))))))))))))
       refine wZ ?_
       refine wV 54 ((a+u:Nat):Int) I (show w64 (((a:Nat):Int)+((u:Nat):Int))=_ by rw[Ak (by omega) (by omega)];omega) ?_;(first|refine wJ ?_|refine qJ ?_)
       refine Aa (Ab (wY (wZ ?_)))
       refine Ad 1 _ tH I I I I I I I I I I (Ay (M:=M1.set i (Ac M1 u)) (u:=u) ha (by rw[List.length_set];exact hum)) (Az (M:=M1.set i (Ac M1 u)) (u:=u) ha (by rw[List.length_set];exact hum) (Ac M1 i)) ?_
       refine Aa (Ab ?_)
       refine Aj I (by kernel_rfl) ?_
       exact Ag () ⟨I,I,I,I,I,I,tO⟩ [0,1,2] (by decide) I
      ·refine wP I (Aa (Ab (wY ?_)))
       refine RS.cons ?_ (RS.cons ?_ (RS.nil))
       ·refine wP I (Aa (Ab (wY (wZ (wP I (Aa (Ab (wY (wZ ?_)))))))))
        refine wV 54 ((a+u:Nat):Int) I (show w64 (((a:Nat):Int)+((u:Nat):Int))=_ by rw[Ak (by omega) (by omega)];omega) ?_;(first|refine wJ ?_|refine qJ ?_)
        refine Aa (Ab (wY (wZ ?_)))
        refine Ad 1 _ tH I I I I I I I I I I (Ay (M:=M1.set i (Ac M1 u)) (u:=u) ha (by rw[List.length_set];exact hum)) (Az (M:=M1.set i (Ac M1 u)) (u:=u) ha (by rw[List.length_set];exact hum) (Ac M1 i)) ?_
        refine Aa (Ab ?_)
        refine Aj I (by kernel_rfl) ?_
        exact Ag () ⟨I,I,I,I,I,I,tO⟩ [0,1,2] (by decide) I
       ·refine wP I (Aa (Ab (wY (wZ (wP I (Aa (Ab (wY (wZ ?_)))))))))
        refine wV 54 ((a+u:Nat):Int) I (show w64 (((a:Nat):Int)+((u:Nat):Int))=_ by rw[Ak (by omega) (by omega)];omega) ?_;(first|refine wJ ?_|refine qJ ?_)
        refine Aa (Ab (wY (wZ ?_)))
        refine Ad 1 _ tH I I I I I I I I I I (Ay (M:=M1.set i (Ac M1 u)) (u:=u) ha (by rw[List.length_set];exact hum)) (Az (M:=M1.set i (Ac M1 u)) (u:=u) ha (by rw[List.length_set];exact hum) (Ac M1 i)) ?_
        refine Aa (Ab ?_)
        refine Aj I (by kernel_rfl) ?_
        exact Ag () ⟨I,I,I,I,I,I,tO⟩ [0,1,2] (by decide) I
    ·refine Ad 1 _ tH I I I I I I I I I I (Ay ha him) (Az ha him (Ac M1 u)) ?_
     refine Aa (Ab (wY ?_))
     refine RS.cons ?_ (RS.cons ?_ (RS.cons ?_ (RS.nil)))
     ·refine wP I (Aa (Ab (wY ?_)))
      refine RS.cons ?_ (RS.cons ?_ (RS.nil))
      ·refine wP I (Aa (Ab (wY (wZ (wP I (Aa (Ab (wY (wZ (wP I (Aa (Ab (wY ?_)))))))))))))
       refine wZ ?_
       refine wV 54 ((a+u:Nat):Int) I (show w64 (((a:Nat):Int)+((u:Nat):Int))=_ by rw[Ak (by omega) (by omega)];omega) ?_;(first|refine wJ ?_|refine qJ ?_)
       refine Aa (Ab (wY (wZ ?_)))
       refine Ad 1 _ tH I I I I I I I I I I (Ay (M:=M1.set i (Ac M1 u)) (u:=u) ha (by rw[List.length_set];exact hum)) (Az (M:=M1.set i (Ac M1 u)) (u:=u) ha (by rw[List.length_set];exact hum) (Ac M1 i)) ?_
       refine Aa (Ab ?_)
       refine Aj I (by kernel_rfl) ?_
       exact Ag () ⟨I,I,I,I,I,I,tO⟩ [0,1,2] (by decide) I
      ·refine wP I (Aa (Ab (wY (wZ (wP I (Aa (Ab (wY (wZ (wP I (Aa (Ab (wY ?_)))))))))))))
       refine wZ ?_
       refine wV 54 ((a+u:Nat):Int) I (show w64 (((a:Nat):Int)+((u:Nat):Int))=_ by rw[Ak (by omega) (by omega)];omega) ?_;(first|refine wJ ?_|refine qJ ?_)
       refine Aa (Ab (wY (wZ ?_)))
       refine Ad 1 _ tH I I I I I I I I I I (Ay (M:=M1.set i (Ac M1 u)) (u:=u) ha (by rw[List.length_set];exact hum)) (Az (M:=M1.set i (Ac M1 u)) (u:=u) ha (by rw[List.length_set];exact hum) (Ac M1 i)) ?_
       refine Aa (Ab ?_)
       refine Aj I (by kernel_rfl) ?_
       exact Ag () ⟨I,I,I,I,I,I,tO⟩ [0,1,2] (by decide) I
     ·refine wP I (Aa (Ab (wY ?_)))
      refine RS.cons ?_ (RS.cons ?_ (RS.nil))
      ·refine wP I (Aa (Ab (wY (wZ (wP I (Aa (Ab (wY (wZ (wP I (Aa (Ab (wY ?_)))))))))))))
       refine wZ ?_
       refine wV 54 ((a+u:Nat):Int) I (show w64 (((a:Nat):Int)+((u:Nat):Int))=_ by rw[Ak (by omega) (by omega)];omega) ?_;(first|refine wJ ?_|refine qJ ?_)
       refine Aa (Ab (wY (wZ ?_)))
       refine Ad 1 _ tH I I I I I I I I I I (Ay (M:=M1.set i (Ac M1 u)) (u:=u) ha (by rw[List.length_set];exact hum)) (Az (M:=M1.set i (Ac M1 u)) (u:=u) ha (by rw[List.length_set];exact hum) (Ac M1 i)) ?_
       refine Aa (Ab ?_)
       refine Aj I (by kernel_rfl) ?_
       exact Ag () ⟨I,I,I,I,I,I,tO⟩ [0,1,2] (by decide) I
      ·refine wP I (Aa (Ab (wY ?_)))
       refine RS.cons ?_ (RS.cons ?_ (RS.nil))
       ·refine wP I (Aa (Ab (wY (wZ (wP I (Aa (Ab (wY (wZ ?_)))))))))
        refine wV 54 ((a+u:Nat):Int) I (show w64 (((a:Nat):Int)+((u:Nat):Int))=_ by rw[Ak (by omega) (by omega)];omega) ?_;(first|refine wJ ?_|refine qJ ?_)
        refine Aa (Ab (wY (wZ ?_)))
        refine Ad 1 _ tH I I I I I I I I I I (Ay (M:=M1.set i (Ac M1 u)) (u:=u) ha (by rw[List.length_set];exact hum)) (Az (M:=M1.set i (Ac M1 u)) (u:=u) ha (by rw[List.length_set];exact hum) (Ac M1 i)) ?_
        refine Aa (Ab ?_)
        refine Aj I (by kernel_rfl) ?_
        exact Ag () ⟨I,I,I,I,I,I,tO⟩ [0,1,2] (by decide) I
       ·refine wP I (Aa (Ab (wY (wZ (wP I (Aa (Ab (wY (wZ ?_)))))))))
        refine wV 54 ((a+u:Nat):Int) I (show w64 (((a:Nat):Int)+((u:Nat):Int))=_ by rw[Ak (by omega) (by omega)];omega) ?_;(first|refine wJ ?_|refine qJ ?_)
        refine Aa (Ab (wY (wZ ?_)))
        refine Ad 1 _ tH I I I I I I I I I I (Ay (M:=M1.set i (Ac M1 u)) (u:=u) ha (by rw[List.length_set];exact hum)) (Az (M:=M1.set i (Ac M1 u)) (u:=u) ha (by rw[List.length_set];exact hum) (Ac M1 i)) ?_
        refine Aa (Ab ?_)
        refine Aj I (by kernel_rfl) ?_
        exact Ag () ⟨I,I,I,I,I,I,tO⟩ [0,1,2] (by decide) I
     ·refine wP I (Aa (Ab (wY ?_)))
      refine RS.cons ?_ (RS.cons ?_ (RS.nil))
      ·refine wP I (Aa (Ab (wY (wZ (wP I (Aa (Ab (wY (wZ (wP I (Aa (Ab (wY ?_)))))))))))))
       refine wZ ?_
       refine wV 54 ((a+u:Nat):Int) I (show w64 (((a:Nat):Int)+((u:Nat):Int))=_ by rw[Ak (by omega) (by omega)];omega) ?_;(first|refine wJ ?_|refine qJ ?_)
       refine Aa (Ab (wY (wZ ?_)))
       refine Ad 1 _ tH I I I I I I I I I I (Ay (M:=M1.set i (Ac M1 u)) (u:=u) ha (by rw[List.length_set];exact hum)) (Az (M:=M1.set i (Ac M1 u)) (u:=u) ha (by rw[List.length_set];exact hum) (Ac M1 i)) ?_
       refine Aa (Ab ?_)
       refine Aj I (by kernel_rfl) ?_
       exact Ag () ⟨I,I,I,I,I,I,tO⟩ [0,1,2] (by decide) I
      ·refine wP I (Aa (Ab (wY ?_)))
       refine RS.cons ?_ (RS.cons ?_ (RS.nil))
       ·refine wP I (Aa (Ab (wY (wZ (wP I (Aa (Ab (wY (wZ ?_)))))))))
        refine wV 54 ((a+u:Nat):Int) I (show w64 (((a:Nat):Int)+((u:Nat):Int))=_ by rw[Ak (by omega) (by omega)];omega) ?_;(first|refine wJ ?_|refine qJ ?_)
        refine Aa (Ab (wY (wZ ?_)))
        refine Ad 1 _ tH I I I I I I I I I I (Ay (M:=M1.set i (Ac M1 u)) (u:=u) ha (by rw[List.length_set];exact hum)) (Az (M:=M1.set i (Ac M1 u)) (u:=u) ha (by rw[List.length_set];exact hum) (Ac M1 i)) ?_
        refine Aa (Ab ?_)
        refine Aj I (by kernel_rfl) ?_
        exact Ag () ⟨I,I,I,I,I,I,tO⟩ [0,1,2] (by decide) I
       ·refine wP I (Aa (Ab (wY (wZ (wP I (Aa (Ab (wY (wZ ?_)))))))))
        refine wV 54 ((a+u:Nat):Int) I (show w64 (((a:Nat):Int)+((u:Nat):Int))=_ by rw[Ak (by omega) (by omega)];omega) ?_;(first|refine wJ ?_|refine qJ ?_)
        refine Aa (Ab (wY (wZ ?_)))
        refine Ad 1 _ tH I I I I I I I I I I (Ay (M:=M1.set i (Ac M1 u)) (u:=u) ha (by rw[List.length_set];exact hum)) (Az (M:=M1.set i (Ac M1 u)) (u:=u) ha (by rw[List.length_set];exact hum) (Ac M1 i)) ?_
        refine Aa (Ab ?_)
        refine Aj I (by kernel_rfl) ?_
        exact Ag () ⟨I,I,I,I,I,I,tO⟩ [0,1,2] (by decide) I
   intro _
   exact zN (zE (zB (wP I (wP I (wV 37 ((a+(i+1):Nat):Int) I (Av (by omega)) (wP I (Aa (A0 (i+1,CB M1 i u,y) ⟨by show i+1≤q*2+2;omega,hS.trans (Eo him hum)⟩ (by show q*2+2-(i+1)<q*2+2-i;omega) ⟨I,I,I,I,I,I,tO⟩ [] I))))))))
  ·refine wU 45 false I (dF (by omega)) (Aa ?_)
   obtain⟨u,hu⟩: ∃u,u=t:=⟨_,rfl⟩
   rw[←hu]
   have hum:u<M1.length:=by omega
   have him:i<M1.length:=by omega
   refine zE (zS I (zI (zE ?_)))
   refine AU (X:=Unit) [true,true,false,false,false,false,true,true,true,true,true,true,true,true,true,true,true,false,false,false] (fun _=>[(0, .slice (some ⟨g,0,none⟩) n cap),(1, .int .i64 (a:Nat)),(8, .int .i64 (M.length:Nat)),(9,An s),(10, .int .u64 ((m:Nat):Int)),(11, .int .i64 ((a+i:Nat):Int))]) (fun _=>[Ax (Ai W g),A5 g (A++CB M1 i u++B) junk,G7 s y])
    7 [Ax (Ai W g),A5 g (A++M1++B) junk,G7 s y] Tryz.mixed (by kernel_rfl) ?_ ?_
   ·refine qP I ?_
    iterate 5 refine qP I ?_
    refine qV 58 ((a+u:Nat):Int) I (show w64 (((a:Nat):Int)+((u:Nat):Int))=_ by rw[Ak (by omega) (by omega)];omega) ?_
    refine qJ ?_
    refine qL 0 I I (fun W1 hp=>CR hp 1 ha I hum) I (qP I (qP I ?_))
    refine qJ ?_
    refine qL 0 I I (fun W1 hp=>CR hp 1 ha I him) I ?_
    refine qJ ?_
    refine B6 (wX ?_)
    refine RS.cons ?_ (RS.cons ?_ (RS.cons ?_ (RS.cons ?_ (RS.nil))))
    ·refine wP I (Aa (Ab (wX ?_)))
     refine RS.cons ?_ (RS.cons ?_ (RS.cons ?_ (RS.nil)))
     ·refine wP I (Aa (Ab (wX ?_)))
      refine RS.cons ?_ (RS.cons ?_ (RS.nil))
      ·refine wP I (Aa (Ab (wX ?_)))
       refine RS.cons ?_ (RS.cons ?_ (RS.nil))
       ·refine wP I (Aa (Ab (wX (wZ ?_))))
        refine Ad 1 _ tH I I I I I I I I I I (Ay ha him) (Az ha him (Ac M1 u)) ?_
        refine Aa (Ab (wY (wZ ?_)))
        refine wV 54 ((a+u:Nat):Int) I (show w64 (((a:Nat):Int)+((u:Nat):Int))=_ by rw[Ak (by omega) (by omega)];omega) ?_;(first|refine wJ ?_|refine qJ ?_)
        refine Aa (Ab (wY (wZ ?_)))
        refine Ad 1 _ tH I I I I I I I I I I (Ay (M:=M1.set i (Ac M1 u)) (u:=u) ha (by rw[List.length_set];exact hum)) (Az (M:=M1.set i (Ac M1 u)) (u:=u) ha (by rw[List.length_set];exact hum) (Ac M1 i)) ?_
        refine Aa (Ab ?_)
        refine Aj I (by kernel_rfl) ?_
        exact Ag () ⟨I,I,I,I,I,I,tO⟩ [0,1,2] (by decide) I
       ·refine Ad 1 _ tH I I I I I I I I I I (Ay ha him) (Az ha him (Ac M1 u)) ?_
        refine Aa (Ab (wY (wZ (wP I (Aa (Ab (wY (wZ ?_))))))))
        refine wV 54 ((a+u:Nat):Int) I (show w64 (((a:Nat):Int)+((u:Nat):Int))=_ by rw[Ak (by omega) (by omega)];omega) ?_;(first|refine wJ ?_|refine qJ ?_)
        refine Aa (Ab (wY (wZ ?_)))
        refine Ad 1 _ tH I I I I I I I I I I (Ay (M:=M1.set i (Ac M1 u)) (u:=u) ha (by rw[List.length_set];exact hum)) (Az (M:=M1.set i (Ac M1 u)) (u:=u) ha (by rw[List.length_set];exact hum) (Ac M1 i)) ?_
        refine Aa (Ab ?_)
        refine Aj I (by kernel_rfl) ?_
        exact Ag () ⟨I,I,I,I,I,I,tO⟩ [0,1,2] (by decide) I
      ·refine Ad 1 _ tH I I I I I I I I I I (Ay ha him) (Az ha him (Ac M1 u)) ?_
       refine Aa (Ab (wY (wZ (wP I (Aa (Ab (wY (wZ (wP I (Aa (Ab (wY (wZ ?_)))))))))))))
       refine wV 54 ((a+u:Nat):Int) I (show w64 (((a:Nat):Int)+((u:Nat):Int))=_ by rw[Ak (by omega) (by omega)];omega) ?_;(first|refine wJ ?_|refine qJ ?_)
       refine Aa (Ab (wY (wZ ?_)))
       refine Ad 1 _ tH I I I I I I I I I I (Ay (M:=M1.set i (Ac M1 u)) (u:=u) ha (by rw[List.length_set];exact hum)) (Az (M:=M1.set i (Ac M1 u)) (u:=u) ha (by rw[List.length_set];exact hum) (Ac M1 i)) ?_
       refine Aa (Ab ?_)
       refine Aj I (by kernel_rfl) ?_
       exact Ag () ⟨I,I,I,I,I,I,tO⟩ [0,1,2] (by decide) I
     ·refine wP I (Aa (Ab (wX ?_)))
      refine RS.cons ?_ (RS.cons ?_ (RS.nil))
      ·refine wP I (Aa (Ab (wX ?_)))
       refine RS.cons ?_ (RS.cons ?_ (RS.nil))
       ·refine wP I (Aa (Ab (wX (wZ ?_))))
        refine Ad 1 _ tH I I I I I I I I I I (Ay ha him) (Az ha him (Ac M1 u)) ?_
        refine Aa (Ab (wY (wZ ?_)))
        refine wV 54 ((a+u:Nat):Int) I (show w64 (((a:Nat):Int)+((u:Nat):Int))=_ by rw[Ak (by omega) (by omega)];omega) ?_;(first|refine wJ ?_|refine qJ ?_)
        refine Aa (Ab (wY (wZ ?_)))
        refine Ad 1 _ tH I I I I I I I I I I (Ay (M:=M1.set i (Ac M1 u)) (u:=u) ha (by rw[List.length_set];exact hum)) (Az (M:=M1.set i (Ac M1 u)) (u:=u) ha (by rw[List.length_set];exact hum) (Ac M1 i)) ?_
        refine Aa (Ab ?_)
        refine Aj I (by kernel_rfl) ?_
        exact Ag () ⟨I,I,I,I,I,I,tO⟩ [0,1,2] (by decide) I
       ·refine Ad 1 _ tH I I I I I I I I I I (Ay ha him) (Az ha him (Ac M1 u)) ?_
        refine Aa (Ab (wY (wZ (wP I (Aa (Ab (wY (wZ ?_))))))))
        refine wV 54 ((a+u:Nat):Int) I (show w64 (((a:Nat):Int)+((u:Nat):Int))=_ by rw[Ak (by omega) (by omega)];omega) ?_;(first|refine wJ ?_|refine qJ ?_)
        refine Aa (Ab (wY (wZ ?_)))
        refine Ad 1 _ tH I I I I I I I I I I (Ay (M:=M1.set i (Ac M1 u)) (u:=u) ha (by rw[List.length_set];exact hum)) (Az (M:=M1.set i (Ac M1 u)) (u:=u) ha (by rw[List.length_set];exact hum) (Ac M1 i)) ?_
        refine Aa (Ab ?_)
        refine Aj I (by kernel_rfl) ?_
        exact Ag () ⟨I,I,I,I,I,I,tO⟩ [0,1,2] (by decide) I
      ·refine Ad 1 _ tH I I I I I I I I I I (Ay ha him) (Az ha him (Ac M1 u)) ?_
       refine Aa (Ab (wY (wZ (wP I (Aa (Ab (wY (wZ (wP I (Aa (Ab (wY (wZ ?_)))))))))))))
       refine wV 54 ((a+u:Nat):Int) I (show w64 (((a:Nat):Int)+((u:Nat):Int))=_ by rw[Ak (by omega) (by omega)];omega) ?_;(first|refine wJ ?_|refine qJ ?_)
       refine Aa (Ab (wY (wZ ?_)))
       refine Ad 1 _ tH I I I I I I I I I I (Ay (M:=M1.set i (Ac M1 u)) (u:=u) ha (by rw[List.length_set];exact hum)) (Az (M:=M1.set i (Ac M1 u)) (u:=u) ha (by rw[List.length_set];exact hum) (Ac M1 i)) ?_
       refine Aa (Ab ?_)
       refine Aj I (by kernel_rfl) ?_
       exact Ag () ⟨I,I,I,I,I,I,tO⟩ [0,1,2] (by decide) I
     ·refine Ad 1 _ tH I I I I I I I I I I (Ay ha him) (Az ha him (Ac M1 u)) ?_
      refine Aa (Ab (wY ?_))
      refine RS.cons ?_ (RS.cons ?_ (RS.nil))
      ·refine wP I (Aa (Ab (wY (wZ (wP I (Aa (Ab (wY (wZ (wP I (Aa (Ab (wY ?_)))))))))))))
       refine wZ ?_
       refine wV 54 ((a+u:Nat):Int) I (show w64 (((a:Nat):Int)+((u:Nat):Int))=_ by rw[Ak (by omega) (by omega)];omega) ?_;(first|refine wJ ?_|refine qJ ?_)
       refine Aa (Ab (wY (wZ ?_)))
       refine Ad 1 _ tH I I I I I I I I I I (Ay (M:=M1.set i (Ac M1 u)) (u:=u) ha (by rw[List.length_set];exact hum)) (Az (M:=M1.set i (Ac M1 u)) (u:=u) ha (by rw[List.length_set];exact hum) (Ac M1 i)) ?_
       refine Aa (Ab ?_)
       refine Aj I (by kernel_rfl) ?_
       exact Ag () ⟨I,I,I,I,I,I,tO⟩ [0,1,2] (by decide) I
      ·refine wP I (Aa (Ab (wY (wZ (wP I (Aa (Ab (wY (wZ (wP I (Aa (Ab (wY ?_)))))))))))))
       refine wZ ?_
       refine wV 54 ((a+u:Nat):Int) I (show w64 (((a:Nat):Int)+((u:Nat):Int))=_ by rw[Ak (by omega) (by omega)];omega) ?_;(first|refine wJ ?_|refine qJ ?_)
       refine Aa (Ab (wY (wZ ?_)))
       refine Ad 1 _ tH I I I I I I I I I I (Ay (M:=M1.set i (Ac M1 u)) (u:=u) ha (by rw[List.length_set];exact hum)) (Az (M:=M1.set i (Ac M1 u)) (u:=u) ha (by rw[List.length_set];exact hum) (Ac M1 i)) ?_
       refine Aa (Ab ?_)
       refine Aj I (by kernel_rfl) ?_
       exact Ag () ⟨I,I,I,I,I,I,tO⟩ [0,1,2] (by decide) I
    ·refine wP I (Aa (Ab (wX ?_)))
     refine RS.cons ?_ (RS.cons ?_ (RS.cons ?_ (RS.nil)))
     ·refine wP I (Aa (Ab (wX ?_)))
      refine RS.cons ?_ (RS.cons ?_ (RS.nil))
      ·refine wP I (Aa (Ab (wX ?_)))
       refine RS.cons ?_ (RS.cons ?_ (RS.nil))
       ·refine wP I (Aa (Ab (wX (wZ ?_))))
        refine Ad 1 _ tH I I I I I I I I I I (Ay ha him) (Az ha him (Ac M1 u)) ?_
        refine Aa (Ab (wY (wZ ?_)))
        refine wV 54 ((a+u:Nat):Int) I (show w64 (((a:Nat):Int)+((u:Nat):Int))=_ by rw[Ak (by omega) (by omega)];omega) ?_;(first|refine wJ ?_|refine qJ ?_)
        refine Aa (Ab (wY (wZ ?_)))
        refine Ad 1 _ tH I I I I I I I I I I (Ay (M:=M1.set i (Ac M1 u)) (u:=u) ha (by rw[List.length_set];exact hum)) (Az (M:=M1.set i (Ac M1 u)) (u:=u) ha (by rw[List.length_set];exact hum) (Ac M1 i)) ?_
        refine Aa (Ab ?_)
        refine Aj I (by kernel_rfl) ?_
        exact Ag () ⟨I,I,I,I,I,I,tO⟩ [0,1,2] (by decide) I
       ·refine Ad 1 _ tH I I I I I I I I I I (Ay ha him) (Az ha him (Ac M1 u)) ?_
        refine Aa (Ab (wY (wZ (wP I (Aa (Ab (wY (wZ ?_))))))))
        refine wV 54 ((a+u:Nat):Int) I (show w64 (((a:Nat):Int)+((u:Nat):Int))=_ by rw[Ak (by omega) (by omega)];omega) ?_;(first|refine wJ ?_|refine qJ ?_)
        refine Aa (Ab (wY (wZ ?_)))
        refine Ad 1 _ tH I I I I I I I I I I (Ay (M:=M1.set i (Ac M1 u)) (u:=u) ha (by rw[List.length_set];exact hum)) (Az (M:=M1.set i (Ac M1 u)) (u:=u) ha (by rw[List.length_set];exact hum) (Ac M1 i)) ?_
        refine Aa (Ab ?_)
        refine Aj I (by kernel_rfl) ?_
        exact Ag () ⟨I,I,I,I,I,I,tO⟩ [0,1,2] (by decide) I
      ·refine Ad 1 _ tH I I I I I I I I I I (Ay ha him) (Az ha him (Ac M1 u)) ?_
       refine Aa (Ab (wY (wZ (wP I (Aa (Ab (wY (wZ (wP I (Aa (Ab (wY (wZ ?_)))))))))))))
       refine wV 54 ((a+u:Nat):Int) I (show w64 (((a:Nat):Int)+((u:Nat):Int))=_ by rw[Ak (by omega) (by omega)];omega) ?_;(first|refine wJ ?_|refine qJ ?_)
       refine Aa (Ab (wY (wZ ?_)))
       refine Ad 1 _ tH I I I I I I I I I I (Ay (M:=M1.set i (Ac M1 u)) (u:=u) ha (by rw[List.length_set];exact hum)) (Az (M:=M1.set i (Ac M1 u)) (u:=u) ha (by rw[List.length_set];exact hum) (Ac M1 i)) ?_
       refine Aa (Ab ?_)
       refine Aj I (by kernel_rfl) ?_
       exact Ag () ⟨I,I,I,I,I,I,tO⟩ [0,1,2] (by decide) I
     ·refine wP I (Aa (Ab (wX ?_)))
      refine RS.cons ?_ (RS.cons ?_ (RS.cons ?_ (RS.nil)))
      ·refine wP I (Aa (Ab (wX ?_)))
       refine RS.cons ?_ (RS.cons ?_ (RS.nil))
       ·refine wP I (Aa (Ab (wX (wZ ?_))))
        refine Ad 1 _ tH I I I I I I I I I I (Ay ha him) (Az ha him (Ac M1 u)) ?_
        refine Aa (Ab (wY (wZ ?_)))
        refine wV 54 ((a+u:Nat):Int) I (show w64 (((a:Nat):Int)+((u:Nat):Int))=_ by rw[Ak (by omega) (by omega)];omega) ?_;(first|refine wJ ?_|refine qJ ?_)
        refine Aa (Ab (wY (wZ ?_)))
        refine Ad 1 _ tH I I I I I I I I I I (Ay (M:=M1.set i (Ac M1 u)) (u:=u) ha (by rw[List.length_set];exact hum)) (Az (M:=M1.set i (Ac M1 u)) (u:=u) ha (by rw[List.length_set];exact hum) (Ac M1 i)) ?_
        refine Aa (Ab ?_)
        refine Aj I (by kernel_rfl) ?_
        exact Ag () ⟨I,I,I,I,I,I,tO⟩ [0,1,2] (by decide) I
       ·refine Ad 1 _ tH I I I I I I I I I I (Ay ha him) (Az ha him (Ac M1 u)) ?_
        refine Aa (Ab (wY (wZ (wP I (Aa (Ab (wY (wZ ?_))))))))
        refine wV 54 ((a+u:Nat):Int) I (show w64 (((a:Nat):Int)+((u:Nat):Int))=_ by rw[Ak (by omega) (by omega)];omega) ?_;(first|refine wJ ?_|refine qJ ?_)
        refine Aa (Ab (wY (wZ ?_)))
        refine Ad 1 _ tH I I I I I I I I I I (Ay (M:=M1.set i (Ac M1 u)) (u:=u) ha (by rw[List.length_set];exact hum)) (Az (M:=M1.set i (Ac M1 u)) (u:=u) ha (by rw[List.length_set];exact hum) (Ac M1 i)) ?_
        refine Aa (Ab ?_)
        refine Aj I (by kernel_rfl) ?_
        exact Ag () ⟨I,I,I,I,I,I,tO⟩ [0,1,2] (by decide) I
      ·refine wP I (Aa (Ab (wX ?_)))
       refine RS.cons ?_ (RS.cons ?_ (RS.nil))
       ·refine wP I (Aa (Ab (wX (wZ ?_))))
        refine Ad 1 _ tH I I I I I I I I I I (Ay ha him) (Az ha him (Ac M1 u)) ?_
        refine Aa (Ab (wY (wZ ?_)))
        refine wV 54 ((a+u:Nat):Int) I (show w64 (((a:Nat):Int)+((u:Nat):Int))=_ by rw[Ak (by omega) (by omega)];omega) ?_;(first|refine wJ ?_|refine qJ ?_)
        refine Aa (Ab (wY (wZ ?_)))
        refine Ad 1 _ tH I I I I I I I I I I (Ay (M:=M1.set i (Ac M1 u)) (u:=u) ha (by rw[List.length_set];exact hum)) (Az (M:=M1.set i (Ac M1 u)) (u:=u) ha (by rw[List.length_set];exact hum) (Ac M1 i)) ?_
        refine Aa (Ab ?_)
        refine Aj I (by kernel_rfl) ?_
        exact Ag () ⟨I,I,I,I,I,I,tO⟩ [0,1,2] (by decide) I
       ·refine Ad 1 _ tH I I I I I I I I I I (Ay ha him) (Az ha him (Ac M1 u)) ?_
        refine Aa (Ab (wY (wZ (wP I (Aa (Ab (wY (wZ ?_))))))))
        refine wV 54 ((a+u:Nat):Int) I (show w64 (((a:Nat):Int)+((u:Nat):Int))=_ by rw[Ak (by omega) (by omega)];omega) ?_;(first|refine wJ ?_|refine qJ ?_)
        refine Aa (Ab (wY (wZ ?_)))
        refine Ad 1 _ tH I I I I I I I I I I (Ay (M:=M1.set i (Ac M1 u)) (u:=u) ha (by rw[List.length_set];exact hum)) (Az (M:=M1.set i (Ac M1 u)) (u:=u) ha (by rw[List.length_set];exact hum) (Ac M1 i)) ?_
        refine Aa (Ab ?_)
        refine Aj I (by kernel_rfl) ?_
        exact Ag () ⟨I,I,I,I,I,I,tO⟩ [0,1,2] (by decide) I
      ·refine Ad 1 _ tH I I I I I I I I I I (Ay ha him) (Az ha him (Ac M1 u)) ?_
       refine Aa (Ab (wY ?_))
       refine RS.cons ?_ (RS.cons ?_ (RS.nil))
       ·refine wP I (Aa (Ab (wY (wZ (wP I (Aa (Ab (wY (wZ ?_)))))))))
        refine wV 54 ((a+u:Nat):Int) I (show w64 (((a:Nat):Int)+((u:Nat):Int))=_ by rw[Ak (by omega) (by omega)];omega) ?_;(first|refine wJ ?_|refine qJ ?_)
        refine Aa (Ab (wY (wZ ?_)))
        refine Ad 1 _ tH I I I I I I I I I I (Ay (M:=M1.set i (Ac M1 u)) (u:=u) ha (by rw[List.length_set];exact hum)) (Az (M:=M1.set i (Ac M1 u)) (u:=u) ha (by rw[List.length_set];exact hum) (Ac M1 i)) ?_
        refine Aa (Ab ?_)
        refine Aj I (by kernel_rfl) ?_
        exact Ag () ⟨I,I,I,I,I,I,tO⟩ [0,1,2] (by decide) I
       ·refine wP I (Aa (Ab (wY (wZ (wP I (Aa (Ab (wY (wZ ?_)))))))))
        refine wV 54 ((a+u:Nat):Int) I (show w64 (((a:Nat):Int)+((u:Nat):Int))=_ by rw[Ak (by omega) (by omega)];omega) ?_;(first|refine wJ ?_|refine qJ ?_)
        refine Aa (Ab (wY (wZ ?_)))
        refine Ad 1 _ tH I I I I I I I I I I (Ay (M:=M1.set i (Ac M1 u)) (u:=u) ha (by rw[List.length_set];exact hum)) (Az (M:=M1.set i (Ac M1 u)) (u:=u) ha (by rw[List.length_set];exact hum) (Ac M1 i)) ?_
        refine Aa (Ab ?_)
        refine Aj I (by kernel_rfl) ?_
        exact Ag () ⟨I,I,I,I,I,I,tO⟩ [0,1,2] (by decide) I
     ·refine Ad 1 _ tH I I I I I I I I I I (Ay ha him) (Az ha him (Ac M1 u)) ?_
      refine Aa (Ab (wY ?_))
      refine RS.cons ?_ (RS.cons ?_ (RS.nil))
      ·refine wP I (Aa (Ab (wY (wZ (wP I (Aa (Ab (wY (wZ (wP I (Aa (Ab (wY ?_)))))))))))))
       refine wZ ?_
       refine wV 54 ((a+u:Nat):Int) I (show w64 (((a:Nat):Int)+((u:Nat):Int))=_ by rw[Ak (by omega) (by omega)];omega) ?_;(first|refine wJ ?_|refine qJ ?_)
       refine Aa (Ab (wY (wZ ?_)))
       refine Ad 1 _ tH I I I I I I I I I I (Ay (M:=M1.set i (Ac M1 u)) (u:=u) ha (by rw[List.length_set];exact hum)) (Az (M:=M1.set i (Ac M1 u)) (u:=u) ha (by rw[List.length_set];exact hum) (Ac M1 i)) ?_
       refine Aa (Ab ?_)
       refine Aj I (by kernel_rfl) ?_
       exact Ag () ⟨I,I,I,I,I,I,tO⟩ [0,1,2] (by decide) I
      ·refine wP I (Aa (Ab (wY ?_)))
       refine RS.cons ?_ (RS.cons ?_ (RS.nil))
       ·refine wP I (Aa (Ab (wY (wZ (wP I (Aa (Ab (wY (wZ ?_)))))))))
        refine wV 54 ((a+u:Nat):Int) I (show w64 (((a:Nat):Int)+((u:Nat):Int))=_ by rw[Ak (by omega) (by omega)];omega) ?_;(first|refine wJ ?_|refine qJ ?_)
        refine Aa (Ab (wY (wZ ?_)))
        refine Ad 1 _ tH I I I I I I I I I I (Ay (M:=M1.set i (Ac M1 u)) (u:=u) ha (by rw[List.length_set];exact hum)) (Az (M:=M1.set i (Ac M1 u)) (u:=u) ha (by rw[List.length_set];exact hum) (Ac M1 i)) ?_
        refine Aa (Ab ?_)
        refine Aj I (by kernel_rfl) ?_
        exact Ag () ⟨I,I,I,I,I,I,tO⟩ [0,1,2] (by decide) I
       ·refine wP I (Aa (Ab (wY (wZ (wP I (Aa (Ab (wY (wZ ?_)))))))))
        refine wV 54 ((a+u:Nat):Int) I (show w64 (((a:Nat):Int)+((u:Nat):Int))=_ by rw[Ak (by omega) (by omega)];omega) ?_;(first|refine wJ ?_|refine qJ ?_)
        refine Aa (Ab (wY (wZ ?_)))
        refine Ad 1 _ tH I I I I I I I I I I (Ay (M:=M1.set i (Ac M1 u)) (u:=u) ha (by rw[List.length_set];exact hum)) (Az (M:=M1.set i (Ac M1 u)) (u:=u) ha (by rw[List.length_set];exact hum) (Ac M1 i)) ?_
        refine Aa (Ab ?_)
        refine Aj I (by kernel_rfl) ?_
        exact Ag () ⟨I,I,I,I,I,I,tO⟩ [0,1,2] (by decide) I
    ·refine wP I (Aa (Ab (wX ?_)))
     refine RS.cons ?_ (RS.cons ?_ (RS.cons ?_ (RS.nil)))
     ·refine wP I (Aa (Ab (wX ?_)))
      refine RS.cons ?_ (RS.cons ?_ (RS.nil))
      ·refine wP I (Aa (Ab (wX ?_)))
       refine RS.cons ?_ (RS.cons ?_ (RS.nil))
       ·refine wP I (Aa (Ab (wX (wZ ?_))))
        refine Ad 1 _ tH I I I I I I I I I I (Ay ha him) (Az ha him (Ac M1 u)) ?_
        refine Aa (Ab (wY (wZ ?_)))
        refine wV 54 ((a+u:Nat):Int) I (show w64 (((a:Nat):Int)+((u:Nat):Int))=_ by rw[Ak (by omega) (by omega)];omega) ?_;(first|refine wJ ?_|refine qJ ?_)
        refine Aa (Ab (wY (wZ ?_)))
        refine Ad 1 _ tH I I I I I I I I I I (Ay (M:=M1.set i (Ac M1 u)) (u:=u) ha (by rw[List.length_set];exact hum)) (Az (M:=M1.set i (Ac M1 u)) (u:=u) ha (by rw[List.length_set];exact hum) (Ac M1 i)) ?_
        refine Aa (Ab ?_)
        refine Aj I (by kernel_rfl) ?_
        exact Ag () ⟨I,I,I,I,I,I,tO⟩ [0,1,2] (by decide) I
       ·refine Ad 1 _ tH I I I I I I I I I I (Ay ha him) (Az ha him (Ac M1 u)) ?_
        refine Aa (Ab (wY (wZ (wP I (Aa (Ab (wY (wZ ?_))))))))
        refine wV 54 ((a+u:Nat):Int) I (show w64 (((a:Nat):Int)+((u:Nat):Int))=_ by rw[Ak (by omega) (by omega)];omega) ?_;(first|refine wJ ?_|refine qJ ?_)
        refine Aa (Ab (wY (wZ ?_)))
        refine Ad 1 _ tH I I I I I I I I I I (Ay (M:=M1.set i (Ac M1 u)) (u:=u) ha (by rw[List.length_set];exact hum)) (Az (M:=M1.set i (Ac M1 u)) (u:=u) ha (by rw[List.length_set];exact hum) (Ac M1 i)) ?_
        refine Aa (Ab ?_)
        refine Aj I (by kernel_rfl) ?_
        exact Ag () ⟨I,I,I,I,I,I,tO⟩ [0,1,2] (by decide) I
      ·refine Ad 1 _ tH I I I I I I I I I I (Ay ha him) (Az ha him (Ac M1 u)) ?_
       refine Aa (Ab (wY (wZ (wP I (Aa (Ab (wY (wZ (wP I (Aa (Ab (wY (wZ ?_)))))))))))))
       refine wV 54 ((a+u:Nat):Int) I (show w64 (((a:Nat):Int)+((u:Nat):Int))=_ by rw[Ak (by omega) (by omega)];omega) ?_;(first|refine wJ ?_|refine qJ ?_)
       refine Aa (Ab (wY (wZ ?_)))
       refine Ad 1 _ tH I I I I I I I I I I (Ay (M:=M1.set i (Ac M1 u)) (u:=u) ha (by rw[List.length_set];exact hum)) (Az (M:=M1.set i (Ac M1 u)) (u:=u) ha (by rw[List.length_set];exact hum) (Ac M1 i)) ?_
       refine Aa (Ab ?_)
       refine Aj I (by kernel_rfl) ?_
       exact Ag () ⟨I,I,I,I,I,I,tO⟩ [0,1,2] (by decide) I
     ·refine wP I (Aa (Ab (wX ?_)))
      refine RS.cons ?_ (RS.cons ?_ (RS.cons ?_ (RS.nil)))
      ·refine wP I (Aa (Ab (wX ?_)))
       refine RS.cons ?_ (RS.cons ?_ (RS.nil))
       ·refine wP I (Aa (Ab (wX (wZ ?_))))
        refine Ad 1 _ tH I I I I I I I I I I (Ay ha him) (Az ha him (Ac M1 u)) ?_
        refine Aa (Ab (wY (wZ ?_)))
        refine wV 54 ((a+u:Nat):Int) I (show w64 (((a:Nat):Int)+((u:Nat):Int))=_ by rw[Ak (by omega) (by omega)];omega) ?_;(first|refine wJ ?_|refine qJ ?_)
        refine Aa (Ab (wY (wZ ?_)))
        refine Ad 1 _ tH I I I I I I I I I I (Ay (M:=M1.set i (Ac M1 u)) (u:=u) ha (by rw[List.length_set];exact hum)) (Az (M:=M1.set i (Ac M1 u)) (u:=u) ha (by rw[List.length_set];exact hum) (Ac M1 i)) ?_
        refine Aa (Ab ?_)
        refine Aj I (by kernel_rfl) ?_
        exact Ag () ⟨I,I,I,I,I,I,tO⟩ [0,1,2] (by decide) I
       ·refine Ad 1 _ tH I I I I I I I I I I (Ay ha him) (Az ha him (Ac M1 u)) ?_
        refine Aa (Ab (wY (wZ (wP I (Aa (Ab (wY (wZ ?_))))))))
        refine wV 54 ((a+u:Nat):Int) I (show w64 (((a:Nat):Int)+((u:Nat):Int))=_ by rw[Ak (by omega) (by omega)];omega) ?_;(first|refine wJ ?_|refine qJ ?_)
        refine Aa (Ab (wY (wZ ?_)))
        refine Ad 1 _ tH I I I I I I I I I I (Ay (M:=M1.set i (Ac M1 u)) (u:=u) ha (by rw[List.length_set];exact hum)) (Az (M:=M1.set i (Ac M1 u)) (u:=u) ha (by rw[List.length_set];exact hum) (Ac M1 i)) ?_
        refine Aa (Ab ?_)
        refine Aj I (by kernel_rfl) ?_
        exact Ag () ⟨I,I,I,I,I,I,tO⟩ [0,1,2] (by decide) I
      ·refine wP I (Aa (Ab (wX ?_)))
       refine RS.cons ?_ (RS.cons ?_ (RS.nil))
       ·refine wP I (Aa (Ab (wX (wZ ?_))))
        refine Ad 1 _ tH I I I I I I I I I I (Ay ha him) (Az ha him (Ac M1 u)) ?_
        refine Aa (Ab (wY (wZ ?_)))
        refine wV 54 ((a+u:Nat):Int) I (show w64 (((a:Nat):Int)+((u:Nat):Int))=_ by rw[Ak (by omega) (by omega)];omega) ?_;(first|refine wJ ?_|refine qJ ?_)
        refine Aa (Ab (wY (wZ ?_)))
        refine Ad 1 _ tH I I I I I I I I I I (Ay (M:=M1.set i (Ac M1 u)) (u:=u) ha (by rw[List.length_set];exact hum)) (Az (M:=M1.set i (Ac M1 u)) (u:=u) ha (by rw[List.length_set];exact hum) (Ac M1 i)) ?_
        refine Aa (Ab ?_)
        refine Aj I (by kernel_rfl) ?_
        exact Ag () ⟨I,I,I,I,I,I,tO⟩ [0,1,2] (by decide) I
       ·refine Ad 1 _ tH I I I I I I I I I I (Ay ha him) (Az ha him (Ac M1 u)) ?_
        refine Aa (Ab (wY (wZ (wP I (Aa (Ab (wY (wZ ?_))))))))
        refine wV 54 ((a+u:Nat):Int) I (show w64 (((a:Nat):Int)+((u:Nat):Int))=_ by rw[Ak (by omega) (by omega)];omega) ?_;(first|refine wJ ?_|refine qJ ?_)
        refine Aa (Ab (wY (wZ ?_)))
        refine Ad 1 _ tH I I I I I I I I I I (Ay (M:=M1.set i (Ac M1 u)) (u:=u) ha (by rw[List.length_set];exact hum)) (Az (M:=M1.set i (Ac M1 u)) (u:=u) ha (by rw[List.length_set];exact hum) (Ac M1 i)) ?_
        refine Aa (Ab ?_)
        refine Aj I (by kernel_rfl) ?_
        exact Ag () ⟨I,I,I,I,I,I,tO⟩ [0,1,2] (by decide) I
      ·refine Ad 1 _ tH I I I I I I I I I I (Ay ha him) (Az ha him (Ac M1 u)) ?_
       refine Aa (Ab (wY ?_))
       refine RS.cons ?_ (RS.cons ?_ (RS.nil))
       ·refine wP I (Aa (Ab (wY (wZ (wP I (Aa (Ab (wY (wZ ?_)))))))))
        refine wV 54 ((a+u:Nat):Int) I (show w64 (((a:Nat):Int)+((u:Nat):Int))=_ by rw[Ak (by omega) (by omega)];omega) ?_;(first|refine wJ ?_|refine qJ ?_)
        refine Aa (Ab (wY (wZ ?_)))
        refine Ad 1 _ tH I I I I I I I I I I (Ay (M:=M1.set i (Ac M1 u)) (u:=u) ha (by rw[List.length_set];exact hum)) (Az (M:=M1.set i (Ac M1 u)) (u:=u) ha (by rw[List.length_set];exact hum) (Ac M1 i)) ?_
        refine Aa (Ab ?_)
        refine Aj I (by kernel_rfl) ?_
        exact Ag () ⟨I,I,I,I,I,I,tO⟩ [0,1,2] (by decide) I
       ·refine wP I (Aa (Ab (wY (wZ (wP I (Aa (Ab (wY (wZ ?_)))))))))
        refine wV 54 ((a+u:Nat):Int) I (show w64 (((a:Nat):Int)+((u:Nat):Int))=_ by rw[Ak (by omega) (by omega)];omega) ?_;(first|refine wJ ?_|refine qJ ?_)
        refine Aa (Ab (wY (wZ ?_)))
        refine Ad 1 _ tH I I I I I I I I I I (Ay (M:=M1.set i (Ac M1 u)) (u:=u) ha (by rw[List.length_set];exact hum)) (Az (M:=M1.set i (Ac M1 u)) (u:=u) ha (by rw[List.length_set];exact hum) (Ac M1 i)) ?_
        refine Aa (Ab ?_)
        refine Aj I (by kernel_rfl) ?_
        exact Ag () ⟨I,I,I,I,I,I,tO⟩ [0,1,2] (by decide) I
     ·refine Ad 1 _ tH I I I I I I I I I I (Ay ha him) (Az ha him (Ac M1 u)) ?_
      refine Aa (Ab (wY ?_))
      refine RS.cons ?_ (RS.cons ?_ (RS.nil))
      ·refine wP I (Aa (Ab (wY (wZ (wP I (Aa (Ab (wY (wZ (wP I (Aa (Ab (wY ?_)))))))))))))
       refine wZ ?_
       refine wV 54 ((a+u:Nat):Int) I (show w64 (((a:Nat):Int)+((u:Nat):Int))=_ by rw[Ak (by omega) (by omega)];omega) ?_;(first|refine wJ ?_|refine qJ ?_)
       refine Aa (Ab (wY (wZ ?_)))
       refine Ad 1 _ tH I I I I I I I I I I (Ay (M:=M1.set i (Ac M1 u)) (u:=u) ha (by rw[List.length_set];exact hum)) (Az (M:=M1.set i (Ac M1 u)) (u:=u) ha (by rw[List.length_set];exact hum) (Ac M1 i)) ?_
       refine Aa (Ab ?_)
       refine Aj I (by kernel_rfl) ?_
       exact Ag () ⟨I,I,I,I,I,I,tO⟩ [0,1,2] (by decide) I
      ·refine wP I (Aa (Ab (wY ?_)))
       refine RS.cons ?_ (RS.cons ?_ (RS.nil))
       ·refine wP I (Aa (Ab (wY (wZ (wP I (Aa (Ab (wY (wZ ?_)))))))))
        refine wV 54 ((a+u:Nat):Int) I (show w64 (((a:Nat):Int)+((u:Nat):Int))=_ by rw[Ak (by omega) (by omega)];omega) ?_;(first|refine wJ ?_|refine qJ ?_)
        refine Aa (Ab (wY (wZ ?_)))
        refine Ad 1 _ tH I I I I I I I I I I (Ay (M:=M1.set i (Ac M1 u)) (u:=u) ha (by rw[List.length_set];exact hum)) (Az (M:=M1.set i (Ac M1 u)) (u:=u) ha (by rw[List.length_set];exact hum) (Ac M1 i)) ?_
        refine Aa (Ab ?_)
        refine Aj I (by kernel_rfl) ?_
        exact Ag () ⟨I,I,I,I,I,I,tO⟩ [0,1,2] (by decide) I
       ·refine wP I (Aa (Ab (wY (wZ (wP I (Aa (Ab (wY (wZ ?_)))))))))
        refine wV 54 ((a+u:Nat):Int) I (show w64 (((a:Nat):Int)+((u:Nat):Int))=_ by rw[Ak (by omega) (by omega)];omega) ?_;(first|refine wJ ?_|refine qJ ?_)
        refine Aa (Ab (wY (wZ ?_)))
        refine Ad 1 _ tH I I I I I I I I I I (Ay (M:=M1.set i (Ac M1 u)) (u:=u) ha (by rw[List.length_set];exact hum)) (Az (M:=M1.set i (Ac M1 u)) (u:=u) ha (by rw[List.length_set];exact hum) (Ac M1 i)) ?_
        refine Aa (Ab ?_)
        refine Aj I (by kernel_rfl) ?_
        exact Ag () ⟨I,I,I,I,I,I,tO⟩ [0,1,2] (by decide) I
    ·refine Ad 1 _ tH I I I I I I I I I I (Ay ha him) (Az ha him (Ac M1 u)) ?_
     refine Aa (Ab (wY ?_))
     refine RS.cons ?_ (RS.cons ?_ (RS.cons ?_ (RS.nil)))
     ·refine wP I (Aa (Ab (wY ?_)))
      refine RS.cons ?_ (RS.cons ?_ (RS.nil))
      ·refine wP I (Aa (Ab (wY (wZ (wP I (Aa (Ab (wY (wZ (wP I (Aa (Ab (wY ?_)))))))))))))
       refine wZ ?_
       refine wV 54 ((a+u:Nat):Int) I (show w64 (((a:Nat):Int)+((u:Nat):Int))=_ by rw[Ak (by omega) (by omega)];omega) ?_;(first|refine wJ ?_|refine qJ ?_)
       refine Aa (Ab (wY (wZ ?_)))
       refine Ad 1 _ tH I I I I I I I I I I (Ay (M:=M1.set i (Ac M1 u)) (u:=u) ha (by rw[List.length_set];exact hum)) (Az (M:=M1.set i (Ac M1 u)) (u:=u) ha (by rw[List.length_set];exact hum) (Ac M1 i)) ?_
       refine Aa (Ab ?_)
       refine Aj I (by kernel_rfl) ?_
       exact Ag () ⟨I,I,I,I,I,I,tO⟩ [0,1,2] (by decide) I
      ·refine wP I (Aa (Ab (wY (wZ (wP I (Aa (Ab (wY (wZ (wP I (Aa (Ab (wY ?_)))))))))))))
       refine wZ ?_
       refine wV 54 ((a+u:Nat):Int) I (show w64 (((a:Nat):Int)+((u:Nat):Int))=_ by rw[Ak (by omega) (by omega)];omega) ?_;(first|refine wJ ?_|refine qJ ?_)
       refine Aa (Ab (wY (wZ ?_)))
       refine Ad 1 _ tH I I I I I I I I I I (Ay (M:=M1.set i (Ac M1 u)) (u:=u) ha (by rw[List.length_set];exact hum)) (Az (M:=M1.set i (Ac M1 u)) (u:=u) ha (by rw[List.length_set];exact hum) (Ac M1 i)) ?_
       refine Aa (Ab ?_)
       refine Aj I (by kernel_rfl) ?_
       exact Ag () ⟨I,I,I,I,I,I,tO⟩ [0,1,2] (by decide) I
     ·refine wP I (Aa (Ab (wY ?_)))
      refine RS.cons ?_ (RS.cons ?_ (RS.nil))
      ·refine wP I (Aa (Ab (wY (wZ (wP I (Aa (Ab (wY (wZ (wP I (Aa (Ab (wY ?_)))))))))))))
       refine wZ ?_
       refine wV 54 ((a+u:Nat):Int) I (show w64 (((a:Nat):Int)+((u:Nat):Int))=_ by rw[Ak (by omega) (by omega)];omega) ?_;(first|refine wJ ?_|refine qJ ?_)
       refine Aa (Ab (wY (wZ ?_)))
       refine Ad 1 _ tH I I I I I I I I I I (Ay (M:=M1.set i (Ac M1 u)) (u:=u) ha (by rw[List.length_set];exact hum)) (Az (M:=M1.set i (Ac M1 u)) (u:=u) ha (by rw[List.length_set];exact hum) (Ac M1 i)) ?_
       refine Aa (Ab ?_)
       refine Aj I (by kernel_rfl) ?_
       exact Ag () ⟨I,I,I,I,I,I,tO⟩ [0,1,2] (by decide) I
      ·refine wP I (Aa (Ab (wY ?_)))
       refine RS.cons ?_ (RS.cons ?_ (RS.nil))
       ·refine wP I (Aa (Ab (wY (wZ (wP I (Aa (Ab (wY (wZ ?_)))))))))
        refine wV 54 ((a+u:Nat):Int) I (show w64 (((a:Nat):Int)+((u:Nat):Int))=_ by rw[Ak (by omega) (by omega)];omega) ?_;(first|refine wJ ?_|refine qJ ?_)
        refine Aa (Ab (wY (wZ ?_)))
        refine Ad 1 _ tH I I I I I I I I I I (Ay (M:=M1.set i (Ac M1 u)) (u:=u) ha (by rw[List.length_set];exact hum)) (Az (M:=M1.set i (Ac M1 u)) (u:=u) ha (by rw[List.length_set];exact hum) (Ac M1 i)) ?_
        refine Aa (Ab ?_)
        refine Aj I (by kernel_rfl) ?_
        exact Ag () ⟨I,I,I,I,I,I,tO⟩ [0,1,2] (by decide) I
       ·refine wP I (Aa (Ab (wY (wZ (wP I (Aa (Ab (wY (wZ ?_)))))))))
        refine wV 54 ((a+u:Nat):Int) I (show w64 (((a:Nat):Int)+((u:Nat):Int))=_ by rw[Ak (by omega) (by omega)];omega) ?_;(first|refine wJ ?_|refine qJ ?_)
        refine Aa (Ab (wY (wZ ?_)))
        refine Ad 1 _ tH I I I I I I I I I I (Ay (M:=M1.set i (Ac M1 u)) (u:=u) ha (by rw[List.length_set];exact hum)) (Az (M:=M1.set i (Ac M1 u)) (u:=u) ha (by rw[List.length_set];exact hum) (Ac M1 i)) ?_
        refine Aa (Ab ?_)
        refine Aj I (by kernel_rfl) ?_
        exact Ag () ⟨I,I,I,I,I,I,tO⟩ [0,1,2] (by decide) I
     ·refine wP I (Aa (Ab (wY ?_)))
      refine RS.cons ?_ (RS.cons ?_ (RS.nil))
      ·refine wP I (Aa (Ab (wY (wZ (wP I (Aa (Ab (wY (wZ (wP I (Aa (Ab (wY ?_)))))))))))))
       refine wZ ?_
       refine wV 54 ((a+u:Nat):Int) I (show w64 (((a:Nat):Int)+((u:Nat):Int))=_ by rw[Ak (by omega) (by omega)];omega) ?_;(first|refine wJ ?_|refine qJ ?_)
       refine Aa (Ab (wY (wZ ?_)))
       refine Ad 1 _ tH I I I I I I I I I I (Ay (M:=M1.set i (Ac M1 u)) (u:=u) ha (by rw[List.length_set];exact hum)) (Az (M:=M1.set i (Ac M1 u)) (u:=u) ha (by rw[List.length_set];exact hum) (Ac M1 i)) ?_
       refine Aa (Ab ?_)
       refine Aj I (by kernel_rfl) ?_
       exact Ag () ⟨I,I,I,I,I,I,tO⟩ [0,1,2] (by decide) I
      ·refine wP I (Aa (Ab (wY ?_)))
       refine RS.cons ?_ (RS.cons ?_ (RS.nil))
       ·refine wP I (Aa (Ab (wY (wZ (wP I (Aa (Ab (wY (wZ ?_)))))))))
        refine wV 54 ((a+u:Nat):Int) I (show w64 (((a:Nat):Int)+((u:Nat):Int))=_ by rw[Ak (by omega) (by omega)];omega) ?_;(first|refine wJ ?_|refine qJ ?_)
        refine Aa (Ab (wY (wZ ?_)))
        refine Ad 1 _ tH I I I I I I I I I I (Ay (M:=M1.set i (Ac M1 u)) (u:=u) ha (by rw[List.length_set];exact hum)) (Az (M:=M1.set i (Ac M1 u)) (u:=u) ha (by rw[List.length_set];exact hum) (Ac M1 i)) ?_
        refine Aa (Ab ?_)
        refine Aj I (by kernel_rfl) ?_
        exact Ag () ⟨I,I,I,I,I,I,tO⟩ [0,1,2] (by decide) I
       ·refine wP I (Aa (Ab (wY (wZ (wP I (Aa (Ab (wY (wZ ?_)))))))))
        refine wV 54 ((a+u:Nat):Int) I (show w64 (((a:Nat):Int)+((u:Nat):Int))=_ by rw[Ak (by omega) (by omega)];omega) ?_;(first|refine wJ ?_|refine qJ ?_)
        refine Aa (Ab (wY (wZ ?_)))
        refine Ad 1 _ tH I I I I I I I I I I (Ay (M:=M1.set i (Ac M1 u)) (u:=u) ha (by rw[List.length_set];exact hum)) (Az (M:=M1.set i (Ac M1 u)) (u:=u) ha (by rw[List.length_set];exact hum) (Ac M1 i)) ?_
        refine Aa (Ab ?_)
        refine Aj I (by kernel_rfl) ?_
        exact Ag () ⟨I,I,I,I,I,I,tO⟩ [0,1,2] (by decide) I
   intro _
   exact zN (zE (zB (wP I (wP I (wV 37 ((a+(i+1):Nat):Int) I (Av (by omega)) (wP I (Aa (A0 (i+1,CB M1 i u,y) ⟨by show i+1≤q*2+2;omega,hS.trans (Eo him hum)⟩ (by show q*2+2-(i+1)<q*2+2-i;omega) ⟨I,I,I,I,I,I,tO⟩ [] I))))))))
 refine key.mono ?_
 rintro e W' ⟨x,he,hx,hb,hn'⟩
 exact⟨x,he,hx,BL hg I hb hn'⟩
-- BOXES 3
-- CODE2
theorem Wj {W0 W:World} {bxs:List Bx} (hp:Hp W0 bxs W) (k:Nat) {g:Nat} {l:List Ah} {junk:List Value} (hk:nth bxs k=some (A5 g l junk)) {i:Nat} (hi:i<l.length):Ar W g (0+i*2) [str (Af (Ac l i).1),str (Af (Ac l i).2)]:=by
 rw[AF hi];exact Jv hp k hk hi
theorem SE {N:Nat} {D:List Deferred} {Q:Exit→Act→World→Prop} {ex:Exit} {env:Env} {W0:World} {bxs bxs':List Bx} (e:bxs=bxs') (h:NE N D Q ex env (Hp W0 bxs')):NE N D Q ex env (Hp W0 bxs):=e▸h
theorem Rf (M:List Ah):Sim M (BF M):=⟨EW M,fun _=>CP⟩
theorem Sim.mid {A M M' B:List Ah} (h:Sim M M'):Sim (A++M++B) (A++M'++B):=by
 refine⟨by rw[List.length_append,List.length_append,List.length_append,List.length_append,h.1],fun x=> ?_⟩
 rw[List.mem_append,List.mem_append,List.mem_append,List.mem_append,h.2]
structure H2 (l A M B:List Ah):Prop where
 s:Sim l (A++M++B)
 a:SrC A
 b:SrC B
 am: ∀x∈A, ∀y∈M, ¬A4 y x
 mb: ∀x∈M, ∀y∈B, ¬A4 y x
 ab: ∀x∈A, ∀y∈B, ¬A4 y x
theorem H2.mid {l A M M' B:List Ah} (h:H2 l A M B) (hs:Sim M M'):H2 l A M' B:=
 ⟨h.s.trans hs.mid,h.a,h.b,fun x hx y hy=>h.am x hx y ((hs.2 y).1 hy),fun x hx y hy=>h.mb x ((hs.2 x).1 hx) y hy,h.ab⟩
theorem H2.done {l A M B:List Ah} (h:H2 l A M B) (hM:SrC M):SrC (A++M++B):=by
 refine List.pairwise_append.2 ⟨List.pairwise_append.2 ⟨h.a,hM,fun x hx y hy=>h.am x hx y hy⟩,h.b,fun x hx y hy=> ?_⟩
 rcases List.mem_append.1 hx with c|c
 ·exact h.ab x c y hy
 ·exact h.mb x c y hy
theorem H2.left {l A X Y B:List Ah} {p:Ah} (h:H2 l A (X++p::Y) B) (h1: ∀x∈X,A4 x p) (h2: ∀y∈Y, ¬A4 y p):H2 l (A++BF X++[p]) Y B:=by
 have mX: ∀ {x},x∈BF X→x∈X++p::Y:=fun hx=>List.mem_append_left _ (CP.1 hx)
 have mp:p∈X++p::Y:=by simp
 have mY: ∀ {y},y∈Y→y∈X++p::Y:=fun hy=>by simp[hy]
 have cA: ∀x,x∈A++BF X++[p]→x∈A∨x∈X∨x=p:=fun x hx=>by
  rcases List.mem_append.1 hx with c|c
  ·rcases List.mem_append.1 c with c|c
   ·exact .inl c
   ·exact .inr (.inl (CP.1 c))
  ·exact .inr (.inr (List.mem_singleton.1 c))
 refine⟨?_, ?_,h.b,fun x hx y hy=> ?_,fun x hx y hy=>h.mb x (mY hx) y hy,fun x hx y hy=> ?_⟩
 ·refine h.s.trans ⟨?_,fun x=> ?_⟩
  ·simp only[List.length_append,List.length_cons,List.length_nil,EW];omega
  ·simp only[List.mem_append,List.mem_cons,CP,List.not_mem_nil,or_false]
   constructor<;>intro c<;>grind
 ·refine List.pairwise_append.2 ⟨List.pairwise_append.2 ⟨h.a,Es X,fun x hx y hy=>h.am x hx y (mX hy)⟩,List.pairwise_cons.2 ⟨fun _ c=>absurd c List.not_mem_nil,List.Pairwise.nil⟩,fun x hx y hy=> ?_⟩
  obtain rfl:=List.mem_singleton.1 hy
  rcases List.mem_append.1 hx with c|c
  ·exact h.am x c y mp
  ·exact Cb (h1 x (CP.1 c))
 ·rcases cA x hx with c|c|c
  ·exact h.am x c y (mY hy)
  ·exact fun d=>h2 y hy (Et d (h1 x c))
  ·subst c;exact h2 y hy
 ·rcases cA x hx with c|c|c
  ·exact h.ab x c y hy
  ·exact h.mb x (List.mem_append_left _ c) y hy
  ·subst c;exact h.mb x mp y hy
theorem H2.right {l A X Y B:List Ah} {p:Ah} (h:H2 l A (X++p::Y) B) (h1: ∀x∈X,A4 x p) (h2: ∀y∈Y, ¬A4 y p):H2 l A X (p::BF Y++B):=by
 have mp:p∈X++p::Y:=by simp
 have mY: ∀ {y},y∈Y→y∈X++p::Y:=fun hy=>by simp[hy]
 have cB: ∀y,y∈p::BF Y++B→y=p∨y∈Y∨y∈B:=fun y hy=>by
  rcases List.mem_append.1 hy with c|c
  ·rcases List.mem_cons.1 c with c|c
   ·exact .inl c
   ·exact .inr (.inl (CP.1 c))
  ·exact .inr (.inr c)
 refine⟨?_,h.a, ?_,fun x hx y hy=>h.am x hx y (List.mem_append_left _ hy),fun x hx y hy=> ?_,fun x hx y hy=> ?_⟩
 ·refine h.s.trans ⟨?_,fun x=> ?_⟩
  ·simp only[List.length_append,List.length_cons,EW];omega
  ·simp only[List.mem_append,List.mem_cons,CP]
   constructor<;>intro c<;>grind
 ·refine List.pairwise_append.2 ⟨List.pairwise_cons.2 ⟨fun y hy=>h2 y (CP.1 hy),Es Y⟩,h.b,fun x hx y hy=> ?_⟩
  rcases List.mem_cons.1 hx with c|c
  ·subst c;exact h.mb x mp y hy
  ·exact h.mb x (mY (CP.1 c)) y hy
 ·rcases cB y hy with c|c|c
  ·subst c;exact Cb (h1 x hx)
  ·exact fun d=>h2 y c (Et d (h1 x hx))
  ·exact h.mb x (List.mem_append_left _ hx) y c
 ·rcases cB y hy with c|c|c
  ·subst c;exact h.am x hx y mp
  ·exact h.am x hx y (mY c)
  ·exact h.ab x hx y c
theorem H2.eq {l A X Y B:List Ah} {q p:Ah} (h:H2 l A (X++Y) B) (hq:q∈A) (hqp: ¬A4 q p) (h1: ∀x∈X, ¬A4 p x):H2 l (A++X) Y B:=by
 have mX: ∀ {x},x∈X→x∈X++Y:=fun hx=>List.mem_append_left _ hx
 have mY: ∀ {x},x∈Y→x∈X++Y:=fun hx=>List.mem_append_right _ hx
 have e: ∀x∈X,x=q:=fun x hx=>by
  have a1:=h.am q hq x (mX hx)
  have a2: ¬A4 q x:=fun d=>by
   rcases Cy p q with c|c|c
   ·exact h1 x hx (Et c d)
   ·subst c;exact h1 x hx d
   ·exact hqp c
  rcases Cy x q with c|c|c
  ·exact absurd c a1
  ·exact c
  ·exact absurd c a2
 refine⟨⟨h.s.1.symm▸by simp only[List.length_append];omega,fun x=>by rw[←h.s.2 x];simp only[List.mem_append];constructor<;>intro c<;>grind⟩, ?_,h.b,fun x hx y hy=> ?_,fun x hx y hy=>h.mb x (mY hx) y hy,fun x hx y hy=> ?_⟩
 ·refine List.pairwise_append.2 ⟨h.a, ?_,fun x hx y hy=>h.am x hx y (mX hy)⟩
  exact List.pairwise_iff_getElem.2 fun i j hi hj _=>by rw[e _ (List.getElem_mem hi),e _ (List.getElem_mem hj)];exact CG _
 ·rcases List.mem_append.1 hx with c|c
  ·exact h.am x c y (mY hy)
  ·rw[e x c];exact h.am q hq y (mY hy)
 ·rcases List.mem_append.1 hx with c|c
  ·exact h.ab x c y hy
  ·exact h.mb x (mX c) y hy
theorem Q1 {M M':List Ah} {v:Nat} (h:Iy M M' v): ∃X p Y,M'=X++p::Y∧X.length=v∧Y.length=M.length-(v+1)∧(∀x∈X,A4 x p)∧ ∀y∈Y, ¬A4 y p:=by
 have hl:=h.s.1
 have hv:=h.lt
 refine⟨M'.take v,Ac M' v,M'.drop (v+1), ?_,by rw[List.length_take];omega,by rw[List.length_drop];omega,fun x hx=> ?_,fun y hy=> ?_⟩
 ·rw[AF (by omega), ←List.drop_eq_getElem_cons (by omega),List.take_append_drop]
 ·obtain⟨k,hk,rfl⟩:=List.getElem_of_mem hx
  have hk':k<v:=by simp at hk;omega
  have:=h.lo k hk'
  rw[AF (show k<M'.length by omega)] at this
  rw[List.getElem_take];exact this
 ·obtain⟨k,hk,rfl⟩:=List.getElem_of_mem hy
  rw[List.length_drop] at hk
  have:=h.hi (v+1+k) (by omega) (by omega)
  rw[AF (show v+1+k<M'.length by omega)] at this
  rw[List.getElem_drop];exact this
theorem RV {M M':List Ah} {p:Ah} {u:Nat} (h:OQ M M' p u): ∃X Y,M'=X++Y∧X.length=u∧Y.length=M.length-u∧(∀x∈X, ¬A4 p x)∧ ∀y∈Y,A4 p y:=by
 have hl:=h.s.1
 have hu:=h.um
 refine⟨M'.take u,M'.drop u,(List.take_append_drop u M').symm,by rw[List.length_take];omega,by rw[List.length_drop];omega,fun x hx=> ?_,fun y hy=> ?_⟩
 ·obtain⟨k,hk,rfl⟩:=List.getElem_of_mem hx
  have hk':k<u:=by simp at hk;omega
  have:=h.lo k hk'
  rw[AF (show k<M'.length by omega)] at this
  rw[List.getElem_take];exact this
 ·obtain⟨k,hk,rfl⟩:=List.getElem_of_mem hy
  rw[List.length_drop] at hk
  have:=h.hi (u+k) (by omega) (by omega)
  rw[AF (show u+k<M'.length by omega)] at this
  rw[List.getElem_drop];exact this
theorem UP {A M B:List Ah} (h:0<A.length):Ac (A++M++B) (A.length-1)=Ac A (A.length-1):=by
 rw[AF (by rw[List.length_append,List.length_append];omega),AF (by omega),List.getElem_append_left (by rw[List.length_append];omega),List.getElem_append_left (by omega)]
theorem Kz (c:Nat) (S:List Ah) (W:World) (g cap n a:Nat) (A M B:List Ah) (junk:List Value) (ha:A.length=a) (hn:n=(A++M++B).length) (hn4:n≤100000) (hg:W.heap[g]? =some (rwO A M B junk)) (z:Int) (hm:M.length≤12) (hM: ∀x∈M,x∈S) (hf:LsK c g S W):
  Calls Tryz.prog 133 #[.slice (some ⟨g,0,none⟩) n cap, .int .i64 (a:Nat), .int .i64 ((a+M.length:Nat):Int), .int .i64 z,lsF c] W fun e W'=> ∃x:Unit,e= .returned ((fun _=> .tuple #[]) x)∧True∧EE W W' g ((fun _=>g) x) ((fun _:Unit=>rwO A (BF M) B junk) x):=by
 have hnn:n=a+M.length+B.length:=by rw[hn,List.length_append,List.length_append,ha]
 have key:Calls Tryz.prog 133 [.slice (some ⟨g,0,none⟩) n cap, .int .i64 (a:Nat), .int .i64 ((a+M.length:Nat):Int), .int .i64 z,lsF c].toArray W fun e W'=> ∃x:Unit,e= .returned ((fun _=> .tuple #[]) x)∧(fun _:Unit=>True) x∧Below (AE W).heap.size (AE W) W'∧A3 (AE W) W' ((fun _:Unit=>[Ax (Ai W g),A5 g (A++BF M++B) junk]) x):=by
  refine Ba (X:=Unit) (val:=fun _=> .tuple #[]) (Φ:=fun _:Unit=>True) (nb:=fun _:Unit=>[Ax (Ai W g),A5 g (A++BF M++B) junk]) (Hp.enterT (B:=A5 g (A++M++B) junk) I hg) Tryz.func133 I I I ?_
  have kp: ∀ {W1:World} {M1:List Ah},Hp (AE W) [Ax (Ai W g),A5 g (A++M1++B) junk] W1→CC W W1 g:=fun hp=>BV hg ⟨_,List.mem_cons_self ..⟩ hp
  refine zA (zB (wP I (Aa (zE (zA (zB (wP I (Aa (zE (zH ?_))))))))))
  refine A9 (X:=Unit) (fun _=>[(0, .slice (some ⟨g,0,none⟩) n cap),(1, .int .i64 (a:Nat)),(2, .int .i64 ((a+M.length:Nat):Int)),(3, .int .i64 z),(4,lsF c)]) (fun _=>[Ax (Ai W g),A5 g (A++M++B) junk]) (fun _=>True) (fun _=>0) () tO ⟨I,I,I,I,I,tO⟩ [] I ?_
  intro _ _
  refine zH (zA (zB (wP I (wP I (wP I (wV 23 (M.length:Nat) I (show w64 (((a+M.length:Nat):Int)-((a:Nat):Int))=_ by rw[Ak (by omega) (by omega)];omega) (wP I (Aa (zE (zA (zA (zB (wP I (wP I ?_))))))))))))))
  refine wU 25 true I (dT (by omega)) (Aa (zE (zR I (zA (zB (wP I (wP I (wP I (wP I ?_)))))))))
  refine Bn (X:=Unit) (val:=fun _=> .tuple #[]) (Φ:=fun _=>True) (capt:=[]) 1 (B:=A5 g (A++M++B) junk) (L1:=[]) (L2:=[]) (b:=g) (ob:=rwO A M B junk) (fun _=>A5 g (A++BF M++B) junk) (g':=fun _=>g) (o':=fun _=>rwO A (BF M) B junk)
   rfl rfl rfl rfl rfl rfl (by kernel_rfl) rfl rfl (fun _ _=>rfl) (fun W1 hp=>KN c W1 g cap n a A M B junk ha hn hn4 (hp.own.cell 1 _ rfl (g,rwO A M B junk) (List.mem_cons_self ..)).1 fun W2 hk x hx y hy=>hf W2 ((kp hp).trans hk) x (hM x hx) y (hM y hy)) ?_
  intro _ _
  refine Aa (zE (zO (zP (zQ (zP (zQ ?_))))))
  refine Ku (X:=Unit) (val:=fun _=> .tuple #[]) (Φ:=fun _:Unit=>True) (nb:=fun _:Unit=>[Ax (Ai W g),A5 g (A++BF M++B) junk]) (fn:=Tryz.f133) tH I () I tO fun W1 hp=> ?_
  exact(hp.pick (l:=[Ax (Ai W g),A5 g (A++BF M++B) junk]) [0,1] (by decide) I).own
 refine key.mono ?_
 rintro e W' ⟨x,he,hx,hb,hn'⟩
 exact⟨x,he,hx,BL hg I hb hn'⟩
theorem PQ (c:Nat) (W:World) (g cap n:Nat) (l:List Ah) (junk:List Value) (z:Int) (hn:n=l.length) (hn16:n≤16) (hz:(n:Int)≤z+11) (hz2:z≤100) (hg:W.heap[g]? =some (.cells (ptC l++junk).toArray 35 (0,0))) (hf:LsK c g l W):
  Calls Tryz.prog 133 #[.slice (some ⟨g,0,none⟩) n cap, .int .i64 0, .int .i64 (n:Nat), .int .i64 z,lsF c] W fun e W'=> ∃x:List Ah,e= .returned ((fun _=> .tuple #[]) x)∧(SrC x∧Sim l x)∧EE W W' g ((fun _=>g) x) ((fun x:List Ah=> .cells (ptC x++junk).toArray 35 (0,0)) x):=by
 have key:Calls Tryz.prog 133 [.slice (some ⟨g,0,none⟩) n cap, .int .i64 0, .int .i64 (n:Nat), .int .i64 z,lsF c].toArray W fun e W'=> ∃x:List Ah,e= .returned ((fun _=> .tuple #[]) x)∧(fun x:List Ah=>SrC x∧Sim l x) x∧Below (AE W).heap.size (AE W) W'∧A3 (AE W) W' ((fun x:List Ah=>[Ax (Ai W g),A5 g x junk]) x):=by
  refine Ba (X:=List Ah) (val:=fun _=> .tuple #[]) (Φ:=fun x:List Ah=>SrC x∧Sim l x) (nb:=fun x:List Ah=>[Ax (Ai W g),A5 g x junk]) (Hp.enterT (B:=A5 g l junk) I hg) Tryz.func133 I I I ?_
  have kp: ∀ {W1:World} {L:List Ah},Hp (AE W) [Ax (Ai W g),A5 g L junk] W1→CC W W1 g:=fun hp=>BV hg ⟨_,List.mem_cons_self ..⟩ hp
  refine zA (zB (wP I (Aa (zE (zA (zB (wP I (Aa (zE (zH ?_))))))))))
  refine A9 (X:=(List Ah×List Ah×List Ah)×Int×Bool×Bool) (fun x=>[(0, .slice (some ⟨g,0,none⟩) n cap),(1, .int .i64 (x.1.1.length:Nat)),(2, .int .i64 ((x.1.1.length+x.1.2.1.length:Nat):Int)),(3, .int .i64 x.2.1),(4,lsF c),(10, .bool x.2.2.1),(11, .bool x.2.2.2)]) (fun x=>[Ax (Ai W g),A5 g (x.1.1++x.1.2.1++x.1.2.2) junk])
   (fun x=>H2 l x.1.1 x.1.2.1 x.1.2.2∧((x.1.2.1.length:Nat):Int)≤x.2.1+11∧x.2.1≤100) (fun x=>x.1.2.1.length) (([],l,[]),z,true,true) ⟨⟨by rw[List.nil_append,List.append_nil];exact Sim.refl l,List.Pairwise.nil,List.Pairwise.nil,fun x h=>absurd h List.not_mem_nil,fun x _ y h=>absurd h List.not_mem_nil,fun x h=>absurd h List.not_mem_nil⟩,by show((l.length:Nat):Int)≤z+11;omega,hz2⟩ ⟨rfl,rfl,(by rw[hn];show _=some (Value.int .i64 ((0+l.length:Nat):Int));rw[Nat.zero_add];rfl),rfl,rfl,rfl,rfl,trivial⟩ [] (by show[_,A5 g l junk]=[_,A5 g ([]++l++[]) junk]++[];rw[show([]++l++[]:List Ah)=l by simp];rfl) ?_
  rintro⟨⟨A,M,B⟩,lim,bal,par⟩ ⟨hI,hlim,hlim2⟩
  have hI:H2 l A M B:=hI
  have hlim:((M.length:Nat):Int)≤lim+11:=hlim
  have hlim2:lim≤100:=hlim2
  have hnl:n=(A++M++B).length:=by rw[hn];exact hI.s.1.symm
  have hnn:n=A.length+M.length+B.length:=by rw[hnl,List.length_append,List.length_append]
  have hmem: ∀ {M':List Ah},Sim M M'→ ∀x∈A++M'++B,x∈l:=fun h x hx=>(hI.s.2 x).1 ((h.mid.2 x).1 hx)
  obtain⟨a,ha⟩: ∃a,A.length=a:=⟨_,rfl⟩
  rw[ha] at hnn
  refine Cc (zA (zB (wP I (wP I (wP I ?_)))))
  refine Al 22 (.int .i64 (a:Nat)) I (congrArg (fun k:Nat=>Value.int .i64 (k:Int)) ha) ?_
  refine wV 23 (M.length:Nat) I (show w64 (((A.length+M.length:Nat):Int)-((A.length:Nat):Int))=_ by rw[Ak (by omega) (by omega)];omega) (wP I (Aa (AT (Au (Au ?_)))))
  refine AM (X:=Bool) (fun t=>[(0, .slice (some ⟨g,0,none⟩) n cap),(1, .int .i64 (a:Nat)),(2, .int .i64 ((a+M.length:Nat):Int)),(3, .int .i64 lim),(4,lsF c),(10, .bool bal),(11, .bool par),(12, .int .i64 (M.length:Nat)),(25, .bool t)]) (fun _=>[Ax (Ai W g),A5 g (A++M++B) junk]) (fun t=>t=decide (M.length≤12)) ?_ ?_
  ·exact zB (wP I (wP I (wU 25 (decide (M.length≤12)) I (decide_eq_decide.2 (by omega)) (Aa (At (decide (M.length≤12)) I ⟨I,(by rw[←ha]<;>rfl),(by rw[←ha]<;>rfl),I,I,I,I,I,I,tO⟩ [] I)))))
  rintro t12 ht12
  have ht12:t12=decide (M.length≤12):=ht12
  by_cases h12:M.length≤12
  ·rw[ht12,dT h12]
   refine zR I (zA (zB (wP I (wP I (wP I (wP I ?_))))))
   refine Bn (X:=Unit) (val:=fun _=> .tuple #[]) (Φ:=fun _=>True) (capt:=[]) 1 (B:=A5 g (A++M++B) junk) (L1:=[]) (L2:=[]) (b:=g) (ob:= .cells (ptC (A++M++B)++junk).toArray 35 (0,0)) (fun _=>A5 g (A++BF M++B) junk) (g':=fun _=>g) (o':=fun _=> .cells (ptC (A++BF M++B)++junk).toArray 35 (0,0))
    rfl rfl rfl rfl rfl rfl (by kernel_rfl) rfl rfl (fun _ _=>rfl) (fun W1 hp=>KN c W1 g cap n a A M B junk ha hnl (by omega) (hp.own.cell 1 _ rfl (g, .cells (ptC (A++M++B)++junk).toArray 35 (0,0)) (List.mem_cons_self ..)).1 fun W2 hk x hx y hy=>hf W2 ((kp hp).trans hk) x (hmem (Sim.refl M) x (by simp[hx])) y (hmem (Sim.refl M) y (by simp[hy]))) ?_
   intro _ _
   refine Aa (zE (zO (zP (zQ (zP (zQ ?_))))))
   refine Ku (X:=List Ah) (val:=fun _=> .tuple #[]) (Φ:=fun x:List Ah=>SrC x∧Sim l x) (nb:=fun x:List Ah=>[Ax (Ai W g),A5 g x junk]) (fn:=Tryz.f133) tH I (A++BF M++B) I ⟨(hI.mid (Rf M)).done (Es M),(hI.mid (Rf M)).s⟩ fun W1 hp=> ?_
   exact(hp.pick (l:=[Ax (Ai W g),A5 g (A++BF M++B) junk]) [0,1] (by decide) I).own
  rw[ht12,dF h12]
  refine zS I (zI (zE (zA (zA (zB (wP I (wP I (wU 32 false I (beq_eq_false_iff_ne.2 (by omega)) (Aa (zE (zS I (zI (zE ?_)))))))))))))
  refine zA (zA (zB (wP I (wP I (Aa (AT ?_))))))
  refine AM (X:=List Ah×Int) (fun x=>[(0, .slice (some ⟨g,0,none⟩) n cap),(1, .int .i64 (a:Nat)),(2, .int .i64 ((a+M.length:Nat):Int)),(3, .int .i64 x.2),(4,lsF c),(10, .bool bal),(11, .bool par),(12, .int .i64 (M.length:Nat))]) (fun x=>[Ax (Ai W g),A5 g (A++x.1++B) junk]) (fun x=>Sim M x.1∧lim-1≤x.2∧x.2≤100) ?_ ?_
  ·cases bal with
   |true=>
    exact zS I (zI (At (M,lim) ⟨Sim.refl M,by show lim-1≤lim;omega,hlim2⟩ ⟨I,I,I,I,I,I,I,I,tO⟩ [] I))
   |false=>
    refine zR I (zA (zB (wP I (wP I (wP I (wP I ?_))))))
    refine Bn (X:=List Ah) (val:=fun _=> .tuple #[]) (Φ:=fun x=>Sim M x) (capt:=[]) 1 (B:=A5 g (A++M++B) junk) (L1:=[]) (L2:=[]) (b:=g) (ob:= .cells (ptC (A++M++B)++junk).toArray 35 (0,0)) (fun x=>A5 g (A++x++B) junk) (g':=fun _=>g) (o':=fun x=> .cells (ptC (A++x++B)++junk).toArray 35 (0,0))
     rfl rfl rfl rfl rfl rfl (by kernel_rfl) rfl rfl (fun _ _=>rfl) (fun W1 hp=>Sw c W1 g cap n a A M B junk ha hnl (by omega) (hp.own.cell 1 _ rfl (g, .cells (ptC (A++M++B)++junk).toArray 35 (0,0)) (List.mem_cons_self ..)).1 ⟨by omega,by omega⟩) ?_
    intro M1 hM1
    exact Aa (zE (zB (wP I (wP I (wV 46 (lim-1) I (Ak (by omega) (by omega)) (wP I (Aa (At (M1,lim-1) ⟨hM1,Int.le_refl _,by show lim-1≤100;omega⟩ ⟨I,I,I,I,I,I,I,I,tO⟩ [] I))))))))
  rintro⟨M1,lim1⟩ ⟨hS1,hl1,hl2⟩
  have hS1:Sim M M1:=hS1
  have hl1:lim-1≤lim1:=hl1
  have hl2:lim1≤100:=hl2
  have hm1:=hS1.1
  have hn1:n=(A++M1++B).length:=by rw[List.length_append,List.length_append,ha,hm1];exact hnn
  refine zA (zB (wP I (wP I (wP I (wP I ?_)))))
  refine Bn (X:=Nat×Int) (val:=fun x:Nat×Int=> .tuple #[.int .i64 ((a+x.1:Nat):Int), .int .i64 x.2]) (Φ:=fun x=>x.1<M1.length) (capt:=[]) 1 (B:=A5 g (A++M1++B) junk) (L1:=[]) (L2:=[]) (b:=g) (ob:= .cells (ptC (A++M1++B)++junk).toArray 35 (0,0)) (fun _=>A5 g (A++M1++B) junk) (g':=fun _=>g) (o':=fun _=> .cells (ptC (A++M1++B)++junk).toArray 35 (0,0))
   rfl rfl rfl rfl rfl rfl (by kernel_rfl) rfl rfl (fun _ _=>rfl) (fun W1 hp=>by have h:=Pw c W1 g cap n a A M1 B junk ha ⟨by omega,by omega⟩ hn1 (by omega) (hp.own.cell 1 _ rfl (g, .cells (ptC (A++M1++B)++junk).toArray 35 (0,0)) (List.mem_cons_self ..)).1 (fun W2 hk x hx y hy=>hf W2 ((kp hp).trans hk) x (hmem hS1 x hx) y (hmem hS1 y hy));rw[hm1] at h⊢;exact h) ?_
  rintro⟨k,hint⟩ hk
  have hk:k<M1.length:=hk
  iterate 5 refine wP I ?_
  refine Aa (zE (zA (zA (zB (wP I (wP I ?_))))))
  refine Al 56 (.bool (decide (hint=2))) I I ?_
  refine Aa (AT ?_)
  refine AM (X:=List Ah×Nat×Int) (fun x=>[(0, .slice (some ⟨g,0,none⟩) n cap),(1, .int .i64 (a:Nat)),(2, .int .i64 ((a+M.length:Nat):Int)),(3, .int .i64 lim1),(4,lsF c),(10, .bool bal),(11, .bool par),(12, .int .i64 (M.length:Nat)),(13, .int .i64 ((a+x.2.1:Nat):Int)),(14, .int .i64 x.2.2)]) (fun x=>[Ax (Ai W g),A5 g (A++x.1++B) junk]) (fun x=>Sim M x.1∧x.2.1<M.length) ?_ ?_
  ·refine AA I (fun hh=> ?_) (fun hh=> ?_)
   ·refine zA (zB (wP I (wP I (wP I (wP I ?_)))))
    refine Bn (X:=List Ah) (val:=fun _=> .tuple #[]) (Φ:=fun x=>Sim M1 x) (capt:=[]) 1 (B:=A5 g (A++M1++B) junk) (L1:=[]) (L2:=[]) (b:=g) (ob:= .cells (ptC (A++M1++B)++junk).toArray 35 (0,0)) (fun x=>A5 g (A++x++B) junk) (g':=fun _=>g) (o':=fun x=> .cells (ptC (A++x++B)++junk).toArray 35 (0,0))
     rfl rfl rfl rfl rfl rfl (by kernel_rfl) rfl rfl (fun _ _=>rfl) (fun W1 hp=>by have h:=St c W1 g cap n a A M1 B junk ha hn1 (by omega) (hp.own.cell 1 _ rfl (g, .cells (ptC (A++M1++B)++junk).toArray 35 (0,0)) (List.mem_cons_self ..)).1 (by omega);rw[hm1] at h;exact h) ?_
    intro M2 hM2
    refine Aa (zE (zA (zB (wP I (wP I (wV 63 ((a+(M.length-1):Nat):Int) I (show w64 (((a+M.length:Nat):Int)-1)=_ by rw[Ak (by omega) (by omega)];omega) (wP I (wP I (wP I (wV 66 (k:Nat) I (show w64 (((a+k:Nat):Int)-((a:Nat):Int))=_ by rw[Ak (by omega) (by omega)];omega) (wP I (wV 67 ((a+(M.length-1-k):Nat):Int) I (show w64 (((a+(M.length-1):Nat):Int)-((k:Nat):Int))=_ by rw[Ak (by omega) (by omega)];omega) (wP I ?_)))))))))))))
    exact Aa (zE (zB (wP I (Aa (At (M2,M.length-1-k,1) ⟨hS1.trans hM2,by show M.length-1-k<M.length;omega⟩ ⟨I,I,I,I,I,I,I,I,I,I,tO⟩ [] I)))))
   ·exact zI (At (M1,k,hint) ⟨hS1,by show k<M.length;omega⟩ ⟨I,I,I,I,I,I,I,I,I,I,tO⟩ [] I)
  rintro⟨M2,k2,h2⟩ ⟨hS2,hk2⟩
  have hS2:Sim M M2:=hS2
  have hk2:k2<M.length:=hk2
  have hm2:=hS2.1
  have hn2:n=(A++M2++B).length:=by rw[List.length_append,List.length_append,ha,hm2];exact hnn
  have hI2:=hI.mid hS2
  refine Au (Au ?_)
  refine AM (X:=Bool) (fun t=>[(0, .slice (some ⟨g,0,none⟩) n cap),(1, .int .i64 (a:Nat)),(2, .int .i64 ((a+M.length:Nat):Int)),(3, .int .i64 lim1),(4,lsF c),(10, .bool bal),(11, .bool par),(12, .int .i64 (M.length:Nat)),(13, .int .i64 ((a+k2:Nat):Int)),(75, .bool t)]) (fun _=>[Ax (Ai W g),A5 g (A++M2++B) junk]) (fun _=>True) ?_ ?_
  ·refine zB ?_
   cases bal with
   |false=>
    refine wP I (wP I ?_)
    refine Aw I I ?_
    refine wP I (wP I ?_)
    iterate 2 refine Aw I I ?_
    exact wP I (Aa (At false tO ⟨I,I,I,I,I,I,I,I,I,I,tO⟩ [] I))
   |true=>
    cases par with
    |false=>
     iterate 5 refine wP I ?_
     iterate 2 refine Aw I I ?_
     exact wP I (Aa (At false tO ⟨I,I,I,I,I,I,I,I,I,I,tO⟩ [] I))
    |true=>
     iterate 8 refine wP I ?_
     exact Aa (At (h2==1) tO ⟨I,I,I,I,I,I,I,I,I,I,tO⟩ [] I)
  intro t75 _
  refine AM (X:=Unit) (fun _=>[(0, .slice (some ⟨g,0,none⟩) n cap),(1, .int .i64 (a:Nat)),(2, .int .i64 ((a+M.length:Nat):Int)),(3, .int .i64 lim1),(4,lsF c),(10, .bool bal),(11, .bool par),(12, .int .i64 (M.length:Nat)),(13, .int .i64 ((a+k2:Nat):Int))]) (fun _=>[Ax (Ai W g),A5 g (A++M2++B) junk]) (fun _=>True) ?_ ?_
  ·cases t75 with
   |false=>
    exact zS I (zI (At () tO ⟨I,I,I,I,I,I,I,I,I,tO⟩ [] I))
   |true=>
    refine zR I (zA (zB (wP I (wP I (wP I (wP I ?_))))))
    refine Bn (X:=Bool) (val:=fun x:Bool=> .bool x) (Φ:=fun x=>x=true→SrC M2) (capt:=[]) 1 (B:=A5 g (A++M2++B) junk) (L1:=[]) (L2:=[]) (b:=g) (ob:= .cells (ptC (A++M2++B)++junk).toArray 35 (0,0)) (fun _=>A5 g (A++M2++B) junk) (g':=fun _=>g) (o':=fun _=> .cells (ptC (A++M2++B)++junk).toArray 35 (0,0))
     rfl rfl rfl rfl rfl rfl (by kernel_rfl) rfl rfl (fun _ _=>rfl) (fun W1 hp=>by have h:=Q2 c l W1 g cap n a A M2 B junk ha hn2 (by omega) (hp.own.cell 1 _ rfl (g, .cells (ptC (A++M2++B)++junk).toArray 35 (0,0)) (List.mem_cons_self ..)).1 ⟨by omega,by omega⟩ (fun x hx=>hmem hS2 x (by simp[hx])) (fun W2 hk=>hf W2 ((kp hp).trans hk));rw[hm2] at h;exact h) ?_
    intro t hts
    refine Aa ?_
    cases t with
    |true=>
     refine zE (zR I (zO (zP (zQ (zP (zQ ?_))))))
     refine Ku (X:=List Ah) (val:=fun _=> .tuple #[]) (Φ:=fun x:List Ah=>SrC x∧Sim l x) (nb:=fun x:List Ah=>[Ax (Ai W g),A5 g x junk]) (fn:=Tryz.f133) tH I (A++M2++B) I ⟨hI2.done (hts I),hI2.s⟩ fun W1 hp=> ?_
     exact(hp.pick (l:=[Ax (Ai W g),A5 g (A++M2++B) junk]) [0,1] (by decide) I).own
    |false=>
     exact zE (zS I (zI (At () tO ⟨I,I,I,I,I,I,I,I,I,tO⟩ [] I)))
  intro _ _
  obtain⟨P,hP⟩: ∃P,P=Ac M2 k2:=⟨_,rfl⟩
  refine Au (Au ?_)
  refine AM (X:=Bool) (fun t=>[(0, .slice (some ⟨g,0,none⟩) n cap),(1, .int .i64 (a:Nat)),(2, .int .i64 ((a+M.length:Nat):Int)),(3, .int .i64 lim1),(4,lsF c),(10, .bool bal),(11, .bool par),(12, .int .i64 (M.length:Nat)),(13, .int .i64 ((a+k2:Nat):Int)),(97, .bool t)]) (fun _=>[Ax (Ai W g),A5 g (A++M2++B) junk]) (fun t=>t=true→0<a∧ ¬A4 (Ac A (a-1)) P) ?_ ?_
  ·skip
   by_cases h0:0<a
   ·refine zU (qP I (qP I (qU 82 true I (dT (by omega)) ?_)))
    iterate 5 refine qP I ?_
    refine qV 87 ((a-1:Nat):Int) I (show w64 (((a:Nat):Int)-1)=_ by rw[Ak (by omega) (by omega)];omega) ?_
    refine qJ ?_
    refine qL 0 I I (fun W1 hp=>show Ar W1 g (0+(a-1)*2) [str (Af (Ac A (a-1)).1),str (Af (Ac A (a-1)).2)] from by have h1:=Wj hp 1 (l:=A++M2++B) (junk:=junk) I (i:=a-1) (by rw[←hn2];omega);have h2:=UP (A:=A) (M:=M2) (B:=B) (by omega);rw[ha] at h2;rw[h2] at h1;exact h1) I (qP I (qP I ?_))
    refine qJ ?_
    refine qL 0 I I (fun W1 hp=>CR hp 1 ha I (show k2<M2.length by omega)) I ?_
    refine CL (first:=[An c]) I I I I I I (by kernel_rfl) (fun W1 hp=>hf W1 (kp hp) (Ac A (a-1)) (hmem hS2 _ (by simp only[List.mem_append];exact .inl (.inl (AK (by omega) _)))) (Ac M2 k2) (hmem hS2 _ (by simp only[List.mem_append];exact .inl (.inr (AK (by omega) _))))) ?_
    exact qP I (qU 95 (Be (Ac A (a-1)) (Ac M2 k2)) I (Dj _ _) (qP I (qP I (AJ (Aa (At (!Be (Ac A (a-1)) (Ac M2 k2)) (fun h=>⟨h0,by rw[hP];exact Gt (by simpa using h)⟩) ⟨I,I,I,I,I,I,I,I,I,I,tO⟩ [] I))))))
   ·refine zU (qP I (qP I (qU 82 false I (dF (by omega)) (qP I ?_))))
    iterate 13 refine C5 I I ?_
    exact qP rfl (AJ (Aa (At false (fun h=>by cases h) ⟨rfl,rfl,rfl,rfl,rfl,rfl,rfl,rfl,rfl,rfl,trivial⟩ [] rfl)))
  rintro t97 ht97
  have ht97:t97=true→0<a∧ ¬A4 (Ac A (a-1)) P:=ht97
  cases t97 with
  |true=>
   obtain⟨h0,hqp⟩:=ht97 rfl
   refine zR I (zA (zB ?_))
   iterate 5 refine wP I ?_
   refine Bn (X:=Nat×List Ah) (val:=fun x:Nat×List Ah=> .int .i64 ((a+x.1:Nat):Int)) (Φ:=fun x=>OQ M2 x.2 P x.1) (capt:=[]) 1 (B:=A5 g (A++M2++B) junk) (L1:=[]) (L2:=[]) (b:=g) (ob:= .cells (ptC (A++M2++B)++junk).toArray 35 (0,0)) (fun x=>A5 g (A++x.2++B) junk) (g':=fun _=>g) (o':=fun x=> .cells (ptC (A++x.2++B)++junk).toArray 35 (0,0))
    rfl rfl rfl rfl rfl rfl (by kernel_rfl) rfl rfl (fun _ _=>rfl) (fun W1 hp=>by have h:=NH c l W1 g cap n a A M2 B junk ha hn2 (by omega) (hp.own.cell 1 _ rfl (g, .cells (ptC (A++M2++B)++junk).toArray 35 (0,0)) (List.mem_cons_self ..)).1 k2 (by omega) (fun x hx=>hmem hS2 x (by simp[hx])) (fun W2 hk=>hf W2 ((kp hp).trans hk));rw[hm2] at h;rw[hP];exact h) ?_
   rintro⟨u,M3⟩ hR
   have hR:OQ M2 M3 P u:=hR
   obtain⟨X,Y,rfl,hX,hY,hx1,_⟩:=RV hR
   have hu1:=hR.u1
   have hum:=hR.um
   have hI3:=(hI2.mid hR.s).eq (AK (by omega) (a-1)) hqp hx1
   exact wP I (Aa (zE (zA (zB (wP I (wP I (Aa (zE (zJ (zK (zL (A0 ((A++X,Y,B),lim1,bal,par) ⟨hI3,by show((Y.length:Nat):Int)≤lim1+11;omega,hl2⟩ (by show Y.length<M.length;omega) ⟨I,(by show _=some (Value.int .i64 (((A++X).length:Nat):Int));rw[List.length_append,ha,hX];rfl),(by show _=some (Value.int .i64 (((A++X).length+Y.length:Nat):Int));rw[List.length_append,ha,hX,show a+u+Y.length=a+M.length by omega];rfl),I,I,I,I,tO⟩ [] (by show _=[_,A5 g (A++X++Y++B) junk]++[];rw[List.append_assoc A X Y];rfl)))))))))))))
  |false=>
   refine zS I (zI (zE (zA (zB ?_))))
   iterate 5 refine wP I ?_
   refine Bn (X:=Nat×Bool×List Ah) (val:=fun x:Nat×Bool×List Ah=> .tuple #[.int .i64 ((a+x.1:Nat):Int), .bool x.2.1]) (Φ:=fun x=>Iy M2 x.2.2 x.1) (capt:=[]) 1 (B:=A5 g (A++M2++B) junk) (L1:=[]) (L2:=[]) (b:=g) (ob:= .cells (ptC (A++M2++B)++junk).toArray 35 (0,0)) (fun x=>A5 g (A++x.2.2++B) junk) (g':=fun _=>g) (o':=fun x=> .cells (ptC (A++x.2.2++B)++junk).toArray 35 (0,0))
    rfl rfl rfl rfl rfl rfl (by kernel_rfl) rfl rfl (fun _ _=>rfl) (fun W1 hp=>by have h:=PL c l W1 g cap n a A M2 B junk ha hn2 (by omega) (hp.own.cell 1 _ rfl (g, .cells (ptC (A++M2++B)++junk).toArray 35 (0,0)) (List.mem_cons_self ..)).1 k2 (by omega) (fun x hx=>hmem hS2 x (by simp[hx])) (fun W2 hk=>hf W2 ((kp hp).trans hk));rw[hm2] at h;exact h) ?_
   rintro⟨v,par1,M3⟩ hR
   have hR:Iy M2 M3 v:=hR
   obtain⟨X,p,Y,rfl,hX,hY,hx1,hy1⟩:=Q1 hR
   have hvm:=hR.lt
   have hI3:=hI2.mid hR.s
   have hmemX: ∀x∈X++p::Y,x∈l:=fun x hx=>(hI3.s.2 x).1 (by simp only[List.mem_append];exact .inl (.inr (by simpa using hx)))
   iterate 5 refine wP I ?_
   refine Aa (zE (zA (zB (wP I (wP I (Aa (zE (zA (zB (wP I (wP I (wP I (wV 117 (v:Nat) I (show w64 (((a+v:Nat):Int)-((a:Nat):Int))=_ by rw[Ak (by omega) (by omega)];omega) ?_)))))))))))))
   refine wP I (wP I (wP I (wV 120 ((M.length-v:Nat):Int) I (show w64 (((a+M.length:Nat):Int)-((a+v:Nat):Int))=_ by rw[Ak (by omega) (by omega)];omega) (wP I (wP I (Aa (zE (zA (zB ?_)))))))))
   obtain⟨th,hth⟩: ∃th:Int,th=w64 (((M.length:Nat):Int).tdiv 8):=⟨_,rfl⟩
   refine wP I ?_
   refine CT I I I I I (by decide) ?_
   refine wV 122 th I hth.symm (wP I (Aa (zE (zA (zB (wP I (wP I (wP I ?_))))))))
   by_cases hlr:v<M.length-v
   ·refine wU 125 true I (dT (by omega)) (Aa (zE (zR I (zA (zB (wP I (wP I (wP I (wP I (Aa ?_))))))))))
    refine SE (bxs':=[Ax (Ai W g),A5 g (A++X++(p::Y++B)) junk]) (by simp) ?_
    refine zE (zA (zB ?_))
    iterate 5 refine wP I ?_
    refine Bn (X:=Unit) (val:=fun _=> .tuple #[]) (Φ:=fun _=>True) (capt:=[]) 1 (B:=A5 g (A++X++(p::Y++B)) junk) (L1:=[]) (L2:=[]) (b:=g) (ob:= .cells (ptC (A++X++(p::Y++B))++junk).toArray 35 (0,0)) (fun _=>A5 g (A++BF X++(p::Y++B)) junk) (g':=fun _=>g) (o':=fun _=> .cells (ptC (A++BF X++(p::Y++B))++junk).toArray 35 (0,0))
     rfl rfl rfl rfl rfl rfl (by kernel_rfl) rfl rfl (fun _ _=>rfl) (fun W1 hp=>by have h:=Kz c l W1 g cap n a A X (p::Y++B) junk ha (by rw[hn2];simp only[List.length_append,List.length_cons];omega) (by omega) (hp.own.cell 1 _ rfl (g, .cells (ptC (A++X++(p::Y++B))++junk).toArray 35 (0,0)) (List.mem_cons_self ..)).1 lim1 (by omega) (fun x hx=>hmemX x (by simp[hx])) (fun W2 hk=>hf W2 ((kp hp).trans hk));rw[hX] at h;exact h) ?_
    intro _ _
    exact Aa (zE (zB (wP I (wP I (wV 136 ((a+v+1:Nat):Int) I (Av (by omega)) (wP I (Aa (zN (A0 ((A++BF X++[p],Y,B),lim1,_,par1) ⟨hI3.left hx1 hy1,by show((Y.length:Nat):Int)≤lim1+11;omega,hl2⟩ (by show Y.length<M.length;omega) ⟨I,(by show _=some (Value.int .i64 (((A++BF X++[p]).length:Nat):Int));rw[List.length_append,List.length_append,EW,ha,hX];rfl),(by show _=some (Value.int .i64 (((A++BF X++[p]).length+Y.length:Nat):Int));rw[List.length_append,List.length_append,EW,ha,hX,List.length_singleton,show a+v+1+Y.length=a+M.length by omega];rfl),I,I,I,I,tO⟩ [] (by show _=[_,A5 g (A++BF X++[p]++Y++B) junk]++[];rw[List.append_assoc (A++BF X) [p] Y,List.append_assoc (A++BF X)];rfl))))))))))
   ·refine wU 125 false I (dF (by omega)) (Aa (zE (zS I (zA (zB (wP I (wP I (wP I (wP I (Aa ?_))))))))))
    have haX:(A++X++[p]).length=a+v+1:=by rw[List.length_append,List.length_append,ha,hX];rfl
    refine SE (bxs':=[Ax (Ai W g),A5 g (A++X++[p]++Y++B) junk]) (by simp) ?_
    refine zE (zA (zB (wP I (wP I (wP I (wV 142 ((a+v+1:Nat):Int) I (Av (by omega)) (wP I (wP I (wP I ?_)))))))))
    refine Bn (X:=Unit) (val:=fun _=> .tuple #[]) (Φ:=fun _=>True) (capt:=[]) 1 (B:=A5 g (A++X++[p]++Y++B) junk) (L1:=[]) (L2:=[]) (b:=g) (ob:= .cells (ptC (A++X++[p]++Y++B)++junk).toArray 35 (0,0)) (fun _=>A5 g (A++X++[p]++BF Y++B) junk) (g':=fun _=>g) (o':=fun _=> .cells (ptC (A++X++[p]++BF Y++B)++junk).toArray 35 (0,0))
     rfl rfl rfl rfl rfl rfl (by kernel_rfl) rfl rfl (fun _ _=>rfl) (fun W1 hp=>by have h:=Kz c l W1 g cap n (a+v+1) (A++X++[p]) Y B junk haX (by rw[hn2];simp only[List.length_append,List.length_cons,List.length_nil];omega) (by omega) (hp.own.cell 1 _ rfl (g, .cells (ptC (A++X++[p]++Y++B)++junk).toArray 35 (0,0)) (List.mem_cons_self ..)).1 lim1 (by omega) (fun x hx=>hmemX x (by simp[hx])) (fun W2 hk=>hf W2 ((kp hp).trans hk));rw[show a+v+1+Y.length=a+M.length by omega] at h;exact h) ?_
    intro _ _
    exact Aa (zE (zB (wP I (wP I (Aa (zN (A0 ((A,X,p::BF Y++B),lim1,_,par1) ⟨hI3.right hx1 hy1,by show((X.length:Nat):Int)≤lim1+11;omega,hl2⟩ (by show X.length<M.length;omega) ⟨I,(by show _=some (Value.int .i64 ((A.length:Nat):Int));rw[ha];rfl),(by show _=some (Value.int .i64 ((A.length+X.length:Nat):Int));rw[ha,hX];rfl),I,I,I,I,tO⟩ [] (by show _=[_,A5 g (A++X++(p::BF Y++B)) junk]++[];rw[show A++X++(p::BF Y++B)=A++X++[p]++BF Y++B by simp];rfl))))))))
 refine key.mono ?_
 rintro e W' ⟨x,he,hx,hb,hn'⟩
 exact⟨x,he,hx,BL hg I hb hn'⟩
-- BOXES 9
-- CODE2
theorem Tq {n:Nat} (h:n≤16):(n:Int)≤((Lib.bitLen n:Nat):Int)+11∧((Lib.bitLen n:Nat):Int)≤100:=by
 rcases(show n=0∨n=1∨n=2∨n=3∨n=4∨n=5∨n=6∨n=7∨(8≤n∧n≤16) by omega) with h|h|h|h|h|h|h|h|h
 all_goals first|(subst h;decide+kernel)|skip
 rw[SB h.1 h.2]
 unfold bln
 split<;>omega
theorem N3 (c:Nat) (W:World) (g cap:Nat) (l:List Ah) (junk:List Value) (hn:l.length≤16) (hg:W.heap[g]? =some (.cells (ptC l++junk).toArray 35 (0,0))) (hf:LsK c g l W):
  Calls Tryz.prog 70 #[.slice (some ⟨g,0,none⟩) l.length cap,lsF c] W fun e W'=> ∃x:List Ah,e= .returned ((fun _=> .tuple #[]) x)∧(SrC x∧Sim l x)∧EE W W' g ((fun _=>g) x) ((fun x:List Ah=> .cells (ptC x++junk).toArray 35 (0,0)) x):=by
 have key:Calls Tryz.prog 70 [.slice (some ⟨g,0,none⟩) l.length cap,lsF c].toArray W fun e W'=> ∃x:List Ah,e= .returned ((fun _=> .tuple #[]) x)∧(fun x:List Ah=>SrC x∧Sim l x) x∧Below (AE W).heap.size (AE W) W'∧A3 (AE W) W' ((fun x:List Ah=>[Ax (Ai W g),A5 g x junk]) x):=by
  refine Ba (X:=List Ah) (val:=fun _=> .tuple #[]) (Φ:=fun x:List Ah=>SrC x∧Sim l x) (nb:=fun x:List Ah=>[Ax (Ai W g),A5 g x junk]) (Hp.enterT (B:=A5 g l junk) I hg) Tryz.func70 I I I ?_
  refine zA (zB (wP I (wP I (wP I (Aa (zE (zB (wP I (wP I (wP I ?_))))))))))
  refine F9 (k:= .u64) (kt:= .i64) (by kernel_rfl) (by kernel_rfl) I I I I ?_
  refine Al 10 (.int .u64 (l.length:Nat)) I (congrArg (Value.int .u64) (N4 hn)) ?_
  refine AW (capt:=[]) I I I I I I (by kernel_rfl) (fun W _=>HO l.length (by omega) W) ?_
  refine wP I ?_
  refine Bn (X:=List Ah) (val:=fun _=> .tuple #[]) (Φ:=fun x=>SrC x∧Sim l x) (capt:=[]) 1 (B:=A5 g l junk) (L1:=[]) (L2:=[]) (b:=g) (ob:= .cells (ptC l++junk).toArray 35 (0,0)) (fun x=>A5 g x junk) (g':=fun _=>g) (o':=fun x=> .cells (ptC x++junk).toArray 35 (0,0))
   rfl rfl rfl rfl rfl rfl (by kernel_rfl) rfl rfl (fun _ _=>rfl) (fun W1 hp=>PQ c W1 g cap l.length l junk _ rfl hn (Tq hn).1 (Tq hn).2 (hp.own.cell 1 _ rfl (g, .cells (ptC l++junk).toArray 35 (0,0)) (List.mem_cons_self ..)).1 (fun W2 hk=>hf W2 ((BV hg ⟨_,List.mem_cons_self ..⟩ hp).trans hk))) ?_
  intro x hx
  refine Aa ?_
  refine Hy (X:=List Ah) (val:=fun _=> .tuple #[]) (Φ:=fun x:List Ah=>SrC x∧Sim l x) (nb:=fun x:List Ah=>[Ax (Ai W g),A5 g x junk]) (fn:=Tryz.f70) tH I x I hx fun W1 hp=> ?_
  exact(hp.pick (l:=[Ax (Ai W g),A5 g x junk]) [0,1] (by decide) I).own
 refine key.mono ?_
 rintro e W' ⟨x,he,hx,hb,hn'⟩
 exact⟨x,he,hx,BL hg I hb hn'⟩
theorem Eg (l L:List Ah) (e:Int) (hr:U3 l L e) (hlong:Ez l∨(l.map ptS).any LJ=true) (h0:0<l.length) (h16:l.length≤16) (hq: ∀p∈l,okP p) (p:Option Addr) (cap:Nat) (W:World) (hA:BU W p l) (hv:BP W) (ht:Bc W):
  Ap Tryz.prog 26 #[slv p l.length cap] W (fun V:Vec=> .tuple #[V.val L.length, .int .i64 e]) (fun V=>V.OK 2 L.length (ptC L)) (fun V=>[V.bx 35 (ptC L)]):=by
 have hne:l≠[]:=fun h=>by rw[h] at h0;exact absurd h0 (by decide)
 have nilR: ∀ {W1:World} {bs:List Bx},Hp W bs W1→A3 W W1 [Vec.empty.bx 35 (ptC [])]:=fun _=>Own.one (fun p hp=>by cases hp) List.nodup_nil
 refine Ae (args:=[slv p l.length cap]) Tryz.func26 I I I ?_
 refine zA (zB (wP I (wP I (Aa (zE (zA (zH (zA (zB (wP I (wP I (wP I (wU 13 false I (beq_eq_false_iff_ne.2 (by omega)) ?_)))))))))))))
 refine wP I (Aa (zE (zS I (zA (zB (wP I (wP I (wP I (wU 17 false I (dF (by omega)) (wP I (Aa (zE (zS I ?_)))))))))))))
 refine zI (zN (zE (zA (zA (zB (wP I (wC I I (fun W1 hp=>G0 W1 p cap l (hA.hp hp) (by omega) hq (hv.hp hp) (ht.hp hp)) (wP I (Aa (zE (zA (zB (wP I (wP I ?_))))))))))))))
 refine Aa (zE (zS I (zI (zE (zA (zB ?_))))))
 refine AC Tryz.hZ tH I I I I I I I I ?_
 (refine AD rfl rfl rfl rfl ?_;intro)
 (refine Ao Tryz.hZ rfl rfl rfl rfl ?_;intro)
 refine wS 1 I I I (Aa ?_)
 rename_i bC b5
 refine zE (zA (zA (zB (wP I (wC I I (fun W1 hp=>(by have:=OY (l.map ptS) (by rw[List.length_map];omega) p cap W1 (hA.hp hp).b;rwa [List.length_map] at this)) (Aa (AT ?_)))))))
 try refine Au ?_
 refine AM (X:=Unit) (fun _=>[(0,slv p l.length cap),(5,An b5)]) (fun _=>[caE bC false,ckB b5 bC]) (fun _=>Ez l) ?_ ?_
 ·cases hln:(l.map ptS).any LJ with
  |false=>
   have hok:Ez l:=by
    rcases hlong with h|h
    ·exact h
    ·rw[hln] at h;cases h
   exact zS I (zI (At () hok ⟨I,I,tO⟩ [] I))
  |true=>
   refine zR I (zA (zB (wB 1 I I I (wP I ?_))))
   refine P9 0 bC (s:=false) (X:=Bool) I I I I I I (by kernel_rfl) I (fun W1 hp=>LS bC l h0 (by omega) hq p cap W1 (hA.hp hp) (KcP.of hp 0 I hv ht)) ?_
   intro s hs
   have hs:s=false↔Ez l:=hs
   cases s with
   |true=>
    have hno: ¬Ez l:=fun h=>absurd (hs.2 h) (by decide)
    obtain⟨rfl,rfl⟩:L=[]∧e=4:=by
     rcases hr with h|h|h
     ·exact absurd h.1 hno
     ·exact absurd h.1 hno
     ·exact h.2
    refine wP I (Aa (zE (zA (zB (wP I (wP I (Aa (zE (zR I (zA (zB (wP I (wP I (wP I ?_))))))))))))))
    exact Aa (zE (zO (zP (AR tH I (.tmp I) (.tmp I) Vec.empty I (Vec.OK.empty 2) fun W1 hp=>nilR hp))))
   |false=>
    exact wP I (Aa (zE (zA (zB (wP I (wP I (Aa (zE (zS I (zI (At () (hs.1 I) ⟨I,I,tO⟩ [] I)))))))))))
 intro _ hok
 have hok:Ez l:=hok
 refine zA (zB (wP I ?_))
 refine wD (X:=Vec) I I (fun W1 hp=>HJ W1 p cap l (by omega) (hA.hp hp) hne) ?_
 rintro⟨pS,cS,jS⟩ ⟨hVS,hpS⟩
 obtain⟨gS,rfl⟩: ∃g,pS=some g:=Option.ne_none_iff_exists'.1 hpS
 have hcS:l.length≤cS:=(hVS.cap (by simp)).1
 refine wP I (Aa (zE (zA (zB (wP I (wB 1 I I I (wP I ?_)))))))
 refine Bn (X:=List Ah) (val:=fun _=> .tuple #[]) (Φ:=fun x=>SrC x∧Sim l x) (capt:=[]) 2 (B:=A5 gS l jS) (L1:=[]) (L2:=[]) (b:=gS) (ob:= .cells (ptC l++jS).toArray 35 (0,0)) (fun x=>A5 gS x jS) (g':=fun _=>gS) (o':=fun x=> .cells (ptC x++jS).toArray 35 (0,0))
  rfl rfl rfl rfl rfl rfl (by kernel_rfl) rfl rfl (fun _ _=>rfl) (fun W1 hp=> ?_) ?_
 ·exact N3 bC W1 gS cS l jS h16 (hp.own.cell 2 _ I (gS, .cells (ptC l++jS).toArray 35 (0,0)) (List.mem_cons_self ..)).1 fun W2 h2 x hx y hy=>GS.of (hq x hx) (hq y hy) (hok.dv hx hy).1 (hok.dv hx hy).2 (KcP.beside hp 0 2 I I (List.mem_cons_self ..) (by decide) hv ht h2)
 rintro xs ⟨hxs,hxl⟩
 have hxs:SrC xs:=hxs
 have hxl:Sim l xs:=hxl
 refine Aa ?_
 have hsl:=hxl.1
 obtain⟨S,hS⟩: ∃S,S=FU xs:=⟨_,rfl⟩
 have hSs:=FG hxs
 rw[←hS] at hSs
 have hSd:S=FU (BF l):=GK (fun _ _ h=>Cb h) _ _ hSs.1 (FG (Es l)).1 fun x=>((hSs.2 x).trans (hxl.2 x)).trans (GL l x).symm
 have hSm: ∀x,x∈S↔x∈l:=fun x=>(hSs.2 x).trans (hxl.2 x)
 have hSl:S.length≤l.length:=by rw[hSd];exact Tt l
 have hS0:0<S.length:=by
  have:Ac l 0∈S:=(hSm _).2 (AK h0 0)
  exact List.length_pos_of_mem this
 have hSP: ∀i,Ac S i∈l:=fun i=>(hSm _).1 (AK hS0 i)
 have hH:DT l=BE S:=by rw[hSd];rfl
 refine zE (zA (zB (wP I ?_)))
 refine Bn (X:=List Value) (val:=fun _=> .slice (some ⟨gS,0,none⟩) S.length cS) (Φ:=fun _=>True) (capt:=[]) 2 (B:=A5 gS xs jS) (L1:=[]) (L2:=[]) (b:=gS) (ob:= .cells (ptC xs++jS).toArray 35 (0,0)) (fun x=>A5 gS S x) (g':=fun _=>gS) (o':=fun x=> .cells (ptC S++x).toArray 35 (0,0))
  rfl rfl rfl rfl rfl rfl (by kernel_rfl) rfl rfl (fun _ _=>rfl) (fun W1 hp=> ?_) ?_
 ·have:=Ok W1 gS cS xs jS (by omega) (by omega) (hp.own.cell 2 _ rfl (gS, .cells (ptC xs++jS).toArray 35 (0,0)) (List.mem_cons_self ..)).1
  rw[←hS,hsl] at this
  exact this
 intro jT _
 refine wP I (Aa (zE (zA (zB (wP I (wP I (Aa ?_)))))))
 have hleft: ∀ {c:Nat} (P:Nat→Ah),(∀i,P i∈l)→ ∀(i j k:Nat) {W1 W2:World},KcP c false W1→Below W1.heap.size W1 W2→Jj c (P i) (P j) (P k) W2:=fun {c} P hP i j k {W1 W2} hk hb=>Jj.of (hq _ (hP i)) (hq _ (hP j)) (hq _ (hP k)) (hok.tn (hP i) (hP j) (hP k)) (hk.below hb)
 refine zE (zA (zB (wP I (wP I ?_))))
 refine wD (X:=Nat) I I (fun W1 _=>Qo (some ⟨gS,0,none⟩) S.length cS W1) ?_
 intro b1 _
 refine wD (X:=Vec) (capt:=[An b5]) I I (fun W1 hp=>JD b5 bC 139 [An b1] (by kernel_rfl) S.length (fun k=>k) (Ac S) (fun _=>Uu b1 (some ⟨gS,0,none⟩) cS S) (RZ S b1 (some ⟨gS,0,none⟩) cS (by omega)) hS0 (by omega) W1 (Ar.of_bx hp 1 I I)
  (fun _ W2 hb=>⟨(Ar.of_bx hp 3 rfl rfl).below (Nat.le_refl _) hb,(BU.of_row (Ar.of_bx hp 2 rfl rfl)).below (Nat.le_refl _) hb⟩) (fun i j k _ _ _ W2 hb=>hleft (Ac S) hSP i j k (KcP.of hp 0 rfl hv ht) hb)) ?_
 rintro⟨p1,c1,j1⟩ ⟨hV1,hp1⟩
 obtain⟨g1,rfl⟩: ∃g,p1=some g:=Option.ne_none_iff_exists'.1 hp1
 rw[Pz] at hV1
 refine wP I (wP I ?_)
 refine wD (X:=Nat) I I (fun W1 _=>O8 (some ⟨gS,0,none⟩) S.length cS W1) ?_
 intro b2 _
 refine wD (X:=Vec) (capt:=[An b5]) I I (fun W1 hp=>JD b5 bC 140 [An b2] (by kernel_rfl) S.length (fun k=>S.length-1-k) (fun k=>Ac S (S.length-1-k)) (fun _=>Uu b2 (some ⟨gS,0,none⟩) cS S) (QE S b2 (some ⟨gS,0,none⟩) cS (by omega)) hS0 (by omega) W1 (Ar.of_bx hp 1 I I)
  (fun _ W2 hb=>⟨(Ar.of_bx hp 5 rfl rfl).below (Nat.le_refl _) hb,(BU.of_row (Ar.of_bx hp 2 rfl rfl)).below (Nat.le_refl _) hb⟩) (fun i j k _ _ _ W2 hb=>hleft (fun k=>Ac S (S.length-1-k)) (fun i=>hSP _) i j k (KcP.of hp 0 rfl hv ht) hb)) ?_
 rintro⟨p2,c2,j2⟩ ⟨hV2,hp2⟩
 obtain⟨g2,rfl⟩: ∃g,p2=some g:=Option.ne_none_iff_exists'.1 hp2
 rw[NP] at hV2
 have sl1:=GF (Ac S) S.length
 have sl2:=GF (fun k=>Ac S (S.length-1-k)) S.length
 have q1:=Pz S
 have q2:=NP S
 refine AO Tryz.hZ tH I I I I I I I I I I I fun bR=> ?_
 rw[q1] at sl1
 rw[q2] at sl2
 rw[q1,q2]
 obtain⟨A,eA⟩: ∃A,A=(As S).tail.reverse:=⟨_,rfl⟩
 obtain⟨B,eB⟩: ∃B,B=(As S.reverse).tail.reverse:=⟨_,rfl⟩
 have lA:(As S).length-1=A.length:=by rw[eA,List.length_reverse,List.length_tail]
 have lB:(As S.reverse).length-1=B.length:=by rw[eB,List.length_reverse,List.length_tail]
 have hHC:DT l=A++B:=by rw[hH,eA,eB];rfl
 rw[lA] at hV1
 rw[lB] at hV2
 rw[←eA] at hV1
 rw[←eB] at hV2
 rw[←eA, ←eB,lA,lB]
 refine wD (X:=Vec) I I (fun W1 hp=>EN W1 bR 2 (some ⟨g1,0,none⟩) (some ⟨g2,0,none⟩) A.length B.length c1 c2 (ptC A) (ptC B) (Ar.of_bx hp 7 I I) (.inr ⟨g1,0,I,Cm (Ar.of_bx hp 4 I I:Ar W1 g1 0 (ptC A++j1))⟩) (.inr ⟨g2,0,I,Cm (Ar.of_bx hp 6 I I:Ar W1 g2 0 (ptC B++j2))⟩) (AS A) (AS B) (Fs _) (Fs _) (by omega) (by omega)) ?_
 intro V hV
 have lAB:A.length+B.length=(DT l).length:=by rw[hHC,List.length_append]
 have hV:V.OK 2 (DT l).length (ptC (DT l)):=by
  have h1:V.OK 2 (A.length+B.length) (ptC A++ptC B):=hV
  rw[←BM, ←hHC,lAB] at h1
  exact h1
 have hAB:ptC A++ptC B=ptC (DT l):=by rw[hHC,BM]
 rw[hAB,lAB]
 refine wP I (Aa (zE (zA (zA (zB (wB 1 I I I ?_))))))
 refine AP I I I I ?_
 refine wP I (wB 0 I I I (wP I (Aa (zE (zS I (zI (zE (zA (zA (zB (wP I ?_)))))))))))
 obtain⟨pV,cV,jV⟩:=V
 by_cases hl3:(DT l).length<3
 ·obtain⟨rfl,rfl⟩:L=[]∧e=12:=by
   rcases hr with h|h|h
   ·exact absurd hl3 (by omega)
   ·exact h.2.2
   ·exact absurd hok h.1
  cases pV with
  |none=>
   have hz:=hV.nil rfl
   rw[hz]
   exact wP I (wP I (Aa (zE (zR I (zA (zB (wP I (wP I (Aa (zE (zO (zP (AR tH I (.tmp I) (.tmp I) Vec.empty I (Vec.OK.empty 2) fun W1 hp=>nilR hp)))))))))))))
  |some gV=>
   exact wP I (wP I (wU 63 true I (dT (by omega)) (Aa (zE (zR I (zA (zB (wP I (wP I (Aa (zE (zO (zP (AR tH I (.tmp I) (.tmp I) Vec.empty I (Vec.OK.empty 2) fun W1 hp=>nilR hp))))))))))))))
 ·obtain⟨rfl,rfl⟩:L=DT l∧e=0:=by
   rcases hr with h|h|h
   ·exact h.2.2
   ·exact absurd h.2.1 hl3
   ·exact absurd hok h.1
  cases pV with
  |none=>exact absurd (hV.nil rfl) (by omega)
  |some gV=>
   refine wP I (wP I (wU 63 false I (dF (by omega)) (Aa (zE (zS I (zI (zE (zA (zB (wP I (wP I (wP I (Aa ?_)))))))))))))
   exact zE (zO (AR tH I (.tmp I) (.tmp I) (⟨some gV,cV,jV⟩:Vec) I hV fun W1 hp=>A3.of_hp (hp.pick (l:=[(⟨some gV,cV,jV⟩:Vec).bx 35 (ptC (DT l))]) [8] (by decide) I)))
end
section
open Go Go.RowKit Go.Am Go.Lib
theorem HL {q:Rat} {X W:Int} {k:Nat} (hW:W≠0) (h:q*(W:Rat)=X) (h1:X.natAbs<10^k) (h2:W.natAbs<10^k):szQ q k:=by
 have hw:(W:Rat)≠0:=fun e=>hW (by have h:=congrArg Rat.num e;rwa [Rat.num_intCast] at h)
 have e:q=(X:Rat)/(W:Rat):=by rw[←h,Rat.mul_div_cancel hw]
 have h:=IG X hW h1 h2
 rw[II X hW,Rat.divInt_eq_div] at h
 rw[e]
 exact h
def Hm (e:Nat) (p:Ah):Prop:= ∃X Y W:Int,W≠0∧X.natAbs<10^e∧Y.natAbs<10^e∧W.natAbs<10^e∧p.1*(W:Rat)=X∧p.2*(W:Rat)=Y
theorem Hm.sz {e:Nat} {p:Ah} (h:Hm e p):szQ p.1 e∧szQ p.2 e:=by
 obtain⟨X,Y,W,h0,hX,hY,hW,e1,e2⟩:=h
 exact⟨HL h0 e1 hX hW,HL h0 e2 hY hW⟩
theorem Hm.mono {e e':Nat} {p:Ah} (h:Hm e p) (he:e≤e'):Hm e' p:=by
 obtain⟨X,Y,W,h0,hX,hY,hW,e1,e2⟩:=h
 have:=Nat.pow_le_pow_right (show 0<10 by decide) he
 exact⟨X,Y,W,h0,by omega,by omega,by omega,e1,e2⟩
def LnH (f:Bs):Prop:= ∃A B C D:Int,D≠0∧A.natAbs<10^11∧B.natAbs<10^11∧C.natAbs<10^11∧D.natAbs<10^9∧f.a*(D:Rat)=A∧f.b*(D:Rat)=B∧f.c*(D:Rat)=C
theorem SL {u v D Wp Wq p1 q1 Xp Xq U V t:Rat} (hp:p1*Wp=Xp) (hq:q1*Wq=Xq) (hU:u*(D*Wp)=U) (hV:v*(D*Wq)=V) (ht:t*(u-v)=u):(p1+t*(q1-p1))*(U*Wq-V*Wp)=U*Xq-V*Xp:=by
 subst hp hq hU hV
 have e:(p1+t*(q1-p1))*(u-v)=u*q1-v*p1:=by
  have:(p1+t*(q1-p1))*(u-v)=p1*(u-v)+t*(u-v)*(q1-p1):=by grind
  rw[this,ht];grind
 have:(p1+t*(q1-p1))*(u*(D*Wp)*Wq-v*(D*Wq)*Wp)=(p1+t*(q1-p1))*(u-v)*(D*Wp*Wq):=by grind
 rw[this,e];grind
theorem S8 {a b c x y A B C D W X Y:Rat} (h1:a*D=A) (h2:b*D=B) (h3:c*D=C) (h4:x*W=X) (h5:y*W=Y):(a*x+b*y-c)*(D*W)=A*X+B*Y-C*W:=by
 subst h1 h2 h3 h4 h5;grind
theorem Wx {u v D Wp Wq U V t:Rat} (hU:u*(D*Wp)=U) (hV:v*(D*Wq)=V) (ht:t*(u-v)=u):t*(U*Wq-V*Wp)=U*Wq:=by
 subst hU hV
 have:t*(u*(D*Wp)*Wq-v*(D*Wq)*Wp)=t*(u-v)*(D*Wp*Wq):=by grind
 rw[this,ht];grind
theorem V7 {u v:Rat} (h:u*v<0):u-v≠0:=fun e=>by
 have e2:u=v:=by grind
 subst e2
 rcases HF.1 h with⟨a,b⟩|⟨a,b⟩<;>first|exact Rat.not_lt.2 (Rat.le_of_lt a) b|exact Rat.not_lt.2 (Rat.le_of_lt b) a
theorem Hm.at_ {e:Nat} {p:Ah} {f:Bs} (hp:Hm e p) (hf:LnH f):szQ (f.at p) (e+13):=by
 obtain⟨X,Y,W,h0,hX,hY,hW,e1,e2⟩:=hp
 obtain⟨A,B,C,D,hD0,hA,hB,hC,hD,f1,f2,f3⟩:=hf
 have hU:=S8 f1 f2 f3 e1 e2
 have b1:=GA (Bq hA hX) (Bq hB hY)
 have b2:(C*W).natAbs<10^(11+e+1):=Nat.lt_of_lt_of_le (Bq hC hW) (Nat.pow_le_pow_right (by decide) (by omega))
 have b3:=D9 b1 b2
 refine HL (W:=D*W) (X:=A*X+B*Y-C*W) (Int.mul_ne_zero hD0 h0) ?_ (by rw[show e+13=11+e+1+1 by omega];exact b3) ?_
 ·unfold Bs.at
  rw[Rat.intCast_mul,Rat.intCast_sub,Rat.intCast_add,Rat.intCast_mul,Rat.intCast_mul,Rat.intCast_mul]
  exact hU
 ·exact Nat.lt_of_lt_of_le (Bq hD hW) (Nat.pow_le_pow_right (by decide) (by omega))
theorem Hm.cut {e:Nat} {p q:Ah} {f:Bs} (hp:Hm e p) (hq:Hm e q) (hf:LnH f) (h:f.at p*f.at q<0):
  Hm (2*e+14) (FE (f.at p/(f.at p-f.at q)) p q)∧szQ (f.at p/(f.at p-f.at q)) (2*e+14):=by
 have hn:=V7 h
 obtain⟨X,Y,W,h0,hX,hY,hW,e1,e2⟩:=hp
 obtain⟨X',Y',W',h0',hX',hY',hW',e1',e2'⟩:=hq
 obtain⟨A,B,C,D,hD0,hA,hB,hC,hD,f1,f2,f3⟩:=hf
 have hU:f.at p*((D:Rat)*W)=((A*X+B*Y-C*W:Int):Rat):=by
  rw[Rat.intCast_sub,Rat.intCast_add,Rat.intCast_mul,Rat.intCast_mul,Rat.intCast_mul]
  exact S8 f1 f2 f3 e1 e2
 have hV:f.at q*((D:Rat)*W')=((A*X'+B*Y'-C*W':Int):Rat):=by
  rw[Rat.intCast_sub,Rat.intCast_add,Rat.intCast_mul,Rat.intCast_mul,Rat.intCast_mul]
  exact S8 f1 f2 f3 e1' e2'
 have bU:(A*X+B*Y-C*W).natAbs<10^(11+e+1+1):=D9 (GA (Bq hA hX) (Bq hB hY)) (Nat.lt_of_lt_of_le (Bq hC hW) (Nat.pow_le_pow_right (by decide) (by omega)))
 have bV:(A*X'+B*Y'-C*W').natAbs<10^(11+e+1+1):=D9 (GA (Bq hA hX') (Bq hB hY')) (Nat.lt_of_lt_of_le (Bq hC hW') (Nat.pow_le_pow_right (by decide) (by omega)))
 generalize A*X+B*Y-C*W=U at hU bU
 generalize A*X'+B*Y'-C*W'=V at hV bV
 have ht:f.at p/(f.at p-f.at q)*(f.at p-f.at q)=f.at p:=Rat.div_mul_cancel hn
 generalize f.at p/(f.at p-f.at q)=t at ht
 have hwn:U*W'-V*W≠0:=fun e0=>by
  have c0:((U*W'-V*W:Int):Rat)=0:=by rw[e0];rfl
  rw[Rat.intCast_sub,Rat.intCast_mul,Rat.intCast_mul, ←hU, ←hV] at c0
  have c1:f.at p*((D:Rat)*W)*W'-f.at q*((D:Rat)*W')*W=(f.at p-f.at q)*((D:Rat)*W*W'):=by grind
  rw[c1] at c0
  have nz: ∀ {z:Int},z≠0→(z:Rat)≠0:=fun hz e=>hz (by have h:=congrArg Rat.num e;rwa [Rat.num_intCast] at h)
  rcases Rat.mul_eq_zero.1 c0 with c|c
  ·exact hn c
  ·rcases Rat.mul_eq_zero.1 c with c|c
   ·rcases Rat.mul_eq_zero.1 c with c|c
    ·exact nz hD0 c
    ·exact nz h0 c
   ·exact nz h0' c
 have pw: ∀ {a b:Int},a.natAbs<10^(11+e+1+1)→b.natAbs<10^e→(a*b).natAbs<10^(2*e+13):=fun ha hb=>by
  rw[show 2*e+13=11+e+1+1+e by omega];exact Bq ha hb
 refine⟨⟨U*X'-V*X,U*Y'-V*Y,U*W'-V*W,hwn,D9 (pw bU hX') (pw bV hX),D9 (pw bU hY') (pw bV hY),D9 (pw bU hW') (pw bV hW), ?_, ?_⟩, ?_⟩
 ·rw[Rat.intCast_sub,Rat.intCast_sub,Rat.intCast_mul,Rat.intCast_mul,Rat.intCast_mul,Rat.intCast_mul]
  exact SL e1 e1' hU hV ht
 ·rw[Rat.intCast_sub,Rat.intCast_sub,Rat.intCast_mul,Rat.intCast_mul,Rat.intCast_mul,Rat.intCast_mul]
  exact SL e2 e2' hU hV ht
 ·refine HL hwn (X:=U*W') ?_ (Nat.lt_of_lt_of_le (pw bU hW') (Nat.pow_le_pow_right (by decide) (by omega))) (D9 (pw bU hW') (pw bV hW))
  rw[Rat.intCast_sub,Rat.intCast_mul,Rat.intCast_mul]
  exact Wx hU hV ht
theorem LnH.sz {f:Bs} (hf:LnH f):szQ f.a 11∧szQ f.b 11∧szQ f.c 11:=by
 obtain⟨A,B,C,D,hD0,hA,hB,hC,hD,f1,f2,f3⟩:=hf
 have hD':D.natAbs<10^11:=Nat.lt_of_lt_of_le hD (Nat.pow_le_pow_right (by decide) (by decide))
 exact⟨HL hD0 f1 hA hD',HL hD0 f2 hB hD',HL hD0 f3 hC hD'⟩
theorem Hm.kept {e:Nat} {f:Bs} {l:List Ah} (hf:LnH f) (hl: ∀p∈l,Hm e p): ∀k,k≤l.length→ ∀p∈DR f l k,Hm (2*e+14) p
 |0,_,p,hp=>absurd hp (by simp[DR,Dd])
 |k+1,hk,p,hp=>by
  have h0:0<l.length:=by omega
  rw[Js,F8,List.mem_append,List.mem_append] at hp
  rcases hp with(hp|hp)|hp
  ·exact Hm.kept hf hl k (by omega) p hp
  ·split at hp
   ·rw[List.mem_singleton.1 hp];exact(hl _ (AK h0 k)).mono (by omega)
   ·exact absurd hp (by simp)
  ·split at hp
   ·rename_i c
    rw[List.mem_singleton.1 hp];exact((hl _ (AK h0 k)).cut (hl _ (AK h0 (k+1))) hf c).1
   ·exact absurd hp (by simp)
theorem ClZ.of {e:Nat} {f:Bs} {l:List Ah} (hf:LnH f) (he:e≤50) (hl: ∀p∈l,Hm e p):ClZ f l:=by
 obtain⟨sa,sb,sc⟩:=hf.sz
 refine⟨fun q hq=> ?_,fun i hi hc=> ?_,fun p hp=> ?_⟩
 ·obtain⟨q1,q2⟩:=(hl q hq).sz
  exact⟨sz2 sa q1 (by omega),sz2 sb q2 (by omega),sz2 (sa.mul q1) (sb.mul q2) (by omega),sz2 ((sa.mul q1).add (sb.mul q2)) sc (by omega)⟩
 ·have h0:0<l.length:=by omega
  have hp:=hl _ (AK h0 i)
  have hq:=hl _ (AK h0 (i+1))
  have hu:=hp.at_ hf
  have hv:=hq.at_ hf
  have ht:=(hp.cut hq hf hc).2
  obtain⟨p1,p2⟩:=hp.sz
  obtain⟨q1,q2⟩:=hq.sz
  exact⟨sz2 hu hv (by omega),sz2 hu (hu.sub hv) (by omega),Wv (V7 hc),sz2 q1 p1 (by omega),sz2 ht (q1.sub p1) (by omega),sz2 p1 (ht.mul (q1.sub p1)) (by omega),sz2 q2 p2 (by omega),sz2 ht (q2.sub p2) (by omega),sz2 p2 (ht.mul (q2.sub p2)) (by omega)⟩
 ·have h:=(Hm.kept hf hl l.length (Nat.le_refl _) p hp).sz
  exact⟨h.1.mono (by omega),h.2.mono (by omega)⟩
end
section
open Go Go.RowKit Go.Am Go.Lib
set_option maxRecDepth 10000
-- BOXES 15
-- CODE2
theorem UO (q:Rat):(E7 q==0)=decide (q=0):=by
 have h2:q.num=0↔q=0:=Rat.num_eq_zero
 rw[Bool.eq_iff_iff,beq_iff_eq,decide_eq_true_iff, ←h2]
 unfold E7
 split
 ·rename_i e
  exact⟨fun _=>e,fun _=>rfl⟩
 ·rename_i e
  split
  ·exact⟨fun h=>absurd h (by decide),fun h=>absurd h e⟩
  ·exact⟨fun h=>absurd h (by decide),fun h=>absurd h e⟩
theorem C3.keep {W W':World} {c g:Nat} (h:C3 W c) (hk:CC W W' g) (hne:c≠g):C3 W' c:=(hk.at_ c hne (Array.getElem?_eq_some_iff.1 h).1).trans h
def DW (f:Bs) (l:List Ah) (k:Nat):List Ah:=(Kn (Ac l) k f).map (Gw (Ac l))
def Gc (f:Bs) (l:List Ah) (k:Nat):List Ah:=DW f l k++(if f.at (Ac l k)=0 then[Ac l k] else[])
theorem RH (f:Bs) (l:List Ah) (k:Nat):DW f l (k+1)=Gc f l k++(if f.at (Ac l k)*f.at (Ac l (k+1))<0 then[FE (f.at (Ac l k)/(f.at (Ac l k)-f.at (Ac l (k+1)))) (Ac l k) (Ac l (k+1))] else[]):=by
 unfold DW Gc Kn
 rw[List.range_succ,List.flatMap_append,List.map_append,List.flatMap_cons,List.flatMap_nil,List.append_nil,List.map_append, ←List.append_assoc]
 have e1:(if f.at (Ac l k)=0 then[((k,0):Om)] else[]).map (Gw (Ac l))=if f.at (Ac l k)=0 then[Ac l k] else[]:=by
  split
  ·show[FE 0 (Ac l k) (Ac l (k+1))]=_
   rw[K3]
  ·rfl
 have e2:(if f.at (Ac l k)*f.at (Ac l (k+1))<0 then[((k,f.at (Ac l k)/(f.at (Ac l k)-f.at (Ac l (k+1)))):Om)] else[]).map (Gw (Ac l))=if f.at (Ac l k)*f.at (Ac l (k+1))<0 then[FE (f.at (Ac l k)/(f.at (Ac l k)-f.at (Ac l (k+1)))) (Ac l k) (Ac l (k+1))] else[]:=by
  split
  ·rfl
  ·rfl
 rw[e1,e2]
 rfl
theorem I3 (f:Bs) (l:List Ah) (k:Nat):(DW f l k).length≤k:=by unfold DW;rw[List.length_map];exact Ol _ _ _
theorem TL (f:Bs) (l:List Ah) (k:Nat):(Gc f l k).length≤k+1:=by
 unfold Gc
 have:=I3 f l k
 rw[List.length_append]
 have a:(if f.at (Ac l k)=0 then[Ac l k] else[]).length≤1:=by split<;>simp
 omega
structure SeZ (f:Bs) (l:List Ah):Prop where
 v: ∀q∈l,Wt f q
 c: ∀i,i<l.length→f.at (Ac l i)*f.at (Ac l (i+1))<0→VF (Ac l i) (Ac l (i+1)) (f.at (Ac l i)) (f.at (Ac l (i+1)))
 n2:(E9 f l).length≤2
 s: ∀x y,E9 f l=[x,y]→Sz2 y.1 x.1∧Sz2 y.2 x.2
def ptV (x:Ah):Value:= .agg #[str (Af x.1),str (Af x.2)]
def QS (l:List Ah):Value:=match l with
 |[x,y]=> .tuple #[ptV (if Be y x=true then y else x),ptV (if Be y x=true then x else y), .bool true, .int .i64 0]
 |_=> .tuple #[.agg #[str [],str []], .agg #[str [],str []], .bool false, .int .i64 0]
section
variable {P:Program} {N:Nat} {D:List Deferred} {ops:List Oper} {o:Oper} {rest:List Oper} {env:Env} {A A2:World→Prop} {R:Act→World→Prop}
theorem Pk {d:Nat} {x:Operand} {a:Addr} (hg:A6 ops N env o=some true) (hd:o.dst=some d) (ho:o.op= .nilCheck x) (hx:evO N env x=some (.pointer (some a)))
  (h:WQ P N D ops A2 R rest ((d, .pointer (some a))::env) A):WQ P N D ops A2 R (o::rest) env A:=
 C4 hg hd (fun c e=>by rw[ho] at e;cases e) (fun _ W hρ _=>by simp[execOp,ho,hρ _ _ hx]) h
end
theorem KO (f:Bs) (hf:TZ f) (l:List Ah) (hz:SeZ f l) (p:Option Addr) (cap:Nat) (W:World) (h:GG W p l):
  Ap Tryz.prog 24 #[slv p l.length cap,str (Af f.a),str (Af f.b),str (Af f.c)] W (fun _:Unit=>QS (E9 f l)) (fun _=>True) (fun _=>[]):=by
 have h3:=h.n3
 have hn:=h.n
 have hA:=h.m
 have hn0:0<l.length:=by omega
 have hzz:(l.length:Int)≠0:=by omega
 have hvl:(l.map f.at).length=l.length:=List.length_map _
 refine Ae (args:=[slv p l.length cap,str (Af f.a),str (Af f.b),str (Af f.c)]) Tryz.func24 I I I ?_
 refine zA (zB ?_)
 (refine AD rfl rfl rfl rfl ?_;intro)
 (refine Ao Tryz.hZ rfl rfl rfl rfl ?_;intro)
 (refine Ao Tryz.hZ rfl rfl rfl rfl ?_;intro)
 refine wP I (wP I (Aa ?_))
 rename_i b4 b8 b9
 refine zE (zA (zA (zB (wB 0 I I I (wP I (wP I (wP I ?_)))))))
 refine AO Tryz.hZ tH I I I I I I I I I I I fun bS=> ?_
 refine wC I I (fun W1 hp=>H6 l p cap f.a f.b f.c hf.a hf.b hf.c hf.n bS 3 W1 (h.hp hp) (Ar.of_bx hp 3 I I)) (wP I (Aa (zE (zA (zB (wP I (wP I (Aa (zE (zS I (zI (zE (zA ?_)))))))))))))
 refine zB ?_
 refine AC Tryz.hZ tH I I I I I I I I ?_
 (refine AD rfl rfl rfl rfl ?_;intro)
 (refine Ao Tryz.hZ rfl rfl rfl rfl ?_;intro)
 refine wS 5 I I I (Aa ?_)
 rename_i bC b13
 refine zE (Au ?_)
 refine AU (X:= { s:Nat×Vec//s.2.OK 1 l.length (vsC (l.map f.at)) }) [true,true,true,true,true,false,false,false,false] (fun s=>[(4,An b4),(8,An b8),(9,An b9),(10, .bool false),(11, .int .i64 0),(13,An b13),(14,An s.1.1)]) (fun s=>[lsB b4 (slv p l.length cap),ptB b8 [] [],ptB b9 [] [],caB bC,ckB b13 bC,nmB s.1.1 (s.1.2.val l.length),s.1.2.bx 23 (vsC (l.map f.at))])
  4 [lsB b4 (slv p l.length cap),ptB b8 [] [],ptB b9 [] [],⟨bS,23,[str (Af f.a),str (Af f.b),str (Af f.c)],true,none⟩,caB bC,ckB b13 bC] Tryz.mixed (by kernel_rfl) ?_ ?_
 ·refine qB 0 I I I (qB 5 I I I (qP I (qP I (qP I (B6 (wX ?_))))))
  refine RS.cons ?_ (RS.cons ?_ (RS.nil))
  ·refine wD (X:=Nat×Nat×Nat×Nat) rfl rfl (fun W1 _=>EB bC f W1) ?_;rintro⟨v4,v5,v6,v7⟩ _
   refine Aa (Ab (wX ?_))
   refine RS.cons ?_ (RS.cons ?_ (RS.nil))
   ·refine wD (X:=Vec) rfl rfl (fun W1 hp=>CH l f.at 132 [An v4,An v5,An v6,An v7] (by kernel_rfl) hn p cap W1 (hA.hp hp) (fun q hq W2 hb=>CF v4 v5 v6 v7 bC f q (hz.v q hq) W2 (IZ.below (by first|exact⟨Ar.of_bx hp 6 rfl rfl,Ar.of_bx hp 7 rfl rfl,Ar.of_bx hp 8 rfl rfl,Ar.of_bx hp 9 rfl rfl,B2 hp 4 rfl,h.v.hp hp,h.t.hp hp⟩|exact⟨Ar.of_bx hp 7 rfl rfl,Ar.of_bx hp 8 rfl rfl,Ar.of_bx hp 9 rfl rfl,Ar.of_bx hp 10 rfl rfl,B2 hp 4 rfl,h.v.hp hp,h.t.hp hp⟩) hb))) ?_;rintro⟨pV1,cV1,jV1⟩ hV1;obtain⟨gV1,rfl⟩: ∃g,pV1=some g:=Option.ne_none_iff_exists'.1 (fun e=>absurd (hV1.nil e) (by omega))
    refine Aa (Ab (wX (wZ ?_)))
    refine Ao Tryz.hZ rfl rfl rfl rfl ?_;intro b14
    refine Aa (Ab (wX (wZ (wS 11 I I I (Aa (Ab ?_))))))
    refine AI I (by((repeat (first|refine AN.same ?_|refine AN.off I ?_));exact tO)) ?_
    exact Ag (⟨(b14,⟨some gV1,cV1,jV1⟩),hV1⟩: { s:Nat×Vec//s.2.OK 1 l.length (vsC (l.map f.at)) }) ⟨I,I,I,I,I,I,I,tO⟩ [0,1,2,4,5,11,10] (by decide) I
   ·refine Ao Tryz.hZ rfl rfl rfl rfl ?_;intro b14
    refine Aa (Ab (wX (wZ ?_)))
    refine wD (X:=Vec) rfl rfl (fun W1 hp=>CH l f.at 132 [An v4,An v5,An v6,An v7] (by kernel_rfl) hn p cap W1 (hA.hp hp) (fun q hq W2 hb=>CF v4 v5 v6 v7 bC f q (hz.v q hq) W2 (IZ.below (by first|exact⟨Ar.of_bx hp 6 rfl rfl,Ar.of_bx hp 7 rfl rfl,Ar.of_bx hp 8 rfl rfl,Ar.of_bx hp 9 rfl rfl,B2 hp 4 rfl,h.v.hp hp,h.t.hp hp⟩|exact⟨Ar.of_bx hp 7 rfl rfl,Ar.of_bx hp 8 rfl rfl,Ar.of_bx hp 9 rfl rfl,Ar.of_bx hp 10 rfl rfl,B2 hp 4 rfl,h.v.hp hp,h.t.hp hp⟩) hb))) ?_;rintro⟨pV1,cV1,jV1⟩ hV1;obtain⟨gV1,rfl⟩: ∃g,pV1=some g:=Option.ne_none_iff_exists'.1 (fun e=>absurd (hV1.nil e) (by omega))
    refine Aa (Ab (wX (wZ (wS 10 I I I (Aa (Ab ?_))))))
    refine AI I (by((repeat (first|refine AN.same ?_|refine AN.off I ?_));exact tO)) ?_
    exact Ag (⟨(b14,⟨some gV1,cV1,jV1⟩),hV1⟩: { s:Nat×Vec//s.2.OK 1 l.length (vsC (l.map f.at)) }) ⟨I,I,I,I,I,I,I,tO⟩ [0,1,2,4,5,10,11] (by decide) I
  ·refine Ao Tryz.hZ rfl rfl rfl rfl ?_;intro b14
   refine Aa (Ab (wX (wZ ?_)))
   refine wD (X:=Nat×Nat×Nat×Nat) rfl rfl (fun W1 _=>EB bC f W1) ?_;rintro⟨v4,v5,v6,v7⟩ _
   refine Aa (Ab (wX (wZ ?_)))
   refine wD (X:=Vec) rfl rfl (fun W1 hp=>CH l f.at 132 [An v4,An v5,An v6,An v7] (by kernel_rfl) hn p cap W1 (hA.hp hp) (fun q hq W2 hb=>CF v4 v5 v6 v7 bC f q (hz.v q hq) W2 (IZ.below (by first|exact⟨Ar.of_bx hp 6 rfl rfl,Ar.of_bx hp 7 rfl rfl,Ar.of_bx hp 8 rfl rfl,Ar.of_bx hp 9 rfl rfl,B2 hp 4 rfl,h.v.hp hp,h.t.hp hp⟩|exact⟨Ar.of_bx hp 7 rfl rfl,Ar.of_bx hp 8 rfl rfl,Ar.of_bx hp 9 rfl rfl,Ar.of_bx hp 10 rfl rfl,B2 hp 4 rfl,h.v.hp hp,h.t.hp hp⟩) hb))) ?_;rintro⟨pV1,cV1,jV1⟩ hV1;obtain⟨gV1,rfl⟩: ∃g,pV1=some g:=Option.ne_none_iff_exists'.1 (fun e=>absurd (hV1.nil e) (by omega))
   refine Aa (Ab (wX (wZ (wS 6 I I I (Aa (Ab ?_))))))
   refine AI I (by((repeat (first|refine AN.same ?_|refine AN.off I ?_));exact tO)) ?_
   exact Ag (⟨(b14,⟨some gV1,cV1,jV1⟩),hV1⟩: { s:Nat×Vec//s.2.OK 1 l.length (vsC (l.map f.at)) }) ⟨I,I,I,I,I,I,I,tO⟩ [0,1,2,4,5,6,11] (by decide) I
 rintro⟨⟨b14,⟨pV,cV,jV⟩⟩,hV⟩
 obtain⟨gV,rfl⟩: ∃g,pV=some g:=by
  cases pV with
  |none=>have:=hV.nil rfl;omega
  |some g=>exact⟨g,rfl⟩
 have hcapV:=(hV.cap (by simp)).1
 refine zE (zA (zA (zB (wB 4 I I I ?_))))
 refine AP I I I I ?_
 refine wP I (wB 3 I I I (wP I (Aa (zE (zS I (zI (zE (zA (zB ?_)))))))))
 (refine Ao Tryz.hZ rfl rfl rfl rfl ?_;intro)
 refine Aa ?_
 rename_i b15
 refine zE (zA (zA (zB (wB 0 I I I ?_))))
 refine wD (X:=Nat) I I (fun W1 _=>D8 p l.length cap W1) ?_
 intro bp _
 refine Aa (zE (zH ?_))
 refine Fj ?_
 refine EJ (X:=Nat×Vec) (fun x=>[lsB b4 (slv p l.length cap),ptB b8 [] [],ptB b9 [] [],caB bC,ckB b13 bC,nmB b14 (.slice (some ⟨gV,0,none⟩) l.length cV),⟨gV,23,vsC (l.map f.at)++jV,true,none⟩,lsB b15 (x.2.val (DW f l x.1).length),lsB bp (slv p l.length cap),x.2.bx 35 (ptC (DW f l x.1))])
  (fun j x=>x.1=j∧x.2.OK 2 (DW f l x.1).length (ptC (DW f l x.1))) (fun _ _=>False) (0,Vec.empty) rfl (by kernel_rfl) (Ei l bp p cap (by omega)) (fun _=>rfl)
  ⟨rfl,Vec.OK.empty 2⟩ [] rfl (fun k x W1 _ hp=>⟨Ar.of_bx hp 8 rfl rfl,hA.hp hp⟩) ?_ ?_ (fun _ _ _ _ _ h=>h.elim)
 ·rintro k ⟨k',O⟩ d l' rec L hk ⟨e1,hO⟩ hrec
  obtain rfl:k'=k:=e1
  have hk:k'<l.length:=hk
  have hO:O.OK 2 (DW f l k').length (ptC (DW f l k')):=hO
  have hol:=I3 f l k'
  have hml:=TL f l k'
  have hsl:=I3 f l (k'+1)
  have hk2:(k'+1)%l.length<l.length:=Nat.mod_lt _ hn0
  have ev: ∀i (hi:i<l.length),(l.map f.at)[i]'(by rw[hvl];exact hi)=f.at (Ac l i):=fun i hi=>by rw[List.getElem_map,AF hi]
  have hr1: ∀ {W0 W1:World} {bxs:List Bx} (hp:Hp W0 bxs W1) (m:Nat) (hm:nth bxs m=some ⟨gV,23,vsC (l.map f.at)++jV,true,none⟩),Ar W1 gV (0+k'*1) [str (Af (f.at (Ac l k')))]:=fun hp m hm=>by
   have:=QH hp m hm (i:=k') (by rw[hvl];exact hk)
   rwa [ev k' hk] at this
  have hr2: ∀ {W0 W1:World} {bxs:List Bx} (hp:Hp W0 bxs W1) (m:Nat) (hm:nth bxs m=some ⟨gV,23,vsC (l.map f.at)++jV,true,none⟩),Ar W1 gV (0+((k'+1)%l.length)*1) [str (Af (f.at (Ac l (k'+1))))]:=fun hp m hm=>by
   have:=QH hp m hm (i:=(k'+1)%l.length) (by rw[hvl];exact hk2)
   rwa [ev _ hk2,EH] at this
  obtain⟨u,hu⟩: ∃u,u=f.at (Ac l k'):=⟨_,rfl⟩
  obtain⟨v,hvv⟩: ∃v,v=f.at (Ac l (k'+1)):=⟨_,rfl⟩
  have hsu:=RH f l k'
  have hmu:Gc f l k'=DW f l k'++(if u=0 then[Ac l k'] else[]):=by rw[hu];rfl
  have hcz:=hz.c k' hk
  rw[←hu, ←hvv] at hsu hcz
  rw[←hu] at hr1
  rw[←hvv] at hr2
  refine zA (zB (wP I (Aa (zE (zB ?_)))))
  (refine Ao Tryz.hZ rfl rfl rfl rfl ?_;intro)
  refine wS 13 I I I (Aa ?_)
  rename_i b17
  refine CQ 12 hrec I ?_
  refine Cc (zA (zU (qB 6 I I I (qP I ?_))))
  refine qJ ?_
  refine qL 0 I I (fun W1 hp=>hr1 hp 7 I) I (qC I I (fun W1 _=>El u W1) (qB 6 I I I (qP I (qP I (qV 62 ((k'+1:Nat):Int) I (Av (by omega)) (qB 1 I I I (qP I ?_)))))))
  refine Ex I I I I I hzz ?_
  refine DJ 65 (.int .i64 (((k'+1)%l.length:Nat):Int)) I I ?_
  refine qJ ?_
  refine qL 0 I I (fun W1 hp=>hr2 hp 7 I) I (qC I I (fun W1 _=>El v W1) (qP I (qP I (AJ (Aa (zE (zA (zA (zB (wP I (wP I (wU 70 (decide (u=0)) I (UO u) (Aa ?_)))))))))))))
  refine AT ?_
  refine AM (X:=Vec) (fun _=>[(4,An b4),(8,An b8),(9,An b9),(10, .bool false),(11, .int .i64 0),(13,An b13),(14,An b14),(15,An b15),(16, .int .i64 (k':Nat)),(17,An b17),(18, .int .i64 (E7 u)),(19, .int .i64 (E7 v))])
   (fun O=>[Ax L,lsB b4 (slv p l.length cap),ptB b8 [] [],ptB b9 [] [],caB bC,ckB b13 bC,nmB b14 (.slice (some ⟨gV,0,none⟩) l.length cV),⟨gV,23,vsC (l.map f.at)++jV,true,none⟩,lsB b15 (O.val (Gc f l k').length),lsB bp (slv p l.length cap),O.bx 35 (ptC (Gc f l k')),B8 d,Bj l' rec .busy none,⟨b17,66,(sdV (Ac l k') (Ac l (k'+1))).cells.toList,true,none⟩])
   (fun O=>O.OK 2 (Gc f l k').length (ptC (Gc f l k'))) ?_ ?_
  ·refine AA I (fun hc1=> ?_) (fun hc1=> ?_)
   ·rw[if_pos (of_decide_eq_true hc1)] at hmu
    have hlm:(DW f l k').length+1=(Gc f l k').length:=by rw[hmu,List.length_append];rfl
    refine zB (wB 8 I I I ?_)
    refine EC Tryz.underlying66 Tryz.sizeOf35 I I I I I ⟨by decide,by decide⟩ ?_
    refine wB 13 I I I ?_
    refine AO Tryz.hZ tH I I I I I I I I I I I fun bS=> ?_
    refine BJ (V:=O) (len:=(DW f l k').length) (xs:=ptC (DW f l k')) 10 14 Tryz.vec22 (Gc f l k').length (ptC (Gc f l k')) I I I I I I I I I I I hO I I hlm (by rw[hmu,BM];rfl) (by simp only[maxLen];omega) (by omega) I ?_
    intro gO cO jO hO1
    exact wS 8 I I I (Aa (At ⟨some gO,cO,jO⟩ hO1 ⟨I,I,I,I,I,I,I,I,I,I,I,I,tO⟩ [_] I))
   ·rw[if_neg (of_decide_eq_false hc1),List.append_nil] at hmu
    exact zI (At O (by rw[hmu];exact hO) ⟨I,I,I,I,I,I,I,I,I,I,I,I,tO⟩ [] (by rw[hmu];rfl))
  intro O1 hO1
  have hO1:O1.OK 2 (Gc f l k').length (ptC (Gc f l k')):=hO1
  refine zA (zB (wP I (wP I (wP I (wP I (wU 79 (decide (u*v<0)) I (QQ u v) (Aa (zE ?_))))))))
  refine AA I (fun hc2=> ?_) (fun hc2=> ?_)
  ·have hc2':u*v<0:=of_decide_eq_true hc2
   rw[if_pos hc2'] at hsu
   have hlm:(Gc f l k').length+1=(DW f l (k'+1)).length:=by rw[hsu,List.length_append];rfl
   refine AU (X:= { O:Vec//O.OK 2 (DW f l (k'+1)).length (ptC (DW f l (k'+1))) }) [true,true,true,true,true,true,true,true,true,true,true,true,true,true,true,true,true,true,true,false,false,false] (fun _=>[(4,An b4),(8,An b8),(9,An b9),(10, .bool false),(11, .int .i64 0),(13,An b13),(14,An b14),(15,An b15)])
    (fun O=>[Ax L,lsB b4 (slv p l.length cap),ptB b8 [] [],ptB b9 [] [],caB bC,ckB b13 bC,nmB b14 (.slice (some ⟨gV,0,none⟩) l.length cV),⟨gV,23,vsC (l.map f.at)++jV,true,none⟩,lsB b15 (O.1.val (DW f l (k'+1)).length),lsB bp (slv p l.length cap),O.1.bx 35 (ptC (DW f l (k'+1))),B8 d,Bj l' rec .busy none])
    3 [Ax L,lsB b4 (slv p l.length cap),ptB b8 [] [],ptB b9 [] [],caB bC,ckB b13 bC,nmB b14 (.slice (some ⟨gV,0,none⟩) l.length cV),⟨gV,23,vsC (l.map f.at)++jV,true,none⟩,lsB b15 (O1.val (Gc f l k').length),lsB bp (slv p l.length cap),O1.bx 35 (ptC (Gc f l k')),B8 d,Bj l' rec .busy none,⟨b17,66,(sdV (Ac l k') (Ac l (k'+1))).cells.toList,true,none⟩] Tryz.mixed (by kernel_rfl) ?_ ?_
   ·refine qB 8 I I I (qB 5 I I I ?_)
    refine By Tryz.underlying66 Tryz.sizeOf35 I I I I I ⟨by decide,by decide⟩ ?_
    refine qB 13 I I I ?_
    refine By Tryz.underlying66 Tryz.sizeOf35 I I I I I ⟨by decide,by decide⟩ ?_
    refine qB 13 I I I (qB 6 I I I (qP I ?_))
    refine qJ ?_
    refine qL 0 I I (fun W1 hp=>hr1 hp 7 I) I (qB 6 I I I (qP I (qP I (qV 92 ((k'+1:Nat):Int) I (Av (by omega)) (qB 1 I I I (qP I ?_))))))
    refine Ex I I I I I hzz ?_
    refine DJ 95 (.int .i64 (((k'+1)%l.length:Nat):Int)) I I ?_
    refine qJ ?_
    refine qL 0 I I (fun W1 hp=>hr2 hp 7 I) I (qC I I (fun W1 hp=>KY bC (Ac l k') (Ac l (k'+1)) u v (hcz hc2') W1 (B2 hp 4 I) (h.v.hp hp) (h.t.hp hp)) (B6 (wX (wZ ?_))))
    refine AO Tryz.hZ tH I I I I I I I I I I I fun bS=> ?_
    refine Aa (Ab (wX (wZ ?_)))
    refine BJ (V:=O1) (len:=(Gc f l k').length) (xs:=ptC (Gc f l k')) 10 14 Tryz.vec22 (DW f l (k'+1)).length (ptC (DW f l (k'+1))) rfl rfl rfl rfl rfl rfl rfl rfl rfl rfl rfl hO1 rfl rfl hlm (by rw[hsu,BM];rfl) (by simp only[maxLen];omega) (by omega) rfl ?_;intro gO cO jO hO2
    refine Aa (Ab (wY (wZ (wS 8 I I I (Aa (Ab ?_))))))
    refine Aj I (by kernel_rfl) ?_
    exact Ag (⟨⟨some gO,cO,jO⟩,hO2⟩: { O:Vec//O.OK 2 (DW f l (k'+1)).length (ptC (DW f l (k'+1))) }) ⟨I,I,I,I,I,I,I,I,tO⟩ [0,1,2,3,4,5,6,7,8,9,10,11,12] (by decide) I
   rintro⟨O2,hO2⟩
   exact zN (Co 12 (k'+1,O2) hrec I ⟨I,hO2⟩ [] I)
  ·rw[if_neg (of_decide_eq_false hc2),List.append_nil] at hsu
   exact zI (zN (Co 12 (k'+1,O1) hrec I ⟨I,by show O1.OK 2 (DW f l (k'+1)).length (ptC (DW f l (k'+1)));rw[hsu];exact hO1⟩ [_] (by rw[hsu];rfl)))
 ·rintro⟨k',O⟩ d l' rec ⟨e1,hO⟩
  obtain rfl:k'=l.length:=e1
  have hoe:DW f l l.length=E9 f l:=rfl
  have hO:O.OK 2 (E9 f l).length (ptC (E9 f l)):=hO
  have hol:=I3 f l l.length
  rw[hoe] at hol
  rw[hoe]
  have hn2:=hz.n2
  have hs:=hz.s
  generalize E9 f l=S at hO hol hn2 hs⊢
  obtain⟨q,cc,hval⟩: ∃q cc,O.val S.length= .slice q S.length cc:=by
   obtain⟨pO,cO,jO⟩:=O
   cases pO with
   |none=>
    have e:S.length=0:=hO.nil rfl
    exact⟨none,0,by rw[e];rfl⟩
   |some g=>exact⟨some ⟨g,0,none⟩,cO,rfl⟩
  refine zN (zE (zA (zA (zB (wB 4 I I I ?_)))))
  refine AP I I I I ?_
  refine wP I (wB 3 I I I (wP I ?_))
  refine Al 105 (.bool false) I I ?_
  refine wP I (wB 7 I I I ?_)
  refine Al 107 (.slice q S.length cc) I hval ?_
  refine wP I (wP I ?_)
  by_cases h2:S.length<2
  ·have eV:QS S= .tuple #[.agg #[str [],str []], .agg #[str [],str []], .bool false, .int .i64 0]:=by
    match S,h2 with
    |[],_=>rfl
    |[_],_=>rfl
    |_::_::_,h2=>simp at h2;omega
   refine wU 109 true I (dT (by omega)) (wP I (Aa (zE (zR I (Au ?_)))))
   refine AU (X:=Unit) [true,true,true,true,true,true,false,false,false,false] (fun _=>[(8,An b8),(9,An b9),(10, .bool false),(11, .int .i64 0)]) (fun _=>[ptB b8 [] [],ptB b9 [] [],B8 d])
    4 [lsB b4 (slv p l.length cap),⟨b8,35,[str [],str []],false,none⟩,⟨b9,35,[str [],str []],false,none⟩,caB bC,ckB b13 bC] Tryz.mixed (by kernel_rfl) ?_ ?_
   ·refine Hz Tryz.hZ tH I I I I I I I I ?_
    refine Hz Tryz.hZ tH I I I I I I I I ?_
    refine qB 4 I I I ?_
    refine Pk I I I I ?_
    refine qP I (qB 3 I I I (B6 (wX (wZ (wS 1 I I I (Aa (Ab (wX (wZ (wS 2 I I I (Aa (Ab (wX ?_)))))))))))))
    refine wZ (wP I (Aa (Ab (wX (wZ (wP I (Aa (Ab ?_))))))))
    refine AI I (by((repeat (first|refine AN.same ?_|refine AN.off I ?_));exact tO)) ?_
    exact Ag () ⟨I,I,I,I,tO⟩ [1,2,10] (by decide) I
   intro _
   refine zE (zO (zP ?_))
   refine CJ 2 I ?_
   exact Kg tH I (.cell 0 I I I I I) (.cell 1 I I I I I) (.tmp I) (.tmp I) () eV.symm tO fun W _=>A3.nil _ _
  ·obtain⟨x,y,rfl⟩: ∃x y,S=[x,y]:=by
    match S,h2,hn2 with
    |[x,y],_,_=>exact⟨x,y,rfl⟩
    |[],h2,_=>exact absurd Nat.zero_lt_two h2
    |[_],h2,_=>exact absurd (Nat.lt_succ_self 1) h2
    |_::_::_::_,_,hn2=>simp at hn2
   obtain⟨a,b,eab,eV⟩: ∃a b,DQ x y=[a,b]∧QS [x,y]= .tuple #[ptV a,ptV b, .bool true, .int .i64 0]:=by
    show∃a b,(if Be y x=true then[y,x] else[x,y])=[a,b]∧Value.tuple #[ptV (if Be y x=true then y else x),ptV (if Be y x=true then x else y), .bool true, .int .i64 0]=Value.tuple #[ptV a,ptV b, .bool true, .int .i64 0]
    cases Be y x with
    |true=>exact⟨y,x,rfl,rfl⟩
    |false=>exact⟨x,y,rfl,rfl⟩
   obtain⟨hs1,hs2⟩:=hs x y rfl
   obtain⟨pO,cO,jO⟩:=O
   obtain⟨gO,rfl⟩: ∃g,pO=some g:=Option.ne_none_iff_exists'.1 (fun e=>absurd (hO.nil e) (by show¬2=0;decide))
   refine Al 109 (.bool false) I I ?_
   refine wP I (Aa (zE (zS I (zI (zE (zA (zB (wB 7 I I I (wB 4 I I I (wP I ?_))))))))))
   refine Bn (X:=Unit) (val:=fun _=> .tuple #[]) (Φ:=fun _=>True) (capt:=[]) 9 (B:=A5 gO [x,y] jO) (L1:=[]) (L2:=[]) (b:=gO) (ob:= .cells (ptC [x,y]++jO).toArray 35 (0,0)) (fun _=>A5 gO (DQ x y) jO) (g':=fun _=>gO) (o':=fun _=> .cells (ptC (DQ x y)++jO).toArray 35 (0,0))
    rfl rfl rfl rfl rfl rfl (by kernel_rfl) rfl rfl (fun _ _=>rfl) (fun W1 hp=> ?_) (fun _ _=> ?_)
   ·have hc:=hp.own.cell 9 _ rfl (gO, .cells (ptC [x,y]++jO).toArray 35 (0,0)) (List.mem_cons_self ..)
    have hne:bC≠gO:=hp.own.apart 3 9 _ _ rfl rfl (by decide) (bC,_) (List.mem_cons_self ..) (gO,_) (List.mem_cons_self ..)
    exact OJ bC W1 gO cO x y jO hc.1 ⟨fun W2 hk=>⟨(B2 hp 3 I).keep hk hne,h.v.below (hk.below hp.below hc.2),h.t.below (hk.below hp.below hc.2)⟩,hs1,hs2⟩
   rw[eab]
   refine Aa (zE (zA (zA (zB (wB 4 I I I ?_)))))
   refine AP I I I I ?_
   refine wP I (wB 3 I I I (wP I (Aa (zE (zS I (zI (zE (Au ?_))))))))
   refine AU (X:=Unit) [true,true,true,true,true,true,false,false,false,false] (fun _=>[(8,An b8),(9,An b9),(10, .bool true),(11, .int .i64 0)]) (fun _=>[ptB b8 (Af a.1) (Af a.2),ptB b9 (Af b.1) (Af b.2),B8 d])
    4 [lsB b4 (slv p l.length cap),⟨b8,35,[str [],str []],false,none⟩,⟨b9,35,[str [],str []],false,none⟩,caB bC,ckB b13 bC,nmB b14 (.slice (some ⟨gV,0,none⟩) l.length cV),⟨gV,23,vsC (l.map f.at)++jV,true,none⟩,lsB b15 (.slice (some ⟨gO,0,none⟩) 2 cO),lsB bp (slv p l.length cap),A5 gO [a,b] jO] Tryz.mixed (by kernel_rfl) ?_ ?_
   ·refine qB 7 I I I (qI I I (by decide) (by decide) (qL 0 I I (fun W1 hp=>Tz hp 9 I) I (qB 7 I I I (qI I I (by decide) (by decide) (qL 0 I I (fun W1 hp=>TY hp 9 I) I (B6 (wX (wZ (wS 1 I I I (Aa (Ab (wX (wZ ?_)))))))))))))
    refine wS 2 I I I (Aa (Ab (wX (wZ (wP I (Aa (Ab (wX (wZ (wP I (Aa (Ab ?_))))))))))))
    refine AI I (by((repeat (first|refine AN.same ?_|refine AN.off I ?_));exact tO)) ?_
    exact Ag () ⟨I,I,I,I,tO⟩ [1,2,10] (by decide) I
   intro _
   refine zE (zO ?_)
   refine CJ 2 I ?_
   exact Kg tH I (.cell 0 I I I I I) (.cell 1 I I I I I) (.tmp I) (.tmp I) () eV.symm tO fun W _=>A3.nil _ _
end
section
open Go Go.RowKit Go.Am Go.Lib
def sq4:List Ah:=[(0,0),(2,0),(2,2),(0,2)]
def tr3:List Ah:=[(0,0),(1,0),(0,1)]
def Q9:Bs:=⟨1,1,1⟩
def Ny:Bs:=⟨1, -1,0⟩
theorem Ti:Df sq4:=by
 refine⟨by decide,by decide+kernel,fun i j k h1 h2 h3=> ?_⟩
 have h3:k<4:=h3
 have:(i=0∧j=1∧k=2)∨(i=0∧j=1∧k=3)∨(i=0∧j=2∧k=3)∨(i=1∧j=2∧k=3):=by omega
 rcases this with⟨rfl,rfl,rfl⟩|⟨rfl,rfl,rfl⟩|⟨rfl,rfl,rfl⟩|⟨rfl,rfl,rfl⟩<;>decide+kernel
theorem Uq:Df tr3:=by
 refine⟨by decide,by decide+kernel,fun i j k h1 h2 h3=> ?_⟩
 have h3:k<3:=h3
 obtain⟨rfl,rfl,rfl⟩:i=0∧j=1∧k=2:=by omega
 decide+kernel
theorem Vx:Do Q9 sq4=tr3:=by decide+kernel
theorem Nl:E9 Ny sq4=[(0,0),(2,2)]:=by decide+kernel
theorem Vt:Be ((2,2):Ah) (0,0)=false:=by decide+kernel
theorem UD:C8 tr3/2=1/2:=by decide+kernel
theorem Vm:If tr3/(3*C8 tr3)=1/3:=by decide+kernel
theorem U4:HS tr3/(3*C8 tr3)=1/3:=by decide+kernel
theorem Ka:Af (0:Rat)=[48]:=EI
theorem VO:Af (1:Rat)=[49]:=by decide+kernel
theorem De:Af (2:Rat)=[50]:=by decide+kernel
theorem WE:Af (-1:Rat)=[45,49]:=by decide+kernel
theorem Wz:Af (1/2:Rat)=[49,47,50]:=by decide+kernel
theorem WH:Af (1/3:Rat)=[49,47,51]:=by decide+kernel
theorem Ia {x y:Int} (hx:x.natAbs<10^8) (hy:y.natAbs<10^8):Hm 8 ((x:Rat),(y:Rat)):=⟨x,y,1,by decide,hx,hy,by decide,Rat.mul_one _,Rat.mul_one _⟩
theorem Qj: ∀p∈sq4,Hm 8 p:=fun p hp=>by
 rcases List.mem_cons.1 hp with rfl|hp
 ·exact Ia (x:=0) (y:=0) (by decide) (by decide)
 rcases List.mem_cons.1 hp with rfl|hp
 ·exact Ia (x:=2) (y:=0) (by decide) (by decide)
 rcases List.mem_cons.1 hp with rfl|hp
 ·exact Ia (x:=2) (y:=2) (by decide) (by decide)
 rw[List.mem_singleton.1 hp]
 exact Ia (x:=0) (y:=2) (by decide) (by decide)
theorem QD: ∀p∈tr3,Hm 8 p:=fun p hp=>by
 rcases List.mem_cons.1 hp with rfl|hp
 ·exact Ia (x:=0) (y:=0) (by decide) (by decide)
 rcases List.mem_cons.1 hp with rfl|hp
 ·exact Ia (x:=1) (y:=0) (by decide) (by decide)
 rw[List.mem_singleton.1 hp]
 exact Ia (x:=0) (y:=1) (by decide) (by decide)
theorem SS:LnH Q9:=⟨1,1,1,1,by decide,by decide,by decide,by decide,by decide,Rat.mul_one _,Rat.mul_one _,Rat.mul_one _⟩
theorem TW:LnH Ny:=⟨1, -1,0,1,by decide,by decide,by decide,by decide,by decide,Rat.mul_one _,Rat.mul_one _,Rat.mul_one _⟩
theorem T6 {f:Bs} (hf:LnH f) (n:f.a≠0∨f.b≠0):TZ f:=⟨hf.sz.1.ok (by decide),hf.sz.2.1.ok (by decide),hf.sz.2.2.ok (by decide),n⟩
theorem VT:TZ Q9:=T6 SS (.inl (by decide+kernel))
theorem VJ:TZ Ny:=T6 TW (.inl (by decide+kernel))
theorem H3.of_hm {e k:Nat} {l:List Ah} (hl: ∀p∈l,Hm e p) (h:e≤k):H3 k l:=fun p hp=>⟨(hl p hp).sz.1.mono h,(hl p hp).sz.2.mono h⟩
theorem s2 {q:Rat} (h:q.num.natAbs<10^2∧q.den<10^2):szQ q 2:=h
theorem ez2 {p q:Rat} (h:p.num.natAbs<10^2∧p.den<10^2) (h':q.num.natAbs<10^2∧q.den<10^2):Sz2 p q:=sz2 (s2 h) (s2 h') (by decide)
theorem PW.of {p q:Ah} (hp:szQ p.1 8∧szQ p.2 8) (hq:szQ q.1 8∧szQ q.2 8):PW p q:=⟨sz2 hp.1 hq.2 (by decide),sz2 hq.1 hp.2 (by decide),sz2 (hp.1.mul hq.2) (hq.1.mul hp.2) (by decide)⟩
theorem Vz (i:Nat):PW (Ac tr3 i) (Ac tr3 (i+1)):=PW.of ((H3.of_hm QD (Nat.le_refl 8)).at_ (by decide) i) ((H3.of_hm QD (Nat.le_refl 8)).at_ (by decide) (i+1))
theorem lt3 {i:Nat} (h:i<tr3.length):i=0∨i=1∨i=2:=by have h:i<3:=h;omega
theorem VD: ∀i,i<tr3.length→Sz2 (crK tr3 i) (EY (Ac tr3 i) (Ac tr3 (i+1))):=fun i hi=>by
 rcases lt3 hi with rfl|rfl|rfl<;>exact ez2 (by decide+kernel) (by decide+kernel)
theorem Wc:ArZ tr3:=⟨fun i _=>Vz i,VD,ez2 (by decide+kernel) (by decide+kernel)⟩
theorem VU:CeZ tr3:=by
 refine⟨fun i _=>Vz i,VD,fun i hi=> ?_,fun i hi=> ?_,fun i hi=> ?_,fun i hi=> ?_,fun i hi=> ?_,fun i hi=> ?_,ez2 (by decide+kernel) (by decide+kernel),by decide+kernel,ez2 (by decide+kernel) (by decide+kernel),ez2 (by decide+kernel) (by decide+kernel)⟩<;>
  rcases lt3 hi with rfl|rfl|rfl<;>exact ez2 (by decide+kernel) (by decide+kernel)
theorem VH:SeZ Ny sq4:=by
 have h:=ClZ.of TW (by decide) Qj
 refine⟨h.v,h.c,by rw[Nl];decide,fun x y e=> ?_⟩
 rw[Nl] at e
 cases e
 exact⟨ez2 (by decide+kernel) (by decide+kernel),ez2 (by decide+kernel) (by decide+kernel)⟩
theorem SD:QS (E9 Ny sq4)= .tuple #[.agg #[str [48],str [48]], .agg #[str [50],str [50]], .bool true, .int .i64 0]:=by
 rw[Nl]
 show Value.tuple #[ptV (if Be ((2,2):Ah) (0,0)=true then _ else _),ptV (if Be ((2,2):Ah) (0,0)=true then _ else _), .bool true, .int .i64 0]=_
 rw[Vt]
 show Value.tuple #[.agg #[str (Af 0),str (Af 0)], .agg #[str (Af 2),str (Af 2)], .bool true, .int .i64 0]=_
 rw[Ka,De]
theorem Wn:ptC sq4=[str [48],str [48],str [50],str [48],str [50],str [50],str [48],str [50]]:=by
 show[str (Af 0),str (Af 0),str (Af 2),str (Af 0),str (Af 2),str (Af 2),str (Af 0),str (Af 2)]=_
 rw[Ka,De]
theorem Wk:ptC tr3=[str [48],str [48],str [49],str [48],str [48],str [49]]:=by
 show[str (Af 0),str (Af 0),str (Af 1),str (Af 0),str (Af 0),str (Af 1)]=_
 rw[Ka,VO]
theorem FV {W:World} {b off:Nat} {l:List Ah} (h:Ar W b off (ptC l)):BU W (some ⟨b,off,none⟩) l:= .inr ⟨b,off,rfl,fun i hi=>by
 have e:ptC l=ptC (l.take i)++([str (Af l[i].1),str (Af l[i].2)]++ptC (l.drop (i+1))):=by
  have e0:l=l.take i++l[i]::l.drop (i+1):=by rw[←List.drop_eq_getElem_cons hi,List.take_append_drop]
  conv=>lhs;rw[e0]
  unfold ptC
  rw[List.flatMap_append,List.flatMap_cons]
 rw[e] at h
 have h1:=Ho h
 rw[AS,List.length_take,Nat.min_eq_left (by omega)] at h1
 have h2:=Cm h1
 exact h2⟩
end
section
open Go Go.RowKit Go.Am Go.Lib
set_option maxRecDepth 10000
-- BOXES 6
-- CODE2
theorem NR {W:World} {p:Option Addr} (h:BU W p sq4) (hv:BP W) (ht:Bc W):GG W p sq4:=⟨Ti,by decide,by decide,H3.of_hm Qj (by decide),h,hv,ht⟩
theorem OR {W:World} {p:Option Addr} (h:BU W p tr3) (hv:BP W) (ht:Bc W):GG W p tr3:=⟨Uq,by decide,by decide,H3.of_hm QD (by decide),h,hv,ht⟩
abbrev WK (b:Nat):Bx:=⟨b,35,ptC sq4,true,none⟩
theorem Td (p:Option Addr) (cap:Nat) (W:World) (h:GG W p sq4):
  Ap Tryz.prog 12 #[slv p 4 cap,str [49],str [49],str [49]] W (fun V:Vec=> .tuple #[V.val 3, .int .i64 0]) (fun V=>V.OK 2 3 (ptC tr3)) (fun V=>[V.bx 35 (ptC tr3)]):=by
 have h1:=PB Q9 VT sq4 (ClZ.of SS (by decide) Qj) p cap W h
 rw[Vx] at h1
 have e:[Af Q9.a,Af Q9.b,Af Q9.c]=[[49],[49],[49]]:=by show[Af 1,Af 1,Af 1]=_;rw[VO]
 simp only[List.cons.injEq,and_true] at e
 obtain⟨e1,e2,e3⟩:=e
 rw[e1,e2,e3] at h1
 exact h1
theorem Tb (p:Option Addr) (cap:Nat) (W:World) (h:GG W p tr3):
  Ap Tryz.prog 15 #[slv p 3 cap] W (fun _:Unit=> .tuple #[str [49,47,50], .int .i64 0]) (fun _=>True) (fun _=>[]):=by
 have h1:=Oj tr3 Wc p cap W h
 rw[UD,Wz] at h1
 exact h1
theorem PV (p:Option Addr) (cap:Nat) (W:World) (h:GG W p tr3):
  Ap Tryz.prog 35 #[slv p 3 cap] W (fun _:Unit=> .tuple #[.agg #[str [49,47,51],str [49,47,51]], .int .i64 0]) (fun _=>True) (fun _=>[]):=by
 have h1:=Mc tr3 VU p cap W h
 rw[Vm,U4,WH] at h1
 exact h1
theorem Oz (p:Option Addr) (cap:Nat) (W:World) (h:GG W p sq4):
  Ap Tryz.prog 24 #[slv p 4 cap,str [49],str [45,49],str [48]] W (fun _:Unit=> .tuple #[.agg #[str [48],str [48]], .agg #[str [50],str [50]], .bool true, .int .i64 0]) (fun _=>True) (fun _=>[]):=by
 have h1:=KO Ny VJ sq4 VH p cap W h
 rw[SD] at h1
 have e:[Af Ny.a,Af Ny.b,Af Ny.c]=[[49],[45,49],[48]]:=by show[Af 1,Af (-1),Af 0]=_;rw[VO,WE,Ka]
 simp only[List.cons.injEq,and_true] at e
 obtain⟨e1,e2,e3⟩:=e
 rw[e1,e2,e3] at h1
 exact h1
theorem Dp (W:World) (hv:BP W) (ht:Bc W):
  Ap Tryz.prog 11 #[] W (fun _:Unit=> .bool true) (fun _=>True) (fun _=>[]):=by
 refine Ae (args:=[]) Tryz.func11 I I I ?_
 refine zA (zB (wP I (Aa (zE (zA (zB ?_))))))
 iterate 4 refine AC Tryz.hZ tH I I I I I I I I ?_
 refine AO Tryz.hZ tH I I I I I I I I I I I fun bS=> ?_
 refine wP I (Aa ?_)
 refine QG (bxs':=[WK bS]) (by show _=[(⟨bS,35,ptC sq4,true,none⟩:Bx)];rw[Wn];rfl) ?_
 refine zE (zA (zB (wP I ?_)))
 refine wD (X:=Vec) I I (fun W1 hp=>Td (some ⟨bS,0,none⟩) 4 W1 (NR (FV (Ar.of_bx hp 0 I I)) (hv.hp hp) (ht.hp hp))) ?_
 rintro⟨pV,cV,jV⟩ hV
 obtain⟨gV,rfl⟩: ∃g,pV=some g:=Option.ne_none_iff_exists'.1 (fun e=>absurd (hV.nil e) (by decide))
 iterate 5 refine wP I ?_
 refine Aa (zE (zA (zB (wP I (wC I I (fun W1 hp=>Tb (some ⟨gV,0,none⟩) cV W1 (OR (FV (Cm (Ar.of_bx hp 1 I I:Ar W1 gV 0 (ptC tr3++jV)))) (hv.hp hp) (ht.hp hp))) ?_)))))
 iterate 5 refine wP I ?_
 refine Aa (zE (zA (zB (wP I (wC I I (fun W1 hp=>PV (some ⟨gV,0,none⟩) cV W1 (OR (FV (Cm (Ar.of_bx hp 1 I I:Ar W1 gV 0 (ptC tr3++jV)))) (hv.hp hp) (ht.hp hp))) (wP I (wP I (wP I ?_))))))))
 (refine Ao Tryz.hZ rfl rfl rfl rfl ?_;intro)
 refine wS 2 I I I (wP I (Aa ?_))
 rename_i b6
 refine zE (zA (zB (wP I (wC I I (fun W1 hp=>Oz (some ⟨bS,0,none⟩) 4 W1 (NR (FV (Ar.of_bx hp 0 I I)) (hv.hp hp) (ht.hp hp))) ?_))))
 iterate 5 refine wP I ?_
 (refine Ao Tryz.hZ rfl rfl rfl rfl ?_;intro)
 (refine Ao Tryz.hZ rfl rfl rfl rfl ?_;intro)
 refine wS 3 I I I (wS 4 I I I (wP I (wP I (Aa ?_))))
 rename_i b8 b9
 refine zE (Au ?_)
 refine AU (X:=Unit) [true,true,true,true,true,true,true,true,true,true,true,false,false,false,false,false,false,false,false,false,false,false,false,false,false,false,false,false,false,false,false,false,false,false,false,false,false,false,false,false,false] (fun _=>[(0, .bool true)]) (fun _=>[])
  30 [WK bS,⟨gV,35,ptC tr3++jV,true,none⟩,ptB b6 [49,47,51] [49,47,51],ptB b8 [48] [48],ptB b9 [50] [50]] Tryz.mixed (by kernel_rfl) ?_ ?_
 ·refine qP I (qP I (qP I (qP I (qP I ?_))))
  refine DJ 43 (.int .i64 0) I I ?_
  refine qP I ?_
  refine DJ 44 (.bool true) I I ?_
  refine qP I (qP I ?_)
  iterate 3 refine Hz Tryz.hZ tH I I I I I I I I ?_
  refine B6 (wX (wZ ?_))
  refine AO Tryz.hZ tH I I I I I I I I I I I fun bT=> ?_
  refine Aa (Ab (wX (wZ (wC I I (fun W1 hp=>Gr tr3 (by decide) (some ⟨gV,0,none⟩) (some ⟨bT,0,none⟩) cV 3 W1 (FV (Cm (Ar.of_bx hp 1 I I:Ar W1 gV 0 (ptC tr3++jV)))) (FV (by have h:=Ar.of_bx hp 5 I I;rw[Wk];exact h))) (Aa (Ab (wX (wZ (wP I (Aa (Ab (wX (wZ ?_)))))))))))))
  refine wP I (Aa (Ab (wX (wZ (wP I (Aa (Ab (wX (wZ ?_)))))))))
  refine wP I ?_;refine wU 55 true I ((B4 [49,47,50] [49,47,50]).trans (dT I)) ?_
  refine Aa (Ab (wX (wZ (wP I (Aa (Ab (wX (wZ (wP I (Aa (Ab (wX ?_))))))))))))
  refine RS.cons ?_ (RS.cons ?_ (RS.nil))
  ·refine wB 2 I I I (Aa (Ab (wX (wZ ?_))))
   refine AC Tryz.hZ tH I I I I I I I I ?_
   refine Aa (Ab (wX (wZ ?_)))
   refine AY [49,47,51] [49,47,51] [49,47,51] [49,47,51] I I I I I ?_;refine Al 60 (.bool true) I I ?_
   refine Aa (Ab (wX (wZ (wP I (Aa (Ab (wX (wZ (wP I (Aa (Ab (wX (wZ ?_)))))))))))))
   refine wP I (Aa (Ab (wX (wZ (wP I (Aa (Ab (wX (wZ (wP I (Aa (Ab (wX ?_)))))))))))))
   refine RS.cons ?_ (RS.cons ?_ (RS.nil))
   ·refine wB 3 I I I (Aa (Ab (wX (wZ (wP I (Aa (Ab (wX (wZ (wI I I (by decide) (by decide) (Aa (Ab (wX ?_)))))))))))))
    refine wZ ?_
    refine wB 0 I I I ?_;refine Al 69 (.agg #[str [48],str [48]]) I (by rw[←Ka];rfl) ?_
    refine Aa (Ab (wX (wZ ?_)))
    refine AY [48] [48] [48] [48] I I I I I ?_;refine Al 70 (.bool true) I I ?_
    refine Aa (Ab (wX (wZ (wP I (Aa (Ab (wX (wZ (wP I (Aa (Ab (wX ?_))))))))))))
    refine RS.cons ?_ (RS.cons ?_ (RS.nil))
    ·refine wB 4 I I I (Aa (Ab (wX (wZ (wP I (Aa (Ab (wX (wZ (wI I I (by decide) (by decide) (Aa (Ab (wX ?_)))))))))))))
     refine wZ ?_
     refine wB 0 I I I ?_;refine Al 76 (.agg #[str [50],str [50]]) I (by rw[←De];rfl) ?_
     refine Aa (Ab (wX (wZ ?_)))
     refine AY [50] [50] [50] [50] I I I I I ?_;refine Al 77 (.bool true) I I ?_
     refine Aa (Ab (wX (wZ (wP I (Aa (Ab (wX (wZ (wP I (Aa (Ab ?_)))))))))))
     refine AI I (by((repeat (first|refine AN.same ?_|refine AN.off I ?_));exact tO)) ?_
     exact Ag () ⟨I,tO⟩ [] (by decide) I
    ·refine wP I (Aa (Ab (wX ?_)))
     refine RS.cons ?_ (RS.cons ?_ (RS.nil))
     ·refine wB 4 I I I (Aa (Ab (wX (wZ (wI I I (by decide) (by decide) (Aa (Ab (wX (wZ ?_)))))))))
      refine wB 0 I I I ?_;refine Al 76 (.agg #[str [50],str [50]]) I (by rw[←De];rfl) ?_
      refine Aa (Ab (wX (wZ ?_)))
      refine AY [50] [50] [50] [50] I I I I I ?_;refine Al 77 (.bool true) I I ?_
      refine Aa (Ab (wX (wZ (wP I (Aa (Ab (wX (wZ (wP I (Aa (Ab ?_)))))))))))
      refine AI I (by((repeat (first|refine AN.same ?_|refine AN.off I ?_));exact tO)) ?_
      exact Ag () ⟨I,tO⟩ [] (by decide) I
     ·refine wI I I (by decide) (by decide) (Aa (Ab (wX ?_)))
      refine RS.cons ?_ (RS.cons ?_ (RS.nil))
      ·refine wB 4 I I I (Aa (Ab (wX (wZ ?_))))
       refine wB 0 I I I ?_;refine Al 76 (.agg #[str [50],str [50]]) I (by rw[←De];rfl) ?_
       refine Aa (Ab (wX (wZ ?_)))
       refine AY [50] [50] [50] [50] I I I I I ?_;refine Al 77 (.bool true) I I ?_
       refine Aa (Ab (wX (wZ (wP I (Aa (Ab (wX (wZ (wP I (Aa (Ab ?_)))))))))))
       refine AI I (by((repeat (first|refine AN.same ?_|refine AN.off I ?_));exact tO)) ?_
       exact Ag () ⟨I,tO⟩ [] (by decide) I
      ·refine wB 0 I I I ?_;refine Al 76 (.agg #[str [50],str [50]]) I (by rw[←De];rfl) ?_
       refine Aa (Ab (wX (wZ (wB 4 I I I (Aa (Ab (wX (wZ ?_))))))))
       refine AY [50] [50] [50] [50] I I I I I ?_;refine Al 77 (.bool true) I I ?_
       refine Aa (Ab (wX (wZ (wP I (Aa (Ab (wX (wZ (wP I (Aa (Ab ?_)))))))))))
       refine AI I (by((repeat (first|refine AN.same ?_|refine AN.off I ?_));exact tO)) ?_
       exact Ag () ⟨I,tO⟩ [] (by decide) I
   ·refine wP I (Aa (Ab (wX ?_)))
    refine RS.cons ?_ (RS.cons ?_ (RS.nil))
    ·refine wB 3 I I I (Aa (Ab (wX (wZ (wI I I (by decide) (by decide) (Aa (Ab (wX (wZ ?_)))))))))
     refine wB 0 I I I ?_;refine Al 69 (.agg #[str [48],str [48]]) I (by rw[←Ka];rfl) ?_
     refine Aa (Ab (wX (wZ ?_)))
     refine AY [48] [48] [48] [48] I I I I I ?_;refine Al 70 (.bool true) I I ?_
     refine Aa (Ab (wX (wZ (wP I (Aa (Ab (wX (wZ (wP I (Aa (Ab (wX ?_))))))))))))
     refine RS.cons ?_ (RS.cons ?_ (RS.nil))
     ·refine wB 4 I I I (Aa (Ab (wX (wZ (wP I (Aa (Ab (wX (wZ (wI I I (by decide) (by decide) (Aa (Ab (wX ?_)))))))))))))
      refine wZ ?_
      refine wB 0 I I I ?_;refine Al 76 (.agg #[str [50],str [50]]) I (by rw[←De];rfl) ?_
      refine Aa (Ab (wX (wZ ?_)))
      refine AY [50] [50] [50] [50] I I I I I ?_;refine Al 77 (.bool true) I I ?_
      refine Aa (Ab (wX (wZ (wP I (Aa (Ab (wX (wZ (wP I (Aa (Ab ?_)))))))))))
      refine AI I (by((repeat (first|refine AN.same ?_|refine AN.off I ?_));exact tO)) ?_
      exact Ag () ⟨I,tO⟩ [] (by decide) I
     ·refine wP I (Aa (Ab (wX ?_)))
      refine RS.cons ?_ (RS.cons ?_ (RS.nil))
      ·refine wB 4 I I I (Aa (Ab (wX (wZ (wI I I (by decide) (by decide) (Aa (Ab (wX (wZ ?_)))))))))
       refine wB 0 I I I ?_;refine Al 76 (.agg #[str [50],str [50]]) I (by rw[←De];rfl) ?_
       refine Aa (Ab (wX (wZ ?_)))
       refine AY [50] [50] [50] [50] I I I I I ?_;refine Al 77 (.bool true) I I ?_
       refine Aa (Ab (wX (wZ (wP I (Aa (Ab (wX (wZ (wP I (Aa (Ab ?_)))))))))))
       refine AI I (by((repeat (first|refine AN.same ?_|refine AN.off I ?_));exact tO)) ?_
       exact Ag () ⟨I,tO⟩ [] (by decide) I
      ·refine wI I I (by decide) (by decide) (Aa (Ab (wX ?_)))
       refine RS.cons ?_ (RS.cons ?_ (RS.nil))
       ·refine wB 4 I I I (Aa (Ab (wX (wZ ?_))))
        refine wB 0 I I I ?_;refine Al 76 (.agg #[str [50],str [50]]) I (by rw[←De];rfl) ?_
        refine Aa (Ab (wX (wZ ?_)))
        refine AY [50] [50] [50] [50] I I I I I ?_;refine Al 77 (.bool true) I I ?_
        refine Aa (Ab (wX (wZ (wP I (Aa (Ab (wX (wZ (wP I (Aa (Ab ?_)))))))))))
        refine AI I (by((repeat (first|refine AN.same ?_|refine AN.off I ?_));exact tO)) ?_
        exact Ag () ⟨I,tO⟩ [] (by decide) I
       ·refine wB 0 I I I ?_;refine Al 76 (.agg #[str [50],str [50]]) I (by rw[←De];rfl) ?_
        refine Aa (Ab (wX (wZ (wB 4 I I I (Aa (Ab (wX (wZ ?_))))))))
        refine AY [50] [50] [50] [50] I I I I I ?_;refine Al 77 (.bool true) I I ?_
        refine Aa (Ab (wX (wZ (wP I (Aa (Ab (wX (wZ (wP I (Aa (Ab ?_)))))))))))
        refine AI I (by((repeat (first|refine AN.same ?_|refine AN.off I ?_));exact tO)) ?_
        exact Ag () ⟨I,tO⟩ [] (by decide) I
    ·refine wI I I (by decide) (by decide) (Aa (Ab (wX ?_)))
     refine RS.cons ?_ (RS.cons ?_ (RS.nil))
     ·refine wB 3 I I I (Aa (Ab (wX (wZ ?_))))
      refine wB 0 I I I ?_;refine Al 69 (.agg #[str [48],str [48]]) I (by rw[←Ka];rfl) ?_
      refine Aa (Ab (wX (wZ ?_)))
      refine AY [48] [48] [48] [48] I I I I I ?_;refine Al 70 (.bool true) I I ?_
      refine Aa (Ab (wX (wZ (wP I (Aa (Ab (wX (wZ (wP I (Aa (Ab (wX ?_))))))))))))
      refine RS.cons ?_ (RS.cons ?_ (RS.nil))
      ·refine wB 4 I I I (Aa (Ab (wX (wZ (wP I (Aa (Ab (wX (wZ (wI I I (by decide) (by decide) (Aa (Ab (wX ?_)))))))))))))
       refine wZ ?_
       refine wB 0 I I I ?_;refine Al 76 (.agg #[str [50],str [50]]) I (by rw[←De];rfl) ?_
       refine Aa (Ab (wX (wZ ?_)))
       refine AY [50] [50] [50] [50] I I I I I ?_;refine Al 77 (.bool true) I I ?_
       refine Aa (Ab (wX (wZ (wP I (Aa (Ab (wX (wZ (wP I (Aa (Ab ?_)))))))))))
       refine AI I (by((repeat (first|refine AN.same ?_|refine AN.off I ?_));exact tO)) ?_
       exact Ag () ⟨I,tO⟩ [] (by decide) I
      ·refine wP I (Aa (Ab (wX ?_)))
       refine RS.cons ?_ (RS.cons ?_ (RS.nil))
       ·refine wB 4 I I I (Aa (Ab (wX (wZ (wI I I (by decide) (by decide) (Aa (Ab (wX (wZ ?_)))))))))
        refine wB 0 I I I ?_;refine Al 76 (.agg #[str [50],str [50]]) I (by rw[←De];rfl) ?_
        refine Aa (Ab (wX (wZ ?_)))
        refine AY [50] [50] [50] [50] I I I I I ?_;refine Al 77 (.bool true) I I ?_
        refine Aa (Ab (wX (wZ (wP I (Aa (Ab (wX (wZ (wP I (Aa (Ab ?_)))))))))))
        refine AI I (by((repeat (first|refine AN.same ?_|refine AN.off I ?_));exact tO)) ?_
        exact Ag () ⟨I,tO⟩ [] (by decide) I
       ·refine wI I I (by decide) (by decide) (Aa (Ab (wX ?_)))
        refine RS.cons ?_ (RS.cons ?_ (RS.nil))
        ·refine wB 4 I I I (Aa (Ab (wX (wZ ?_))))
         refine wB 0 I I I ?_;refine Al 76 (.agg #[str [50],str [50]]) I (by rw[←De];rfl) ?_
         refine Aa (Ab (wX (wZ ?_)))
         refine AY [50] [50] [50] [50] I I I I I ?_;refine Al 77 (.bool true) I I ?_
         refine Aa (Ab (wX (wZ (wP I (Aa (Ab (wX (wZ (wP I (Aa (Ab ?_)))))))))))
         refine AI I (by((repeat (first|refine AN.same ?_|refine AN.off I ?_));exact tO)) ?_
         exact Ag () ⟨I,tO⟩ [] (by decide) I
        ·refine wB 0 I I I ?_;refine Al 76 (.agg #[str [50],str [50]]) I (by rw[←De];rfl) ?_
         refine Aa (Ab (wX (wZ (wB 4 I I I (Aa (Ab (wX (wZ ?_))))))))
         refine AY [50] [50] [50] [50] I I I I I ?_;refine Al 77 (.bool true) I I ?_
         refine Aa (Ab (wX (wZ (wP I (Aa (Ab (wX (wZ (wP I (Aa (Ab ?_)))))))))))
         refine AI I (by((repeat (first|refine AN.same ?_|refine AN.off I ?_));exact tO)) ?_
         exact Ag () ⟨I,tO⟩ [] (by decide) I
     ·refine wB 0 I I I ?_;refine Al 69 (.agg #[str [48],str [48]]) I (by rw[←Ka];rfl) ?_
      refine Aa (Ab (wX (wZ (wB 3 I I I (Aa (Ab (wX (wZ ?_))))))))
      refine AY [48] [48] [48] [48] I I I I I ?_;refine Al 70 (.bool true) I I ?_
      refine Aa (Ab (wX (wZ (wP I (Aa (Ab (wX (wZ (wP I (Aa (Ab (wX ?_))))))))))))
      refine RS.cons ?_ (RS.cons ?_ (RS.nil))
      ·refine wB 4 I I I (Aa (Ab (wX (wZ (wP I (Aa (Ab (wX (wZ (wI I I (by decide) (by decide) (Aa (Ab (wX ?_)))))))))))))
       refine wZ ?_
       refine wB 0 I I I ?_;refine Al 76 (.agg #[str [50],str [50]]) I (by rw[←De];rfl) ?_
       refine Aa (Ab (wX (wZ ?_)))
       refine AY [50] [50] [50] [50] I I I I I ?_;refine Al 77 (.bool true) I I ?_
       refine Aa (Ab (wX (wZ (wP I (Aa (Ab (wX (wZ (wP I (Aa (Ab ?_)))))))))))
       refine AI I (by((repeat (first|refine AN.same ?_|refine AN.off I ?_));exact tO)) ?_
       exact Ag () ⟨I,tO⟩ [] (by decide) I
      ·refine wP I (Aa (Ab (wX ?_)))
       refine RS.cons ?_ (RS.cons ?_ (RS.nil))
       ·refine wB 4 I I I (Aa (Ab (wX (wZ (wI I I (by decide) (by decide) (Aa (Ab (wX (wZ ?_)))))))))
        refine wB 0 I I I ?_;refine Al 76 (.agg #[str [50],str [50]]) I (by rw[←De];rfl) ?_
        refine Aa (Ab (wX (wZ ?_)))
        refine AY [50] [50] [50] [50] I I I I I ?_;refine Al 77 (.bool true) I I ?_
        refine Aa (Ab (wX (wZ (wP I (Aa (Ab (wX (wZ (wP I (Aa (Ab ?_)))))))))))
        refine AI I (by((repeat (first|refine AN.same ?_|refine AN.off I ?_));exact tO)) ?_
        exact Ag () ⟨I,tO⟩ [] (by decide) I
       ·refine wI I I (by decide) (by decide) (Aa (Ab (wX ?_)))
        refine RS.cons ?_ (RS.cons ?_ (RS.nil))
        ·refine wB 4 I I I (Aa (Ab (wX (wZ ?_))))
         refine wB 0 I I I ?_;refine Al 76 (.agg #[str [50],str [50]]) I (by rw[←De];rfl) ?_
         refine Aa (Ab (wX (wZ ?_)))
         refine AY [50] [50] [50] [50] I I I I I ?_;refine Al 77 (.bool true) I I ?_
         refine Aa (Ab (wX (wZ (wP I (Aa (Ab (wX (wZ (wP I (Aa (Ab ?_)))))))))))
         refine AI I (by((repeat (first|refine AN.same ?_|refine AN.off I ?_));exact tO)) ?_
         exact Ag () ⟨I,tO⟩ [] (by decide) I
        ·refine wB 0 I I I ?_;refine Al 76 (.agg #[str [50],str [50]]) I (by rw[←De];rfl) ?_
         refine Aa (Ab (wX (wZ (wB 4 I I I (Aa (Ab (wX (wZ ?_))))))))
         refine AY [50] [50] [50] [50] I I I I I ?_;refine Al 77 (.bool true) I I ?_
         refine Aa (Ab (wX (wZ (wP I (Aa (Ab (wX (wZ (wP I (Aa (Ab ?_)))))))))))
         refine AI I (by((repeat (first|refine AN.same ?_|refine AN.off I ?_));exact tO)) ?_
         exact Ag () ⟨I,tO⟩ [] (by decide) I
  ·refine AC Tryz.hZ tH I I I I I I I I ?_
   refine Aa (Ab (wX (wZ (wB 2 I I I (Aa (Ab (wX (wZ ?_))))))))
   refine AY [49,47,51] [49,47,51] [49,47,51] [49,47,51] I I I I I ?_;refine Al 60 (.bool true) I I ?_
   refine Aa (Ab (wX (wZ (wP I (Aa (Ab (wX (wZ (wP I (Aa (Ab (wX (wZ ?_)))))))))))))
   refine wP I (Aa (Ab (wX (wZ (wP I (Aa (Ab (wX (wZ (wP I (Aa (Ab (wX ?_)))))))))))))
   refine RS.cons ?_ (RS.cons ?_ (RS.nil))
   ·refine wB 3 I I I (Aa (Ab (wX (wZ (wP I (Aa (Ab (wX (wZ (wI I I (by decide) (by decide) (Aa (Ab (wX ?_)))))))))))))
    refine wZ ?_
    refine wB 0 I I I ?_;refine Al 69 (.agg #[str [48],str [48]]) I (by rw[←Ka];rfl) ?_
    refine Aa (Ab (wX (wZ ?_)))
    refine AY [48] [48] [48] [48] I I I I I ?_;refine Al 70 (.bool true) I I ?_
    refine Aa (Ab (wX (wZ (wP I (Aa (Ab (wX (wZ (wP I (Aa (Ab (wX ?_))))))))))))
    refine RS.cons ?_ (RS.cons ?_ (RS.nil))
    ·refine wB 4 I I I (Aa (Ab (wX (wZ (wP I (Aa (Ab (wX (wZ (wI I I (by decide) (by decide) (Aa (Ab (wX ?_)))))))))))))
     refine wZ ?_
     refine wB 0 I I I ?_;refine Al 76 (.agg #[str [50],str [50]]) I (by rw[←De];rfl) ?_
     refine Aa (Ab (wX (wZ ?_)))
     refine AY [50] [50] [50] [50] I I I I I ?_;refine Al 77 (.bool true) I I ?_
     refine Aa (Ab (wX (wZ (wP I (Aa (Ab (wX (wZ (wP I (Aa (Ab ?_)))))))))))
     refine AI I (by((repeat (first|refine AN.same ?_|refine AN.off I ?_));exact tO)) ?_
     exact Ag () ⟨I,tO⟩ [] (by decide) I
    ·refine wP I (Aa (Ab (wX ?_)))
     refine RS.cons ?_ (RS.cons ?_ (RS.nil))
     ·refine wB 4 I I I (Aa (Ab (wX (wZ (wI I I (by decide) (by decide) (Aa (Ab (wX (wZ ?_)))))))))
      refine wB 0 I I I ?_;refine Al 76 (.agg #[str [50],str [50]]) I (by rw[←De];rfl) ?_
      refine Aa (Ab (wX (wZ ?_)))
      refine AY [50] [50] [50] [50] I I I I I ?_;refine Al 77 (.bool true) I I ?_
      refine Aa (Ab (wX (wZ (wP I (Aa (Ab (wX (wZ (wP I (Aa (Ab ?_)))))))))))
      refine AI I (by((repeat (first|refine AN.same ?_|refine AN.off I ?_));exact tO)) ?_
      exact Ag () ⟨I,tO⟩ [] (by decide) I
     ·refine wI I I (by decide) (by decide) (Aa (Ab (wX ?_)))
      refine RS.cons ?_ (RS.cons ?_ (RS.nil))
      ·refine wB 4 I I I (Aa (Ab (wX (wZ ?_))))
       refine wB 0 I I I ?_;refine Al 76 (.agg #[str [50],str [50]]) I (by rw[←De];rfl) ?_
       refine Aa (Ab (wX (wZ ?_)))
       refine AY [50] [50] [50] [50] I I I I I ?_;refine Al 77 (.bool true) I I ?_
       refine Aa (Ab (wX (wZ (wP I (Aa (Ab (wX (wZ (wP I (Aa (Ab ?_)))))))))))
       refine AI I (by((repeat (first|refine AN.same ?_|refine AN.off I ?_));exact tO)) ?_
       exact Ag () ⟨I,tO⟩ [] (by decide) I
      ·refine wB 0 I I I ?_;refine Al 76 (.agg #[str [50],str [50]]) I (by rw[←De];rfl) ?_
       refine Aa (Ab (wX (wZ (wB 4 I I I (Aa (Ab (wX (wZ ?_))))))))
       refine AY [50] [50] [50] [50] I I I I I ?_;refine Al 77 (.bool true) I I ?_
       refine Aa (Ab (wX (wZ (wP I (Aa (Ab (wX (wZ (wP I (Aa (Ab ?_)))))))))))
       refine AI I (by((repeat (first|refine AN.same ?_|refine AN.off I ?_));exact tO)) ?_
       exact Ag () ⟨I,tO⟩ [] (by decide) I
   ·refine wP I (Aa (Ab (wX ?_)))
    refine RS.cons ?_ (RS.cons ?_ (RS.nil))
    ·refine wB 3 I I I (Aa (Ab (wX (wZ (wI I I (by decide) (by decide) (Aa (Ab (wX (wZ ?_)))))))))
     refine wB 0 I I I ?_;refine Al 69 (.agg #[str [48],str [48]]) I (by rw[←Ka];rfl) ?_
     refine Aa (Ab (wX (wZ ?_)))
     refine AY [48] [48] [48] [48] I I I I I ?_;refine Al 70 (.bool true) I I ?_
     refine Aa (Ab (wX (wZ (wP I (Aa (Ab (wX (wZ (wP I (Aa (Ab (wX ?_))))))))))))
     refine RS.cons ?_ (RS.cons ?_ (RS.nil))
     ·refine wB 4 I I I (Aa (Ab (wX (wZ (wP I (Aa (Ab (wX (wZ (wI I I (by decide) (by decide) (Aa (Ab (wX ?_)))))))))))))
      refine wZ ?_
      refine wB 0 I I I ?_;refine Al 76 (.agg #[str [50],str [50]]) I (by rw[←De];rfl) ?_
      refine Aa (Ab (wX (wZ ?_)))
      refine AY [50] [50] [50] [50] I I I I I ?_;refine Al 77 (.bool true) I I ?_
      refine Aa (Ab (wX (wZ (wP I (Aa (Ab (wX (wZ (wP I (Aa (Ab ?_)))))))))))
      refine AI I (by((repeat (first|refine AN.same ?_|refine AN.off I ?_));exact tO)) ?_
      exact Ag () ⟨I,tO⟩ [] (by decide) I
     ·refine wP I (Aa (Ab (wX ?_)))
      refine RS.cons ?_ (RS.cons ?_ (RS.nil))
      ·refine wB 4 I I I (Aa (Ab (wX (wZ (wI I I (by decide) (by decide) (Aa (Ab (wX (wZ ?_)))))))))
       refine wB 0 I I I ?_;refine Al 76 (.agg #[str [50],str [50]]) I (by rw[←De];rfl) ?_
       refine Aa (Ab (wX (wZ ?_)))
       refine AY [50] [50] [50] [50] I I I I I ?_;refine Al 77 (.bool true) I I ?_
       refine Aa (Ab (wX (wZ (wP I (Aa (Ab (wX (wZ (wP I (Aa (Ab ?_)))))))))))
       refine AI I (by((repeat (first|refine AN.same ?_|refine AN.off I ?_));exact tO)) ?_
       exact Ag () ⟨I,tO⟩ [] (by decide) I
      ·refine wI I I (by decide) (by decide) (Aa (Ab (wX ?_)))
       refine RS.cons ?_ (RS.cons ?_ (RS.nil))
       ·refine wB 4 I I I (Aa (Ab (wX (wZ ?_))))
        refine wB 0 I I I ?_;refine Al 76 (.agg #[str [50],str [50]]) I (by rw[←De];rfl) ?_
        refine Aa (Ab (wX (wZ ?_)))
        refine AY [50] [50] [50] [50] I I I I I ?_;refine Al 77 (.bool true) I I ?_
        refine Aa (Ab (wX (wZ (wP I (Aa (Ab (wX (wZ (wP I (Aa (Ab ?_)))))))))))
        refine AI I (by((repeat (first|refine AN.same ?_|refine AN.off I ?_));exact tO)) ?_
        exact Ag () ⟨I,tO⟩ [] (by decide) I
       ·refine wB 0 I I I ?_;refine Al 76 (.agg #[str [50],str [50]]) I (by rw[←De];rfl) ?_
        refine Aa (Ab (wX (wZ (wB 4 I I I (Aa (Ab (wX (wZ ?_))))))))
        refine AY [50] [50] [50] [50] I I I I I ?_;refine Al 77 (.bool true) I I ?_
        refine Aa (Ab (wX (wZ (wP I (Aa (Ab (wX (wZ (wP I (Aa (Ab ?_)))))))))))
        refine AI I (by((repeat (first|refine AN.same ?_|refine AN.off I ?_));exact tO)) ?_
        exact Ag () ⟨I,tO⟩ [] (by decide) I
    ·refine wI I I (by decide) (by decide) (Aa (Ab (wX ?_)))
     refine RS.cons ?_ (RS.cons ?_ (RS.nil))
     ·refine wB 3 I I I (Aa (Ab (wX (wZ ?_))))
      refine wB 0 I I I ?_;refine Al 69 (.agg #[str [48],str [48]]) I (by rw[←Ka];rfl) ?_
      refine Aa (Ab (wX (wZ ?_)))
      refine AY [48] [48] [48] [48] I I I I I ?_;refine Al 70 (.bool true) I I ?_
      refine Aa (Ab (wX (wZ (wP I (Aa (Ab (wX (wZ (wP I (Aa (Ab (wX ?_))))))))))))
      refine RS.cons ?_ (RS.cons ?_ (RS.nil))
      ·refine wB 4 I I I (Aa (Ab (wX (wZ (wP I (Aa (Ab (wX (wZ (wI I I (by decide) (by decide) (Aa (Ab (wX ?_)))))))))))))
       refine wZ ?_
       refine wB 0 I I I ?_;refine Al 76 (.agg #[str [50],str [50]]) I (by rw[←De];rfl) ?_
       refine Aa (Ab (wX (wZ ?_)))
       refine AY [50] [50] [50] [50] I I I I I ?_;refine Al 77 (.bool true) I I ?_
       refine Aa (Ab (wX (wZ (wP I (Aa (Ab (wX (wZ (wP I (Aa (Ab ?_)))))))))))
       refine AI I (by((repeat (first|refine AN.same ?_|refine AN.off I ?_));exact tO)) ?_
       exact Ag () ⟨I,tO⟩ [] (by decide) I
      ·refine wP I (Aa (Ab (wX ?_)))
       refine RS.cons ?_ (RS.cons ?_ (RS.nil))
       ·refine wB 4 I I I (Aa (Ab (wX (wZ (wI I I (by decide) (by decide) (Aa (Ab (wX (wZ ?_)))))))))
        refine wB 0 I I I ?_;refine Al 76 (.agg #[str [50],str [50]]) I (by rw[←De];rfl) ?_
        refine Aa (Ab (wX (wZ ?_)))
        refine AY [50] [50] [50] [50] I I I I I ?_;refine Al 77 (.bool true) I I ?_
        refine Aa (Ab (wX (wZ (wP I (Aa (Ab (wX (wZ (wP I (Aa (Ab ?_)))))))))))
        refine AI I (by((repeat (first|refine AN.same ?_|refine AN.off I ?_));exact tO)) ?_
        exact Ag () ⟨I,tO⟩ [] (by decide) I
       ·refine wI I I (by decide) (by decide) (Aa (Ab (wX ?_)))
        refine RS.cons ?_ (RS.cons ?_ (RS.nil))
        ·refine wB 4 I I I (Aa (Ab (wX (wZ ?_))))
         refine wB 0 I I I ?_;refine Al 76 (.agg #[str [50],str [50]]) I (by rw[←De];rfl) ?_
         refine Aa (Ab (wX (wZ ?_)))
         refine AY [50] [50] [50] [50] I I I I I ?_;refine Al 77 (.bool true) I I ?_
         refine Aa (Ab (wX (wZ (wP I (Aa (Ab (wX (wZ (wP I (Aa (Ab ?_)))))))))))
         refine AI I (by((repeat (first|refine AN.same ?_|refine AN.off I ?_));exact tO)) ?_
         exact Ag () ⟨I,tO⟩ [] (by decide) I
        ·refine wB 0 I I I ?_;refine Al 76 (.agg #[str [50],str [50]]) I (by rw[←De];rfl) ?_
         refine Aa (Ab (wX (wZ (wB 4 I I I (Aa (Ab (wX (wZ ?_))))))))
         refine AY [50] [50] [50] [50] I I I I I ?_;refine Al 77 (.bool true) I I ?_
         refine Aa (Ab (wX (wZ (wP I (Aa (Ab (wX (wZ (wP I (Aa (Ab ?_)))))))))))
         refine AI I (by((repeat (first|refine AN.same ?_|refine AN.off I ?_));exact tO)) ?_
         exact Ag () ⟨I,tO⟩ [] (by decide) I
     ·refine wB 0 I I I ?_;refine Al 69 (.agg #[str [48],str [48]]) I (by rw[←Ka];rfl) ?_
      refine Aa (Ab (wX (wZ (wB 3 I I I (Aa (Ab (wX (wZ ?_))))))))
      refine AY [48] [48] [48] [48] I I I I I ?_;refine Al 70 (.bool true) I I ?_
      refine Aa (Ab (wX (wZ (wP I (Aa (Ab (wX (wZ (wP I (Aa (Ab (wX ?_))))))))))))
      refine RS.cons ?_ (RS.cons ?_ (RS.nil))
      ·refine wB 4 I I I (Aa (Ab (wX (wZ (wP I (Aa (Ab (wX (wZ (wI I I (by decide) (by decide) (Aa (Ab (wX ?_)))))))))))))
       refine wZ ?_
       refine wB 0 I I I ?_;refine Al 76 (.agg #[str [50],str [50]]) I (by rw[←De];rfl) ?_
       refine Aa (Ab (wX (wZ ?_)))
       refine AY [50] [50] [50] [50] I I I I I ?_;refine Al 77 (.bool true) I I ?_
       refine Aa (Ab (wX (wZ (wP I (Aa (Ab (wX (wZ (wP I (Aa (Ab ?_)))))))))))
       refine AI I (by((repeat (first|refine AN.same ?_|refine AN.off I ?_));exact tO)) ?_
       exact Ag () ⟨I,tO⟩ [] (by decide) I
      ·refine wP I (Aa (Ab (wX ?_)))
       refine RS.cons ?_ (RS.cons ?_ (RS.nil))
       ·refine wB 4 I I I (Aa (Ab (wX (wZ (wI I I (by decide) (by decide) (Aa (Ab (wX (wZ ?_)))))))))
        refine wB 0 I I I ?_;refine Al 76 (.agg #[str [50],str [50]]) I (by rw[←De];rfl) ?_
        refine Aa (Ab (wX (wZ ?_)))
        refine AY [50] [50] [50] [50] I I I I I ?_;refine Al 77 (.bool true) I I ?_
        refine Aa (Ab (wX (wZ (wP I (Aa (Ab (wX (wZ (wP I (Aa (Ab ?_)))))))))))
        refine AI I (by((repeat (first|refine AN.same ?_|refine AN.off I ?_));exact tO)) ?_
        exact Ag () ⟨I,tO⟩ [] (by decide) I
       ·refine wI I I (by decide) (by decide) (Aa (Ab (wX ?_)))
        refine RS.cons ?_ (RS.cons ?_ (RS.nil))
        ·refine wB 4 I I I (Aa (Ab (wX (wZ ?_))))
         refine wB 0 I I I ?_;refine Al 76 (.agg #[str [50],str [50]]) I (by rw[←De];rfl) ?_
         refine Aa (Ab (wX (wZ ?_)))
         refine AY [50] [50] [50] [50] I I I I I ?_;refine Al 77 (.bool true) I I ?_
         refine Aa (Ab (wX (wZ (wP I (Aa (Ab (wX (wZ (wP I (Aa (Ab ?_)))))))))))
         refine AI I (by((repeat (first|refine AN.same ?_|refine AN.off I ?_));exact tO)) ?_
         exact Ag () ⟨I,tO⟩ [] (by decide) I
        ·refine wB 0 I I I ?_;refine Al 76 (.agg #[str [50],str [50]]) I (by rw[←De];rfl) ?_
         refine Aa (Ab (wX (wZ (wB 4 I I I (Aa (Ab (wX (wZ ?_))))))))
         refine AY [50] [50] [50] [50] I I I I I ?_;refine Al 77 (.bool true) I I ?_
         refine Aa (Ab (wX (wZ (wP I (Aa (Ab (wX (wZ (wP I (Aa (Ab ?_)))))))))))
         refine AI I (by((repeat (first|refine AN.same ?_|refine AN.off I ?_));exact tO)) ?_
         exact Ag () ⟨I,tO⟩ [] (by decide) I
 intro _
 exact zE (zO (wR1 I I I))
-- BOXES 8
-- CODE2
def KK (V:Vec):Option Addr:=V.p.map fun g=>⟨g,0,none⟩
def MD (V:Vec):Nat:=match V.p with
 |none=>0
 |some _=>V.cap
theorem Lk {V:Vec} {l:List Ah} (h:V.OK 2 l.length (ptC l)):V.val l.length=slv (KK V) l.length (MD V):=by
 obtain⟨p,c,j⟩:=V
 cases p with
 |none=>
  have e:l.length=0:=h.nil rfl
  rw[e];rfl
 |some g=>rfl
theorem OB {W0 W:World} {bxs:List Bx} (hp:Hp W0 bxs W) (k:Nat) {V:Vec} {l:List Ah} (h:V.OK 2 l.length (ptC l)) (hk:nth bxs k=some (V.bx 35 (ptC l))):BU W (KK V) l:=by
 obtain⟨p,c,j⟩:=V
 cases p with
 |none=>
  have e:l.length=0:=h.nil rfl
  exact .inl (List.length_eq_zero_iff.1 e)
 |some g=>exact BU.of_row (Ar.of_bx hp k hk rfl)
-- BOXES 5
-- CODE2
theorem JY.of {p q r:Ah} (h:Wb p q r):JY p q r:=
 ⟨DY.2 ⟨⟨h.s1.c1,h.s1.c2⟩,h.s1.sub,h.s1.d⟩,DY.2 ⟨⟨h.s2.c1,h.s2.c2⟩,h.s2.sub,h.s2.d⟩,DY.2 ⟨⟨h.s3.c1,h.s3.c2⟩,h.s3.sub,h.s3.d⟩,DY.2 ⟨⟨h.s4.c1,h.s4.c2⟩,h.s4.sub,h.s4.d⟩,⟨h.m1.n,h.m1.d⟩,⟨h.m2.n,h.m2.d⟩,⟨h.o.c1,h.o.c2⟩⟩
theorem Hi {l:List Ah} (h:H3 36 l):Ez l:=fun a ha b hb=>by
 have h0:0<l.length:=by omega
 have pa:=h.at_ h0 a
 have pb:=h.at_ h0 b
 have s1:=sz2 pa.1 pb.1 (by decide)
 have s2:=sz2 pa.2 pb.2 (by decide)
 exact⟨⟨s1.c1,s1.c2⟩,⟨s2.c1,s2.c2⟩,fun d _=>JY.of (QP pa pb (h.at_ h0 d) (by decide))⟩
theorem LM (p q:Ah) (z1:Sz2 p.1 q.1) (z2:Sz2 p.2 q.2) (W:World) (ht:Bc W):
  Ap Tryz.prog 80 #[cvV p,cvV q] W (fun _:Unit=> .tuple #[.int .i64 (GP p q), .int .i64 0]) (fun _=>True) (fun _=>[]):=by
 refine Ae (args:=[cvV p,cvV q]) Tryz.func80 I I I ?_
 refine zA (zB ?_)
 (refine AD rfl rfl rfl rfl ?_;intro)
 (refine AD rfl rfl rfl rfl ?_;intro)
 refine wP I (wP I (Aa (zE (zA (zB (wP I (wB 0 I I I (wP I (wB 1 I I I ?_)))))))))
 rcases EZ p.1 q.1 with e|e|e
 ·refine wC I I (fun W1 hp=>(Gf p.1 q.1 z1 W1 (ht.hp hp)).cast (v':= .tuple #[.int .i64 (-1), .int .i64 0]) (by rw[e])) ?_
  iterate 5 refine wP I ?_
  refine Aa (zE (zA (zA (zB (wP I (wP I (wP I ?_)))))))
  iterate 2 refine Aw I I ?_
  exact wP I (Aa (zE (zR I (zA (zB (wP I (wP I (wP I (wP I (Aa (zE (zO (zP (wR2 I I (by rw[GP,e,if_neg (by decide)])))))))))))))))
 ·refine wC I I (fun W1 hp=>(Gf p.1 q.1 z1 W1 (ht.hp hp)).cast (v':= .tuple #[.int .i64 0, .int .i64 0]) (by rw[e])) ?_
  iterate 5 refine wP I ?_
  refine Aa (zE (zA (zA (zB ?_))))
  iterate 6 refine wP I ?_
  refine Aa (zE (zS I (zI (zE (zA (zB (wP I (wB 0 I I I (wP I (wB 1 I I I (wC I I (fun W1 hp=>Gf p.2 q.2 z2 W1 (ht.hp hp)) (wP I (wP I (wP I (wP I ?_)))))))))))))))
  exact Aa (zE (zO (wR2 I I (by rw[GP,if_pos e]))))
 ·refine wC I I (fun W1 hp=>(Gf p.1 q.1 z1 W1 (ht.hp hp)).cast (v':= .tuple #[.int .i64 1, .int .i64 0]) (by rw[e])) ?_
  iterate 5 refine wP I ?_
  refine Aa (zE (zA (zA (zB (wP I (wP I (wP I ?_)))))))
  iterate 2 refine Aw I I ?_
  exact wP I (Aa (zE (zR I (zA (zB (wP I (wP I (wP I (wP I (Aa (zE (zO (zP (wR2 I I (by rw[GP,e,if_neg (by decide)])))))))))))))))
theorem JT (p q:Ah) (z1:Sz2 p.1 q.1) (z2:Sz2 p.2 q.2) (W:World) (ht:Bc W):
  Ap Tryz.prog 28 #[cvV p,cvV q] W (fun _:Unit=> .int .i64 (GP p q)) (fun _=>True) (fun _=>[]):=by
 refine Ae (args:=[cvV p,cvV q]) Tryz.func28 I I I ?_
 refine zA (zB ?_)
 (refine AD rfl rfl rfl rfl ?_;intro)
 (refine AD rfl rfl rfl rfl ?_;intro)
 refine wP I (Aa (zE (zA (zB (wB 0 I I I (wB 1 I I I (wC I I (fun W1 hp=>LM p q z1 z2 W1 (ht.hp hp)) ?_)))))))
 iterate 5 refine wP I ?_
 exact Aa (zE (zA (zB (wP I (wP I (Aa (zE (zO (wR1 I I I)))))))))
section
variable {r:Option Nat} {n:Nat} {P:Program} {W0:World} {N:Nat} {D:List Deferred} {Q:Exit→Act→World→Prop} {env:Env} {bxs:List Bx}
end
-- BOXES 8
-- CODE2
theorem Uo {p q:Ah} (h:A4 p q):decide (GP p q<0)=true:=(Dj p q).trans (Br.2 h)
-- BOXES 9
-- CODE2
theorem R6 {q:Rat} {k:Nat} (hk:0<k) (h:(Af q).length≤k):szQ q k:=by
 have hi:(itoa q.num).length≤k∧(decDigits q.den).length≤k:=by
  unfold Af FJ at h
  split at h
  ·rename_i e
   exact⟨h,by rw[e];exact Nat.le_trans (Gl 1 1 (by decide) (by decide)) hk⟩
  ·rw[List.length_append,List.length_cons] at h
   omega
 have h2:(decDigits q.num.natAbs).length≤k:=by
  have h1:=hi.1
  rw[CX,List.length_append] at h1
  omega
 exact⟨Nat.lt_of_lt_of_le (FM _) (Nat.pow_le_pow_right (by decide) h2),Nat.lt_of_lt_of_le (FM _) (Nat.pow_le_pow_right (by decide) hi.2)⟩
end
section
theorem JJ {H:List Ah} (hH:Df H) {i j:Nat} (hij:i<j) (hj:j<H.length):Ac H i≠Ac H j:=by
 have h:=Vb hH hij hj (t:=0) (s:=0) (by decide) Rat.le_refl (by decide)
 unfold Gw at h
 rw[K3,K3] at h
 exact h
end
section
open Go Go.RowKit Go.Am Go.Lib
set_option maxRecDepth 10000
-- BOXES 5
-- CODE2
theorem Lv (g:Nat) (hE:Bd Tryz.prog g=true) (capt:List Value) (F:PtS→Bool) (xs:List PtS) (hn:xs.length≤100000) (p:Option Addr) (cap:Nat) (W:World) (hg: ∀x∈xs, ∀W1,Below W.heap.size W W1→Ap Tryz.prog g ([Value.agg #[str x.1,str x.2]]++capt).toArray W1 (fun _:Unit=> .bool (F x)) (fun _=>True) (fun _=>[])) (hS:GN W p xs):
  Ap Tryz.prog 81 #[slv p xs.length cap, .func (.func g) #[] capt.toArray] W (fun z:Int=> .int .i64 z) (fun z=>0≤z↔xs.any F=true) (fun _=>[]):=by
 refine Ae (args:=[slv p xs.length cap, .func (.func g) #[] capt.toArray]) Tryz.func81 I I I ?_
 refine zA (zB (wP I (Aa (zE (zA (zA (zB (wP I (wP I (wP I (Aa (zE (zH ?_)))))))))))))
 refine A9 (X:=Nat) (fun i=>[(0,slv p xs.length cap),(1, .func (.func g) #[] capt.toArray),(6,slv p xs.length cap),(7, .int .i64 (xs.length:Nat)),(8, .int .i64 (i:Nat))]) (fun _=>[]) (fun i=>i≤xs.length∧xs.any F=(xs.drop i).any F) (fun i=>xs.length-i) 0 ⟨Nat.zero_le _,by rw[List.drop_zero]⟩ ⟨I,I,I,I,I,tO⟩ [] I ?_
 intro i hi
 obtain⟨hi,hA⟩:i≤xs.length∧xs.any F=(xs.drop i).any F:=hi
 refine zA (zB (wP I ?_))
 by_cases hlt:i<xs.length
 rotate_left
 ·refine wU 9 false I (dF (by omega)) (Aa (zE (zA (zS I (zJ (zK (zK (zL (zE (zA (zB (wP I (Aa ?_)))))))))))))
  refine zE (zO ?_)
  rw[List.drop_of_length_le (by omega)] at hA
  exact A8 tH I (.tmp I) (-1:Int) I (by rw[hA];exact⟨fun h=>absurd h (by decide),fun h=>absurd (show false=true from h) (by decide)⟩) fun W _=>A3.nil _ _
 refine wU 9 true I (dT (by omega)) (Aa (zE (zA (zR I (zI (zE (zA (zH (zA (zB ?_))))))))))
 obtain⟨b,off,rfl,hrow⟩: ∃b off,p=some ⟨b,off,none⟩∧ ∀i (hi:i<xs.length),Ar W b (off+i*2) [str xs[i].1,str xs[i].2]:=by
  rcases hS with h|h
  ·rw[h] at hlt;exact absurd hlt (by simp)
  ·exact h
 have hr:=hrow i hlt
 rw[Jw hlt] at hA
 have hxm:xs[i]∈xs:=List.getElem_mem _
 obtain⟨x,hq⟩: ∃x,x=xs[i]:=⟨_,rfl⟩
 rw[←hq] at hr hA hxm
 refine wP I (wP I (Aa (zE (zA (zB (wP I (wP I (wP I ?_))))))))
 refine wJ ?_
 refine wL 0 I I (fun W1 hp=>hr.hp hp) I ?_
 refine AW (capt:=capt) I I I I I I hE (fun W1 hp=>hg x hxm W1 hp.below) ?_
 refine Aa (zE ?_)
 refine AA I (fun hc=> ?_) (fun hc=> ?_)
 ·have hc:F x=true:=hc
  exact zA (zB (wP I (wP I (Aa (zE (zO (zQ (zP (zP (zQ (zP (A8 tH I (.tmp I) ((i:Nat):Int) I ⟨fun _=>by rw[hA,hc];rfl,fun _=>by omega⟩ fun W _=>A3.nil _ _))))))))))))
 ·have hc:F x=false:=hc
  rw[hc,Bool.false_or] at hA
  exact zI (zN (zE (zB (wP I (wV 18 ((i+1:Nat):Int) I (Av (by omega)) (wP I (Aa (A0 (i+1) ⟨hlt,hA⟩ (by show xs.length-(i+1)<xs.length-i;omega) ⟨I,I,I,I,I,tO⟩ [] I))))))))
theorem F1 (g:Nat) (hE:Bd Tryz.prog g=true) (capt:List Value) (F:PtS→Bool) (xs:List PtS) (hn:xs.length≤100000) (p:Option Addr) (cap:Nat) (W:World) (hg: ∀x∈xs, ∀W1,Below W.heap.size W W1→Ap Tryz.prog g ([Value.agg #[str x.1,str x.2]]++capt).toArray W1 (fun _:Unit=> .bool (F x)) (fun _=>True) (fun _=>[])) (hS:GN W p xs):
  Ap Tryz.prog 29 #[slv p xs.length cap, .func (.func g) #[] capt.toArray] W (fun _:Unit=> .bool (xs.any F)) (fun _=>True) (fun _=>[]):=by
 refine Ae (args:=[slv p xs.length cap, .func (.func g) #[] capt.toArray]) Tryz.func29 I I I ?_
 refine zA (zB (wP I (Aa (zE (zA (zB (wP I (wP I ?_))))))))
 refine wD (X:=Int) I I (fun W1 hp=>Lv g hE capt F xs hn p cap W1 (fun x hx W2 h2=>hg x hx W2 (hp.below.trans (h2.mono hp.below.size))) (hS.hp hp)) ?_
 intro z hz
 have hz:0≤z↔xs.any F=true:=hz
 refine wP I ?_
 refine Al 8 (.bool (xs.any F)) I (congrArg Value.bool (by
  cases h:xs.any F with
  |true=>exact dT (hz.2 h)
  |false=>exact dF fun h2=>by rw[hz.1 h2] at h;cases h)) ?_
 exact wP I (Aa (zE (zO (wR1 I I I))))
def J3 (x:PtS):Bool:=decide (12<max x.1.length x.2.length)||(decide ((rdR x.1).2≠0)||decide ((rdR x.2).2≠0))
theorem Nd (x:PtS) (hx:x.1.length≤604∧x.2.length≤604) (W:World) (ht:Bc W):Ap Tryz.prog 30 #[.agg #[str x.1,str x.2]] W (fun _:Unit=> .bool (J3 x)) (fun _=>True) (fun _=>[]):=by
 obtain⟨e1,h1⟩: ∃e,e=(rdR x.1).2:=⟨_,rfl⟩
 obtain⟨e2,h2⟩: ∃e,e=(rdR x.2).2:=⟨_,rfl⟩
 have ev:J3 x=(decide (12<max x.1.length x.2.length)||(decide (e1≠0)||decide (e2≠0))):=by rw[h1,h2];rfl
 rw[ev]
 have nb: ∀e:Int,(e !=0)=decide (e≠0):=fun e=>by
  by_cases c:e=0
  ·subst c;rfl
  ·rw[dT c];exact bne_iff_ne.2 c
 refine Ae (args:=[.agg #[str x.1,str x.2]]) Tryz.func30 I I I ?_
 refine zA (zB ?_)
 (refine AD rfl rfl rfl rfl ?_;intro)
 refine wP I (Aa (zE (zA (zB (wP I (wB 0 I I I (wP I ?_)))))))
 refine Al 5 (.int .i64 (x.1.length:Nat)) I (congrArg (fun n:Nat=>Value.int .i64 (n:Int)) (AH _)) ?_
 refine wP I (wB 0 I I I (wP I ?_))
 refine Al 8 (.int .i64 (x.2.length:Nat)) I (congrArg (fun n:Nat=>Value.int .i64 (n:Int)) (AH _)) ?_
 refine wP I (wV 9 (max x.1.length x.2.length:Nat) I (by split<;>omega) (wP I (wU 10 (decide (12<max x.1.length x.2.length)) I (decide_eq_decide.2 (by omega)) ?_)))
 cases hl:decide (12<max x.1.length x.2.length) with
 |true=>
  refine wP I ?_
  iterate 4 refine Aw I I ?_
  refine wP I (wP I ?_)
  iterate 4 refine Aw I I ?_
  exact wP I (wP I (Aa (zE (zO (wR1 I I I)))))
 |false=>
  refine wP I (wP I (wB 0 I I I ?_))
  refine AW (capt:=[]) I I I I I I (by kernel_rfl) (fun W1 hp=>by have h:=Gd x.1 (by omega) W1 (ht.hp hp);rw[←h1] at h;exact h) ?_
  refine wP I (wU 15 (decide (e1≠0)) I (nb e1) ?_)
  cases he:decide (e1≠0) with
  |true=>
   refine wP I (wP I ?_)
   iterate 4 refine Aw I I ?_
   exact wP I (wP I (Aa (zE (zO (wR1 I I I)))))
  |false=>
   refine wP I (wP I (wP I (wB 0 I I I ?_)))
   refine AW (capt:=[]) I I I I I I (by kernel_rfl) (fun W1 hp=>by have h:=Gd x.2 (by omega) W1 (ht.hp hp);rw[←h2] at h;exact h) ?_
   exact wP I (wU 21 (decide (e2≠0)) I (nb e2) (wP I (wP I (Aa (zE (zO (wR1 I I (by rw[Bool.false_or,Bool.false_or]))))))))
theorem LV (l:List Ah) (q:Ah) (hn:l.length≤100000) (p:Option Addr) (cap:Nat) (W:World) (hA:BU W p l):
  Ap Tryz.prog 87 #[slv p l.length cap,cvV q] W (fun z:Int=> .int .i64 z) (fun z=>q∈l→0≤z) (fun _=>[]):=by
 refine Ae (args:=[slv p l.length cap,cvV q]) Tryz.func87 I I I ?_
 refine zA (zB ?_)
 (refine AD rfl rfl rfl rfl ?_;intro)
 refine wP I (Aa ?_)
 rename_i b3
 refine zE (zA (zA (zB (wP I (wP I (wP I (Aa (zE (zH ?_)))))))))
 refine A9 (X:=Nat) (fun i=>[(0,slv p l.length cap),(3,An b3),(7, .int .i64 (l.length:Nat)),(8, .int .i64 (i:Nat))]) (fun _=>[ptB b3 (Af q.1) (Af q.2)]) (fun i=>i≤l.length∧(q∈l→q∈l.drop i)) (fun i=>l.length-i) 0 ⟨Nat.zero_le _,fun h=>by rw[List.drop_zero];exact h⟩ ⟨I,I,I,I,tO⟩ [] I ?_
 intro i hi
 obtain⟨hi,hA2⟩:i≤l.length∧(q∈l→q∈l.drop i):=hi
 refine zA (zB (wP I ?_))
 by_cases hlt:i<l.length
 rotate_left
 ·refine wU 9 false I (dF (by omega)) (Aa (zE (zA (zS I (zJ (zK (zK (zL (zE (zA (zB (wP I (Aa ?_)))))))))))))
  refine zE (zO ?_)
  rw[List.drop_of_length_le (by omega)] at hA2
  exact A8 tH I (.tmp I) (-1:Int) I (fun h=>absurd (hA2 h) List.not_mem_nil) fun W _=>A3.nil _ _
 refine wU 9 true I (dT (by omega)) (Aa (zE (zA (zR I (zI (zE (zA (zH (zA (zB (wP I (wP I (Aa ?_)))))))))))))
 obtain⟨g,off,rfl,hrow⟩:=hA.at_ (show 0<l.length by omega)
 have hr:=hrow i hlt
 have hd:l.drop i=l[i]::l.drop (i+1):=List.drop_eq_getElem_cons hlt
 rw[hd] at hA2
 obtain⟨x,hx⟩: ∃x,x=l[i]:=⟨_,rfl⟩
 rw[←hx] at hr hA2
 refine zE (Au (zU (qB 0 I I I (qP I (qP I ?_)))))
 refine qJ ?_
 refine qL 0 I I (fun W1 hp=>hr.hp hp) I ?_
 refine R5 (Af q.1) (Af q.2) (Af x.1) (Af x.2) I I I I I ?_
 refine qU 16 (decide (q=x)) I NL (AJ (Aa (zE ?_)))
 refine AA I (fun hq=> ?_) (fun hq=> ?_)
 ·exact zA (zB (wP I (wP I (Aa (zE (zO (zQ (zP (zP (zQ (zP (A8 tH I (.tmp I) ((i:Nat):Int) I (fun _=>by omega) fun W _=>A3.nil _ _))))))))))))
 ·have hq:=of_decide_eq_false hq
  refine zI (zN (zE (zB (wP I (wV 18 ((i+1:Nat):Int) I (Av (by omega)) (wP I (Aa ?_)))))))
  exact A0 (i+1) ⟨hlt,fun h=>by
   rcases List.mem_cons.1 (hA2 h) with c|c
   ·exact absurd c hq
   ·exact c⟩ (by show l.length-(i+1)<l.length-i;omega) ⟨I,I,I,I,tO⟩ [] I
theorem Jr (l:List Ah) (q:Ah) (hq:q∈l) (hn:l.length≤100000) (p:Option Addr) (cap:Nat) (W:World) (hA:BU W p l):
  Ap Tryz.prog 33 #[slv p l.length cap,cvV q] W (fun _:Unit=> .bool true) (fun _=>True) (fun _=>[]):=by
 refine Ae (args:=[slv p l.length cap,cvV q]) Tryz.func33 I I I ?_
 refine zA (zB ?_)
 (refine AD rfl rfl rfl rfl ?_;intro)
 refine wP I (Aa (zE (zA (zB (wP I (wB 0 I I I ?_))))))
 refine wD (X:=Int) I I (fun W1 hp=>LV l q hn p cap W1 (hA.hp hp)) ?_
 intro z hz
 have hz:0≤z:=hz hq
 exact wP I (wU 8 true I (dT hz) (wP I (Aa (zE (zO (wR1 I I I))))))
theorem MO (l:List Ah) (q:Ah) (hq:q∈l) (hn:l.length≤100000) (p:Option Addr) (cap b:Nat) (W:World) (hA:BU W p l) (hb:Ar W b 0 [slv p l.length cap]):
  Ap Tryz.prog 32 #[cvV q,An b] W (fun _:Unit=> .bool false) (fun _=>True) (fun _=>[]):=by
 refine Ae (args:=[cvV q,An b]) Tryz.func32 I I I ?_
 refine zA (zB ?_)
 (refine AD rfl rfl rfl rfl ?_;intro)
 refine wP I (Aa (zE (zA (zB (wL 0 I I (fun W1 hp=>hb.hp hp) I (wB 0 I I I ?_))))))
 refine AW (capt:=[]) I I I I I I (by kernel_rfl) (fun W1 hp=>Jr l q hq hn p cap W1 (hA.hp hp)) ?_
 exact wP I (wP I (Aa (zE (zO (wR1 I I I)))))
theorem Na (p:Option Addr) (cap:Nat) (W:World):Ap Tryz.prog 26 #[slv p 0 cap] W (fun _:Unit=> .tuple #[.slice none 0 0, .int .i64 5]) (fun _=>True) (fun _=>[]):=by
 refine Ae (args:=[slv p 0 cap]) Tryz.func26 I I I ?_
 refine zA (zB (wP I (wP I (Aa (zE (zA (zH (zA (zB (wP I (wP I (wP I ?_))))))))))))
 refine Al 13 (.bool true) I I ?_
 exact wP I (Aa (zE (zR I (zA (zB (wP I (wP I (Aa (zE (zO (zQ (zP (wR2 I I I)))))))))))))
theorem Pv: ∀ {l:List PtS},(∀x∈l,(rdR x.1).2=0∧(rdR x.2).2=0)→I1 l=0
 |[],_=>rfl
 |x::l,h=>by
  have hx:=h x List.mem_cons_self
  show(if (rdR x.1).2≠0 then(rdR x.1).2 else if (rdR x.2).2≠0 then(rdR x.2).2 else I1 l)=0
  rw[hx.1,hx.2,if_neg (by simp),if_neg (by simp)]
  exact Pv fun y hy=>h y (List.mem_cons_of_mem _ hy)
theorem WM {xs:List PtS} (h1:HC xs=false) (h2:xs.any J3=false): ∃l:List Ah,xs=l.map cvS∧l.length≤8∧(∀x∈l,okP x)∧H3 36 l:=by
 have hb: ∀x∈xs,max x.1.length x.2.length≤12∧(rdR x.1).2=0∧(rdR x.2).2=0:=fun x hx=>by
  have h:=List.any_eq_false.1 h2 x hx
  have h:J3 x=false:=by cases e:J3 x with
   |true=>exact absurd e h
   |false=>rfl
  unfold J3 at h
  rw[Bool.or_eq_false_iff,Bool.or_eq_false_iff] at h
  have a:=of_decide_eq_false h.1
  have b:=of_decide_eq_false h.2.1
  have c:=of_decide_eq_false h.2.2
  exact⟨by omega,Decidable.not_not.1 b,Decidable.not_not.1 c⟩
 obtain⟨l,rfl,hok⟩:=MB (Pv fun x hx=>(hb x hx).2)
 have h8:=(KW h1).1
 rw[List.length_map] at h8
 refine⟨l,I,h8,hok,fun x hx=> ?_⟩
 have h:=(hb (cvS x) (List.mem_map_of_mem hx)).1
 have h:max (Af x.1).length (Af x.2).length≤12:=h
 exact⟨R6 (by decide) (by omega),R6 (by decide) (by omega)⟩
theorem Uv: ∀ {H l:List Ah},H.Pairwise (· ≠ ·)→(∀x∈H,x∈l)→H.length≤l.length
 |[],_,_,_=>Nat.zero_le _
 |x::H,l,hp,h=>by
  have⟨h1,h2⟩:=List.pairwise_cons.1 hp
  have hx:=h x List.mem_cons_self
  have:=Uv (l:=l.erase x) h2 fun y hy=>(List.mem_erase_of_ne (h1 y hy).symm).2 (h y (List.mem_cons_of_mem _ hy))
  rw[List.length_erase_of_mem hx] at this
  have:=List.length_pos_of_mem hx
  rw[List.length_cons]
  omega
theorem TJ {l:List Ah} (hne:l≠[]):(∀p∈DT l,p∈l)∧(3≤(DT l).length→Df (DT l)∧(DT l).length≤l.length∧DK (DT l)∧ ∀m,(∀p∈DT l,p∈m)→(∀x∈m,x∈l)→DT m=DT l):=by
 have hs:=(FG (Es l)).1
 have hm:=GL l
 obtain⟨S,hS⟩: ∃S,S=FU (BF l):=⟨_,rfl⟩
 have eH:DT l=BE S:=by rw[hS];rfl
 rw[←hS] at hs hm
 have h0:S≠[]:=fun h=>by
  obtain⟨x,t,rfl⟩: ∃x t,l=x::t:=by
   cases l with
   |nil=>exact absurd rfl hne
   |cons x t=>exact⟨x,t,rfl⟩
  have:=(hm x).2 List.mem_cons_self
  rw[h] at this
  exact absurd this List.not_mem_nil
 obtain⟨a,b, -⟩:=I7 hs h0
 rw[←eH] at a b
 refine⟨fun p hp=>(hm p).1 (a p hp),fun h3=> ?_⟩
 obtain⟨b1,b2,b3⟩:=b h3
 have hmem: ∀p∈DT l,p∈l:=fun p hp=>(hm p).1 (a p hp)
 refine⟨b1,Uv ?_ hmem,b3,fun m h1 h2=> ?_⟩
 ·refine List.pairwise_iff_getElem.2 fun i j hi hj hij=> ?_
  have:=JJ b1 hij hj
  rwa [AF hi,AF hj] at this
 ·refine QC (FG (Es m)).1 (fun h=> ?_) b1 b3 (fun p hp=>(GL m p).2 (h1 p hp)) fun x hx=>b2 x ((hm x).2 (h2 x ((GL m x).1 hx)))
  have:=(GL m _).2 (h1 _ (AK (l:=DT l) (by omega) 0))
  rw[h] at this
  exact absurd this List.not_mem_nil
end
end Go.Proofs.YthndmdimmgkpgaaGreatDoor
