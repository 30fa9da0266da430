/-
  Lemmas that the theorem journalDamage_upto_card needs (part 7 of 8).
-/
import Derived.Test.YtidgbjcdppjknaaGreatDoorJdf
set_option maxHeartbeats 64000000
namespace Go.Proofs.YtidgbjcdppjknaaGreatDoor
section
open Go Go.RowKit Go.Am Go.Lib
set_option maxRecDepth 10000
def Ch (e:EdS):List Int:=[e.ix,e.x,e.y,e.ri,e.ru,e.pl,e.ov,e.op.s,e.sz.k,e.sz.w,e.sz.d,e.br.w,e.br.d,e.br.l,e.br.n,e.br.c,e.ld.k,e.ld.s,e.al.w,e.al.d,e.al.s,e.al.l,e.al.n,e.tw,e.tl,e.tp,e.tt,e.nb]
def BM (e:EdS):List (List UInt8):=[e.op.l,e.op.r,e.op.o,e.op.i,e.ld.w,e.tx]
structure EdI (e:EdS):Prop where
 i: ∀n∈Ch e,Bt n
 s: ∀w∈BM e,w.length<=1000000
theorem Nm (b:Nat) (e:EdS) (q:Option Addr) (cap:Nat) (hk:e.k=1) (hi:EdI e) (Wb W:World) (hb0:Below Wb.heap.size Wb W) (hO:Go.Am.Own Wb.heap.size [Ad (wrL b (.pointer none) Vec.empty [] 0 0)] W):
  A0 Tryz.prog Wb.heap.size 117 [Af b, .agg (edV e q cap).toArray] W (wrL b (.pointer none) Vec.empty [] 0 0) (fun _:Value×Vec=> .tuple #[]) (fun x=>BC b x.1 x.2 (At (At [] [110,97,109,101]) e.tx)) (fun x=>wrL b x.1 x.2 (At (At [] [110,97,109,101]) e.tx) 0 0):=by
 refine A0.enterL (bs:=[Ad (wrL b (.pointer none) Vec.empty [] 0 0)]) (bs':=fun x:Value×Vec=>[Ad (wrL b x.1 x.2 (At (At [] [110,97,109,101]) e.tx) 0 0)]) hb0 hO (Ap _) (fun x=>Ap _) Tryz.func117 I I I ?_
 have h0:BC b (.pointer none) Vec.empty []:=⟨.inl rfl,Vec.OK.empty 1⟩
 refine xb<|wF I I fun _=>zC<|?_
 rename_i bE
 refine xe<|wP I<|wB 2 I I I<|wV 10 1 I hk<|xa<|zH<|xb<|Aa I<|xa<|zR I<|xb<|wP I<|Ah 1 (B:=Ad (wrL b (.pointer none) Vec.empty [] 0 0)) (X:=Vec) (fun V'=>Ad (wrL b (Af b) V' (At [] [110,97,109,101]) 0 0)) I I I I I I (by kernel_rfl) I (fun _ _=>rfl) (fun W1 hp=>AV b (.pointer none) Vec.empty [] [110,97,109,101] 0 0 h0 (by decide) Wb W1 hp.below (hp.pick [1] (by decide) I).own) ?_
 intro V1 h1
 refine BU ?_
 have hl1:=Cs [] [110,97,109,101]
 have hL1:(At [] [110,97,109,101]).length<=100:=by decide
 refine zE<|zB<|Aa I<|wB 2 I I I<|?_
 have hs2:e.tx.length<=1000000:=hi.s _ (by simp[BM])
 refine Ah 1 (B:=Ad (wrL b (Af b) V1 (At [] [110,97,109,101]) 0 0)) (X:=Vec) (fun V'=>Ad (wrL b (Af b) V' (At (At [] [110,97,109,101]) e.tx) 0 0)) I I I I I I (by kernel_rfl) I (fun _ _=>rfl) (fun W1 hp=>AV b (Af b) V1 (At [] [110,97,109,101]) e.tx 0 0 h1 (by omega) Wb W1 hp.below (hp.pick [1] (by decide) I).own) ?_
 intro V2 h2
 refine BU ?_
 have hl2:=Cs (At [] [110,97,109,101]) e.tx
 exact zN<|Cj tH I ((Af b),V2) I h2 fun W1 hp=>(hp.pick [0,1] (by decide) I).own
theorem Np (b:Nat) (e:EdS) (q:Option Addr) (cap:Nat) (hk:e.k=3) (hi:EdI e) (Wb W:World) (hb0:Below Wb.heap.size Wb W) (hO:Go.Am.Own Wb.heap.size [Ad (wrL b (.pointer none) Vec.empty [] 0 0)] W) (ht:AZ Wb):
  A0 Tryz.prog Wb.heap.size 117 [Af b, .agg (edV e q cap).toArray] W (wrL b (.pointer none) Vec.empty [] 0 0) (fun _:Value×Vec=> .tuple #[]) (fun x=>BC b x.1 x.2 (A9 (At [] [115,112,97,99,105,110,103]) [e.ix,e.nb])) (fun x=>wrL b x.1 x.2 (A9 (At [] [115,112,97,99,105,110,103]) [e.ix,e.nb]) (AK 0 [e.ix,e.nb]) 0):=by
 refine A0.enterL (bs:=[Ad (wrL b (.pointer none) Vec.empty [] 0 0)]) (bs':=fun x:Value×Vec=>[Ad (wrL b x.1 x.2 (A9 (At [] [115,112,97,99,105,110,103]) [e.ix,e.nb]) (AK 0 [e.ix,e.nb]) 0)]) hb0 hO (Ap _) (fun x=>Ap _) Tryz.func117 I I I ?_
 have h0:BC b (.pointer none) Vec.empty []:=⟨.inl rfl,Vec.OK.empty 1⟩
 refine xb<|wF I I fun _=>zC<|?_
 rename_i bE
 refine xe<|wP I<|wB 2 I I I<|wV 10 3 I hk<|xa<|zH<|xb<|Aa I<|xa<|zS I<|xb<|Aa I<|xa<|zS I<|zA<|?_
 refine zB<|Aa I<|xa<|zR I<|xb<|wP I<|Ah 1 (B:=Ad (wrL b (.pointer none) Vec.empty [] 0 0)) (X:=Vec) (fun V'=>Ad (wrL b (Af b) V' (At [] [115,112,97,99,105,110,103]) 0 0)) I I I I I I (by kernel_rfl) I (fun _ _=>rfl) (fun W1 hp=>AV b (.pointer none) Vec.empty [] [115,112,97,99,105,110,103] 0 0 h0 (by decide) Wb W1 hp.below (hp.pick [1] (by decide) I).own) ?_
 intro V1 h1
 refine BU ?_
 have hl1:=Cs [] [115,112,97,99,105,110,103]
 have hL1:(At [] [115,112,97,99,105,110,103]).length<=100:=by decide
 refine zE<|zB<|Aa I<|wB 2 I I I<|wP I<|wB 2 I I I<|?_
 (refine Ai Tryz.hZ tH rfl rfl rfl rfl rfl rfl rfl rfl rfl rfl rfl ?_;intro)
 rename_i bs2
 have hr2: ∀n∈[e.ix,e.nb],Bt n:=fun n hn=>hi.i n (by simp only[List.mem_cons,List.not_mem_nil,or_false] at hn;rcases hn with rfl|rfl<;>simp[Ch])
 refine Ah 1 (B:=Ad (wrL b (Af b) V1 (At [] [115,112,97,99,105,110,103]) 0 0)) (X:=Value×Vec) (fun x=>Ad (wrL b x.1 x.2 (A9 (At [] [115,112,97,99,105,110,103]) [e.ix,e.nb]) (AK 0 [e.ix,e.nb]) 0)) I I I I I I (by kernel_rfl) I (fun _ _=>rfl) (fun W1 hp=>BE b (Af b) V1 (At [] [115,112,97,99,105,110,103]) 0 0 h1 [e.ix,e.nb] (some ⟨bs2,0,none⟩) 2 (by simp only[List.length_cons,List.length_nil];omega) hr2 Wb W1 hp.below (hp.pick [1] (by decide) I).own (AB.of_row (junk:=[]) BH (Al.of_bx hp 3 I I)) (fun a e x hx=>by
   injection e with e
   subst e
   exact hp.own.apart 1 3 _ _ I I (by decide) x hx (bs2,_) (List.mem_cons_self ..)) ht) ?_
 rintro⟨p2,V2⟩ h2
 have h2:BC b p2 V2 (A9 (At [] [115,112,97,99,105,110,103]) [e.ix,e.nb]):=h2
 refine BU ?_
 have hL2:=Cv hr2 (At [] [115,112,97,99,105,110,103])
 simp only[List.length_cons,List.length_nil] at hL2
 exact zN<|Cj tH I (p2,V2) I h2 fun W1 hp=>(hp.pick [0,1] (by decide) I).own
theorem MZ (b:Nat) (e:EdS) (q:Option Addr) (cap:Nat) (hk:e.k=4) (hi:EdI e) (Wb W:World) (hb0:Below Wb.heap.size Wb W) (hO:Go.Am.Own Wb.heap.size [Ad (wrL b (.pointer none) Vec.empty [] 0 0)] W) (ht:AZ Wb):
  A0 Tryz.prog Wb.heap.size 117 [Af b, .agg (edV e q cap).toArray] W (wrL b (.pointer none) Vec.empty [] 0 0) (fun _:Value×Vec=> .tuple #[]) (fun x=>BC b x.1 x.2 (A9 (At [] [112,117,114,108,105,110]) [e.nb])) (fun x=>wrL b x.1 x.2 (A9 (At [] [112,117,114,108,105,110]) [e.nb]) (AK 0 [e.nb]) 0):=by
 refine A0.enterL (bs:=[Ad (wrL b (.pointer none) Vec.empty [] 0 0)]) (bs':=fun x:Value×Vec=>[Ad (wrL b x.1 x.2 (A9 (At [] [112,117,114,108,105,110]) [e.nb]) (AK 0 [e.nb]) 0)]) hb0 hO (Ap _) (fun x=>Ap _) Tryz.func117 I I I ?_
 have h0:BC b (.pointer none) Vec.empty []:=⟨.inl rfl,Vec.OK.empty 1⟩
 refine xb<|wF I I fun _=>zC<|?_
 rename_i bE
 refine xe<|wP I<|wB 2 I I I<|wV 10 4 I hk<|xa<|zH<|xb<|Aa I<|xa<|zS I<|xb<|Aa I<|xa<|zS I<|zA<|?_
 refine zB<|Aa I<|xa<|zS I<|xb<|Aa I<|xa<|zR I<|xb<|wP I<|Ah 1 (B:=Ad (wrL b (.pointer none) Vec.empty [] 0 0)) (X:=Vec) (fun V'=>Ad (wrL b (Af b) V' (At [] [112,117,114,108,105,110]) 0 0)) I I I I I I (by kernel_rfl) I (fun _ _=>rfl) (fun W1 hp=>AV b (.pointer none) Vec.empty [] [112,117,114,108,105,110] 0 0 h0 (by decide) Wb W1 hp.below (hp.pick [1] (by decide) I).own) ?_
 intro V1 h1
 refine BU ?_
 have hl1:=Cs [] [112,117,114,108,105,110]
 have hL1:(At [] [112,117,114,108,105,110]).length<=100:=by decide
 refine zE<|zB<|Aa I<|wB 2 I I I<|?_
 (refine Ai Tryz.hZ tH rfl rfl rfl rfl rfl rfl rfl rfl rfl rfl rfl ?_;intro)
 rename_i bs2
 have hr2: ∀n∈[e.nb],Bt n:=fun n hn=>hi.i n (by simp only[List.mem_cons,List.not_mem_nil,or_false] at hn;rcases hn with rfl<;>simp[Ch])
 refine Ah 1 (B:=Ad (wrL b (Af b) V1 (At [] [112,117,114,108,105,110]) 0 0)) (X:=Value×Vec) (fun x=>Ad (wrL b x.1 x.2 (A9 (At [] [112,117,114,108,105,110]) [e.nb]) (AK 0 [e.nb]) 0)) I I I I I I (by kernel_rfl) I (fun _ _=>rfl) (fun W1 hp=>BE b (Af b) V1 (At [] [112,117,114,108,105,110]) 0 0 h1 [e.nb] (some ⟨bs2,0,none⟩) 1 (by simp only[List.length_cons,List.length_nil];omega) hr2 Wb W1 hp.below (hp.pick [1] (by decide) I).own (AB.of_row (junk:=[]) BH (Al.of_bx hp 3 I I)) (fun a e x hx=>by
   injection e with e
   subst e
   exact hp.own.apart 1 3 _ _ I I (by decide) x hx (bs2,_) (List.mem_cons_self ..)) ht) ?_
 rintro⟨p2,V2⟩ h2
 have h2:BC b p2 V2 (A9 (At [] [112,117,114,108,105,110]) [e.nb]):=h2
 refine BU ?_
 have hL2:=Cv hr2 (At [] [112,117,114,108,105,110])
 simp only[List.length_cons,List.length_nil] at hL2
 exact zN<|Cj tH I (p2,V2) I h2 fun W1 hp=>(hp.pick [0,1] (by decide) I).own
theorem Nz (b:Nat) (e:EdS) (q:Option Addr) (cap:Nat) (hk:e.k=5) (hi:EdI e) (Wb W:World) (hb0:Below Wb.heap.size Wb W) (hO:Go.Am.Own Wb.heap.size [Ad (wrL b (.pointer none) Vec.empty [] 0 0)] W) (hv:DM Wb) (ht:AZ Wb):
  A0 Tryz.prog Wb.heap.size 117 [Af b, .agg (edV e q cap).toArray] W (wrL b (.pointer none) Vec.empty [] 0 0) (fun _:Value×Vec=> .tuple #[]) (fun x=>BC b x.1 x.2 (Ea (A9 (At [] [111,112,101,110,105,110,103]) [e.ix,e.op.s]) [e.op.l,e.op.r,e.op.o,e.op.i])) (fun x=>wrL b x.1 x.2 (Ea (A9 (At [] [111,112,101,110,105,110,103]) [e.ix,e.op.s]) [e.op.l,e.op.r,e.op.o,e.op.i]) (AK 0 [e.ix,e.op.s]) (FT 0 [e.op.l,e.op.r,e.op.o,e.op.i])):=by
 refine A0.enterL (bs:=[Ad (wrL b (.pointer none) Vec.empty [] 0 0)]) (bs':=fun x:Value×Vec=>[Ad (wrL b x.1 x.2 (Ea (A9 (At [] [111,112,101,110,105,110,103]) [e.ix,e.op.s]) [e.op.l,e.op.r,e.op.o,e.op.i]) (AK 0 [e.ix,e.op.s]) (FT 0 [e.op.l,e.op.r,e.op.o,e.op.i]))]) hb0 hO (Ap _) (fun x=>Ap _) Tryz.func117 I I I ?_
 have h0:BC b (.pointer none) Vec.empty []:=⟨.inl rfl,Vec.OK.empty 1⟩
 refine xb<|wF I I fun _=>zC<|?_
 rename_i bE
 refine xe<|wP I<|wB 2 I I I<|wV 10 5 I hk<|xa<|zH<|xb<|Aa I<|xa<|zS I<|xb<|Aa I<|xa<|zS I<|zA<|?_
 refine zB<|Aa I<|xa<|zS I<|xb<|Aa I<|xa<|zS I<|xb<|Aa I<|xa<|zR I<|xb<|wP I<|Ah 1 (B:=Ad (wrL b (.pointer none) Vec.empty [] 0 0)) (X:=Vec) (fun V'=>Ad (wrL b (Af b) V' (At [] [111,112,101,110,105,110,103]) 0 0)) I I I I I I (by kernel_rfl) I (fun _ _=>rfl) (fun W1 hp=>AV b (.pointer none) Vec.empty [] [111,112,101,110,105,110,103] 0 0 h0 (by decide) Wb W1 hp.below (hp.pick [1] (by decide) I).own) ?_
 intro V1 h1
 refine BU ?_
 have hl1:=Cs [] [111,112,101,110,105,110,103]
 have hL1:(At [] [111,112,101,110,105,110,103]).length<=100:=by decide
 refine xe<|Aa I<|wB 2 I I I<|Aa I<|wB 2 I I I<|?_
 (refine Ai Tryz.hZ tH rfl rfl rfl rfl rfl rfl rfl rfl rfl rfl rfl ?_;intro)
 rename_i bs2
 have hr2: ∀n∈[e.ix,e.op.s],Bt n:=fun n hn=>hi.i n (by simp only[List.mem_cons,List.not_mem_nil,or_false] at hn;rcases hn with rfl|rfl<;>simp[Ch])
 refine Ah 1 (B:=Ad (wrL b (Af b) V1 (At [] [111,112,101,110,105,110,103]) 0 0)) (X:=Value×Vec) (fun x=>Ad (wrL b x.1 x.2 (A9 (At [] [111,112,101,110,105,110,103]) [e.ix,e.op.s]) (AK 0 [e.ix,e.op.s]) 0)) I I I I I I (by kernel_rfl) I (fun _ _=>rfl) (fun W1 hp=>BE b (Af b) V1 (At [] [111,112,101,110,105,110,103]) 0 0 h1 [e.ix,e.op.s] (some ⟨bs2,0,none⟩) 2 (by simp only[List.length_cons,List.length_nil];omega) hr2 Wb W1 hp.below (hp.pick [1] (by decide) I).own (AB.of_row (junk:=[]) BH (Al.of_bx hp 3 I I)) (fun a e x hx=>by
   injection e with e
   subst e
   exact hp.own.apart 1 3 _ _ I I (by decide) x hx (bs2,_) (List.mem_cons_self ..)) ht) ?_
 rintro⟨p2,V2⟩ h2
 have h2:BC b p2 V2 (A9 (At [] [111,112,101,110,105,110,103]) [e.ix,e.op.s]):=h2
 refine BU ?_
 have hL2:=Cv hr2 (At [] [111,112,101,110,105,110,103])
 simp only[List.length_cons,List.length_nil] at hL2
 refine zE<|zB<|Ae I<|wB 2 I I I<|Aa I<|wB 2 I I I<|Aa I<|wB 2 I I I<|Aa I<|wB 2 I I I<|?_
 (refine Ai Tryz.hZ tH rfl rfl rfl rfl rfl rfl rfl rfl rfl rfl rfl ?_;intro)
 rename_i bs3
 have hr3: ∀n∈[e.op.l,e.op.r,e.op.o,e.op.i],n.length<=1000000:=fun n hn=>hi.s n (by simp only[List.mem_cons,List.not_mem_nil,or_false] at hn;rcases hn with rfl|rfl|rfl|rfl<;>simp[BM])
 refine Ah 1 (B:=Ad (wrL b p2 V2 (A9 (At [] [111,112,101,110,105,110,103]) [e.ix,e.op.s]) (AK 0 [e.ix,e.op.s]) 0)) (X:=Value×Vec) (fun x=>Ad (wrL b x.1 x.2 (Ea (A9 (At [] [111,112,101,110,105,110,103]) [e.ix,e.op.s]) [e.op.l,e.op.r,e.op.o,e.op.i]) (AK 0 [e.ix,e.op.s]) (FT 0 [e.op.l,e.op.r,e.op.o,e.op.i]))) I I I I I I (by kernel_rfl) I (fun _ _=>rfl) (fun W1 hp=>K1 b p2 V2 (A9 (At [] [111,112,101,110,105,110,103]) [e.ix,e.op.s]) (AK 0 [e.ix,e.op.s]) 0 h2 [e.op.l,e.op.r,e.op.o,e.op.i] (some ⟨bs3,0,none⟩) 4 (by simp only[List.length_cons,List.length_nil];omega) hr3 Wb W1 hp.below (hp.pick [1] (by decide) I).own (AB.of_row (junk:=[]) Gr (Al.of_bx hp 4 I I)) (fun a e x hx=>by
   injection e with e
   subst e
   exact hp.own.apart 1 4 _ _ I I (by decide) x hx (bs3,_) (List.mem_cons_self ..)) hv ht) ?_
 rintro⟨p3,V3⟩ h3
 have h3:BC b p3 V3 (Ea (A9 (At [] [111,112,101,110,105,110,103]) [e.ix,e.op.s]) [e.op.l,e.op.r,e.op.o,e.op.i]):=h3
 refine BU ?_
 have hL3:=LT hr3 (A9 (At [] [111,112,101,110,105,110,103]) [e.ix,e.op.s])
 simp only[List.length_cons,List.length_nil] at hL3
 exact zN<|Cj tH I (p3,V3) I h3 fun W1 hp=>(hp.pick [0,1] (by decide) I).own
theorem Nc (b:Nat) (e:EdS) (q:Option Addr) (cap:Nat) (hk:e.k=8) (hi:EdI e) (Wb W:World) (hb0:Below Wb.heap.size Wb W) (hO:Go.Am.Own Wb.heap.size [Ad (wrL b (.pointer none) Vec.empty [] 0 0)] W) (ht:AZ Wb):
  A0 Tryz.prog Wb.heap.size 117 [Af b, .agg (edV e q cap).toArray] W (wrL b (.pointer none) Vec.empty [] 0 0) (fun _:Value×Vec=> .tuple #[]) (fun x=>BC b x.1 x.2 (A9 (At [] [107,101,114,102]) [e.nb])) (fun x=>wrL b x.1 x.2 (A9 (At [] [107,101,114,102]) [e.nb]) (AK 0 [e.nb]) 0):=by
 refine A0.enterL (bs:=[Ad (wrL b (.pointer none) Vec.empty [] 0 0)]) (bs':=fun x:Value×Vec=>[Ad (wrL b x.1 x.2 (A9 (At [] [107,101,114,102]) [e.nb]) (AK 0 [e.nb]) 0)]) hb0 hO (Ap _) (fun x=>Ap _) Tryz.func117 I I I ?_
 have h0:BC b (.pointer none) Vec.empty []:=⟨.inl rfl,Vec.OK.empty 1⟩
 refine xb<|wF I I fun _=>zC<|?_
 rename_i bE
 refine xe<|wP I<|wB 2 I I I<|wV 10 8 I hk<|xa<|zH<|xb<|Aa I<|xa<|zS I<|xb<|Aa I<|xa<|zS I<|zA<|?_
 refine zB<|Aa I<|xa<|zS I<|xb<|Aa I<|xa<|zS I<|xb<|Aa I<|xa<|zS I<|xb<|Aa I<|?_
 refine xa<|zS I<|xb<|Aa I<|xa<|zS I<|xb<|Aa I<|xa<|zR I<|xb<|wP I<|Ah 1 (B:=Ad (wrL b (.pointer none) Vec.empty [] 0 0)) (X:=Vec) (fun V'=>Ad (wrL b (Af b) V' (At [] [107,101,114,102]) 0 0)) I I I I I I (by kernel_rfl) I (fun _ _=>rfl) (fun W1 hp=>AV b (.pointer none) Vec.empty [] [107,101,114,102] 0 0 h0 (by decide) Wb W1 hp.below (hp.pick [1] (by decide) I).own) ?_
 intro V1 h1
 refine BU ?_
 have hl1:=Cs [] [107,101,114,102]
 have hL1:(At [] [107,101,114,102]).length<=100:=by decide
 refine zE<|zB<|Aa I<|wB 2 I I I<|?_
 (refine Ai Tryz.hZ tH rfl rfl rfl rfl rfl rfl rfl rfl rfl rfl rfl ?_;intro)
 rename_i bs2
 have hr2: ∀n∈[e.nb],Bt n:=fun n hn=>hi.i n (by simp only[List.mem_cons,List.not_mem_nil,or_false] at hn;rcases hn with rfl<;>simp[Ch])
 refine Ah 1 (B:=Ad (wrL b (Af b) V1 (At [] [107,101,114,102]) 0 0)) (X:=Value×Vec) (fun x=>Ad (wrL b x.1 x.2 (A9 (At [] [107,101,114,102]) [e.nb]) (AK 0 [e.nb]) 0)) I I I I I I (by kernel_rfl) I (fun _ _=>rfl) (fun W1 hp=>BE b (Af b) V1 (At [] [107,101,114,102]) 0 0 h1 [e.nb] (some ⟨bs2,0,none⟩) 1 (by simp only[List.length_cons,List.length_nil];omega) hr2 Wb W1 hp.below (hp.pick [1] (by decide) I).own (AB.of_row (junk:=[]) BH (Al.of_bx hp 3 I I)) (fun a e x hx=>by
   injection e with e
   subst e
   exact hp.own.apart 1 3 _ _ I I (by decide) x hx (bs2,_) (List.mem_cons_self ..)) ht) ?_
 rintro⟨p2,V2⟩ h2
 have h2:BC b p2 V2 (A9 (At [] [107,101,114,102]) [e.nb]):=h2
 refine BU ?_
 have hL2:=Cv hr2 (At [] [107,101,114,102])
 simp only[List.length_cons,List.length_nil] at hL2
 exact zN<|Cj tH I (p2,V2) I h2 fun W1 hp=>(hp.pick [0,1] (by decide) I).own
theorem N1 (b:Nat) (e:EdS) (q:Option Addr) (cap:Nat) (hk:e.k=9) (hi:EdI e) (Wb W:World) (hb0:Below Wb.heap.size Wb W) (hO:Go.Am.Own Wb.heap.size [Ad (wrL b (.pointer none) Vec.empty [] 0 0)] W) (ht:AZ Wb):
  A0 Tryz.prog Wb.heap.size 117 [Af b, .agg (edV e q cap).toArray] W (wrL b (.pointer none) Vec.empty [] 0 0) (fun _:Value×Vec=> .tuple #[]) (fun x=>BC b x.1 x.2 (A9 (At [] [116,105,108,101]) [e.tw,e.tl,e.tp,e.tt])) (fun x=>wrL b x.1 x.2 (A9 (At [] [116,105,108,101]) [e.tw,e.tl,e.tp,e.tt]) (AK 0 [e.tw,e.tl,e.tp,e.tt]) 0):=by
 refine A0.enterL (bs:=[Ad (wrL b (.pointer none) Vec.empty [] 0 0)]) (bs':=fun x:Value×Vec=>[Ad (wrL b x.1 x.2 (A9 (At [] [116,105,108,101]) [e.tw,e.tl,e.tp,e.tt]) (AK 0 [e.tw,e.tl,e.tp,e.tt]) 0)]) hb0 hO (Ap _) (fun x=>Ap _) Tryz.func117 I I I ?_
 have h0:BC b (.pointer none) Vec.empty []:=⟨.inl rfl,Vec.OK.empty 1⟩
 refine xb<|wF I I fun _=>zC<|?_
 rename_i bE
 refine xe<|wP I<|wB 2 I I I<|wV 10 9 I hk<|xa<|zH<|xb<|Aa I<|xa<|zS I<|xb<|Aa I<|xa<|zS I<|zA<|?_
 refine zB<|Aa I<|xa<|zS I<|xb<|Aa I<|xa<|zS I<|xb<|Aa I<|xa<|zS I<|xb<|Aa I<|?_
 refine xa<|zS I<|xb<|Aa I<|xa<|zS I<|xb<|Aa I<|xa<|zS I<|xb<|Aa I<|xa<|zR I<|?_
 refine xb<|wP I<|Ah 1 (B:=Ad (wrL b (.pointer none) Vec.empty [] 0 0)) (X:=Vec) (fun V'=>Ad (wrL b (Af b) V' (At [] [116,105,108,101]) 0 0)) I I I I I I (by kernel_rfl) I (fun _ _=>rfl) (fun W1 hp=>AV b (.pointer none) Vec.empty [] [116,105,108,101] 0 0 h0 (by decide) Wb W1 hp.below (hp.pick [1] (by decide) I).own) ?_
 intro V1 h1
 refine BU ?_
 have hl1:=Cs [] [116,105,108,101]
 have hL1:(At [] [116,105,108,101]).length<=100:=by decide
 refine zE<|zB<|Ae I<|wB 2 I I I<|Aa I<|wB 2 I I I<|Aa I<|wB 2 I I I<|Aa I<|wB 2 I I I<|?_
 (refine Ai Tryz.hZ tH rfl rfl rfl rfl rfl rfl rfl rfl rfl rfl rfl ?_;intro)
 rename_i bs2
 have hr2: ∀n∈[e.tw,e.tl,e.tp,e.tt],Bt n:=fun n hn=>hi.i n (by simp only[List.mem_cons,List.not_mem_nil,or_false] at hn;rcases hn with rfl|rfl|rfl|rfl<;>simp[Ch])
 refine Ah 1 (B:=Ad (wrL b (Af b) V1 (At [] [116,105,108,101]) 0 0)) (X:=Value×Vec) (fun x=>Ad (wrL b x.1 x.2 (A9 (At [] [116,105,108,101]) [e.tw,e.tl,e.tp,e.tt]) (AK 0 [e.tw,e.tl,e.tp,e.tt]) 0)) I I I I I I (by kernel_rfl) I (fun _ _=>rfl) (fun W1 hp=>BE b (Af b) V1 (At [] [116,105,108,101]) 0 0 h1 [e.tw,e.tl,e.tp,e.tt] (some ⟨bs2,0,none⟩) 4 (by simp only[List.length_cons,List.length_nil];omega) hr2 Wb W1 hp.below (hp.pick [1] (by decide) I).own (AB.of_row (junk:=[]) BH (Al.of_bx hp 3 I I)) (fun a e x hx=>by
   injection e with e
   subst e
   exact hp.own.apart 1 3 _ _ I I (by decide) x hx (bs2,_) (List.mem_cons_self ..)) ht) ?_
 rintro⟨p2,V2⟩ h2
 have h2:BC b p2 V2 (A9 (At [] [116,105,108,101]) [e.tw,e.tl,e.tp,e.tt]):=h2
 refine BU ?_
 have hL2:=Cv hr2 (At [] [116,105,108,101])
 simp only[List.length_cons,List.length_nil] at hL2
 exact zN<|Cj tH I (p2,V2) I h2 fun W1 hp=>(hp.pick [0,1] (by decide) I).own
theorem Mw (b:Nat) (e:EdS) (q:Option Addr) (cap:Nat) (hk:e.k=10) (hi:EdI e) (Wb W:World) (hb0:Below Wb.heap.size Wb W) (hO:Go.Am.Own Wb.heap.size [Ad (wrL b (.pointer none) Vec.empty [] 0 0)] W) (hv:DM Wb) (ht:AZ Wb):
  A0 Tryz.prog Wb.heap.size 117 [Af b, .agg (edV e q cap).toArray] W (wrL b (.pointer none) Vec.empty [] 0 0) (fun _:Value×Vec=> .tuple #[]) (fun x=>BC b x.1 x.2 (Ea (A9 (At [] [108,111,97,100]) [e.ix,e.ld.k,e.ld.s]) [e.ld.w])) (fun x=>wrL b x.1 x.2 (Ea (A9 (At [] [108,111,97,100]) [e.ix,e.ld.k,e.ld.s]) [e.ld.w]) (AK 0 [e.ix,e.ld.k,e.ld.s]) (FT 0 [e.ld.w])):=by
 refine A0.enterL (bs:=[Ad (wrL b (.pointer none) Vec.empty [] 0 0)]) (bs':=fun x:Value×Vec=>[Ad (wrL b x.1 x.2 (Ea (A9 (At [] [108,111,97,100]) [e.ix,e.ld.k,e.ld.s]) [e.ld.w]) (AK 0 [e.ix,e.ld.k,e.ld.s]) (FT 0 [e.ld.w]))]) hb0 hO (Ap _) (fun x=>Ap _) Tryz.func117 I I I ?_
 have h0:BC b (.pointer none) Vec.empty []:=⟨.inl rfl,Vec.OK.empty 1⟩
 refine xb<|wF I I fun _=>zC<|?_
 rename_i bE
 refine xe<|wP I<|wB 2 I I I<|wV 10 10 I hk<|xa<|zH<|xb<|Aa I<|xa<|zS I<|xb<|Aa I<|xa<|zS I<|zA<|?_
 refine zB<|Aa I<|xa<|zS I<|xb<|Aa I<|xa<|zS I<|xb<|Aa I<|xa<|zS I<|xb<|Aa I<|?_
 refine xa<|zS I<|xb<|Aa I<|xa<|zS I<|xb<|Aa I<|xa<|zS I<|xb<|Aa I<|xa<|zS I<|?_
 refine xb<|Aa I<|xa<|zR I<|xb<|wP I<|Ah 1 (B:=Ad (wrL b (.pointer none) Vec.empty [] 0 0)) (X:=Vec) (fun V'=>Ad (wrL b (Af b) V' (At [] [108,111,97,100]) 0 0)) I I I I I I (by kernel_rfl) I (fun _ _=>rfl) (fun W1 hp=>AV b (.pointer none) Vec.empty [] [108,111,97,100] 0 0 h0 (by decide) Wb W1 hp.below (hp.pick [1] (by decide) I).own) ?_
 intro V1 h1
 refine BU ?_
 have hl1:=Cs [] [108,111,97,100]
 have hL1:(At [] [108,111,97,100]).length<=100:=by decide
 refine xe<|Aa I<|wB 2 I I I<|Aa I<|wB 2 I I I<|Aa I<|wB 2 I I I<|?_
 (refine Ai Tryz.hZ tH rfl rfl rfl rfl rfl rfl rfl rfl rfl rfl rfl ?_;intro)
 rename_i bs2
 have hr2: ∀n∈[e.ix,e.ld.k,e.ld.s],Bt n:=fun n hn=>hi.i n (by simp only[List.mem_cons,List.not_mem_nil,or_false] at hn;rcases hn with rfl|rfl|rfl<;>simp[Ch])
 refine Ah 1 (B:=Ad (wrL b (Af b) V1 (At [] [108,111,97,100]) 0 0)) (X:=Value×Vec) (fun x=>Ad (wrL b x.1 x.2 (A9 (At [] [108,111,97,100]) [e.ix,e.ld.k,e.ld.s]) (AK 0 [e.ix,e.ld.k,e.ld.s]) 0)) I I I I I I (by kernel_rfl) I (fun _ _=>rfl) (fun W1 hp=>BE b (Af b) V1 (At [] [108,111,97,100]) 0 0 h1 [e.ix,e.ld.k,e.ld.s] (some ⟨bs2,0,none⟩) 3 (by simp only[List.length_cons,List.length_nil];omega) hr2 Wb W1 hp.below (hp.pick [1] (by decide) I).own (AB.of_row (junk:=[]) BH (Al.of_bx hp 3 I I)) (fun a e x hx=>by
   injection e with e
   subst e
   exact hp.own.apart 1 3 _ _ I I (by decide) x hx (bs2,_) (List.mem_cons_self ..)) ht) ?_
 rintro⟨p2,V2⟩ h2
 have h2:BC b p2 V2 (A9 (At [] [108,111,97,100]) [e.ix,e.ld.k,e.ld.s]):=h2
 refine BU ?_
 have hL2:=Cv hr2 (At [] [108,111,97,100])
 simp only[List.length_cons,List.length_nil] at hL2
 refine zE<|zB<|Ae I<|wB 2 I I I<|?_
 (refine Ai Tryz.hZ tH rfl rfl rfl rfl rfl rfl rfl rfl rfl rfl rfl ?_;intro)
 rename_i bs3
 have hr3: ∀n∈[e.ld.w],n.length<=1000000:=fun n hn=>hi.s n (by simp only[List.mem_cons,List.not_mem_nil,or_false] at hn;rcases hn with rfl<;>simp[BM])
 refine Ah 1 (B:=Ad (wrL b p2 V2 (A9 (At [] [108,111,97,100]) [e.ix,e.ld.k,e.ld.s]) (AK 0 [e.ix,e.ld.k,e.ld.s]) 0)) (X:=Value×Vec) (fun x=>Ad (wrL b x.1 x.2 (Ea (A9 (At [] [108,111,97,100]) [e.ix,e.ld.k,e.ld.s]) [e.ld.w]) (AK 0 [e.ix,e.ld.k,e.ld.s]) (FT 0 [e.ld.w]))) I I I I I I (by kernel_rfl) I (fun _ _=>rfl) (fun W1 hp=>K1 b p2 V2 (A9 (At [] [108,111,97,100]) [e.ix,e.ld.k,e.ld.s]) (AK 0 [e.ix,e.ld.k,e.ld.s]) 0 h2 [e.ld.w] (some ⟨bs3,0,none⟩) 1 (by simp only[List.length_cons,List.length_nil];omega) hr3 Wb W1 hp.below (hp.pick [1] (by decide) I).own (AB.of_row (junk:=[]) Gr (Al.of_bx hp 4 I I)) (fun a e x hx=>by
   injection e with e
   subst e
   exact hp.own.apart 1 4 _ _ I I (by decide) x hx (bs3,_) (List.mem_cons_self ..)) hv ht) ?_
 rintro⟨p3,V3⟩ h3
 have h3:BC b p3 V3 (Ea (A9 (At [] [108,111,97,100]) [e.ix,e.ld.k,e.ld.s]) [e.ld.w]):=h3
 refine BU ?_
 have hL3:=LT hr3 (A9 (At [] [108,111,97,100]) [e.ix,e.ld.k,e.ld.s])
 simp only[List.length_cons,List.length_nil] at hL3
 exact zN<|Cj tH I (p3,V3) I h3 fun W1 hp=>(hp.pick [0,1] (by decide) I).own
theorem Me (b:Nat) (e:EdS) (q:Option Addr) (cap:Nat) (hk:e.k=11) (hi:EdI e) (Wb W:World) (hb0:Below Wb.heap.size Wb W) (hO:Go.Am.Own Wb.heap.size [Ad (wrL b (.pointer none) Vec.empty [] 0 0)] W) (ht:AZ Wb):
  A0 Tryz.prog Wb.heap.size 117 [Af b, .agg (edV e q cap).toArray] W (wrL b (.pointer none) Vec.empty [] 0 0) (fun _:Value×Vec=> .tuple #[]) (fun x=>BC b x.1 x.2 (A9 (At [] [115,112,97,110]) [e.al.w,e.al.d,e.al.s,e.al.l,e.al.n])) (fun x=>wrL b x.1 x.2 (A9 (At [] [115,112,97,110]) [e.al.w,e.al.d,e.al.s,e.al.l,e.al.n]) (AK 0 [e.al.w,e.al.d,e.al.s,e.al.l,e.al.n]) 0):=by
 refine A0.enterL (bs:=[Ad (wrL b (.pointer none) Vec.empty [] 0 0)]) (bs':=fun x:Value×Vec=>[Ad (wrL b x.1 x.2 (A9 (At [] [115,112,97,110]) [e.al.w,e.al.d,e.al.s,e.al.l,e.al.n]) (AK 0 [e.al.w,e.al.d,e.al.s,e.al.l,e.al.n]) 0)]) hb0 hO (Ap _) (fun x=>Ap _) Tryz.func117 I I I ?_
 have h0:BC b (.pointer none) Vec.empty []:=⟨.inl rfl,Vec.OK.empty 1⟩
 refine xb<|wF I I fun _=>zC<|?_
 rename_i bE
 refine xe<|wP I<|wB 2 I I I<|wV 10 11 I hk<|xa<|zH<|xb<|Aa I<|xa<|zS I<|xb<|Aa I<|xa<|zS I<|zA<|?_
 refine zB<|Aa I<|xa<|zS I<|xb<|Aa I<|xa<|zS I<|xb<|Aa I<|xa<|zS I<|xb<|Aa I<|?_
 refine xa<|zS I<|xb<|Aa I<|xa<|zS I<|xb<|Aa I<|xa<|zS I<|xb<|Aa I<|xa<|zS I<|?_
 refine xb<|Aa I<|xa<|zS I<|xb<|Aa I<|xa<|zR I<|xb<|wP I<|wB 2 I I I<|wG I I fun _=>wS 3 I I I<|zC<|?_
 rename_i b8
 refine xe<|wP I<|Ah 1 (B:=Ad (wrL b (.pointer none) Vec.empty [] 0 0)) (X:=Vec) (fun V'=>Ad (wrL b (Af b) V' (At [] [115,112,97,110]) 0 0)) I I I I I I (by kernel_rfl) I (fun _ _=>rfl) (fun W1 hp=>AV b (.pointer none) Vec.empty [] [115,112,97,110] 0 0 h0 (by decide) Wb W1 hp.below (hp.pick [1] (by decide) I).own) ?_
 intro V1 h1
 refine BU ?_
 have hl1:=Cs [] [115,112,97,110]
 have hL1:(At [] [115,112,97,110]).length<=100:=by decide
 refine zE<|zB<|Aa I<|wB 3 I I I<|wP I<|wB 3 I I I<|wP I<|wB 3 I I I<|wP I<|wB 3 I I I<|wP I<|wB 3 I I I<|?_
 (refine Ai Tryz.hZ tH rfl rfl rfl rfl rfl rfl rfl rfl rfl rfl rfl ?_;intro)
 rename_i bs2
 have hr2: ∀n∈[e.al.w,e.al.d,e.al.s,e.al.l,e.al.n],Bt n:=fun n hn=>hi.i n (by simp only[List.mem_cons,List.not_mem_nil,or_false] at hn;rcases hn with rfl|rfl|rfl|rfl|rfl<;>simp[Ch])
 refine Ah 1 (B:=Ad (wrL b (Af b) V1 (At [] [115,112,97,110]) 0 0)) (X:=Value×Vec) (fun x=>Ad (wrL b x.1 x.2 (A9 (At [] [115,112,97,110]) [e.al.w,e.al.d,e.al.s,e.al.l,e.al.n]) (AK 0 [e.al.w,e.al.d,e.al.s,e.al.l,e.al.n]) 0)) I I I I I I (by kernel_rfl) I (fun _ _=>rfl) (fun W1 hp=>BE b (Af b) V1 (At [] [115,112,97,110]) 0 0 h1 [e.al.w,e.al.d,e.al.s,e.al.l,e.al.n] (some ⟨bs2,0,none⟩) 5 (by simp only[List.length_cons,List.length_nil];omega) hr2 Wb W1 hp.below (hp.pick [1] (by decide) I).own (AB.of_row (junk:=[]) BH (Al.of_bx hp 4 I I)) (fun a e x hx=>by
   injection e with e
   subst e
   exact hp.own.apart 1 4 _ _ I I (by decide) x hx (bs2,_) (List.mem_cons_self ..)) ht) ?_
 rintro⟨p2,V2⟩ h2
 have h2:BC b p2 V2 (A9 (At [] [115,112,97,110]) [e.al.w,e.al.d,e.al.s,e.al.l,e.al.n]):=h2
 refine BU ?_
 have hL2:=Cv hr2 (At [] [115,112,97,110])
 simp only[List.length_cons,List.length_nil] at hL2
 exact zN<|Cj tH I (p2,V2) I h2 fun W1 hp=>(hp.pick [0,1] (by decide) I).own
def gbI (e:EdS):Int:=if e.gb=true then 1 else 0
theorem Nj (b:Nat) (e:EdS) (q:Option Addr) (cap:Nat) (hk:e.k=2) (hi:EdI e) (Wb W:World) (hb0:Below Wb.heap.size Wb W) (hO:Go.Am.Own Wb.heap.size [Ad (wrL b (.pointer none) Vec.empty [] 0 0)] W) (ht:AZ Wb):
  A0 Tryz.prog Wb.heap.size 117 [Af b, .agg (edV e q cap).toArray] W (wrL b (.pointer none) Vec.empty [] 0 0) (fun _:Value×Vec=> .tuple #[]) (fun x=>BC b x.1 x.2 (A9 (At [] [115,105,100,101]) [e.ix,e.x,e.y,e.ri,e.ru,e.pl,e.ov,gbI e])) (fun x=>wrL b x.1 x.2 (A9 (At [] [115,105,100,101]) [e.ix,e.x,e.y,e.ri,e.ru,e.pl,e.ov,gbI e]) (AK 0 [e.ix,e.x,e.y,e.ri,e.ru,e.pl,e.ov,gbI e]) 0):=by
 cases hg:e.gb with
 |false=>
  rw[show gbI e=0 by unfold gbI;rw[hg];rfl]
  refine A0.enterL (bs:=[Ad (wrL b (.pointer none) Vec.empty [] 0 0)]) (bs':=fun x:Value×Vec=>[Ad (wrL b x.1 x.2 (A9 (At [] [115,105,100,101]) [e.ix,e.x,e.y,e.ri,e.ru,e.pl,e.ov,0]) (AK 0 [e.ix,e.x,e.y,e.ri,e.ru,e.pl,e.ov,0]) 0)]) hb0 hO (Ap _) (fun x=>Ap _) Tryz.func117 I I I ?_
  have h0:BC b (.pointer none) Vec.empty []:=⟨.inl rfl,Vec.OK.empty 1⟩
  refine xb<|wF I I fun _=>zC<|?_
  rename_i bE
  refine xe<|wP I<|wB 2 I I I<|wV 10 2 I hk<|xa<|zH<|xb<|Aa I<|xa<|zS I<|xb<|Aa I<|xa<|zR I<|zA<|?_
  refine zB<|wP I<|xa<|xd<|Aa I<|wB 2 I I I<|wU 36 false I hg<|xa<|zS I<|zI<|xe<|wP I<|Ah 1 (B:=Ad (wrL b (.pointer none) Vec.empty [] 0 0)) (X:=Vec) (fun V'=>Ad (wrL b (Af b) V' (At [] [115,105,100,101]) 0 0)) I I I I I I (by kernel_rfl) I (fun _ _=>rfl) (fun W1 hp=>AV b (.pointer none) Vec.empty [] [115,105,100,101] 0 0 h0 (by decide) Wb W1 hp.below (hp.pick [1] (by decide) I).own) ?_
  intro V1 h1
  refine BU ?_
  have hl1:=Cs [] [115,105,100,101]
  have hL1:(At [] [115,105,100,101]).length<=100:=by decide
  refine zE<|zB<|Aa I<|wB 2 I I I<|Aa I<|wB 2 I I I<|Aa I<|wB 2 I I I<|Aa I<|wB 2 I I I<|Aa I<|wB 2 I I I<|Aa I<|wB 2 I I I<|Aa I<|wB 2 I I I<|wP I<|?_
  (refine Ai Tryz.hZ tH rfl rfl rfl rfl rfl rfl rfl rfl rfl rfl rfl ?_;intro)
  rename_i bs2
  have hr2: ∀n∈[e.ix,e.x,e.y,e.ri,e.ru,e.pl,e.ov,0],Bt n:=fun n hn=>by simp only[List.mem_cons,List.not_mem_nil,or_false] at hn;rcases hn with rfl|rfl|rfl|rfl|rfl|rfl|rfl|rfl<;>first|(apply hi.i;simp[Ch];done)|exact⟨by decide,by decide⟩
  refine Ah 1 (B:=Ad (wrL b (Af b) V1 (At [] [115,105,100,101]) 0 0)) (X:=Value×Vec) (fun x=>Ad (wrL b x.1 x.2 (A9 (At [] [115,105,100,101]) [e.ix,e.x,e.y,e.ri,e.ru,e.pl,e.ov,0]) (AK 0 [e.ix,e.x,e.y,e.ri,e.ru,e.pl,e.ov,0]) 0)) I I I I I I (by kernel_rfl) I (fun _ _=>rfl) (fun W1 hp=>BE b (Af b) V1 (At [] [115,105,100,101]) 0 0 h1 [e.ix,e.x,e.y,e.ri,e.ru,e.pl,e.ov,0] (some ⟨bs2,0,none⟩) 8 (by simp only[List.length_cons,List.length_nil];omega) hr2 Wb W1 hp.below (hp.pick [1] (by decide) I).own (AB.of_row (junk:=[]) BH (Al.of_bx hp 3 I I)) (fun a e x hx=>by
    injection e with e
    subst e
    exact hp.own.apart 1 3 _ _ I I (by decide) x hx (bs2,_) (List.mem_cons_self ..)) ht) ?_
  rintro⟨p2,V2⟩ h2
  have h2:BC b p2 V2 (A9 (At [] [115,105,100,101]) [e.ix,e.x,e.y,e.ri,e.ru,e.pl,e.ov,0]):=h2
  refine BU ?_
  have hL2:=Cv hr2 (At [] [115,105,100,101])
  simp only[List.length_cons,List.length_nil] at hL2
  exact zN<|Cj tH I (p2,V2) I h2 fun W1 hp=>(hp.pick [0,1] (by decide) I).own
 |true=>
  rw[show gbI e=1 by unfold gbI;rw[hg];rfl]
  refine A0.enterL (bs:=[Ad (wrL b (.pointer none) Vec.empty [] 0 0)]) (bs':=fun x:Value×Vec=>[Ad (wrL b x.1 x.2 (A9 (At [] [115,105,100,101]) [e.ix,e.x,e.y,e.ri,e.ru,e.pl,e.ov,1]) (AK 0 [e.ix,e.x,e.y,e.ri,e.ru,e.pl,e.ov,1]) 0)]) hb0 hO (Ap _) (fun x=>Ap _) Tryz.func117 I I I ?_
  have h0:BC b (.pointer none) Vec.empty []:=⟨.inl rfl,Vec.OK.empty 1⟩
  refine xb<|wF I I fun _=>zC<|?_
  rename_i bE
  refine xe<|wP I<|wB 2 I I I<|wV 10 2 I hk<|xa<|zH<|xb<|Aa I<|xa<|zS I<|xb<|Aa I<|xa<|zR I<|zA<|?_
  refine zB<|wP I<|xa<|xd<|Aa I<|wB 2 I I I<|wU 36 true I hg<|xa<|zR I<|zB<|wP I<|xg<|wP I<|Ah 1 (B:=Ad (wrL b (.pointer none) Vec.empty [] 0 0)) (X:=Vec) (fun V'=>Ad (wrL b (Af b) V' (At [] [115,105,100,101]) 0 0)) I I I I I I (by kernel_rfl) I (fun _ _=>rfl) (fun W1 hp=>AV b (.pointer none) Vec.empty [] [115,105,100,101] 0 0 h0 (by decide) Wb W1 hp.below (hp.pick [1] (by decide) I).own) ?_
  intro V1 h1
  refine BU ?_
  have hl1:=Cs [] [115,105,100,101]
  have hL1:(At [] [115,105,100,101]).length<=100:=by decide
  refine zE<|zB<|Aa I<|wB 2 I I I<|Aa I<|wB 2 I I I<|Aa I<|wB 2 I I I<|Aa I<|wB 2 I I I<|Aa I<|wB 2 I I I<|Aa I<|wB 2 I I I<|Aa I<|wB 2 I I I<|wP I<|?_
  (refine Ai Tryz.hZ tH rfl rfl rfl rfl rfl rfl rfl rfl rfl rfl rfl ?_;intro)
  rename_i bs2
  have hr2: ∀n∈[e.ix,e.x,e.y,e.ri,e.ru,e.pl,e.ov,1],Bt n:=fun n hn=>by simp only[List.mem_cons,List.not_mem_nil,or_false] at hn;rcases hn with rfl|rfl|rfl|rfl|rfl|rfl|rfl|rfl<;>first|(apply hi.i;simp[Ch];done)|exact⟨by decide,by decide⟩
  refine Ah 1 (B:=Ad (wrL b (Af b) V1 (At [] [115,105,100,101]) 0 0)) (X:=Value×Vec) (fun x=>Ad (wrL b x.1 x.2 (A9 (At [] [115,105,100,101]) [e.ix,e.x,e.y,e.ri,e.ru,e.pl,e.ov,1]) (AK 0 [e.ix,e.x,e.y,e.ri,e.ru,e.pl,e.ov,1]) 0)) I I I I I I (by kernel_rfl) I (fun _ _=>rfl) (fun W1 hp=>BE b (Af b) V1 (At [] [115,105,100,101]) 0 0 h1 [e.ix,e.x,e.y,e.ri,e.ru,e.pl,e.ov,1] (some ⟨bs2,0,none⟩) 8 (by simp only[List.length_cons,List.length_nil];omega) hr2 Wb W1 hp.below (hp.pick [1] (by decide) I).own (AB.of_row (junk:=[]) BH (Al.of_bx hp 3 I I)) (fun a e x hx=>by
    injection e with e
    subst e
    exact hp.own.apart 1 3 _ _ I I (by decide) x hx (bs2,_) (List.mem_cons_self ..)) ht) ?_
  rintro⟨p2,V2⟩ h2
  have h2:BC b p2 V2 (A9 (At [] [115,105,100,101]) [e.ix,e.x,e.y,e.ri,e.ru,e.pl,e.ov,1]):=h2
  refine BU ?_
  have hL2:=Cv hr2 (At [] [115,105,100,101])
  simp only[List.length_cons,List.length_nil] at hL2
  exact zN<|Cj tH I (p2,V2) I h2 fun W1 hp=>(hp.pick [0,1] (by decide) I).own
theorem Wk : ∃ f1 f2 : Field, (Tryz.prog.fieldsOf 177).toList = [f1, f2] /\ (f1.name ≠ "_" /\ f1.type = 3 /\ f1.offset = 0) /\ (f2.name ≠ "_" /\ f2.type = 3 /\ f2.offset = 1) := by
 exact⟨_,_,I,⟨by decide,I,I⟩,⟨by decide,I,I⟩⟩
theorem dU (W:World) (x y:Int×Int):(binOp .neq 177 (.agg #[.int .i64 x.1, .int .i64 x.2]) (.agg #[.int .i64 y.1, .int .i64 y.2])).run Tryz.prog W= .ok (.bool (!decide (x=y))) W:=by
 obtain⟨a,b⟩:=x
 obtain⟨c,d⟩:=y
 rw[run_neq_struct,run_equalIn_agg W 9999 177 _ _ (by kernel_rfl) (by kernel_rfl)]
 obtain⟨f1,f2,hf,⟨n1,t1,o1⟩,⟨n2,t2,o2⟩⟩:=Wk
 rw[hf]
 have e0: ∀(x y:Int) W,(Op.equalIn 9999 3 (.int .i64 x) (.int .i64 y)).run Tryz.prog W= .ok (decide (x=y)) W:=fun x y W=>by
  rw[run_equalIn_int W 9998 3 _ _ _ _ Tryz.underlying3]
  by_cases h:x=y
  ·subst h;simp
  ·simp[h]
 by_cases h1:a=c<;>by_cases h2:b=d<;>simp[Op.eqFields,part,Tryz.isAgg3,e0,h1,h2,n1,n2,t1,t2,o1,o2]
section
variable {r:Option Nat} {n:Nat} {N:Nat} {D:List Deferred} {ops:List Oper} {Q:Exit->Act->World->Prop} {o:Oper} {rest:List Oper} {env:Env} {A A2:World->Prop} {R:Act->World->Prop}
theorem ZG (a b:Int×Int) {t:Nat} {u:TypeId} {x y:Operand} (hg:Aj ops N env o=some true) (hd:o.dst=some t) (ho:o.op= .binOp .neq 177 x y u)
  (hx:evO N env x=some (.agg #[.int .i64 a.1, .int .i64 a.2])) (hy:evO N env y=some (.agg #[.int .i64 b.1, .int .i64 b.2]))
  (h:WQ Tryz.prog N D ops A2 R rest ((t, .bool (!decide (a=b)))::env) A):WQ Tryz.prog N D ops A2 R (o::rest) env A:=
 CD hg hd (fun c e=>by rw[ho] at e;cases e) (fun _ W hρ _=>by
  have hm:Tryz.prog.eqGuardType Tryz.prog.depth 177=false:=by kernel_rfl
  simp[execOp,ho,hρ _ _ hx,hρ _ _ hy,run_eqGuard_agg W .neq 177 x y _ _ hm,dU]) h
end
theorem L4 (l:List (Int×Int)) (p q:Option Addr) (cap cap2:Nat) (hn:l.length<=1000000) (W:World) (hA:AB 2 gpC W p l) (hB:AB 2 gpC W q l):
  Ag Tryz.prog 129 #[slv p l.length cap,slv q l.length cap2] W (fun _:Unit=> .bool true) (fun _=>True) (fun _=>[]):=by
 refine Ab Tryz.func129 I I I<|xb<|wP I<|xa<|xd<|A8 I<|wU 10 false I (bne_eq_false_iff_eq.2 I)<|xa<|zS I<|zI<|zE<|xd<|Ae I<|?_
 refine xa<|zH<|A6 (X:=Nat) (fun i=>[(0,slv p l.length cap),(1,slv q l.length cap2),(4, .bool false),(12, .int .i64 (l.length:Nat)),(13, .int .i64 (i:Nat))]) (fun _=>[]) (fun i=>i<=l.length) (fun i=>l.length-i) 0 (Nat.zero_le _) ⟨I,I,I,I,I,tO⟩ [] I ?_
 intro i hi
 have hi:i<=l.length:=hi
 refine xb<|wP I<|?_
 by_cases hlt:i<l.length
 rotate_left
 ·exact wU 14 false I (dF (by omega))<|xa<|zA<|zS I<|xf<|xe<|wP I<|xc<|wR1 I I I
 refine wU 14 true I (dT (by omega))<|xa<|zA<|zR I<|xh<|?_
 obtain⟨b,off,rfl,hrow⟩:=hA.row hlt
 obtain⟨b2,off2,rfl,hrow2⟩:=hB.row hlt
 have hr:=hrow i hlt
 have hr2:=hrow2 i hlt
 obtain⟨x,hx⟩: ∃x,x=l[i]:=⟨_,rfl⟩
 rw[<-hx] at hr hr2
 refine Aa I<|xa<|zA<|zU<|AO I<|qJ ?_
 refine qL 0 I I (fun W1 hp=>hr.hp hp) I<|AO I<|qJ ?_
 refine qL 0 I I (fun W1 hp=>hr2.hp hp) I<|ZG x x I I I I I ?_
 exact qU 24 false I (by rw[dT I];rfl)<|zD<|xa<|zS I<|zI<|xj<|wP I<|wV 25 ((i+1:Nat):Int) I (Az (by omega))<|wP I<|zC<|Ax (i+1) hlt (by show l.length-(i+1)<l.length-i;omega) ⟨I,I,I,I,I,tO⟩ [] I
theorem HU (x:Int) (W:World):(Op.equalIn 9999 3 (.int .i64 x) (.int .i64 x)).run Tryz.prog W= .ok true W:=by
 rw[run_equalIn_int W 9998 3 _ _ _ _ Tryz.underlying3]
 simp
theorem Vc (x:List UInt8) (W:World):(Op.equalIn 9999 80 (str x) (str x)).run Tryz.prog W= .ok true W:=by
 rw[run_equalIn_string W 9998 80 _ _ Tryz.underlying80,Hk,dT rfl]
theorem XK (x:Bool) (W:World):(Op.equalIn 9999 4 (.bool x) (.bool x)).run Tryz.prog W= .ok true W:=by
 rw[run_equalIn_bool W 9998 4 _ _ Tryz.underlying4]
 simp
theorem T0 : ∃ f0 f1 f2 f3 f4 f5 f6 : Field, (Tryz.prog.fieldsOf 79).toList = [f0, f1, f2, f3, f4, f5, f6] /\ (f0.name ≠ "_" /\ f0.type = 3 /\ f0.offset = 0) /\ (f1.name ≠ "_" /\ f1.type = 3 /\ f1.offset = 1) /\ (f2.name ≠ "_" /\ f2.type = 3 /\ f2.offset = 2) /\ (f3.name ≠ "_" /\ f3.type = 3 /\ f3.offset = 3) /\ (f4.name ≠ "_" /\ f4.type = 4 /\ f4.offset = 4) /\ (f5.name ≠ "_" /\ f5.type = 3 /\ f5.offset = 5) /\ (f6.name ≠ "_" /\ f6.type = 3 /\ f6.offset = 6) := by
 exact⟨_,_,_,_,_,_,_,I,⟨by decide,I,I⟩,⟨by decide,I,I⟩,⟨by decide,I,I⟩,⟨by decide,I,I⟩,⟨by decide,I,I⟩,⟨by decide,I,I⟩,⟨by decide,I,I⟩⟩
theorem dJ (x0:Int) (x1:Int) (x2:Int) (x3:Int) (x4:Bool) (x5:Int) (x6:Int) (W:World):(binOp .eql 79 (.agg #[.int .i64 x0, .int .i64 x1, .int .i64 x2, .int .i64 x3, .bool x4, .int .i64 x5, .int .i64 x6]) (.agg #[.int .i64 x0, .int .i64 x1, .int .i64 x2, .int .i64 x3, .bool x4, .int .i64 x5, .int .i64 x6])).run Tryz.prog W= .ok (.bool true) W:=by
 rw[run_eql_struct,run_equalIn_agg W 9999 79 _ _ (by kernel_rfl) (by kernel_rfl)]
 obtain⟨f0,f1,f2,f3,f4,f5,f6,hf,⟨n0,t0,o0⟩,⟨n1,t1,o1⟩,⟨n2,t2,o2⟩,⟨n3,t3,o3⟩,⟨n4,t4,o4⟩,⟨n5,t5,o5⟩,⟨n6,t6,o6⟩⟩:=T0
 rw[hf]
 simp[Op.eqFields,part,Tryz.isAgg4,XK,Tryz.isAgg3,HU,n0,t0,o0,n1,t1,o1,n2,t2,o2,n3,t3,o3,n4,t4,o4,n5,t5,o5,n6,t6,o6]
theorem Th : ∃ f0 f1 f2 f3 f4 : Field, (Tryz.prog.fieldsOf 82).toList = [f0, f1, f2, f3, f4] /\ (f0.name ≠ "_" /\ f0.type = 3 /\ f0.offset = 0) /\ (f1.name ≠ "_" /\ f1.type = 80 /\ f1.offset = 1) /\ (f2.name ≠ "_" /\ f2.type = 80 /\ f2.offset = 2) /\ (f3.name ≠ "_" /\ f3.type = 80 /\ f3.offset = 3) /\ (f4.name ≠ "_" /\ f4.type = 80 /\ f4.offset = 4) := by
 exact⟨_,_,_,_,_,I,⟨by decide,I,I⟩,⟨by decide,I,I⟩,⟨by decide,I,I⟩,⟨by decide,I,I⟩,⟨by decide,I,I⟩⟩
theorem bX (x0:Int) (x1:List UInt8) (x2:List UInt8) (x3:List UInt8) (x4:List UInt8) (W:World):(binOp .eql 82 (.agg #[.int .i64 x0,str x1,str x2,str x3,str x4]) (.agg #[.int .i64 x0,str x1,str x2,str x3,str x4])).run Tryz.prog W= .ok (.bool true) W:=by
 rw[run_eql_struct,run_equalIn_agg W 9999 82 _ _ (by kernel_rfl) (by kernel_rfl)]
 obtain⟨f0,f1,f2,f3,f4,hf,⟨n0,t0,o0⟩,⟨n1,t1,o1⟩,⟨n2,t2,o2⟩,⟨n3,t3,o3⟩,⟨n4,t4,o4⟩⟩:=Th
 rw[hf]
 simp[Op.eqFields,part,Tryz.isAgg3,HU,Tryz.isAgg80,Vc,n0,t0,o0,n1,t1,o1,n2,t2,o2,n3,t3,o3,n4,t4,o4]
theorem Ts : ∃ f0 f1 f2 : Field, (Tryz.prog.fieldsOf 84).toList = [f0, f1, f2] /\ (f0.name ≠ "_" /\ f0.type = 3 /\ f0.offset = 0) /\ (f1.name ≠ "_" /\ f1.type = 3 /\ f1.offset = 1) /\ (f2.name ≠ "_" /\ f2.type = 3 /\ f2.offset = 2) := by
 exact⟨_,_,_,I,⟨by decide,I,I⟩,⟨by decide,I,I⟩,⟨by decide,I,I⟩⟩
theorem dB (x0:Int) (x1:Int) (x2:Int) (W:World):(binOp .eql 84 (.agg #[.int .i64 x0, .int .i64 x1, .int .i64 x2]) (.agg #[.int .i64 x0, .int .i64 x1, .int .i64 x2])).run Tryz.prog W= .ok (.bool true) W:=by
 rw[run_eql_struct,run_equalIn_agg W 9999 84 _ _ (by kernel_rfl) (by kernel_rfl)]
 obtain⟨f0,f1,f2,hf,⟨n0,t0,o0⟩,⟨n1,t1,o1⟩,⟨n2,t2,o2⟩⟩:=Ts
 rw[hf]
 simp[Op.eqFields,part,Tryz.isAgg3,HU,n0,t0,o0,n1,t1,o1,n2,t2,o2]
theorem Ub : ∃ f0 f1 f2 : Field, (Tryz.prog.fieldsOf 89).toList = [f0, f1, f2] /\ (f0.name ≠ "_" /\ f0.type = 3 /\ f0.offset = 0) /\ (f1.name ≠ "_" /\ f1.type = 3 /\ f1.offset = 1) /\ (f2.name ≠ "_" /\ f2.type = 80 /\ f2.offset = 2) := by
 exact⟨_,_,_,I,⟨by decide,I,I⟩,⟨by decide,I,I⟩,⟨by decide,I,I⟩⟩
theorem a6 (x0:Int) (x1:Int) (x2:List UInt8) (W:World):(binOp .eql 89 (.agg #[.int .i64 x0, .int .i64 x1,str x2]) (.agg #[.int .i64 x0, .int .i64 x1,str x2])).run Tryz.prog W= .ok (.bool true) W:=by
 rw[run_eql_struct,run_equalIn_agg W 9999 89 _ _ (by kernel_rfl) (by kernel_rfl)]
 obtain⟨f0,f1,f2,hf,⟨n0,t0,o0⟩,⟨n1,t1,o1⟩,⟨n2,t2,o2⟩⟩:=Ub
 rw[hf]
 simp[Op.eqFields,part,Tryz.isAgg3,HU,Tryz.isAgg80,Vc,n0,t0,o0,n1,t1,o1,n2,t2,o2]
theorem TN : ∃ f0 f1 f2 f3 f4 : Field, (Tryz.prog.fieldsOf 91).toList = [f0, f1, f2, f3, f4] /\ (f0.name ≠ "_" /\ f0.type = 3 /\ f0.offset = 0) /\ (f1.name ≠ "_" /\ f1.type = 3 /\ f1.offset = 1) /\ (f2.name ≠ "_" /\ f2.type = 3 /\ f2.offset = 2) /\ (f3.name ≠ "_" /\ f3.type = 3 /\ f3.offset = 3) /\ (f4.name ≠ "_" /\ f4.type = 3 /\ f4.offset = 4) := by
 exact⟨_,_,_,_,_,I,⟨by decide,I,I⟩,⟨by decide,I,I⟩,⟨by decide,I,I⟩,⟨by decide,I,I⟩,⟨by decide,I,I⟩⟩
theorem dH (x0:Int) (x1:Int) (x2:Int) (x3:Int) (x4:Int) (W:World):(binOp .eql 91 (.agg #[.int .i64 x0, .int .i64 x1, .int .i64 x2, .int .i64 x3, .int .i64 x4]) (.agg #[.int .i64 x0, .int .i64 x1, .int .i64 x2, .int .i64 x3, .int .i64 x4])).run Tryz.prog W= .ok (.bool true) W:=by
 rw[run_eql_struct,run_equalIn_agg W 9999 91 _ _ (by kernel_rfl) (by kernel_rfl)]
 obtain⟨f0,f1,f2,f3,f4,hf,⟨n0,t0,o0⟩,⟨n1,t1,o1⟩,⟨n2,t2,o2⟩,⟨n3,t3,o3⟩,⟨n4,t4,o4⟩⟩:=TN
 rw[hf]
 simp[Op.eqFields,part,Tryz.isAgg3,HU,n0,t0,o0,n1,t1,o1,n2,t2,o2,n3,t3,o3,n4,t4,o4]
theorem T8 : ∃ f0 f1 f2 f3 : Field, (Tryz.prog.fieldsOf 71).toList = [f0, f1, f2, f3] /\ (f0.name ≠ "_" /\ f0.type = 3 /\ f0.offset = 0) /\ (f1.name ≠ "_" /\ f1.type = 3 /\ f1.offset = 1) /\ (f2.name ≠ "_" /\ f2.type = 3 /\ f2.offset = 2) /\ (f3.name ≠ "_" /\ f3.type = 3 /\ f3.offset = 3) := by
 exact⟨_,_,_,_,I,⟨by decide,I,I⟩,⟨by decide,I,I⟩,⟨by decide,I,I⟩,⟨by decide,I,I⟩⟩
theorem cF (x0:Int) (x1:Int) (x2:Int) (x3:Int) (W:World):(binOp .eql 71 (.agg #[.int .i64 x0, .int .i64 x1, .int .i64 x2, .int .i64 x3]) (.agg #[.int .i64 x0, .int .i64 x1, .int .i64 x2, .int .i64 x3])).run Tryz.prog W= .ok (.bool true) W:=by
 rw[run_eql_struct,run_equalIn_agg W 9999 71 _ _ (by kernel_rfl) (by kernel_rfl)]
 obtain⟨f0,f1,f2,f3,hf,⟨n0,t0,o0⟩,⟨n1,t1,o1⟩,⟨n2,t2,o2⟩,⟨n3,t3,o3⟩⟩:=T8
 rw[hf]
 simp[Op.eqFields,part,Tryz.isAgg3,HU,n0,t0,o0,n1,t1,o1,n2,t2,o2,n3,t3,o3]
section
variable {r:Option Nat} {n:Nat} {P:Program} {N:Nat} {D:List Deferred} {ops:List Oper} {Q:Exit->Act->World->Prop} {o:Oper} {rest:List Oper} {env:Env} {A:World->Prop}
theorem Gc {d:Nat} {t u:TypeId} {x y:Operand} {c1 c2:Array Value} {b:Bool} (hm:P.eqGuardType P.depth t=false) (hr: ∀W,(binOp .eql t (.agg c1) (.agg c2)).run P W= .ok (.bool b) W)
  (hg:Aj ops N env o=some true) (hd:o.dst=some d) (ho:o.op= .binOp .eql t x y u) (hx:evO N env x=some (.agg c1)) (hy:evO N env y=some (.agg c2))
  (h:WL r n P N D ops Q rest ((d, .bool b)::env) A):WL r n P N D ops Q (o::rest) env A:=
 Bf hg hd (fun c e=>by rw[ho] at e;cases e) (fun _ W hρ _=>by
  simp[execOp,ho,hρ _ _ hx,hρ _ _ hy,run_eqGuard_agg W .eql t x y _ _ hm,hr]) h
end
theorem SG (e:EdS) (q q':Option Addr) (cap cap':Nat) (hn:e.br.g.length<=1000000) (W:World) (hA:AB 2 gpC W q e.br.g) (hB:AB 2 gpC W q' e.br.g):
  Ag Tryz.prog 170 #[.agg (edV e q cap).toArray, .agg (edV e q' cap').toArray] W (fun _:Unit=> .bool true) (fun _=>True) (fun _=>[]):=by
 refine Ab Tryz.func170 I I I<|xb<|wF I I fun _=>wF I I fun _=>wP I<|zC<|?_
 rename_i b2 b3
 refine zE<|zA<|?_
 refine MH (X:=Nat×Nat) (fun x=>[(2,Af b2),(3,Af b3),(5,Af x.1),(6,Af x.2)])
  (fun x=>[⟨b2,93,edV e q cap,true,none⟩,⟨b3,93,edV e q' cap',true,none⟩,⟨x.1,87,brC e.br q cap,true,none⟩,⟨x.2,87,brC e.br q' cap',true,none⟩]) 4 Tryz.mixed (by kernel_rfl) ?_ ?_
 ·refine qP I<|qB 0 I I I<|qP I<|qB 1 I I I<|zG<|wX<|RS.cons ?_ (RS.cons ?_ RS.nil)
  ·refine AY (z:=(.agg (brC ⟨0,0,0,0,0,[]⟩ none 0).toArray)) I I I (fun W=>by kernel_rfl) fun bA=> ?_
   refine zC<|zF<|wX<|RS.cons ?_ RS.nil
   refine AY (z:=(.agg (brC ⟨0,0,0,0,0,[]⟩ none 0).toArray)) I I I (fun W=>by kernel_rfl) fun bB=> ?_
   refine zC<|zF<|wX<|RS.cons ?_ RS.nil
   refine wS 2 I I I<|zC<|zF<|wX<|RS.cons ?_ RS.nil
   refine wS 3 I I I<|zC<|zF<|?_
   refine B6 I (by((repeat (first|refine B3.same ?_|refine B3.off I ?_));exact tO)) ?_
   exact AR (bA,bB) ⟨I,I,I,I,tO⟩ [0,1,2,3] (by decide) I
  ·refine AY (z:=(.agg (brC ⟨0,0,0,0,0,[]⟩ none 0).toArray)) I I I (fun W=>by kernel_rfl) fun bB=> ?_
   refine zC<|zF<|wX<|RS.cons ?_ RS.nil
   refine AY (z:=(.agg (brC ⟨0,0,0,0,0,[]⟩ none 0).toArray)) I I I (fun W=>by kernel_rfl) fun bA=> ?_
   refine zC<|zF<|wX<|RS.cons ?_ RS.nil
   refine wS 3 I I I<|zC<|zF<|wX<|RS.cons ?_ RS.nil
   refine wS 2 I I I<|zC<|zF<|?_
   refine B6 I (by((repeat (first|refine B3.same ?_|refine B3.off I ?_));exact tO)) ?_
   exact AR (bA,bB) ⟨I,I,I,I,tO⟩ [0,1,3,2] (by decide) I
 rintro⟨bA,bB⟩
 refine xe<|wP I<|wB 0 I I I<|wP I<|wB 1 I I I<|wP I<|wU 15 true I (beq_self_eq_true _)<|Aa I<|wB 0 I I I<|wP I<|wB 1 I I I<|wP I<|wU 21 true I (beq_self_eq_true _)<|Ae I<|wB 0 I I I<|wP I<|wB 1 I I I<|Gc (by kernel_rfl) (fun W=>dJ e.x e.y e.ri e.ru e.gb e.pl e.ov W) I I I I I ?_
 refine Ae I<|wB 0 I I I<|wP I<|wB 1 I I I<|Gc (by kernel_rfl) (fun W=>bX e.op.s e.op.l e.op.r e.op.o e.op.i W) I I I I I ?_
 refine Ae I<|wB 0 I I I<|wP I<|wB 1 I I I<|Gc (by kernel_rfl) (fun W=>dB e.sz.k e.sz.w e.sz.d W) I I I I I ?_
 refine Ae I<|wB 2 I I I<|wP I<|wB 3 I I I<|wP I<|wU 49 true I (beq_self_eq_true _)<|Ae I<|wB 2 I I I<|wP I<|wB 3 I I I<|wP I<|wU 56 true I (beq_self_eq_true _)<|Ae I<|wB 2 I I I<|wP I<|wB 3 I I I<|wP I<|wU 63 true I (beq_self_eq_true _)<|?_
 refine Ae I<|wB 2 I I I<|wP I<|wB 3 I I I<|wP I<|wU 70 true I (beq_self_eq_true _)<|Ae I<|wB 2 I I I<|wP I<|wB 3 I I I<|wP I<|wU 77 true I (beq_self_eq_true _)<|Ae I<|wB 2 I I I<|wP I<|wB 3 I I I<|wC I I (fun W1 hp=>L4 e.br.g q q' cap cap' hn W1 (hA.hp hp) (hB.hp hp))<|Ae I<|?_
 refine wB 0 I I I<|wP I<|wB 1 I I I<|Gc (by kernel_rfl) (fun W=>a6 e.ld.k e.ld.s e.ld.w W) I I I I I ?_
 refine Ae I<|wB 0 I I I<|wP I<|wB 1 I I I<|Gc (by kernel_rfl) (fun W=>dH e.al.w e.al.d e.al.s e.al.l e.al.n W) I I I I I ?_
 refine Ae I<|wB 0 I I I<|wP I<|wB 1 I I I<|Gc (by kernel_rfl) (fun W=>cF e.tw e.tl e.tp e.tt W) I I I I I ?_
 exact Ae I<|wB 0 I I I<|wP I<|wB 1 I I I<|wP I<|wU 112 true I (beq_self_eq_true _)<|Ae I<|wB 0 I I I<|wP I<|wB 1 I I I<|wP I<|wU 119 true I ((Hk _ _).trans (dT I))<|Aa I<|xc<|wR1 I I I
theorem Sk (e:EdS) (q:Option Addr) (cap:Nat) (hk:e.k=1) (W:World):
  Ag Tryz.prog 171 #[.agg (edV e q cap).toArray] W (fun _:Unit=> .agg (edV { k:=1,tx:=e.tx } none 0).toArray) (fun _=>True) (fun _=>[]):=by
 refine Ab Tryz.func171 I I I<|xb<|wF I I fun _=>wG I I fun _=>zC<|?_
 rename_i b1 b2
 refine xe<|wP I<|wB 0 I I I<|wV 5 1 I hk<|Ak Tryz.hZ tH I I I I I I I I ?_
 refine wG I I fun _=>wS 2 I I I<|zC<|?_
 rename_i b3
 refine AM (bs':=[⟨b1,93,edV e q cap,true,none⟩,⟨b2,93,edV {} none 0,true,none⟩,⟨b3,93,edV { k:=1 } none 0,true,none⟩]) I ?_
 refine zE<|xd<|wP I<|wB 0 I I I<|wV 8 1 I hk<|xa<|zH<|xb<|Aa I<|xa<|zR I<|zB<|wP I<|wB 0 I I I<|wP I<|wS 2 I I I<|zC<|AM (bs':=[⟨b1,93,edV e q cap,true,none⟩,⟨b2,93,edV {} none 0,true,none⟩,⟨b3,93,edV { k:=1,tx:=e.tx } none 0,true,none⟩]) I ?_
 exact zN<|xe<|wB 2 I I I<|wS 1 I I I<|xc<|Ar tH I (.cell 1 I I I I I) () I tO fun W _=>As.nil _ _
theorem RI (e:EdS) (q:Option Addr) (cap:Nat) (hk:e.k=2) (W:World):
  Ag Tryz.prog 171 #[.agg (edV e q cap).toArray] W (fun _:Unit=> .agg (edV { k:=2,ix:=e.ix,x:=e.x,y:=e.y,ri:=e.ri,ru:=e.ru,gb:=e.gb,pl:=e.pl,ov:=e.ov } none 0).toArray) (fun _=>True) (fun _=>[]):=by
 refine Ab Tryz.func171 I I I<|xb<|wF I I fun _=>wG I I fun _=>zC<|?_
 rename_i b1 b2
 refine xe<|wP I<|wB 0 I I I<|wV 5 2 I hk<|Ak Tryz.hZ tH I I I I I I I I ?_
 refine wG I I fun _=>wS 2 I I I<|zC<|?_
 rename_i b3
 refine AM (bs':=[⟨b1,93,edV e q cap,true,none⟩,⟨b2,93,edV {} none 0,true,none⟩,⟨b3,93,edV { k:=2 } none 0,true,none⟩]) I ?_
 refine zE<|xd<|wP I<|wB 0 I I I<|wV 8 2 I hk<|xa<|zH<|xb<|Aa I<|xa<|zS I<|xb<|Aa I<|xa<|zR I<|Bh (X:=Unit) [true,true,true,true,true,false,false,false] (fun _=>[(2,Af b2),(3,Af b3)]) (fun _=>[⟨b1,93,edV e q cap,true,none⟩,⟨b2,93,edV {} none 0,true,none⟩,⟨b3,93,edV { k:=2,ix:=e.ix,x:=e.x,y:=e.y,ri:=e.ri,ru:=e.ru,gb:=e.gb,pl:=e.pl,ov:=e.ov } none 0,true,none⟩]) 3 [⟨b1,93,edV e q cap,true,none⟩,⟨b2,93,edV {} none 0,true,none⟩,CN] Tryz.mixed (by kernel_rfl) ?_ ?_
 ·refine qP I<|qB 0 I I I<|qP I<|qB 0 I I I<|qP I<|Cp<|wX<|wZ<|wS 2 I I I<|zC<|Aw<|wX<|wZ<|wP I<|zC<|Aw<|wX<|wZ<|wS 2 I I I<|zC<|Aw<|?_
  refine B6 I (by((repeat (first|refine B3.same ?_|refine B3.off I ?_));exact tO)) ?_
  exact AR () ⟨I,I,tO⟩ [0,1,2] (by decide) I
 intro _
 exact zN<|xe<|wB 2 I I I<|wS 1 I I I<|xc<|Ar tH I (.cell 1 I I I I I) () I tO fun W _=>As.nil _ _
theorem R5 (e:EdS) (q:Option Addr) (cap:Nat) (hk:e.k=3) (W:World):
  Ag Tryz.prog 171 #[.agg (edV e q cap).toArray] W (fun _:Unit=> .agg (edV { k:=3,ix:=e.ix,nb:=e.nb } none 0).toArray) (fun _=>True) (fun _=>[]):=by
 refine Ab Tryz.func171 I I I<|xb<|wF I I fun _=>wG I I fun _=>zC<|?_
 rename_i b1 b2
 refine xe<|wP I<|wB 0 I I I<|wV 5 3 I hk<|Ak Tryz.hZ tH I I I I I I I I ?_
 refine wG I I fun _=>wS 2 I I I<|zC<|?_
 rename_i b3
 refine AM (bs':=[⟨b1,93,edV e q cap,true,none⟩,⟨b2,93,edV {} none 0,true,none⟩,⟨b3,93,edV { k:=3 } none 0,true,none⟩]) I ?_
 refine zE<|xd<|wP I<|wB 0 I I I<|wV 8 3 I hk<|xa<|zH<|xb<|Aa I<|xa<|zS I<|xb<|Aa I<|xa<|zS I<|?_
 refine xd<|Aa I<|xa<|zR I<|zI<|zE<|zR I<|Bh (X:=Unit) [true,true,true,true,true,false,false,false] (fun _=>[(2,Af b2),(3,Af b3)]) (fun _=>[⟨b1,93,edV e q cap,true,none⟩,⟨b2,93,edV {} none 0,true,none⟩,⟨b3,93,edV { k:=3,ix:=e.ix,nb:=e.nb } none 0,true,none⟩]) 3 [⟨b1,93,edV e q cap,true,none⟩,⟨b2,93,edV {} none 0,true,none⟩,CN] Tryz.mixed (by kernel_rfl) ?_ ?_
 ·refine qP I<|qB 0 I I I<|qP I<|qB 0 I I I<|qP I<|Cp<|wX<|wZ<|wS 2 I I I<|zC<|Aw<|wX<|wZ<|wP I<|zC<|Aw<|wX<|wZ<|wS 2 I I I<|zC<|Aw<|?_
  refine B6 I (by((repeat (first|refine B3.same ?_|refine B3.off I ?_));exact tO)) ?_
  exact AR () ⟨I,I,tO⟩ [0,1,2] (by decide) I
 intro _
 exact zN<|xe<|wB 2 I I I<|wS 1 I I I<|xc<|Ar tH I (.cell 1 I I I I I) () I tO fun W _=>As.nil _ _
theorem QR (e:EdS) (q:Option Addr) (cap:Nat) (hk:e.k=4) (W:World):
  Ag Tryz.prog 171 #[.agg (edV e q cap).toArray] W (fun _:Unit=> .agg (edV { k:=4,nb:=e.nb } none 0).toArray) (fun _=>True) (fun _=>[]):=by
 refine Ab Tryz.func171 I I I<|xb<|wF I I fun _=>wG I I fun _=>zC<|?_
 rename_i b1 b2
 refine xe<|wP I<|wB 0 I I I<|wV 5 4 I hk<|Ak Tryz.hZ tH I I I I I I I I ?_
 refine wG I I fun _=>wS 2 I I I<|zC<|?_
 rename_i b3
 refine AM (bs':=[⟨b1,93,edV e q cap,true,none⟩,⟨b2,93,edV {} none 0,true,none⟩,⟨b3,93,edV { k:=4 } none 0,true,none⟩]) I ?_
 refine zE<|xd<|wP I<|wB 0 I I I<|wV 8 4 I hk<|xa<|zH<|xb<|Aa I<|xa<|zS I<|xb<|Aa I<|xa<|zS I<|?_
 refine xd<|Aa I<|xa<|zS I<|zB<|Aa I<|xa<|zS I<|xd<|Aa I<|xa<|zR I<|zI<|zE<|?_
 refine zR I<|zB<|wP I<|wB 0 I I I<|wP I<|wS 2 I I I<|zC<|AM (bs':=[⟨b1,93,edV e q cap,true,none⟩,⟨b2,93,edV {} none 0,true,none⟩,⟨b3,93,edV { k:=4,nb:=e.nb } none 0,true,none⟩]) I ?_
 exact zN<|xe<|wB 2 I I I<|wS 1 I I I<|xc<|Ar tH I (.cell 1 I I I I I) () I tO fun W _=>As.nil _ _
theorem RK (e:EdS) (q:Option Addr) (cap:Nat) (hk:e.k=5) (W:World):
  Ag Tryz.prog 171 #[.agg (edV e q cap).toArray] W (fun _:Unit=> .agg (edV { k:=5,ix:=e.ix,op:=e.op } none 0).toArray) (fun _=>True) (fun _=>[]):=by
 refine Ab Tryz.func171 I I I<|xb<|wF I I fun _=>wG I I fun _=>zC<|?_
 rename_i b1 b2
 refine xe<|wP I<|wB 0 I I I<|wV 5 5 I hk<|Ak Tryz.hZ tH I I I I I I I I ?_
 refine wG I I fun _=>wS 2 I I I<|zC<|?_
 rename_i b3
 refine AM (bs':=[⟨b1,93,edV e q cap,true,none⟩,⟨b2,93,edV {} none 0,true,none⟩,⟨b3,93,edV { k:=5 } none 0,true,none⟩]) I ?_
 refine zE<|xd<|wP I<|wB 0 I I I<|wV 8 5 I hk<|xa<|zH<|xb<|Aa I<|xa<|zS I<|xb<|Aa I<|xa<|zS I<|?_
 refine xd<|Aa I<|xa<|zS I<|zB<|Aa I<|xa<|zS I<|xd<|Aa I<|xa<|zS I<|zB<|Aa I<|?_
 refine xa<|zS I<|xb<|Aa I<|xa<|zR I<|Bh (X:=Unit) [true,true,true,true,true,false,false,false] (fun _=>[(2,Af b2),(3,Af b3)]) (fun _=>[⟨b1,93,edV e q cap,true,none⟩,⟨b2,93,edV {} none 0,true,none⟩,⟨b3,93,edV { k:=5,ix:=e.ix,op:=e.op } none 0,true,none⟩]) 3 [⟨b1,93,edV e q cap,true,none⟩,⟨b2,93,edV {} none 0,true,none⟩,CN] Tryz.mixed (by kernel_rfl) ?_ ?_
 ·refine qP I<|qB 0 I I I<|qP I<|qB 0 I I I<|qP I<|Cp<|wX<|wZ<|wS 2 I I I<|zC<|Aw<|wX<|wZ<|wP I<|zC<|Aw<|wX<|wZ<|wS 2 I I I<|zC<|Aw<|?_
  refine B6 I (by((repeat (first|refine B3.same ?_|refine B3.off I ?_));exact tO)) ?_
  exact AR () ⟨I,I,tO⟩ [0,1,2] (by decide) I
 intro _
 exact zN<|xe<|wB 2 I I I<|wS 1 I I I<|xc<|Ar tH I (.cell 1 I I I I I) () I tO fun W _=>As.nil _ _
theorem Ri (e:EdS) (q:Option Addr) (cap:Nat) (hk:e.k=6) (W:World):
  Ag Tryz.prog 171 #[.agg (edV e q cap).toArray] W (fun _:Unit=> .agg (edV { k:=6,sz:=e.sz } none 0).toArray) (fun _=>True) (fun _=>[]):=by
 refine Ab Tryz.func171 I I I<|xb<|wF I I fun _=>wG I I fun _=>zC<|?_
 rename_i b1 b2
 refine xe<|wP I<|wB 0 I I I<|wV 5 6 I hk<|Ak Tryz.hZ tH I I I I I I I I ?_
 refine wG I I fun _=>wS 2 I I I<|zC<|?_
 rename_i b3
 refine AM (bs':=[⟨b1,93,edV e q cap,true,none⟩,⟨b2,93,edV {} none 0,true,none⟩,⟨b3,93,edV { k:=6 } none 0,true,none⟩]) I ?_
 refine zE<|xd<|wP I<|wB 0 I I I<|wV 8 6 I hk<|xa<|zH<|xb<|Aa I<|xa<|zS I<|xb<|Aa I<|xa<|zS I<|?_
 refine xd<|Aa I<|xa<|zS I<|zB<|Aa I<|xa<|zS I<|xd<|Aa I<|xa<|zS I<|zB<|Aa I<|?_
 refine xa<|zS I<|xb<|Aa I<|xa<|zS I<|xb<|Aa I<|xa<|zR I<|zB<|wP I<|wB 0 I I I<|wP I<|wS 2 I I I<|zC<|AM (bs':=[⟨b1,93,edV e q cap,true,none⟩,⟨b2,93,edV {} none 0,true,none⟩,⟨b3,93,edV { k:=6,sz:=e.sz } none 0,true,none⟩]) I ?_
 exact zN<|xe<|wB 2 I I I<|wS 1 I I I<|xc<|Ar tH I (.cell 1 I I I I I) () I tO fun W _=>As.nil _ _
theorem RW (e:EdS) (q:Option Addr) (cap:Nat) (hk:e.k=7) (W:World):
  Ag Tryz.prog 171 #[.agg (edV e q cap).toArray] W (fun _:Unit=> .agg (edV { k:=7,ix:=e.ix,br:=e.br } q cap).toArray) (fun _=>True) (fun _=>[]):=by
 refine Ab Tryz.func171 I I I<|xb<|wF I I fun _=>wG I I fun _=>zC<|?_
 rename_i b1 b2
 refine xe<|wP I<|wB 0 I I I<|wV 5 7 I hk<|Ak Tryz.hZ tH I I I I I I I I ?_
 refine wG I I fun _=>wS 2 I I I<|zC<|?_
 rename_i b3
 refine AM (bs':=[⟨b1,93,edV e q cap,true,none⟩,⟨b2,93,edV {} none 0,true,none⟩,⟨b3,93,edV { k:=7 } none 0,true,none⟩]) I ?_
 refine zE<|xd<|wP I<|wB 0 I I I<|wV 8 7 I hk<|xa<|zH<|xb<|Aa I<|xa<|zS I<|xb<|Aa I<|xa<|zS I<|?_
 refine xd<|Aa I<|xa<|zS I<|zB<|Aa I<|xa<|zS I<|xd<|Aa I<|xa<|zS I<|zB<|Aa I<|?_
 refine xa<|zS I<|xb<|Aa I<|xa<|zS I<|xb<|Aa I<|xa<|zS I<|xb<|Aa I<|xa<|zR I<|Bh (X:=Unit) [true,true,true,true,true,false,false,false] (fun _=>[(2,Af b2),(3,Af b3)]) (fun _=>[⟨b1,93,edV e q cap,true,none⟩,⟨b2,93,edV {} none 0,true,none⟩,⟨b3,93,edV { k:=7,ix:=e.ix,br:=e.br } q cap,true,none⟩]) 3 [⟨b1,93,edV e q cap,true,none⟩,⟨b2,93,edV {} none 0,true,none⟩,CN] Tryz.mixed (by kernel_rfl) ?_ ?_
 ·refine qP I<|qB 0 I I I<|qP I<|qB 0 I I I<|qP I<|Cp<|wX<|wZ<|wS 2 I I I<|zC<|Aw<|wX<|wZ<|wP I<|zC<|Aw<|wX<|wZ<|wS 2 I I I<|zC<|Aw<|?_
  refine B6 I (by((repeat (first|refine B3.same ?_|refine B3.off I ?_));exact tO)) ?_
  exact AR () ⟨I,I,tO⟩ [0,1,2] (by decide) I
 intro _
 exact zN<|xe<|wB 2 I I I<|wS 1 I I I<|xc<|Ar tH I (.cell 1 I I I I I) () I tO fun W _=>As.nil _ _
theorem QE (e:EdS) (q:Option Addr) (cap:Nat) (hk:e.k=8) (W:World):
  Ag Tryz.prog 171 #[.agg (edV e q cap).toArray] W (fun _:Unit=> .agg (edV { k:=8,nb:=e.nb } none 0).toArray) (fun _=>True) (fun _=>[]):=by
 refine Ab Tryz.func171 I I I<|xb<|wF I I fun _=>wG I I fun _=>zC<|?_
 rename_i b1 b2
 refine xe<|wP I<|wB 0 I I I<|wV 5 8 I hk<|Ak Tryz.hZ tH I I I I I I I I ?_
 refine wG I I fun _=>wS 2 I I I<|zC<|?_
 rename_i b3
 refine AM (bs':=[⟨b1,93,edV e q cap,true,none⟩,⟨b2,93,edV {} none 0,true,none⟩,⟨b3,93,edV { k:=8 } none 0,true,none⟩]) I ?_
 refine zE<|xd<|wP I<|wB 0 I I I<|wV 8 8 I hk<|xa<|zH<|xb<|Aa I<|xa<|zS I<|xb<|Aa I<|xa<|zS I<|?_
 refine xd<|Aa I<|xa<|zS I<|zB<|Aa I<|xa<|zS I<|xd<|Aa I<|xa<|zS I<|zB<|Aa I<|?_
 refine xa<|zR I<|zB<|wP I<|wB 0 I I I<|wP I<|wS 2 I I I<|zC<|AM (bs':=[⟨b1,93,edV e q cap,true,none⟩,⟨b2,93,edV {} none 0,true,none⟩,⟨b3,93,edV { k:=8,nb:=e.nb } none 0,true,none⟩]) I ?_
 exact zN<|xe<|wB 2 I I I<|wS 1 I I I<|xc<|Ar tH I (.cell 1 I I I I I) () I tO fun W _=>As.nil _ _
theorem Q0 (e:EdS) (q:Option Addr) (cap:Nat) (hk:e.k=9) (W:World):
  Ag Tryz.prog 171 #[.agg (edV e q cap).toArray] W (fun _:Unit=> .agg (edV { k:=9,tw:=e.tw,tl:=e.tl,tp:=e.tp,tt:=e.tt } none 0).toArray) (fun _=>True) (fun _=>[]):=by
 refine Ab Tryz.func171 I I I<|xb<|wF I I fun _=>wG I I fun _=>zC<|?_
 rename_i b1 b2
 refine xe<|wP I<|wB 0 I I I<|wV 5 9 I hk<|Ak Tryz.hZ tH I I I I I I I I ?_
 refine wG I I fun _=>wS 2 I I I<|zC<|?_
 rename_i b3
 refine AM (bs':=[⟨b1,93,edV e q cap,true,none⟩,⟨b2,93,edV {} none 0,true,none⟩,⟨b3,93,edV { k:=9 } none 0,true,none⟩]) I ?_
 refine zE<|xd<|wP I<|wB 0 I I I<|wV 8 9 I hk<|xa<|zH<|xb<|Aa I<|xa<|zS I<|xb<|Aa I<|xa<|zS I<|?_
 refine xd<|Aa I<|xa<|zS I<|zB<|Aa I<|xa<|zS I<|xd<|Aa I<|xa<|zS I<|zB<|Aa I<|?_
 refine xa<|zS I<|xb<|Aa I<|xa<|zS I<|xb<|Aa I<|xa<|zS I<|xb<|Aa I<|xa<|zS I<|?_
 refine xb<|Aa I<|xa<|zR I<|zB<|wP I<|wB 0 I I I<|wP I<|wS 2 I I I<|zC<|AM (bs':=[⟨b1,93,edV e q cap,true,none⟩,⟨b2,93,edV {} none 0,true,none⟩,⟨b3,93,edV { k:=9,tw:=e.tw,tl:=e.tl,tp:=e.tp,tt:=e.tt } none 0,true,none⟩]) I ?_
 exact zN<|xe<|wB 2 I I I<|wS 1 I I I<|xc<|Ar tH I (.cell 1 I I I I I) () I tO fun W _=>As.nil _ _
theorem OG (e:EdS) (q:Option Addr) (cap:Nat) (hk:e.k=10) (W:World):
  Ag Tryz.prog 171 #[.agg (edV e q cap).toArray] W (fun _:Unit=> .agg (edV { k:=10,ix:=e.ix,ld:=e.ld } none 0).toArray) (fun _=>True) (fun _=>[]):=by
 refine Ab Tryz.func171 I I I<|xb<|wF I I fun _=>wG I I fun _=>zC<|?_
 rename_i b1 b2
 refine xe<|wP I<|wB 0 I I I<|wV 5 10 I hk<|Ak Tryz.hZ tH I I I I I I I I ?_
 refine wG I I fun _=>wS 2 I I I<|zC<|?_
 rename_i b3
 refine AM (bs':=[⟨b1,93,edV e q cap,true,none⟩,⟨b2,93,edV {} none 0,true,none⟩,⟨b3,93,edV { k:=10 } none 0,true,none⟩]) I ?_
 refine zE<|xd<|wP I<|wB 0 I I I<|wV 8 10 I hk<|xa<|zH<|xb<|Aa I<|xa<|zS I<|xb<|Aa I<|xa<|zS I<|?_
 refine xd<|Aa I<|xa<|zS I<|zB<|Aa I<|xa<|zS I<|xd<|Aa I<|xa<|zS I<|zB<|Aa I<|?_
 refine xa<|zS I<|xb<|Aa I<|xa<|zS I<|xb<|Aa I<|xa<|zS I<|xb<|Aa I<|xa<|zS I<|?_
 refine xb<|Aa I<|xa<|zS I<|xb<|Aa I<|xa<|zR I<|Bh (X:=Unit) [true,true,true,true,true,false,false,false] (fun _=>[(2,Af b2),(3,Af b3)]) (fun _=>[⟨b1,93,edV e q cap,true,none⟩,⟨b2,93,edV {} none 0,true,none⟩,⟨b3,93,edV { k:=10,ix:=e.ix,ld:=e.ld } none 0,true,none⟩]) 3 [⟨b1,93,edV e q cap,true,none⟩,⟨b2,93,edV {} none 0,true,none⟩,CN] Tryz.mixed (by kernel_rfl) ?_ ?_
 ·refine qP I<|qB 0 I I I<|qP I<|qB 0 I I I<|qP I<|Cp<|wX<|wZ<|wS 2 I I I<|zC<|Aw<|wX<|wZ<|wP I<|zC<|Aw<|wX<|wZ<|wS 2 I I I<|zC<|Aw<|?_
  refine B6 I (by((repeat (first|refine B3.same ?_|refine B3.off I ?_));exact tO)) ?_
  exact AR () ⟨I,I,tO⟩ [0,1,2] (by decide) I
 intro _
 exact zN<|xe<|wB 2 I I I<|wS 1 I I I<|xc<|Ar tH I (.cell 1 I I I I I) () I tO fun W _=>As.nil _ _
theorem O3 (e:EdS) (q:Option Addr) (cap:Nat) (hk:e.k=11) (W:World):
  Ag Tryz.prog 171 #[.agg (edV e q cap).toArray] W (fun _:Unit=> .agg (edV { k:=11,al:=e.al } none 0).toArray) (fun _=>True) (fun _=>[]):=by
 refine Ab Tryz.func171 I I I<|xb<|wF I I fun _=>wG I I fun _=>zC<|?_
 rename_i b1 b2
 refine xe<|wP I<|wB 0 I I I<|wV 5 11 I hk<|Ak Tryz.hZ tH I I I I I I I I ?_
 refine wG I I fun _=>wS 2 I I I<|zC<|?_
 rename_i b3
 refine AM (bs':=[⟨b1,93,edV e q cap,true,none⟩,⟨b2,93,edV {} none 0,true,none⟩,⟨b3,93,edV { k:=11 } none 0,true,none⟩]) I ?_
 refine zE<|xd<|wP I<|wB 0 I I I<|wV 8 11 I hk<|xa<|zH<|xb<|Aa I<|xa<|zS I<|xb<|Aa I<|xa<|zS I<|?_
 refine xd<|Aa I<|xa<|zS I<|zB<|Aa I<|xa<|zS I<|xd<|Aa I<|xa<|zS I<|zB<|Aa I<|?_
 refine xa<|zS I<|xb<|Aa I<|xa<|zS I<|xb<|Aa I<|xa<|zS I<|xb<|Aa I<|xa<|zS I<|?_
 refine xb<|Aa I<|xa<|zS I<|xb<|Aa I<|xa<|zS I<|xb<|Aa I<|xa<|zR I<|zB<|wP I<|wB 0 I I I<|?_
 refine wP I<|wS 2 I I I<|zC<|AM (bs':=[⟨b1,93,edV e q cap,true,none⟩,⟨b2,93,edV {} none 0,true,none⟩,⟨b3,93,edV { k:=11,al:=e.al } none 0,true,none⟩]) I ?_
 exact zN<|xe<|wB 2 I I I<|wS 1 I I I<|xc<|Ar tH I (.cell 1 I I I I I) () I tO fun W _=>As.nil _ _
theorem Qa (e:EdS) (q:Option Addr) (cap:Nat) (hk:e.k=12) (W:World):
  Ag Tryz.prog 171 #[.agg (edV e q cap).toArray] W (fun _:Unit=> .agg (edV { k:=12,ix:=e.ix,nb:=e.nb } none 0).toArray) (fun _=>True) (fun _=>[]):=by
 refine Ab Tryz.func171 I I I<|xb<|wF I I fun _=>wG I I fun _=>zC<|?_
 rename_i b1 b2
 refine xe<|wP I<|wB 0 I I I<|wV 5 12 I hk<|Ak Tryz.hZ tH I I I I I I I I ?_
 refine wG I I fun _=>wS 2 I I I<|zC<|?_
 rename_i b3
 refine AM (bs':=[⟨b1,93,edV e q cap,true,none⟩,⟨b2,93,edV {} none 0,true,none⟩,⟨b3,93,edV { k:=12 } none 0,true,none⟩]) I ?_
 refine zE<|xd<|wP I<|wB 0 I I I<|wV 8 12 I hk<|xa<|zH<|xb<|Aa I<|xa<|zS I<|xb<|Aa I<|xa<|zS I<|?_
 refine xd<|Aa I<|xa<|zS I<|zB<|Aa I<|xa<|zR I<|Bh (X:=Unit) [true,true,true,true,true,false,false,false] (fun _=>[(2,Af b2),(3,Af b3)]) (fun _=>[⟨b1,93,edV e q cap,true,none⟩,⟨b2,93,edV {} none 0,true,none⟩,⟨b3,93,edV { k:=12,ix:=e.ix,nb:=e.nb } none 0,true,none⟩]) 3 [⟨b1,93,edV e q cap,true,none⟩,⟨b2,93,edV {} none 0,true,none⟩,CN] Tryz.mixed (by kernel_rfl) ?_ ?_
 ·refine qP I<|qB 0 I I I<|qP I<|qB 0 I I I<|qP I<|Cp<|wX<|wZ<|wS 2 I I I<|zC<|Aw<|wX<|wZ<|wP I<|zC<|Aw<|wX<|wZ<|wS 2 I I I<|zC<|Aw<|?_
  refine B6 I (by((repeat (first|refine B3.same ?_|refine B3.off I ?_));exact tO)) ?_
  exact AR () ⟨I,I,tO⟩ [0,1,2] (by decide) I
 intro _
 exact zN<|xe<|wB 2 I I I<|wS 1 I I I<|xc<|Ar tH I (.cell 1 I I I I I) () I tO fun W _=>As.nil _ _
abbrev aT (e:EdS) (q:Option Addr) (cap:Nat) (q':Option Addr) (cap':Nat):Prop:= ∀W1,Ag Tryz.prog 171 #[.agg (edV e q cap).toArray] W1 (fun _:Unit=> .agg (edV e q' cap').toArray) (fun _=>True) (fun _=>[])
theorem TZ (e:EdS) (q q':Option Addr) (cap cap':Nat) (h1:1<=e.k) (h2:e.k<=12) (hU:aT e q cap q' cap') (hn:e.br.g.length<=1000000) (W:World) (hA:AB 2 gpC W q e.br.g) (hB:AB 2 gpC W q' e.br.g):
  Ag Tryz.prog 116 #[.agg (edV e q cap).toArray] W (fun _:Unit=> .int .i64 0) (fun _=>True) (fun _=>[]):=by
 refine Ab Tryz.func116 I I I<|xb<|wF I I fun _=>wP I<|xa<|xd<|wP I<|wB 0 I I I<|wP I<|wU 5 false I (dF (by omega))<|Aa I<|wB 0 I I I<|wP I<|wU 9 false I (dF (by omega))<|wP I<|xa<|zS I<|zI<|?_
 exact zE<|zA<|zA<|zU<|qB 0 I I I<|qB 0 I I I<|L9 (v:= .agg (edV e q' cap').toArray) I I I I I I (by kernel_rfl) (fun W1 hp=>hU W1)<|qC I I (fun W1 hp=>SG e q q' cap cap' hn W1 (hA.hp hp) (hB.hp hp))<|qP I<|zD<|xa<|zS I<|zI<|xe<|wP I<|xc<|wR1 I I I
theorem Rd (e:EdS) (q:Option Addr) (cap:Nat) (hk:e.k=0) (W:World):
  Ag Tryz.prog 116 #[.agg (edV e q cap).toArray] W (fun _:Unit=> .int .i64 8) (fun _=>True) (fun _=>[]):=by
 refine Ab Tryz.func116 I I I<|xb<|wF I I fun _=>wP I<|xa<|xd<|wP I<|wB 0 I I I<|wV 4 0 I hk<|Aa I<|?_
 iterate 3 refine Ac I I ?_
 exact wP I<|xa<|zR I<|xb<|wP I<|xc<|zP<|wR1 I I I
end
section
open Go Go.RowKit Go.Am Go.Lib
set_option maxRecDepth 100000
theorem Rw (b g cap B:Nat) (p wd nm:Value) (cur:Array Value) (l:List UInt8) (h0:l≠[]) (w:World) (hbk:w.heap[b]? =some (.cells #[p, .slice (some ⟨g,0,none⟩) l.length cap,wd,nm] 185 (0,0))) (hg:w.heap[g]? =some (.cells cur 5 (0,0)))
  (hcs:cur.size=cap) (hnc:l.length<=cap) (hcm:cap<=maxLen) (htake:cur.toList.take l.length=Lib.byteCells l) (hB:B<=g):
  Calls Tryz.prog 118 #[.pointer (some ⟨b,0,none⟩)] w fun e w'=>e= .returned (.string ⟨l.toArray⟩)/\Below B w w':=by
 have hl0:l.length≠0:=by simpa using h0
 have c1:w.drew.cell? ⟨b,1,none⟩=some (.slice (some ⟨g,0,none⟩) l.length cap):=by
  have:w.drew.heap[b]? =some (.cells #[p, .slice (some ⟨g,0,none⟩) l.length cap,wd,nm] 185 (0,0)):=hbk
  rw[Lib.cell_of_heap this];rfl
 have hSD:(Builtin.unsafeSliceData_ #[44] 241 #[.slice (some ⟨g,0,none⟩) l.length cap]).run Tryz.prog w.drew= .ok (.pointer (some ⟨g,0,none⟩)) w.drew:=
  Lib.run_unsafeSliceData_row _ _ _ _ _ _ (by omega)
 have hUS:(Builtin.unsafeString_ #[241,3] 9 #[.pointer (some ⟨g,0,none⟩), .int .i64 l.length]).run Tryz.prog w.drew= .ok (.string ⟨l.toArray⟩) (w.drew.freeze ⟨g,0,none⟩ l.length):=by
  refine Lib.run_unsafeString_row w.drew 241 3 9 5 Tryz.underlying241 (by kernel_rfl) g cur.size (by have hg':w.drew.heap[g]? =some (.cells cur 5 (0,0)):=hg;simp[World.shape?,hg']) l h0 (by omega) (by unfold maxLen at hcm;omega) ?_
  intro j x hx
  have hg':w.drew.heap[g]? =some (.cells cur 5 (0,0)):=hg
  rw[Addr.add_none,Nat.zero_add,Lib.cell_of_heap hg']
  have h1:(cur.toList.take l.length)[j]? =some (.int .u8 x.toNat):=by rw[htake];simp[Lib.byteCells,hx]
  have hj:j<l.length:=(List.getElem?_eq_some_iff.1 hx).1
  rw[List.getElem?_take_of_lt hj] at h1
  simpa using h1
 have mixed:=Tryz.mixed
 have hN:Tryz.f118.ntmps=14:=rfl
 go_enter Tryz.func118,hN
 go_wp2
 go_region_o
 all_goals (go_wp2;go_ret;exact⟨rfl,Lib.below_freeze (Below.drew (Below.refl B w)) (p:=⟨g,0,none⟩) hB _⟩)
end
section
open Go Go.RowKit Go.Am Go.Lib
set_option maxRecDepth 10000
section
variable {r:Option Nat} {n:Nat} {P:Program} {W0:World} {N:Nat} {D:List Deferred} {ops:List Oper} {Q:Exit->Act->World->Prop} {o:Oper} {rest:List Oper} {env:Env} {bxs:List Bx}
theorem XH {c:Call} {f:Operand} {g d:Nat} {capt vs:List Value} {v:Value}
  (hg:Aj ops N env o=some true) (hd:o.dst=some d) (ho:o.op= .call c) (hc:c.callee= .value f) (hf:evO N env f=some (.func (.func g) #[] capt.toArray)) (ha:Cl (evO N env) c.args.toList=some vs) (hE:Bm P g=true)
  (hC: ∀W,Hp W0 bxs W->Calls P g (vs++capt).toArray W fun e W'=>e= .returned v/\Below W0.heap.size W W')
  (h:WL r n P N D ops Q rest ((d,v)::env) (Hp W0 [])):WL r n P N D ops Q (o::rest) env (Hp W0 bxs):= .mk fun a W h1 h2 hp=>by
 refine By hg h1 (fun c e=>by rw[ho] at e;cases e) ?_
 rw[F1 ho hc (A4 h1 _ _ hf) (DG (A4 h1) ha) hE]
 simp only[Oper.uponIn,hd]
 refine⟨fun hx=>(by cases hx),Dm ((hC W hp).mono ?_)⟩
 rintro e W' ⟨rfl,hb⟩
 exact h.out a W' h1 h2 ⟨hp.below.trans hb,Own.nil _ _⟩
end
theorem TE {W0 W:World} {bxs:List Bx} (hp:Hp W0 bxs W) (k j:Nat) {b:Nat} {p:Value} {V:Vec} {l:List UInt8} {wide num:Int} (hk:nth bxs k=some ⟨b,185,wrC p (wrV V l.length) wide num,true,none⟩) (hj:nth bxs j=some (V.bx 5 (bcs l))) (hV:V.OK 1 l.length (bcs l)) (h0:l≠[]):
  Calls Tryz.prog 118 #[Af b] W fun e W'=>e= .returned (str l)/\Below W0.heap.size W W':=by
 rw[AT] at hk hj
 have hb:=(hp.at_ _ _ hk rfl).1
 obtain⟨vp,cap,junk⟩:=V
 cases vp with
 |none=>
  have:=hV.nil rfl
  exact absurd (List.eq_nil_of_length_eq_zero this) h0
 |some g=>
  obtain⟨c1,c2,c3⟩:=hV.cap (by simp)
  have hg:=hp.at_ _ _ hj rfl
  refine Rw b g cap W0.heap.size p (.int .i64 wide) (.int .i64 num) _ l h0 W hb hg.1 ?_ c1 c2 ?_ hg.2
  ·show(bcs l++junk).toArray.size=cap
   rw[List.size_toArray,List.length_append]
   have c3:(bcs l).length+junk.length=cap*1:=c3
   omega
  ·show(bcs l++junk).toArray.toList.take l.length=_
   have e:(bcs l).length=l.length:=Zs l
   simp only[List.take_append,e,Nat.sub_self,List.take_zero,List.append_nil]
   rw[List.take_of_length_le (by omega)]
   simp[bcs,strCells,Lib.byteCells]
abbrev trL (k:Nat):List Bool:=List.replicate k true
def Jt (ws:List (List UInt8)) (k:Nat):List (Int×Int):=(List.range k).map fun j=>(iw ws (6+2*j),iw ws (7+2*j))
theorem SJ (ws:List (List UInt8)) (k:Nat):Jt ws (k+1)=Jt ws k++[(iw ws (6+2*k),iw ws (7+2*k))]:=by
 unfold Jt
 rw[List.range_succ,List.map_append]
 rfl
theorem YI {n:Nat} (h:1<=n): ∀k,stI n k=if k+1<=n then k+1 else n
 |0=>by rw[if_pos h];rfl
 |k+1=>by
  show rdN n (stI n k)=_
  rw[YI h k]
  unfold rdN
  split<;>split<;>split<;>omega
def PL (n:Nat):Nat:=(n-6)/2
def BL (ws:List (List UInt8)):EdS:= { k:=7,ix:=iw ws 0,br:=⟨iw ws 1,iw ws 2,iw ws 3,iw ws 4,iw ws 5,Jt ws (PL ws.length)⟩ }
def EdG (ws:List (List UInt8)) (x:EdX):Prop:=(x.V.OK 2 x.e.br.g.length (x.e.br.g.flatMap gpC)/\x.e.br.g.length<=ws.length)/\x.i=stI ws.length (6+2*PL ws.length)/\x.bad=stB ws (trL (6+2*PL ws.length))/\(x.bad=false->x.e=BL ws)
theorem WU {ws:List (List UInt8)} {k:Nat} (m:Nat) (h:stB ws (trL (k+m))=false):stB ws (trL k)=false:=by
 induction m with
 |zero=>exact h
 |succ m ih=>exact ih (AG (t:=true) (r:=trL (k+m)) h)
theorem WM (b g:Nat) (ws:List (List UInt8)) (n:Nat):rdT b g ws (trL n)=rdL b g ws (stI ws.length n) (stB ws (trL n)):=by
 unfold rdT
 rw[List.length_replicate]
structure BrX where
 gs:List (Int×Int)
 V:Vec
theorem O9 (b g:Nat) (ws:List (List UInt8)) (h1:1<=ws.length) (hn:ws.length<=1000000) (hl: ∀w∈ws,w.length<=1000000) (Wb W:World) (hb0:Below Wb.heap.size Wb W) (hO:Go.Am.Own Wb.heap.size [Ad (rdL b g ws 0 false)] W) (hv:AQ Wb) (hk:kdW ws=7):
  Fg b g ws Wb W (EdG ws):=by
 refine A0.enterL (bs:=[Ad (rdL b g ws 0 false)]) (bs':=fun x:EdX=>[Ad (rdL b g ws x.i x.bad++(x.V.bx 177 (x.e.br.g.flatMap gpC)).blk)]) hb0 hO (Ap _) (fun x=>Ap _) Tryz.func59 I I I ?_
 refine xb<|wG I I fun _=>zC<|?_
 rename_i b2
 refine xe<|wD (X:=Nat) I I (fun W1 _=>BF W1) ?_
 intro bm _
 refine wP I ?_
 refine Ah 1 (B:=Ad (rdL b g ws 0 false)) (X:=Unit) (fun _=>Ad (rdT b g ws [])) I I I I I I (by kernel_rfl) I (fun _ _=>by show rdL b g ws 1 false=_;rw[(Bk h1).1,(Bk h1).2]) (fun W1 hp=>Bp b g ws 0 false (Nat.zero_le _) Wb W1 hp.below (hp.pick [1] (by decide) I).own) ?_
 intro _ _
 refine BR 3 (d:= .string) Tryz.underlying169 Tryz.underlying9 Tryz.zeroValue3 I I I I I I tO (Do (ws.getD 0 [])) ?_
 refine wV 10 7 I hk<|Ak Tryz.hZ tH I I I I I I I I ?_
 refine wG I I fun _=>wS 4 I I I<|zC<|?_
 rename_i b3
 refine AM (bs':=[Ad (Ay Wb.heap.size W (rdL b g ws 0 false)),Ad (rdT b g ws []),⟨b2,93,edV {} none 0,true,none⟩,Bn bm (Cx Br 0) 12,⟨b3,93,edV { k:=7 } none 0,true,none⟩]) I ?_
 refine zE<|xd<|wP I<|wB 4 I I I<|xa<|zH<|xb<|Aa I<|xa<|zS I<|xb<|Aa I<|xa<|zS I<|zA<|?_
 refine zB<|Aa I<|xa<|zS I<|xd<|Aa I<|xa<|zS I<|zB<|Aa I<|xa<|zS I<|xb<|Aa I<|?_
 refine xa<|zS I<|xb<|Aa I<|xa<|zS I<|xb<|Aa I<|xa<|zR I<|xb<|wP I<|Ah 1 (B:=Ad (rdT b g ws [])) (X:=Int) (fun _=>Ad (rdT b g ws [true])) I I I I I I (by kernel_rfl) I (fun _ _=>rfl) (fun W1 hp=>AW b g ws [] h1 hl Wb W1 hp.below (hp.pick [1] (by decide) I).own hv) ?_
 intro v0 f0
 refine wP I<|wS 4 I I I<|zC<|AM (bs':=[Ad (Ay Wb.heap.size W (rdL b g ws 0 false)),Ad (rdT b g ws [true]),⟨b2,93,edV {} none 0,true,none⟩,Bn bm (Cx Br 0) 12,⟨b3,93,edV { k:=7,ix:=v0 } none 0,true,none⟩]) I ?_
 refine xe<|wP I<|Ah 1 (B:=Ad (rdT b g ws [true])) (X:=Int) (fun _=>Ad (rdT b g ws [true,true])) I I I I I I (by kernel_rfl) I (fun _ _=>rfl) (fun W1 hp=>AW b g ws [true] h1 hl Wb W1 hp.below (hp.pick [1] (by decide) I).own hv) ?_
 intro v1 f1
 refine wP I<|Ah 1 (B:=Ad (rdT b g ws [true,true])) (X:=Int) (fun _=>Ad (rdT b g ws [true,true,true])) I I I I I I (by kernel_rfl) I (fun _ _=>rfl) (fun W1 hp=>AW b g ws [true,true] h1 hl Wb W1 hp.below (hp.pick [1] (by decide) I).own hv) ?_
 intro v2 f2
 refine wP I<|Ah 1 (B:=Ad (rdT b g ws [true,true,true])) (X:=Int) (fun _=>Ad (rdT b g ws [true,true,true,true])) I I I I I I (by kernel_rfl) I (fun _ _=>rfl) (fun W1 hp=>AW b g ws [true,true,true] h1 hl Wb W1 hp.below (hp.pick [1] (by decide) I).own hv) ?_
 intro v3 f3
 refine wP I<|Ah 1 (B:=Ad (rdT b g ws [true,true,true,true])) (X:=Int) (fun _=>Ad (rdT b g ws [true,true,true,true,true])) I I I I I I (by kernel_rfl) I (fun _ _=>rfl) (fun W1 hp=>AW b g ws [true,true,true,true] h1 hl Wb W1 hp.below (hp.pick [1] (by decide) I).own hv) ?_
 intro v4 f4
 refine wP I<|Ah 1 (B:=Ad (rdT b g ws [true,true,true,true,true])) (X:=Int) (fun _=>Ad (rdT b g ws [true,true,true,true,true,true])) I I I I I I (by kernel_rfl) I (fun _ _=>rfl) (fun W1 hp=>AW b g ws [true,true,true,true,true] h1 hl Wb W1 hp.below (hp.pick [1] (by decide) I).own hv) ?_
 intro v5 f5
 refine Ak Tryz.hZ tH I I I I I I I I ?_
 refine wP I<|wS 4 I I I<|zC<|AM (bs':=[Ad (Ay Wb.heap.size W (rdL b g ws 0 false)),Ad (rdT b g ws (trL 6)),⟨b2,93,edV {} none 0,true,none⟩,Bn bm (Cx Br 0) 12,⟨b3,93,edV { k:=7,ix:=v0,br:=⟨v1,v2,v3,v4,v5,[]⟩ } none 0,true,none⟩]) I ?_
 refine zE<|zH<|Be ?_
 refine B2 [Ad (Ay Wb.heap.size W (rdL b g ws 0 false)),⟨b,131,rdC g ws.length (stI ws.length (6+2*0)) (stB ws (trL (6+2*0))),true,none⟩,⟨g,9,ss ws++[],true,none⟩,⟨b2,93,edV {} none 0,true,none⟩,Bn bm (Cx Br 0) 12,⟨b3,93,edV { k:=7,ix:=v0,br:=⟨v1,v2,v3,v4,v5,[]⟩ } (AU Vec.empty) (Bd Vec.empty),true,none⟩,Vec.empty.bx 177 ([].flatMap gpC)] [0,1,2,3,4,5] (by decide) I I ?_
 refine A6 (X:=BrX) (fun _=>[(0,Af b),(2,Af b2),(3,Af b3)]) (fun x=>[Ad (Ay Wb.heap.size W (rdL b g ws 0 false)),⟨b,131,rdC g ws.length (stI ws.length (6+2*x.gs.length)) (stB ws (trL (6+2*x.gs.length))),true,none⟩,⟨g,9,ss ws++[],true,none⟩,⟨b2,93,edV {} none 0,true,none⟩,Bn bm (Cx Br 0) 12,⟨b3,93,edV { k:=7,ix:=v0,br:=⟨v1,v2,v3,v4,v5,x.gs⟩ } (AU x.V) (Bd x.V),true,none⟩,x.V.bx 177 (x.gs.flatMap gpC)])
  (fun x=>x.V.OK 2 x.gs.length (x.gs.flatMap gpC)/\(x.gs.length=0\/5+2*x.gs.length<ws.length)/\(stB ws (trL (6+2*x.gs.length))=false->x.gs=Jt ws x.gs.length)) (fun x=>ws.length-x.gs.length) ⟨[],Vec.empty⟩ ⟨Vec.OK.empty 2, .inl rfl,fun _=>rfl⟩ ⟨rfl,rfl,rfl,trivial⟩ [] rfl ?_
 rintro⟨gs,V⟩ ⟨hV,hj,hg⟩
 have hV:V.OK 2 gs.length (gs.flatMap gpC):=hV
 have hj:gs.length=0\/5+2*gs.length<ws.length:=hj
 have hg:stB ws (trL (6+2*gs.length))=false->gs=Jt ws gs.length:=hg
 have hst:=YI h1 (6+2*gs.length)
 refine xd<|wP I<|AE I I I I<|wP I<|wB 1 I I I<|Aa I<|?_
 by_cases hlt:7+2*gs.length<ws.length
 rotate_left
 ·refine wU 113 false I (dF (by show¬(((ws.length-stI ws.length (6+2*gs.length):Nat):Int)>0);rw[hst];split<;>omega))<|zC<|?_
  have hm:gs.length=PL ws.length:=by unfold PL;omega
  refine zE<|zS I<|xf<|zN<|xe<|wB 5 I I I<|wS 3 I I I<|xc<|?_
  exact Ar tH I (.cell 3 I I I I I) (⟨{ k:=7,ix:=v0,br:=⟨v1,v2,v3,v4,v5,gs⟩ },V,stI ws.length (6+2*gs.length),stB ws (trL (6+2*gs.length))⟩:EdX) I ⟨⟨hV,by show gs.length<=ws.length;omega⟩,by rw[hm],by rw[hm],fun h=>by
   have e:stB ws (trL (6+2*gs.length))=false:=h
   have e6:stB ws (trL 6)=false:=WU (2*gs.length) e
   have e5:=AG (r:=trL 5) e6
   have e4:=AG (r:=trL 4) e5
   have e3:=AG (r:=trL 3) e4
   have e2:=AG (r:=trL 2) e3
   have e1:=AG (r:=trL 1) e2
   have g0:v0=iw ws 0:=AX (r:=trL 0) e1 f0
   have g1:v1=iw ws 1:=AX (r:=trL 1) e2 f1
   have g2:v2=iw ws 2:=AX (r:=trL 2) e3 f2
   have g3:v3=iw ws 3:=AX (r:=trL 3) e4 f3
   have g4:v4=iw ws 4:=AX (r:=trL 4) e5 f4
   have g5:v5=iw ws 5:=AX (r:=trL 5) e6 f5
   have gg:=hg e
   rw[hm] at gg
   show({ k:=7,ix:=v0,br:=⟨v1,v2,v3,v4,v5,gs⟩ }:EdS)=BL ws
   unfold BL
   rw[g0,g1,g2,g3,g4,g5,gg]⟩ fun W1 hp=>(hp.pick [0,1,2,6] (by decide) rfl).own.regroup rfl
 refine wU 113 true I (dT (by show((ws.length-stI ws.length (6+2*gs.length):Nat):Int)>0;rw[hst];split<;>omega))<|xa<|zR I<|zI<|zE<|zH<|?_
 refine B2 [Ad (Ay Wb.heap.size W (rdL b g ws 0 false)),Ad (rdT b g ws (trL (6+2*gs.length))),⟨b2,93,edV {} none 0,true,none⟩,Bn bm (Cx Br 0) 12,⟨b3,93,edV { k:=7,ix:=v0,br:=⟨v1,v2,v3,v4,v5,gs⟩ } (AU V) (Bd V),true,none⟩,V.bx 177 (gs.flatMap gpC)] [0,1,2,3,4,5,6] (by decide) I (by rw[WM];rfl) ?_
 refine Bh (X:= { x:(Int×Int)×Vec//x.2.OK 2 (gs++[x.1]).length ((gs++[x.1]).flatMap gpC)/\(∀n,atoiAll (wd ws (6+2*gs.length))= .ok n->x.1.1=n)/\ ∀n,atoiAll (wd ws (7+2*gs.length))= .ok n->x.1.2=n }) [true,true,true,true,false,true,false,false,false,false,false,false,false] (fun _=>[(0,Af b),(2,Af b2),(3,Af b3)])
  (fun x=>[Ad (Ay Wb.heap.size W (rdL b g ws 0 false)),Ad (rdT b g ws (trL (6+2*gs.length+1+1))),⟨b2,93,edV {} none 0,true,none⟩,Bn bm (Cx Br 0) 12,⟨b3,93,edV { k:=7,ix:=v0,br:=⟨v1,v2,v3,v4,v5,(gs++[x.1.1])⟩ } (AU x.1.2) (Bd x.1.2),true,none⟩,x.1.2.bx 177 ((gs++[x.1.1]).flatMap gpC)])
  8 [Ad (Ay Wb.heap.size W (rdL b g ws 0 false)),CN,⟨b2,93,edV {} none 0,true,none⟩,Bn bm (Cx Br 0) 12,⟨b3,93,edV { k:=7,ix:=v0,br:=⟨v1,v2,v3,v4,v5,gs⟩ } (AU V) (Bd V),true,none⟩,V.bx 177 (gs.flatMap gpC)] Tryz.mixed (by kernel_rfl) ?_ ?_
 ·refine AO I<|qB 4 I I I<|AO I<|Cp<|wX<|wZ<|?_
  refine Ah 1 (B:=Ad (rdT b g ws (trL (6+2*gs.length)))) (X:=Int) (fun _=>Ad (rdT b g ws (trL (6+2*gs.length+1)))) rfl rfl rfl rfl rfl rfl (by kernel_rfl) rfl (fun _ _=>rfl) (fun W1 hp=>by have:=AW b g ws (trL (6+2*gs.length)) h1 hl Wb W1 hp.below (hp.pick [1] (by decide) rfl).own hv;rw[List.length_replicate] at this;exact this) ?_;intro w1 c1
  refine zC<|Aw<|wX<|wZ<|?_
  refine Ah 1 (B:=Ad (rdT b g ws (trL (6+2*gs.length+1)))) (X:=Int) (fun _=>Ad (rdT b g ws (trL (6+2*gs.length+1+1)))) rfl rfl rfl rfl rfl rfl (by kernel_rfl) rfl (fun _ _=>rfl) (fun W1 hp=>by have:=AW b g ws (trL (6+2*gs.length+1)) h1 hl Wb W1 hp.below (hp.pick [1] (by decide) rfl).own hv;rw[List.length_replicate] at this;exact this) ?_;intro w2 c2;rw[show 6+2*gs.length+1=7+2*gs.length by omega] at c2
  refine zC<|Aw<|wX<|wZ<|Ak Tryz.hZ tH I I I I I I I I ?_
  refine zC<|Aw<|wX<|wZ<|?_
  (refine Ai Tryz.hZ tH rfl rfl rfl rfl rfl rfl rfl rfl rfl rfl rfl ?_;intro)
  refine zC<|Aw<|wX<|wZ<|?_
  refine AA (V:=V) (len:=gs.length) (xs:=gs.flatMap gpC) 5 6 Tryz.vec85 (gs++[(w1,w2)]).length ((gs++[(w1,w2)]).flatMap gpC) rfl rfl rfl rfl rfl rfl rfl rfl rfl (congrArg some (Bs hV).symm) rfl hV rfl rfl (by rw[List.length_append];rfl) (by rw[CV];rfl) (by rw[List.length_append,List.length_singleton];simp only[maxLen];omega) (by rw[List.length_append,List.length_singleton];omega) rfl ?_;intro gv c3 j3 hV1
  refine zC<|Aw<|wY<|wZ<|wP I<|zC<|Aw<|wY<|wZ<|wP I<|zC<|Aw<|wY<|wZ<|wS 4 I I I<|zC<|Aw<|Cq I (by kernel_rfl) ?_
  exact AR ⟨((w1,w2),⟨some gv,c3,j3⟩),hV1,c1,c2⟩ ⟨I,I,I,tO⟩ [0,1,2,3,4,5] (by decide) I
 rintro⟨⟨⟨w1,w2⟩,V1⟩,hV1,c1,c2⟩
 refine zN ?_
 have hL:rdT b g ws (trL (6+2*gs.length+1+1))=rdL b g ws (stI ws.length (6+2*(gs++[(w1,w2)]).length)) (stB ws (trL (6+2*(gs++[(w1,w2)]).length))):=by rw[WM,List.length_append,List.length_singleton];rfl
 refine Ey [Ad (Ay Wb.heap.size W (rdL b g ws 0 false)),⟨b,131,rdC g ws.length (stI ws.length (6+2*(gs++[(w1,w2)]).length)) (stB ws (trL (6+2*(gs++[(w1,w2)]).length))),true,none⟩,⟨g,9,ss ws++[],true,none⟩,⟨b2,93,edV {} none 0,true,none⟩,Bn bm (Cx Br 0) 12,⟨b3,93,edV { k:=7,ix:=v0,br:=⟨v1,v2,v3,v4,v5,(gs++[(w1,w2)])⟩ } (AU V1) (Bd V1),true,none⟩,V1.bx 177 ((gs++[(w1,w2)]).flatMap gpC)] [0,1,2,3,4,5] (by decide) I (by rw[hL];rfl) ?_
 exact Ax ⟨gs++[(w1,w2)],V1⟩ ⟨hV1, .inr (by show 5+2*(gs++[(w1,w2)]).length<ws.length;rw[List.length_append,List.length_singleton];omega),fun e=>by
  have e:stB ws (trL (6+2*(gs++[(w1,w2)]).length))=false:=e
  rw[List.length_append,List.length_singleton,show 6+2*(gs.length+1)=(6+2*gs.length)+1+1 by omega] at e
  have e2:=AG (r:=trL ((6+2*gs.length)+1)) e
  have e3:=AG (r:=trL (6+2*gs.length)) e2
  have g1:w1=iw ws (6+2*gs.length):=by
   have:=AX (r:=trL (6+2*gs.length)) e2 (x:=w1) (by rw[List.length_replicate];exact c1)
   rwa [List.length_replicate] at this
  have g2:w2=iw ws (7+2*gs.length):=by
   have:=AX (r:=trL ((6+2*gs.length)+1)) e (x:=w2) (by rw[List.length_replicate,show 6+2*gs.length+1=7+2*gs.length by omega];exact c2)
   rwa [List.length_replicate,show 6+2*gs.length+1=7+2*gs.length by omega] at this
  show gs++[(w1,w2)]=Jt ws (gs++[(w1,w2)]).length
  rw[List.length_append,List.length_singleton,SJ, <-hg e3,g1,g2]⟩ (by show ws.length-(gs++[(w1,w2)]).length<ws.length-gs.length;rw[List.length_append,List.length_singleton];omega) ⟨rfl,rfl,rfl,trivial⟩ [] rfl
theorem VV: ∀w∈Bw,w.length<=20:=by decide
theorem TJ:Bw.length=12:=by decide
theorem Tw (i:Nat):(Bw.getD i []).length<=20:=by
 rw[List.getD_eq_getElem?_getD]
 cases e:Bw[i]? with
 |none=>exact Nat.zero_le _
 |some w=>exact VV w (List.mem_of_getElem? e)
theorem OW (k:Int):((Cr CI k).getD []).length<=20:=by
 unfold Cr
 cases e:CI.find? fun p=>decide (p.1=k) with
 |none=>exact Nat.zero_le _
 |some p=>
  have h:=List.mem_of_find?_eq_some e
  exact(show∀p∈CI,p.2.length<=20 by decide) p h
def IM (l:List UInt8) (gs:List (Int×Int)):List UInt8:=gs.foldl (fun l g=>A9 l [g.1,g.2]) l
def PZ (w:Int) (gs:List (Int×Int)):Int:=gs.foldl (fun w g=>AK w [g.1,g.2]) w
theorem WO {gs:List (Int×Int)} (h: ∀g∈gs,Bt g.1/\Bt g.2) (l:List UInt8):(IM l gs).length<=l.length+42*gs.length:=by
 induction gs generalizing l with
 |nil=>exact Nat.le_refl _
 |cons g gs ih=>
  have h1:=ih (fun m hm=>h m (List.mem_cons_of_mem _ hm)) (A9 l [g.1,g.2])
  have h2:(A9 l [g.1,g.2]).length<=l.length+21*[g.1,g.2].length:=Cv (fun n hn=>by
   have:=h g (List.mem_cons_self ..)
   simp only[List.mem_cons,List.not_mem_nil,or_false] at hn
   rcases hn with rfl|rfl
   ·exact this.1
   ·exact this.2) l
  have h3:[g.1,g.2].length=2:=rfl
  show(IM (A9 l [g.1,g.2]) gs).length<=_
  rw[List.length_cons]
  omega
theorem YW {W:World} {g i:Nat} {jk:List Value} {w:List UInt8} (h:Al W g 0 (ss Bw++jk)) (hi:i<12) (hw:w=Bw.getD i []):Al W g (0+i*1) [str w]:=by
 have h2:AB 1 IH W (some ⟨g,0,none⟩) Bw:=AB.of_row (junk:=jk) Gr (by rw[<-JL];exact h)
 have hl:i<Bw.length:=by rw[TJ];exact hi
 obtain⟨b,off,e,hr⟩:=h2.row hl
 injection e with e
 injection e with e1 e2
 subst e1 e2
 have:=hr i hl
 have e3:w=Bw[i]:=by rw[hw,List.getD_eq_getElem?_getD,List.getElem?_eq_getElem hl];rfl
 rw[e3]
 exact this
abbrev WrC (b:Nat) (e:EdS) (q:Option Addr) (cap:Nat) (Wb W:World) (S:List UInt8) (wd nm:Int):Prop:=A0 Tryz.prog Wb.heap.size 117 [Af b, .agg (edV e q cap).toArray] W (wrL b (.pointer none) Vec.empty [] 0 0) (fun _:Value×Vec=> .tuple #[]) (fun x=>BC b x.1 x.2 S) (fun x=>wrL b x.1 x.2 S wd nm)
theorem Ni (b:Nat) (e:EdS) (q:Option Addr) (cap:Nat) (hk:e.k=6) (hi:EdI e) (h61:1<=e.sz.k) (h62:e.sz.k<=12) (Wb W:World) (hb0:Below Wb.heap.size Wb W) (hO:Go.Am.Own Wb.heap.size [Ad (wrL b (.pointer none) Vec.empty [] 0 0)] W) (ht:AZ Wb) (hw:Bo Wb):
  WrC b e q cap Wb W (A9 (At (At [] [115,105,122,101]) (Bw.getD (e.sz.k-1).toNat [])) [e.sz.w,e.sz.d]) (AK 0 [e.sz.w,e.sz.d]) 0:=by
 refine A0.enterL (bs:=[Ad (wrL b (.pointer none) Vec.empty [] 0 0)]) (bs':=fun x:Value×Vec=>[Ad (wrL b x.1 x.2 (A9 (At (At [] [115,105,122,101]) (Bw.getD (e.sz.k-1).toNat [])) [e.sz.w,e.sz.d]) (AK 0 [e.sz.w,e.sz.d]) 0)]) hb0 hO (Ap _) (fun x=>Ap _) Tryz.func117 I I I ?_
 have h0:BC b (.pointer none) Vec.empty []:=⟨.inl rfl,Vec.OK.empty 1⟩
 refine xb<|wF I I fun _=>zC<|?_
 rename_i bE
 refine xe<|wP I<|wB 2 I I I<|wV 10 6 I hk<|xa<|zH<|xb<|Aa I<|xa<|zS I<|xb<|Aa I<|xa<|zS I<|zA<|?_
 refine zB<|Aa I<|xa<|zS I<|xb<|Aa I<|xa<|zS I<|xb<|Aa I<|xa<|zS I<|xb<|Aa I<|?_
 refine xa<|zR I<|xb<|wP I<|Ah 1 (B:=Ad (wrL b (.pointer none) Vec.empty [] 0 0)) (X:=Vec) (fun V'=>Ad (wrL b (Af b) V' (At [] [115,105,122,101]) 0 0)) I I I I I I (by kernel_rfl) I (fun _ _=>rfl) (fun W1 hp=>AV b (.pointer none) Vec.empty [] [115,105,122,101] 0 0 h0 (by decide) Wb W1 hp.below (hp.pick [1] (by decide) I).own) ?_
 intro V1 h1
 refine BU ?_
 have hL1:(At [] [115,105,122,101]).length<=100:=by decide
 have hl2:=Tw (e.sz.k-1).toNat
 have hl3:=Cs (At [] [115,105,122,101]) (Bw.getD (e.sz.k-1).toNat [])
 obtain⟨w2,hw2⟩: ∃w,w=(Bw.getD (e.sz.k-1).toNat []):=⟨_,rfl⟩
 rw[<-hw2] at hl2 hl3
 refine zE<|zA<|?_
 refine Bh (X:= { V:Vec//BC b (Af b) V (At (At [] [115,105,122,101]) w2) }) [true,false,true,true,true,true,false,false,false] (fun _=>[(0,Af b),(3,Af bE)])
  (fun x=>[Ad (Ay Wb.heap.size W (wrL b (.pointer none) Vec.empty [] 0 0)),Ad (wrL b (Af b) x.1 (At (At [] [115,105,122,101]) w2) 0 0),⟨bE,93,edV e q cap,true,none⟩])
  4 [Ad (Ay Wb.heap.size W (wrL b (.pointer none) Vec.empty [] 0 0)),Ad (wrL b (Af b) V1 (At [] [115,105,122,101]) 0 0),⟨bE,93,edV e q cap,true,none⟩] Tryz.mixed (by kernel_rfl) ?_ ?_
 ·refine Ct I<|qB 2 I I I<|qP I<|qV 119 (e.sz.k-1) I (AC (by omega) (by omega))<|Cp<|wX<|wZ<|?_
  refine wD (X:=Nat×Nat×List Value) rfl rfl (fun W1 hp=>GK W1 (hw.hp hp)) ?_;rintro⟨gk,ck,jk⟩ _
  refine zC<|Aw<|wX<|wZ<|wJ ?_
  refine zC<|Aw<|wX<|wZ<|wL 0 I I (fun W1 hp=>YW (i:=(e.sz.k-1).toNat) (Al.of_bx hp 3 I I) (by omega) hw2) I<|zC<|Aw<|wX<|wZ<|?_
  refine Ah 1 (B:=Ad (wrL b (Af b) V1 (At [] [115,105,122,101]) 0 0)) (X:=Vec) (fun V'=>Ad (wrL b (Af b) V' (At (At [] [115,105,122,101]) w2) 0 0)) rfl rfl rfl rfl rfl rfl (by kernel_rfl) rfl (fun _ _=>rfl) (fun W1 hp=>AV b (Af b) V1 (At [] [115,105,122,101]) w2 0 0 h1 (by omega) Wb W1 hp.below (hp.pick [1] (by decide) rfl).own) ?_;intro V2 h2
  refine zC<|Aw<|Cq I (by kernel_rfl) ?_
  exact AR ⟨V2,h2⟩ ⟨I,I,tO⟩ [0,1,2] (by decide) I
 rintro⟨V2,h2⟩
 subst hw2
 refine zE<|zB<|Ae I<|wB 2 I I I<|Aa I<|wB 2 I I I<|?_
 (refine Ai Tryz.hZ tH rfl rfl rfl rfl rfl rfl rfl rfl rfl rfl rfl ?_;intro)
 rename_i bs2
 have hr2: ∀n∈[e.sz.w,e.sz.d],Bt n:=fun n hn=>hi.i n (by simp only[List.mem_cons,List.not_mem_nil,or_false] at hn;rcases hn with rfl|rfl<;>simp[Ch])
 refine Ah 1 (B:=Ad (wrL b (Af b) V2 (At (At [] [115,105,122,101]) (Bw.getD (e.sz.k-1).toNat [])) 0 0)) (X:=Value×Vec) (fun x=>Ad (wrL b x.1 x.2 (A9 (At (At [] [115,105,122,101]) (Bw.getD (e.sz.k-1).toNat [])) [e.sz.w,e.sz.d]) (AK 0 [e.sz.w,e.sz.d]) 0)) I I I I I I (by kernel_rfl) I (fun _ _=>rfl) (fun W1 hp=>BE b (Af b) V2 (At (At [] [115,105,122,101]) (Bw.getD (e.sz.k-1).toNat [])) 0 0 h2 [e.sz.w,e.sz.d] (some ⟨bs2,0,none⟩) 2 (by simp only[List.length_cons,List.length_nil];omega) hr2 Wb W1 hp.below (hp.pick [1] (by decide) I).own (AB.of_row (junk:=[]) BH (Al.of_bx hp 3 I I)) (fun a e x hx=>by
   injection e with e
   subst e
   exact hp.own.apart 1 3 _ _ I I (by decide) x hx (bs2,_) (List.mem_cons_self ..)) ht) ?_
 rintro⟨p3,V3⟩ h3
 have h3:BC b p3 V3 (A9 (At (At [] [115,105,122,101]) (Bw.getD (e.sz.k-1).toNat [])) [e.sz.w,e.sz.d]):=h3
 exact zC<|zN<|Cj tH I (p3,V3) I h3 fun W1 hp=>(hp.pick [0,1] (by decide) I).own
theorem LW (b:Nat) (e:EdS) (q:Option Addr) (cap:Nat) (hk:e.k=12) (hi:EdI e) (Wb W:World) (hb0:Below Wb.heap.size Wb W) (hO:Go.Am.Own Wb.heap.size [Ad (wrL b (.pointer none) Vec.empty [] 0 0)] W) (ht:AZ Wb):
  WrC b e q cap Wb W (A9 (At (At [] [114,101,109,111,118,101]) ((Cr CI e.nb).getD [])) [e.ix]) (AK 0 [e.ix]) 0:=by
 refine A0.enterL (bs:=[Ad (wrL b (.pointer none) Vec.empty [] 0 0)]) (bs':=fun x:Value×Vec=>[Ad (wrL b x.1 x.2 (A9 (At (At [] [114,101,109,111,118,101]) ((Cr CI e.nb).getD [])) [e.ix]) (AK 0 [e.ix]) 0)]) hb0 hO (Ap _) (fun x=>Ap _) Tryz.func117 I I I ?_
 have h0:BC b (.pointer none) Vec.empty []:=⟨.inl rfl,Vec.OK.empty 1⟩
 refine xb<|wF I I fun _=>zC<|?_
 rename_i bE
 refine xe<|wP I<|wB 2 I I I<|wV 10 12 I hk<|xa<|zH<|xb<|Aa I<|xa<|zS I<|xb<|Aa I<|xa<|zS I<|zA<|?_
 refine zB<|Aa I<|xa<|zS I<|xb<|Aa I<|xa<|zS I<|xb<|Aa I<|xa<|zS I<|xb<|Aa I<|?_
 refine xa<|zS I<|xb<|Aa I<|xa<|zS I<|xb<|Aa I<|xa<|zS I<|xb<|Aa I<|xa<|zS I<|?_
 refine xb<|Aa I<|xa<|zS I<|xb<|Aa I<|xa<|zS I<|xb<|wP I<|Ah 1 (B:=Ad (wrL b (.pointer none) Vec.empty [] 0 0)) (X:=Vec) (fun V'=>Ad (wrL b (Af b) V' (At [] [114,101,109,111,118,101]) 0 0)) I I I I I I (by kernel_rfl) I (fun _ _=>rfl) (fun W1 hp=>AV b (.pointer none) Vec.empty [] [114,101,109,111,118,101] 0 0 h0 (by decide) Wb W1 hp.below (hp.pick [1] (by decide) I).own) ?_
 intro V1 h1
 refine BU ?_
 have hL1:(At [] [114,101,109,111,118,101]).length<=100:=by decide
 have hl2:=OW e.nb
 have hl3:=Cs (At [] [114,101,109,111,118,101]) ((Cr CI e.nb).getD [])
 obtain⟨w2,hw2⟩: ∃w,w=((Cr CI e.nb).getD []):=⟨_,rfl⟩
 rw[<-hw2] at hl2 hl3
 refine zE<|zA<|?_
 refine Bh (X:= { V:Vec//BC b (Af b) V (At (At [] [114,101,109,111,118,101]) w2) }) [true,false,true,true,false,false] (fun _=>[(0,Af b),(3,Af bE)])
  (fun x=>[Ad (Ay Wb.heap.size W (wrL b (.pointer none) Vec.empty [] 0 0)),Ad (wrL b (Af b) x.1 (At (At [] [114,101,109,111,118,101]) w2) 0 0),⟨bE,93,edV e q cap,true,none⟩])
  3 [Ad (Ay Wb.heap.size W (wrL b (.pointer none) Vec.empty [] 0 0)),Ad (wrL b (Af b) V1 (At [] [114,101,109,111,118,101]) 0 0),⟨bE,93,edV e q cap,true,none⟩] Tryz.mixed (by kernel_rfl) ?_ ?_
 ·refine AO I<|qB 2 I I I<|Cp<|wX<|wZ<|?_
  refine wD (X:=Nat) rfl rfl (fun W1 _=>FS W1) ?_;intro br _
  refine zC<|Aw<|wX<|wZ<|?_
  refine BR 3 (d:= .int .i64) Tryz.underlying178 Tryz.underlying3 Tryz.zeroValue9 I I I I I I I (Xf e.nb) ?_;refine Ao 17 (str w2) I (by rw[hw2]<;>rfl) ?_
  refine zC<|Aw<|wX<|wZ<|?_
  refine Ah 1 (B:=Ad (wrL b (Af b) V1 (At [] [114,101,109,111,118,101]) 0 0)) (X:=Vec) (fun V'=>Ad (wrL b (Af b) V' (At (At [] [114,101,109,111,118,101]) w2) 0 0)) rfl rfl rfl rfl rfl rfl (by kernel_rfl) rfl (fun _ _=>rfl) (fun W1 hp=>AV b (Af b) V1 (At [] [114,101,109,111,118,101]) w2 0 0 h1 (by omega) Wb W1 hp.below (hp.pick [1] (by decide) rfl).own) ?_;intro V2 h2
  refine zC<|Aw<|Cq I (by kernel_rfl) ?_
  exact AR ⟨V2,h2⟩ ⟨I,I,tO⟩ [0,1,2] (by decide) I
 rintro⟨V2,h2⟩
 subst hw2
 refine zE<|zB<|Aa I<|wB 2 I I I<|?_
 (refine Ai Tryz.hZ tH rfl rfl rfl rfl rfl rfl rfl rfl rfl rfl rfl ?_;intro)
 rename_i bs2
 have hr2: ∀n∈[e.ix],Bt n:=fun n hn=>hi.i n (by simp only[List.mem_cons,List.not_mem_nil,or_false] at hn;rcases hn with rfl<;>simp[Ch])
 refine Ah 1 (B:=Ad (wrL b (Af b) V2 (At (At [] [114,101,109,111,118,101]) ((Cr CI e.nb).getD [])) 0 0)) (X:=Value×Vec) (fun x=>Ad (wrL b x.1 x.2 (A9 (At (At [] [114,101,109,111,118,101]) ((Cr CI e.nb).getD [])) [e.ix]) (AK 0 [e.ix]) 0)) I I I I I I (by kernel_rfl) I (fun _ _=>rfl) (fun W1 hp=>BE b (Af b) V2 (At (At [] [114,101,109,111,118,101]) ((Cr CI e.nb).getD [])) 0 0 h2 [e.ix] (some ⟨bs2,0,none⟩) 1 (by simp only[List.length_cons,List.length_nil];omega) hr2 Wb W1 hp.below (hp.pick [1] (by decide) I).own (AB.of_row (junk:=[]) BH (Al.of_bx hp 3 I I)) (fun a e x hx=>by
   injection e with e
   subst e
   exact hp.own.apart 1 3 _ _ I I (by decide) x hx (bs2,_) (List.mem_cons_self ..)) ht) ?_
 rintro⟨p3,V3⟩ h3
 have h3:BC b p3 V3 (A9 (At (At [] [114,101,109,111,118,101]) ((Cr CI e.nb).getD [])) [e.ix]):=h3
 exact zC<|zN<|Cj tH I (p3,V3) I h3 fun W1 hp=>(hp.pick [0,1] (by decide) I).own
theorem No (b:Nat) (e:EdS) (q:Option Addr) (cap:Nat) (hk:e.k=7) (hi:EdI e) (hgi: ∀g∈e.br.g,Bt g.1/\Bt g.2) (hgn:e.br.g.length<=1000000) (Wb W:World) (hb0:Below Wb.heap.size Wb W) (hO:Go.Am.Own Wb.heap.size [Ad (wrL b (.pointer none) Vec.empty [] 0 0)] W) (ht:AZ Wb) (hA:AB 2 gpC W q e.br.g) (hne:e.br.g≠[]-> ∀a,q=some a-> ∀x∈wrL b (.pointer none) Vec.empty [] 0 0,x.1≠a.block):
  WrC b e q cap Wb W (IM (A9 (At [] [98,97,114]) [e.ix,e.br.w,e.br.d,e.br.l,e.br.n,e.br.c]) e.br.g) (PZ (AK 0 [e.ix,e.br.w,e.br.d,e.br.l,e.br.n,e.br.c]) e.br.g) 0:=by
 refine A0.enterL (bs:=[Ad (wrL b (.pointer none) Vec.empty [] 0 0)]) (bs':=fun x:Value×Vec=>[Ad (wrL b x.1 x.2 (IM (A9 (At [] [98,97,114]) [e.ix,e.br.w,e.br.d,e.br.l,e.br.n,e.br.c]) e.br.g) (PZ (AK 0 [e.ix,e.br.w,e.br.d,e.br.l,e.br.n,e.br.c]) e.br.g) 0)]) hb0 hO (Ap _) (fun x=>Ap _) Tryz.func117 I I I ?_
 have h0:BC b (.pointer none) Vec.empty []:=⟨.inl rfl,Vec.OK.empty 1⟩
 refine xb<|wF I I fun _=>zC<|?_
 rename_i bE
 refine xe<|wP I<|wB 2 I I I<|wV 10 7 I hk<|xa<|zH<|xb<|Aa I<|xa<|zS I<|xb<|Aa I<|xa<|zS I<|zA<|?_
 refine zB<|Aa I<|xa<|zS I<|xb<|Aa I<|xa<|zS I<|xb<|Aa I<|xa<|zS I<|xb<|Aa I<|?_
 refine xa<|zS I<|xb<|Aa I<|xa<|zR I<|xb<|wP I<|wB 2 I I I<|wG I I fun _=>wS 3 I I I<|zC<|?_
 rename_i b5
 refine xe<|wP I<|Ah 1 (B:=Ad (wrL b (.pointer none) Vec.empty [] 0 0)) (X:=Vec) (fun V'=>Ad (wrL b (Af b) V' (At [] [98,97,114]) 0 0)) I I I I I I (by kernel_rfl) I (fun _ _=>rfl) (fun W1 hp=>AV b (.pointer none) Vec.empty [] [98,97,114] 0 0 h0 (by decide) Wb W1 hp.below (hp.pick [1] (by decide) I).own) ?_
 intro V1 h1
 refine BU ?_
 have hL1:(At [] [98,97,114]).length<=100:=by decide
 refine xe<|Aa I<|wB 2 I I I<|wP I<|wB 3 I I I<|wP I<|wB 3 I I I<|wP I<|wB 3 I I I<|wP I<|wB 3 I I I<|wP I<|wB 3 I I I<|?_
 (refine Ai Tryz.hZ tH rfl rfl rfl rfl rfl rfl rfl rfl rfl rfl rfl ?_;intro)
 rename_i bs2
 have hr2: ∀n∈[e.ix,e.br.w,e.br.d,e.br.l,e.br.n,e.br.c],Bt n:=fun n hn=>hi.i n (by simp only[List.mem_cons,List.not_mem_nil,or_false] at hn;rcases hn with rfl|rfl|rfl|rfl|rfl|rfl<;>simp[Ch])
 refine Ah 1 (B:=Ad (wrL b (Af b) V1 (At [] [98,97,114]) 0 0)) (X:=Value×Vec) (fun x=>Ad (wrL b x.1 x.2 (A9 (At [] [98,97,114]) [e.ix,e.br.w,e.br.d,e.br.l,e.br.n,e.br.c]) (AK 0 [e.ix,e.br.w,e.br.d,e.br.l,e.br.n,e.br.c]) 0)) I I I I I I (by kernel_rfl) I (fun _ _=>rfl) (fun W1 hp=>BE b (Af b) V1 (At [] [98,97,114]) 0 0 h1 [e.ix,e.br.w,e.br.d,e.br.l,e.br.n,e.br.c] (some ⟨bs2,0,none⟩) 6 (by simp only[List.length_cons,List.length_nil];omega) hr2 Wb W1 hp.below (hp.pick [1] (by decide) I).own (AB.of_row (junk:=[]) BH (Al.of_bx hp 4 I I)) (fun a e x hx=>by
   injection e with e
   subst e
   exact hp.own.apart 1 4 _ _ I I (by decide) x hx (bs2,_) (List.mem_cons_self ..)) ht) ?_
 rintro⟨p2,V2⟩ h2
 have h2:BC b p2 V2 (A9 (At [] [98,97,114]) [e.ix,e.br.w,e.br.d,e.br.l,e.br.n,e.br.c]):=h2
 have hL2:=Cv hr2 (At [] [98,97,114])
 simp only[List.length_cons,List.length_nil] at hL2
 obtain⟨s2,hs2⟩: ∃s,s=(A9 (At [] [98,97,114]) [e.ix,e.br.w,e.br.d,e.br.l,e.br.n,e.br.c]):=⟨_,rfl⟩
 obtain⟨v2,hv2⟩: ∃s,s=(AK 0 [e.ix,e.br.w,e.br.d,e.br.l,e.br.n,e.br.c]):=⟨_,rfl⟩
 rw[<-hs2, <-hv2]
 rw[<-hs2] at h2 hL2
 refine xg<|wP I<|wB 3 I I I<|Aa I<|xa<|zH<|?_
 refine A6 (X:=Nat×Value×Vec) (fun x=>[(0,Af b),(154,slv q e.br.g.length cap),(155, .int .i64 (e.br.g.length:Nat)),(156, .int .i64 (x.1:Nat))]) (fun x=>[Ad (Ay Wb.heap.size W (wrL b (.pointer none) Vec.empty [] 0 0)),Ad (wrL b x.2.1 x.2.2 (IM s2 (e.br.g.take x.1)) (PZ v2 (e.br.g.take x.1)) 0)])
  (fun x=>x.1<=e.br.g.length/\BC b x.2.1 x.2.2 (IM s2 (e.br.g.take x.1))) (fun x=>e.br.g.length-x.1) (0,p2,V2) ⟨Nat.zero_le _,h2⟩ ⟨rfl,rfl,rfl,rfl,trivial⟩ [_,_,_] rfl ?_
 rintro⟨i,p1,V1⟩ ⟨hi1,h1⟩
 have hi1:i<=e.br.g.length:=hi1
 have h1:BC b p1 V1 (IM s2 (e.br.g.take i)):=h1
 refine xb<|wP I<|?_
 by_cases hlt:i<e.br.g.length
 rotate_left
 ·have ei:i=e.br.g.length:=by omega
  subst ei
  refine wU 157 false I (dF (by omega))<|xa<|zA<|zS I<|xf<|zN<|?_
  rw[List.take_length] at h1
  exact Cj tH I (p1,V1) I h1 fun W1 hp=>by rw[List.take_length] at hp;exact hp.own
 refine wU 157 true I (dT (by show(i:Int)<(e.br.g.length:Nat);omega))<|xa<|zA<|zR I<|xh<|?_
 obtain⟨bq,off,rfl,hrow⟩:=hA.row hlt
 have hri:=hrow i hlt
 have hrn:=hgi _ (List.getElem_mem hlt)
 have hS:IM s2 (e.br.g.take (i+1))=A9 (IM s2 (e.br.g.take i)) [(e.br.g[i]).1,(e.br.g[i]).2]:=E5 _ _ hlt
 have hV:PZ v2 (e.br.g.take (i+1))=AK (PZ v2 (e.br.g.take i)) [(e.br.g[i]).1,(e.br.g[i]).2]:=E5 _ _ hlt
 have hlen:=WO (fun n hn=>hgi n (List.mem_of_mem_take hn)) s2 (gs:=e.br.g.take i)
 rw[List.length_take,Nat.min_eq_left hi1] at hlen
 obtain⟨n,hnn⟩: ∃n,n=e.br.g[i]:=⟨_,rfl⟩
 rw[<-hnn] at hri hrn hS hV
 obtain⟨n1,n2⟩:=n
 obtain⟨li,hli⟩: ∃x,x=IM s2 (e.br.g.take i):=⟨_,rfl⟩
 obtain⟨wi,hwi⟩: ∃x,x=PZ v2 (e.br.g.take i):=⟨_,rfl⟩
 rw[<-hli] at h1 hS hlen
 rw[<-hwi] at hV
 rw[<-hli, <-hwi]
 refine wJ ?_
 refine wL 0 I I (fun W1 hp=>(EL hb0 hp).row hri (hne (fun e0=>by rw[e0] at hlt;exact absurd hlt (Nat.not_lt_zero _)) _ I)) I<|wG I I fun _=>wS 2 I I I<|xa<|zB<|Aa I<|wB 2 I I I<|wP I<|wB 2 I I I<|?_
 (refine Ai Tryz.hZ tH rfl rfl rfl rfl rfl rfl rfl rfl rfl rfl rfl ?_;intro)
 rename_i bs3
 have hr3: ∀n∈[n1,n2],Bt n:=fun n hn=>by simp only[List.mem_cons,List.not_mem_nil,or_false] at hn;rcases hn with rfl|rfl;exact hrn.1;exact hrn.2
 refine Ah 1 (B:=Ad (wrL b p1 V1 li wi 0)) (X:=Value×Vec) (fun x=>Ad (wrL b x.1 x.2 (A9 li [n1,n2]) (AK wi [n1,n2]) 0)) I I I I I I (by kernel_rfl) I (fun _ _=>rfl) (fun W1 hp=>BE b p1 V1 li wi 0 h1 [n1,n2] (some ⟨bs3,0,none⟩) 2 (by simp only[List.length_cons,List.length_nil];omega) hr3 Wb W1 hp.below (hp.pick [1] (by decide) I).own (AB.of_row (junk:=[]) BH (Al.of_bx hp 3 I I)) (fun a e x hx=>by
   injection e with e
   subst e
   exact hp.own.apart 1 3 _ _ I I (by decide) x hx (bs3,_) (List.mem_cons_self ..)) ht) ?_
 rintro⟨p3,V3⟩ h3
 have h3:BC b p3 V3 (A9 li [n1,n2]):=h3
 refine zC<|xj<|wP I<|wV 167 ((i+1:Nat):Int) I (Az (by omega))<|wP I<|zC<|?_
 refine AM (bs':=[Ad (Ay Wb.heap.size W (wrL b (.pointer none) Vec.empty [] 0 0)),Ad (wrL b p3 V3 (IM s2 (e.br.g.take (i+1))) (PZ v2 (e.br.g.take (i+1))) 0),_,_]) (by rw[hS,hV];rfl) ?_
 exact Ax (i+1,p3,V3) ⟨hlt,by show BC b p3 V3 (IM s2 (e.br.g.take (i+1)));rw[hS];exact h3⟩ (by show e.br.g.length-(i+1)<e.br.g.length-i;omega) ⟨I,I,I,I,tO⟩ [_,_] I
def Hf (e:EdS):Prop:=(e.k=6/\ ¬(1<=e.sz.k/\e.sz.k<=12))\/(e.k=12/\(Cr CI e.nb).isSome=false)
instance (e:EdS):Decidable (Hf e):=by unfold Hf;infer_instance
def F3 (e:EdS) (S:List UInt8) (wd nm:Int):List UInt8×Int:=
 if e.k=1/\ ¬Er e.tx then([],13) else if Hf e then([],8) else if 16<e.br.g.length then([],4) else if wd≠0 then([],wd) else if nm≠0 then([],nm) else(S,0)
theorem Cf (e:EdS) (q q':Option Addr) (cap cap':Nat) (S:List UInt8) (wd nm:Int) (h1:1<=e.k) (h2:e.k<=12) (hU:aT e q cap q' cap') (hn:e.br.g.length<=1000000) (hs:e.tx.length<=1000000) (hS:S≠[]) (W:World) (hA:AB 2 gpC W q e.br.g) (hB:AB 2 gpC W q' e.br.g)
  (hw:Bo W) (hWr: ¬Hf e-> ∀b W1,Below W.heap.size W W1->Go.Am.Own W.heap.size [Ad (wrL b (.pointer none) Vec.empty [] 0 0)] W1->WrC b e q cap W W1 S wd nm):
  Ag Tryz.prog 60 #[.agg (edV e q cap).toArray] W (fun _:Unit=> .tuple #[str (F3 e S wd nm).1, .int .i64 (F3 e S wd nm).2]) (fun _=>True) (fun _=>[]):=by
 have hR:F3 e S wd nm=if e.k=1/\ ¬Er e.tx then([],13) else if Hf e then([],8) else if 16<e.br.g.length then([],4) else if wd≠0 then([],wd) else if nm≠0 then([],nm) else(S,0):=rfl
 refine Ab Tryz.func60 I I I<|xb<|wF I I fun _=>Aa I<|zC<|?_
 rename_i bE
 refine zE<|xd<|wB 0 I I I<|wC I I (fun W1 hp=>TZ e q q' cap cap' h1 h2 hU hn W1 (hA.hp hp) (hB.hp hp))<|wP I<|xg<|Aa I<|xa<|zS I<|zI<|zE<|zA<|Bh (X:=Unit) [false,true,true,false,false,false,false,false,false] (fun _=>[(1,Af bE),(6, .bool (Cr CI e.nb).isSome)]) (fun _=>[⟨bE,93,edV e q cap,true,none⟩]) 7 [⟨bE,93,edV e q cap,true,none⟩] Tryz.mixed (by kernel_rfl) ?_ ?_
 ·refine qP I<|qB 0 I I I<|Cp<|wX<|wZ<|?_
  refine wD (X:=Nat) rfl rfl (fun W1 _=>FS W1) ?_;intro br _
  refine zC<|Aw<|wX<|wZ<|BR 1 (d:= .int .i64) Tryz.underlying178 Tryz.underlying3 Tryz.zeroValue9 I I I I I I I (Xf e.nb) ?_
  refine zC<|Aw<|wX<|wZ<|wP I<|zC<|Aw<|wX<|RS.cons ?_ (RS.cons ?_ (RS.nil))
  ·refine wP I<|zC<|Aw<|wX<|RS.cons ?_ (RS.cons ?_ (RS.nil))
   ·refine wP I<|zC<|Aw<|wX<|wZ<|wP I<|zC<|Aw<|wX<|wZ<|wP I<|zC<|Aw<|?_
    refine B6 I (by((repeat (first|refine B3.same ?_|refine B3.off I ?_));exact tO)) ?_
    exact AR () ⟨I,I,tO⟩ [0] (by decide) I
   ·refine wP I<|zC<|Aw<|wX<|wZ<|wP I<|zC<|Aw<|wX<|wZ<|wP I<|zC<|Aw<|?_
    refine B6 I (by((repeat (first|refine B3.same ?_|refine B3.off I ?_));exact tO)) ?_
    exact AR () ⟨I,I,tO⟩ [0] (by decide) I
  ·refine wP I<|zC<|Aw<|wX<|wZ<|wP I<|zC<|Aw<|wX<|wZ<|wP I<|zC<|Aw<|wX<|wZ<|wP I<|zC<|Aw<|?_
   refine B6 I (by((repeat (first|refine B3.same ?_|refine B3.off I ?_));exact tO)) ?_
   exact AR () ⟨I,I,tO⟩ [0] (by decide) I
 intro _
 refine zE<|zA<|zH<|zA<|Bz (X:=Unit) (fun _=>[(1,Af bE),(6, .bool (Cr CI e.nb).isSome),(20, .bool (decide (e.k=1/\ ¬Er e.tx)))]) (fun _=>[⟨bE,93,edV e q cap,true,none⟩]) (fun _=>True) ?_ ?_
 ·refine zB<|wP I<|wB 0 I I I<|?_
  by_cases c1:e.k=1
  rotate_left
  ·refine wP I<|wU 23 false I (beq_eq_false_iff_ne.2 c1)<|wP I<|?_
   iterate 4 refine Ac I I ?_
   exact Aa I<|zC<|Au () tO ⟨I,I,congrArg (fun c=>some (Value.bool c)) (dF fun h=>c1 h.1).symm,tO⟩ [] I
  refine wP I<|wU 23 true I (beq_iff_eq.2 c1)<|Aa I<|wB 0 I I I<|wC I I (fun W1 _=>GZ e.tx hs W1)<|wP I<|?_
  by_cases c2:Er e.tx
  ·exact Ao 28 (.bool false) I (congrArg (fun c:Bool=>Value.bool (!c)) (dT c2))<|Aa I<|zC<|Au () tO ⟨I,I,congrArg (fun c=>some (Value.bool c)) (dF fun h=>h.2 c2).symm,tO⟩ [] I
  ·exact Ao 28 (.bool true) I (congrArg (fun c:Bool=>Value.bool (!c)) (dF c2))<|Aa I<|zC<|Au () tO ⟨I,I,congrArg (fun c=>some (Value.bool c)) (dT ⟨c1,c2⟩).symm,tO⟩ [] I
 intro _ _
 refine Av I (fun hx=> ?_) (fun hx=> ?_)
 ·have hx:e.k=1/\ ¬Er e.tx:=of_decide_eq_true hx
  rw[if_pos hx] at hR
  exact xb<|Aa I<|xc<|zQ<|zP<|wR2 I I (by rw[hR])
 have hx: ¬(e.k=1/\ ¬Er e.tx):=of_decide_eq_false hx
 rw[if_neg hx] at hR
 refine zA<|zA<|Bz (X:=Unit) (fun _=>[(1,Af bE),(6, .bool (Cr CI e.nb).isSome),(30, .bool (decide (e.k=6/\ ¬(1<=e.sz.k/\e.sz.k<=12))))]) (fun _=>[⟨bE,93,edV e q cap,true,none⟩]) (fun _=>True) ?_ ?_
 ·by_cases c1:e.k=6
  rotate_left
  ·refine zU<|qP I<|qB 0 I I I<|qP I<|qU 33 false I (beq_eq_false_iff_ne.2 c1)<|qP I<|?_
   iterate 12 refine Cy I I ?_
   exact AO I<|zD<|zC<|Au () tO ⟨I,I,congrArg (fun c=>some (Value.bool c)) (dF fun h=>c1 h.1).symm,tO⟩ [] I
  by_cases c2:e.sz.k<1
  ·refine zU<|qP I<|qB 0 I I I<|qP I<|qU 33 true I (beq_iff_eq.2 c1)<|Ct I<|qB 0 I I I<|qP I<|qU 38 true I (dT c2)<|qP I<|?_
   iterate 6 refine Cy I I ?_
   exact Ct I<|zD<|zC<|Au () tO ⟨I,I,congrArg (fun c=>some (Value.bool c)) (dT ⟨c1,fun h=>by omega⟩).symm,tO⟩ [] I
  refine Bh (X:=Unit) [true,true,true,true,true,true,true,true,true,true,true,true,false,false,false,false,false,false] (fun _=>[(1,Af bE),(6, .bool (Cr CI e.nb).isSome),(30, .bool (decide (e.k=6/\ ¬(1<=e.sz.k/\e.sz.k<=12))))]) (fun _=>[⟨bE,93,edV e q cap,true,none⟩]) 6 [⟨bE,93,edV e q cap,true,none⟩] Tryz.mixed (by kernel_rfl) ?_ ?_
  ·refine qP I<|qB 0 I I I<|qP I<|qU 33 true I (beq_iff_eq.2 c1)<|Ct I<|qB 0 I I I<|qP I<|qU 38 false I (dF c2)<|Ct I<|qB 0 I I I<|Cp<|wX<|wZ<|?_
   refine wD (X:=Nat×Nat×List Value) rfl rfl (fun W1 hp=>GK W1 (hw.hp hp)) ?_;rintro⟨gk,ck,jk⟩ _
   refine zC<|Aw<|wX<|wZ<|wP I<|zC<|Aw<|wX<|wZ<|?_
   refine wP I ?_;refine wU 45 (decide (e.k=6/\ ¬(1<=e.sz.k/\e.sz.k<=12))) I (decide_eq_decide.2 ⟨fun h=>⟨c1,fun h2=>by have h:e.sz.k>12:=h;omega⟩,fun h=>by show e.sz.k>12;have:=h.2;omega⟩) ?_
   refine zC<|Aw<|wX<|wZ<|wP I<|zC<|Aw<|wX<|wZ<|wP I<|zC<|Aw<|wX<|wZ<|wP I<|zC<|Aw<|?_
   refine B6 I (by((repeat (first|refine B3.same ?_|refine B3.off I ?_));exact tO)) ?_
   exact AR () ⟨I,I,I,tO⟩ [0] (by decide) I
  intro _
  exact Au () tO ⟨I,I,I,tO⟩ [] I
 intro _ _
 refine Bz (X:=Unit) (fun _=>[(1,Af bE),(30, .bool (decide (Hf e)))]) (fun _=>[⟨bE,93,edV e q cap,true,none⟩]) (fun _=>True) ?_ ?_
 ·refine Av I (fun hy=> ?_) (fun hy=> ?_)
  ·have hy:e.k=6/\ ¬(1<=e.sz.k/\e.sz.k<=12):=of_decide_eq_true hy
   exact zI<|Au () tO ⟨I,congrArg (fun c=>some (Value.bool c)) ((dT hy).trans (dT (p:=Hf e) (.inl hy)).symm),tO⟩ [] I
  have hy: ¬(e.k=6/\ ¬(1<=e.sz.k/\e.sz.k<=12)):=of_decide_eq_false hy
  by_cases c1:e.k=12
  rotate_left
  ·refine zB<|wP I<|wB 0 I I I<|wP I<|wU 50 false I (beq_eq_false_iff_ne.2 c1)<|wP I<|?_
   iterate 2 refine Ac I I ?_
   exact Aa I<|zC<|Au () tO ⟨I,congrArg (fun c=>some (Value.bool c)) (dF (p:=Hf e) fun h=>h.elim hy fun h=>c1 h.1).symm,tO⟩ [] I
  refine zB<|wP I<|wB 0 I I I<|wP I<|wU 50 true I (beq_iff_eq.2 c1)<|Ae I<|?_
  cases c2:(Cr CI e.nb).isSome with
  |true=>
   exact Ao 53 (.bool false) rfl rfl<|wP rfl<|wP rfl<|zC<|Au () trivial ⟨rfl,congrArg (fun c=>some (Value.bool c)) (dF (p:=Hf e) fun h=>h.elim hy fun h=>by rw[c2] at h;cases h.2).symm,trivial⟩ [] rfl
  |false=>
   exact Ao 53 (.bool true) I I<|Aa I<|zC<|Au () tO ⟨I,congrArg (fun c=>some (Value.bool c)) (dT (p:=Hf e) (.inr ⟨c1,c2⟩)).symm,tO⟩ [] I
 intro _ _
 refine Av I (fun hy=> ?_) (fun hy=> ?_)
 ·have hy:Hf e:=of_decide_eq_true hy
  rw[if_pos hy] at hR
  exact xb<|Aa I<|xc<|zQ<|zP<|wR2 I I (by rw[hR])
 have hy: ¬Hf e:=of_decide_eq_false hy
 rw[if_neg hy] at hR
 refine xb<|Aa I<|wB 0 I I I<|Aa I<|?_
 by_cases c3:16<e.br.g.length
 ·rw[if_pos c3] at hR
  exact wU 60 true I (dT (show((e.br.g.length:Nat):Int)>16 by omega))<|wP I<|xa<|zR I<|xb<|Aa I<|xc<|zQ<|zP<|wR2 I I (by rw[hR])
 rw[if_neg c3] at hR
 refine wU 60 false I (dF (show¬((e.br.g.length:Nat):Int)>16 by omega))<|wP I<|xa<|zS I<|zI<|zN<|xe<|wG I I fun _=>zC<|?_
 rename_i b7
 refine zE<|zA<|B2 [⟨bE,93,edV e q cap,true,none⟩,Ad (wrL b7 (.pointer none) Vec.empty [] 0 0)] [0,1] (by decide) I I ?_
 refine zB<|wB 0 I I I<|Ah 1 (B:=Ad (wrL b7 (.pointer none) Vec.empty [] 0 0)) (X:=Value×Vec) (fun x=>Ad (wrL b7 x.1 x.2 S wd nm)) I I I I I I (by kernel_rfl) I (fun _ _=>rfl) (fun W1 hp=>hWr hy b7 W1 hp.below (hp.pick [1] (by decide) I).own) ?_
 rintro⟨p1,V1⟩ hx1
 have hx1:BC b7 p1 V1 S:=hx1
 refine xa<|zA<|zA<|B2 (⟨bE,93,edV e q cap,true,none⟩::wrB b7 p1 V1 S wd nm) [0,1] (by decide) I (Df _ b7 p1 V1 S wd nm).symm ?_
 refine zB<|wP I<|wB 1 I I I<|wP I<|?_
 by_cases c4:wd=0
 rotate_left
 ·rw[if_pos c4] at hR
  exact wU 65 true I (bne_iff_ne.2 c4)<|xa<|zR I<|zA<|zU<|qP I<|qB 1 I I I<|AO I<|zD<|xc<|zP<|wR2 I I (by rw[hR])
 rw[if_neg (fun h=>h c4)] at hR
 refine wU 65 false I (by rw[c4];rfl)<|xa<|zS I<|zI<|zE<|xd<|wP I<|wB 1 I I I<|wP I<|?_
 by_cases c5:nm=0
 rotate_left
 ·rw[if_pos c5] at hR
  exact wU 70 true I (bne_iff_ne.2 c5)<|xa<|zR I<|zA<|zU<|qP I<|qB 1 I I I<|AO I<|zD<|xc<|zP<|wR2 I I (by rw[hR])
 rw[if_neg (fun h=>h c5)] at hR
 refine wU 70 false I (by rw[c5];rfl)<|xa<|zS I<|zI<|xe<|wP I<|XH I I I I I I (by kernel_rfl) (fun W1 hp=>TE hp 1 2 I I hx1.2 hS) ?_
 exact Aa I<|xc<|wR2 I I (by rw[hR])
def EdP (i:Nat) (bad:Bool) (e:EdS) (x:EdX):Prop:=(bad=false->x.V.OK 2 x.e.br.g.length (x.e.br.g.flatMap gpC))/\x.i=i/\x.bad=bad/\(bad=false->x.e=e)
def eA (s:List UInt8) (n i:Nat) (bad:Bool) (r:List UInt8×Int):Int:=if bad=true\/i<n then 3 else if r.2≠0\/r.1≠s then 3 else 0
theorem WD (A B:Bx) (b g:Nat) (ws:List (List UInt8)) (i:Nat) (bad:Bool) (V:Bx):Ci [A,Ad (rdL b g ws i bad++V.blk),B]=Ci [A,⟨b,131,rdC g ws.length i bad,true,none⟩,⟨g,9,ss ws++[],true,none⟩,V,B]:=by
 show A.blk++((rdL b g ws i bad++V.blk)++(B.blk++[]))=A.blk++(rdL b g ws i bad++(V.blk++(B.blk++[])))
 rw[List.append_assoc]
theorem BV (s:List UInt8) (hs:s.length<=65536) (W:World) (hv:AQ W) (ht:AZ W) (hw:Bo W) (i:Nat) (bad:Bool) (e:EdS) (r:List UInt8×Int)
  (hread: ∀b g Wb W1,Below Wb.heap.size Wb W1->Go.Am.Own Wb.heap.size [Ad (rdL b g (AI 32 s) 0 false)] W1->AQ Wb->AZ Wb->Bo Wb->Fg b g (AI 32 s) Wb W1 (EdP i bad e))
  (htext:bad=false-> ∀q cap W1,AB 2 gpC W1 q e.br.g->AQ W1->AZ W1->Bo W1->Ag Tryz.prog 60 #[.agg (edV e q cap).toArray] W1 (fun _:Unit=> .tuple #[str r.1, .int .i64 r.2]) (fun _=>True) (fun _=>[])):
  Ag Tryz.prog 34 #[str s] W (fun x:Value=> .tuple #[x, .int .i64 (eA s (AI 32 s).length i bad r)]) (YL 37) (fun _=>[]):=by
 have hR:eA s (AI 32 s).length i bad r=if bad=true\/i<(AI 32 s).length then 3 else if r.2≠0\/r.1≠s then 3 else 0:=rfl
 have hn1:=Co 32 s
 obtain⟨ws,hws⟩: ∃ws,ws=AI 32 s:=⟨_,rfl⟩
 refine Ab Tryz.func34 I I I<|xb<|wG I I fun _=>wP I<|zC<|?_
 rename_i b2
 refine zE<|xd<|Aa I<|Ao 9 (.int .i64 (s.length:Nat)) I (congrArg (fun n:Nat=>Value.int .i64 (n:Int)) (A5 s))<|wP I<|wU 10 false I (dF (show¬((s.length:Nat):Int)>65536 by omega))<|xa<|zS I<|zI<|xe<|wP I<|wD (X:=Nat) I I (fun W1 hp=>CL W1 s (by omega) (hv.hp hp)) ?_
 intro g _
 simp only[<-hws] at hn1 hread hR⊢
 refine Ak Tryz.hZ tH I I I I I I I I ?_
 refine wG I I fun _=>wS 2 I I I<|zC<|?_
 rename_i b4
 refine AM (bs':=[⟨b2,93,edV {} none 0,true,none⟩,⟨g,9,ss ws++[],true,none⟩,⟨b4,131,rdC g ws.length 0 false,true,none⟩]) (by unfold rdC;rw[if_pos hn1];rfl) ?_
 refine zE<|zA<|B2 [⟨b2,93,edV {} none 0,true,none⟩,Ad (rdL b4 g ws 0 false)] [0,2,1] (by decide) I I ?_
 refine zB<|Ah 1 (B:=Ad (rdL b4 g ws 0 false)) (X:=EdX) (fun x=>Ad (rdL b4 g ws x.i x.bad++(x.V.bx 177 (x.e.br.g.flatMap gpC)).blk)) I I I I I I (by kernel_rfl) I (fun _ _=>rfl) (fun W1 hp=>hread b4 g W W1 hp.below (hp.pick [1] (by decide) I).own hv ht hw) ?_
 rintro⟨e1,V,i1,bad1⟩ ⟨hV,hi,hb,he⟩
 have hV:bad=false->V.OK 2 e1.br.g.length (e1.br.g.flatMap gpC):=hV
 have hi:i1=i:=hi
 have hb:bad1=bad:=hb
 have he:bad=false->e1=e:=he
 subst hi hb
 refine wG I I fun _=>wS 2 I I I<|zC<|?_
 rename_i b5
 refine zE<|zA<|zA<|B2 [⟨b2,93,edV {} none 0,true,none⟩,⟨b4,131,rdC g ws.length i1 bad1,true,none⟩,⟨g,9,ss ws++[],true,none⟩,V.bx 177 (e1.br.g.flatMap gpC),⟨b5,93,edV e1 (AU V) (Bd V),true,none⟩] [0,1,2] (by decide) I (WD _ _ b4 g ws i1 bad1 _).symm ?_
 cases bad1 with
 |true=>
  rw[if_pos (.inl rfl)] at hR
  refine zB<|wP I<|wB 1 I I I<|wP I<|?_
  iterate 4 refine Ac I I ?_
  refine wP I<|xa<|zR I<|xb<|Ak Tryz.hZ tH I I I I I I I I ?_
  exact wS 0 I I I<|wP I<|xc<|zP<|An tH I (.cell 0 I I I I I) (.tmp I) _ (by rw[hR]) ⟨_,I,I,I⟩ fun W _=>As.nil _ _
 |false=>
 have he:e1=e:=he rfl
 subst he
 refine zB<|wP I<|wB 1 I I I<|Aa I<|wB 1 I I I<|Aa I<|?_
 by_cases hlt:i1<ws.length
 ·rw[if_pos (.inr hlt)] at hR
  refine wU 22 true I (dT (show((ws.length-i1:Nat):Int)>0 by omega))<|wP I<|xa<|zR I<|xb<|Ak Tryz.hZ tH I I I I I I I I ?_
  exact wS 0 I I I<|wP I<|xc<|zP<|An tH I (.cell 0 I I I I I) (.tmp I) _ (by rw[hR]) ⟨_,I,I,I⟩ fun W _=>As.nil _ _
 rw[if_neg (fun h=>h.elim (fun h=>by cases h) hlt)] at hR
 refine wU 22 false I (dF (show¬((ws.length-i1:Nat):Int)>0 by omega))<|wP I<|xa<|zS I<|zI<|zE<|xd<|wB 4 I I I<|wC I I (fun W1 hp=>htext I (AU V) (Bd V) W1 (EI UR hp 3 (hV I) I) (hv.hp hp) (ht.hp hp) (hw.hp hp))<|A8 I<|xg<|Aa I<|?_
 by_cases c1:r.2=0
 rotate_left
 ·rw[if_pos (.inl c1)] at hR
  refine wU 31 true I (bne_iff_ne.2 c1)<|wP I<|?_
  iterate 3 refine Ac I I ?_
  refine wP I<|xa<|zR I<|xb<|Ak Tryz.hZ tH I I I I I I I I ?_
  exact wS 0 I I I<|wP I<|xc<|zP<|An tH I (.cell 0 I I I I I) (.tmp I) _ (by rw[hR]) ⟨_,I,I,I⟩ fun W _=>As.nil _ _
 refine wU 31 false I (by rw[c1];rfl)<|A3 I<|?_
 by_cases c2:r.1=s
 rotate_left
 ·rw[if_pos (.inr c2)] at hR
  refine Ao 35 (.bool true) I (congrArg (fun c:Bool=>Value.bool (!c)) ((Hk _ _).trans (dF c2)))<|wP I<|xa<|zR I<|xb<|Ak Tryz.hZ tH I I I I I I I I ?_
  exact wS 0 I I I<|wP I<|xc<|zP<|An tH I (.cell 0 I I I I I) (.tmp I) _ (by rw[hR]) ⟨_,I,I,I⟩ fun W _=>As.nil _ _
 rw[if_neg (fun h=>h.elim (fun h=>h c1) (fun h=>h c2))] at hR
 exact Ao 35 (.bool false) I (congrArg (fun c:Bool=>Value.bool (!c)) ((Hk _ _).trans (dT c2)))<|wP I<|xa<|zS I<|zI<|xe<|wB 4 I I I<|wS 0 I I I<|wP I<|xc<|An tH I (.cell 0 I I I I I) (.tmp I) _ (by rw[hR]) ⟨_,I,I,I⟩ fun W _=>As.nil _ _
theorem Qu (e:EdS) (q:Option Addr) (cap:Nat) (hk:e.k=0) (W:World):
  Ag Tryz.prog 60 #[.agg (edV e q cap).toArray] W (fun _:Unit=> .tuple #[str [], .int .i64 8]) (fun _=>True) (fun _=>[]):=by
 refine Ab Tryz.func60 I I I<|xb<|wF I I fun _=>Aa I<|xa<|xd<|wB 0 I I I<|wC I I (fun W1 hp=>Rd e q cap hk W1)<|wP I<|xg<|Aa I<|xa<|zR I<|zA<|?_
 exact zB<|Ae I<|xc<|zP<|wR2 I I I
theorem A0.weaken {P:Program} {n g:Nat} {vs:List Value} {W:World} {L:List (Nat×Obj)} {X:Type} {val:X->Value} {Φ Φ':X->Prop} {L':X->List (Nat×Obj)} (h:A0 P n g vs W L val Φ L') (hx: ∀x,Φ x->Φ' x):A0 P n g vs W L val Φ' L':=
 ⟨h.out.mono fun _ _ ⟨x,h1,h2,h3⟩=>⟨x,h1,hx x h2,h3⟩⟩
theorem EZ {b g:Nat} {ws:List (List UInt8)} {Wb W:World} {ops:List Bool} {e:EdS} (h:Fg b g ws Wb W (EdR ws ops e)) (he:e.br.g=[]):Fg b g ws Wb W (EdP (stI ws.length ops.length) (stB ws ops) e):=
 A0.weaken h fun x ⟨h1,h2,h3,h4⟩=>⟨fun hb=>by
  have e1:=h4 (h3.trans hb)
  rw[h1,e1,he]
  exact Vec.OK.empty 2,h2,h3,fun hb=>h4 (h3.trans hb)⟩
theorem Ee (ws:List (List UInt8)) (k:Nat):Bt (iw ws k):=by
 unfold iw atV
 split
 ·rename_i n e
  exact atoiAll_bounds e
 ·exact⟨by decide,by decide⟩
theorem DE (x:Int):Bt (w64 x):=by
 have:=VZ x
 exact⟨this.1,by omega⟩
theorem DH (w:List UInt8):Bt (Fe w):=by
 unfold Fe
 cases e:CI.find? fun p=>decide (p.2=w) with
 |none=>exact⟨by decide,by decide⟩
 |some p=>exact(show∀p∈CI,Bt p.1 by unfold Bt;decide) p (List.mem_of_find?_eq_some e)
theorem IZ {l:List UInt8} (s:List UInt8) (h:l≠[]):At l s≠[]:=by
 unfold At
 split<;>exact fun e=>h (by simp only[List.append_eq_nil_iff] at e;first|exact e.1|exact e.1.1)
theorem CS {l:List UInt8} (h:l≠[]): ∀ns:List Int,A9 l ns≠[]:=fun ns=>by
 induction ns generalizing l with
 |nil=>exact h
 |cons n ns ih=>exact ih (IZ _ h)
theorem Un {l:List UInt8} (h:l≠[]): ∀ns:List (List UInt8),Ea l ns≠[]:=fun ns=>by
 induction ns generalizing l with
 |nil=>exact h
 |cons n ns ih=>exact ih (IZ _ h)
theorem aD {l:List UInt8} (h:l≠[]): ∀gs:List (Int×Int),IM l gs≠[]:=fun ns=>by
 induction ns generalizing l with
 |nil=>exact h
 |cons n ns ih=>exact ih (CS h _)
theorem Z5 (ws:List (List UInt8)):kdW ws∈([0,1,2,3,4,5,6,7,8,9,10,11,12]:List Int):=by
 show(Hu Br (ws.getD 0 [])).getD 0∈_
 unfold Hu
 cases e:Br.find? fun p=>decide (p.1=ws.getD 0 []) with
 |none=>exact List.mem_cons_self ..
 |some p=>exact(show∀p∈Br,p.2∈([0,1,2,3,4,5,6,7,8,9,10,11,12]:List Int) by decide) p (List.mem_of_find?_eq_some e)
abbrev CpE (s:List UInt8) (r:Int):Prop:= ∀W,AQ W->AZ W->Bo W->Ag Tryz.prog 34 #[str s] W (fun x:Value=> .tuple #[x, .int .i64 r]) (YL 37) (fun _=>[])
abbrev fN (_ws:List (List UInt8)):EdS:= { k:=0 }
theorem ZM (s:List UInt8) (hs:s.length<=65536) (ws:List (List UInt8)) (hws:ws=AI 32 s) (hk:kdW ws=0): ∃r,CpE s r:=by
 have h1:1<=ws.length:=by rw[hws];exact Co 32 s
 refine⟨_,fun W hv ht hw=>BV s hs W hv ht hw (stI ws.length ([]:List Bool).length) (stB ws []) (fN ws) ([],8) (fun b g Wb W1 hb hO hv ht hw=> ?_) (fun _ q cap W1 _ _ _ _=>Qu _ q cap I W1)⟩
 subst hws
 exact EZ (Pw b g _ h1 Wb W1 hb hO hk) I
abbrev Wq (ws:List (List UInt8)):EdS:= { k:=1,tx:=wd ws 0 }
theorem Zk (s:List UInt8) (hs:s.length<=65536) (ws:List (List UInt8)) (hws:ws=AI 32 s) (hk:kdW ws=1): ∃r,CpE s r:=by
 have h1:1<=ws.length:=by rw[hws];exact Co 32 s
 have hl: ∀w∈ws,w.length<=1000000:=fun w hw=>Nat.le_trans (B0 (l:=s) (Nat.le_refl _) w (hws▸hw)) (by omega)
 have hi:EdI (Wq ws):=⟨fun n hn=>by
  simp only[Ch,List.mem_cons,List.not_mem_nil,or_false] at hn
  rcases hn with rfl|rfl|rfl|rfl|rfl|rfl|rfl|rfl|rfl|rfl|rfl|rfl|rfl|rfl|rfl|rfl|rfl|rfl|rfl|rfl|rfl|rfl|rfl|rfl|rfl|rfl|rfl|rfl<;>first|exact Ee _ _|exact⟨by decide,by decide⟩|exact DE _|exact DH _,fun w hw=>by
  simp only[BM,List.mem_cons,List.not_mem_nil,or_false] at hw
  rcases hw with rfl|rfl|rfl|rfl|rfl|rfl<;>first|exact Nat.zero_le _|exact Dp hl _⟩
 refine⟨_,fun W hv ht hw=>BV s hs W hv ht hw (stI ws.length ([false]:List Bool).length) (stB ws [false]) (Wq ws) (F3 (Wq ws) (At (At [] [110,97,109,101]) (Wq ws).tx) 0 0) (fun b g Wb W1 hb hO hv ht hw=> ?_) (fun _ q cap W1 hA hv ht hw=>Cf (Wq ws) q none cap 0 (At (At [] [110,97,109,101]) (Wq ws).tx) 0 0 (show(1:Int)<=1 by decide) (show(1:Int)<=12 by decide) (Sk _ q cap I) (Nat.zero_le _) (hi.s _ (by simp[BM])) (IZ _ (by decide)) W1 hA (.inl I) hw fun _ b W2 hb hO=>Nm b _ q cap I hi W1 W2 hb hO)⟩
 subst hws
 exact EZ (PS b g _ h1 Wb W1 hb hO hk) I
abbrev Db (ws:List (List UInt8)):EdS:= { k:=2,ix:=iw ws 0,x:=iw ws 1,y:=iw ws 2,ri:=iw ws 3,ru:=iw ws 4,gb:=(iw ws 7==1),pl:=iw ws 5,ov:=iw ws 6 }
theorem ZX (s:List UInt8) (hs:s.length<=65536) (ws:List (List UInt8)) (hws:ws=AI 32 s) (hk:kdW ws=2): ∃r,CpE s r:=by
 have h1:1<=ws.length:=by rw[hws];exact Co 32 s
 have hl: ∀w∈ws,w.length<=1000000:=fun w hw=>Nat.le_trans (B0 (l:=s) (Nat.le_refl _) w (hws▸hw)) (by omega)
 have hi:EdI (Db ws):=⟨fun n hn=>by
  simp only[Ch,List.mem_cons,List.not_mem_nil,or_false] at hn
  rcases hn with rfl|rfl|rfl|rfl|rfl|rfl|rfl|rfl|rfl|rfl|rfl|rfl|rfl|rfl|rfl|rfl|rfl|rfl|rfl|rfl|rfl|rfl|rfl|rfl|rfl|rfl|rfl|rfl<;>first|exact Ee _ _|exact⟨by decide,by decide⟩|exact DE _|exact DH _,fun w hw=>by
  simp only[BM,List.mem_cons,List.not_mem_nil,or_false] at hw
  rcases hw with rfl|rfl|rfl|rfl|rfl|rfl<;>first|exact Nat.zero_le _|exact Dp hl _⟩
 refine⟨_,fun W hv ht hw=>BV s hs W hv ht hw (stI ws.length ([true,true,true,true,true,true,true,true]:List Bool).length) (stB ws [true,true,true,true,true,true,true,true]) (Db ws) (F3 (Db ws) (A9 (At [] [115,105,100,101]) [(Db ws).ix,(Db ws).x,(Db ws).y,(Db ws).ri,(Db ws).ru,(Db ws).pl,(Db ws).ov,gbI (Db ws)]) (AK 0 [(Db ws).ix,(Db ws).x,(Db ws).y,(Db ws).ri,(Db ws).ru,(Db ws).pl,(Db ws).ov,gbI (Db ws)]) 0) (fun b g Wb W1 hb hO hv ht hw=> ?_) (fun _ q cap W1 hA hv ht hw=>Cf (Db ws) q none cap 0 (A9 (At [] [115,105,100,101]) [(Db ws).ix,(Db ws).x,(Db ws).y,(Db ws).ri,(Db ws).ru,(Db ws).pl,(Db ws).ov,gbI (Db ws)]) (AK 0 [(Db ws).ix,(Db ws).x,(Db ws).y,(Db ws).ri,(Db ws).ru,(Db ws).pl,(Db ws).ov,gbI (Db ws)]) 0 (show(1:Int)<=2 by decide) (show(2:Int)<=12 by decide) (RI _ q cap I) (Nat.zero_le _) (hi.s _ (by simp[BM])) (CS (by decide) _) W1 hA (.inl I) hw fun _ b W2 hb hO=>Nj b _ q cap I hi W1 W2 hb hO ht)⟩
 subst hws
 exact EZ (P5 b g _ h1 hl Wb W1 hb hO hv hk) I
abbrev KS (ws:List (List UInt8)):EdS:= { k:=3,ix:=iw ws 0,nb:=iw ws 1 }
theorem aG (s:List UInt8) (hs:s.length<=65536) (ws:List (List UInt8)) (hws:ws=AI 32 s) (hk:kdW ws=3): ∃r,CpE s r:=by
 have h1:1<=ws.length:=by rw[hws];exact Co 32 s
 have hl: ∀w∈ws,w.length<=1000000:=fun w hw=>Nat.le_trans (B0 (l:=s) (Nat.le_refl _) w (hws▸hw)) (by omega)
 have hi:EdI (KS ws):=⟨fun n hn=>by
  simp only[Ch,List.mem_cons,List.not_mem_nil,or_false] at hn
  rcases hn with rfl|rfl|rfl|rfl|rfl|rfl|rfl|rfl|rfl|rfl|rfl|rfl|rfl|rfl|rfl|rfl|rfl|rfl|rfl|rfl|rfl|rfl|rfl|rfl|rfl|rfl|rfl|rfl<;>first|exact Ee _ _|exact⟨by decide,by decide⟩|exact DE _|exact DH _,fun w hw=>by
  simp only[BM,List.mem_cons,List.not_mem_nil,or_false] at hw
  rcases hw with rfl|rfl|rfl|rfl|rfl|rfl<;>first|exact Nat.zero_le _|exact Dp hl _⟩
 refine⟨_,fun W hv ht hw=>BV s hs W hv ht hw (stI ws.length ([true,true]:List Bool).length) (stB ws [true,true]) (KS ws) (F3 (KS ws) (A9 (At [] [115,112,97,99,105,110,103]) [(KS ws).ix,(KS ws).nb]) (AK 0 [(KS ws).ix,(KS ws).nb]) 0) (fun b g Wb W1 hb hO hv ht hw=> ?_) (fun _ q cap W1 hA hv ht hw=>Cf (KS ws) q none cap 0 (A9 (At [] [115,112,97,99,105,110,103]) [(KS ws).ix,(KS ws).nb]) (AK 0 [(KS ws).ix,(KS ws).nb]) 0 (show(1:Int)<=3 by decide) (show(3:Int)<=12 by decide) (R5 _ q cap I) (Nat.zero_le _) (hi.s _ (by simp[BM])) (CS (by decide) _) W1 hA (.inl I) hw fun _ b W2 hb hO=>Np b _ q cap I hi W1 W2 hb hO ht)⟩
 subst hws
 exact EZ (Pq b g _ h1 hl Wb W1 hb hO hv hk) I
abbrev QY (ws:List (List UInt8)):EdS:= { k:=4,nb:=iw ws 0 }
theorem ZN (s:List UInt8) (hs:s.length<=65536) (ws:List (List UInt8)) (hws:ws=AI 32 s) (hk:kdW ws=4): ∃r,CpE s r:=by
 have h1:1<=ws.length:=by rw[hws];exact Co 32 s
 have hl: ∀w∈ws,w.length<=1000000:=fun w hw=>Nat.le_trans (B0 (l:=s) (Nat.le_refl _) w (hws▸hw)) (by omega)
 have hi:EdI (QY ws):=⟨fun n hn=>by
  simp only[Ch,List.mem_cons,List.not_mem_nil,or_false] at hn
  rcases hn with rfl|rfl|rfl|rfl|rfl|rfl|rfl|rfl|rfl|rfl|rfl|rfl|rfl|rfl|rfl|rfl|rfl|rfl|rfl|rfl|rfl|rfl|rfl|rfl|rfl|rfl|rfl|rfl<;>first|exact Ee _ _|exact⟨by decide,by decide⟩|exact DE _|exact DH _,fun w hw=>by
  simp only[BM,List.mem_cons,List.not_mem_nil,or_false] at hw
  rcases hw with rfl|rfl|rfl|rfl|rfl|rfl<;>first|exact Nat.zero_le _|exact Dp hl _⟩
 refine⟨_,fun W hv ht hw=>BV s hs W hv ht hw (stI ws.length ([true]:List Bool).length) (stB ws [true]) (QY ws) (F3 (QY ws) (A9 (At [] [112,117,114,108,105,110]) [(QY ws).nb]) (AK 0 [(QY ws).nb]) 0) (fun b g Wb W1 hb hO hv ht hw=> ?_) (fun _ q cap W1 hA hv ht hw=>Cf (QY ws) q none cap 0 (A9 (At [] [112,117,114,108,105,110]) [(QY ws).nb]) (AK 0 [(QY ws).nb]) 0 (show(1:Int)<=4 by decide) (show(4:Int)<=12 by decide) (QR _ q cap I) (Nat.zero_le _) (hi.s _ (by simp[BM])) (CS (by decide) _) W1 hA (.inl I) hw fun _ b W2 hb hO=>MZ b _ q cap I hi W1 W2 hb hO ht)⟩
 subst hws
 exact EZ (OD b g _ h1 hl Wb W1 hb hO hv hk) I
abbrev Ep (ws:List (List UInt8)):EdS:= { k:=5,ix:=iw ws 0,op:=⟨iw ws 1,wd ws 2,wd ws 3,wd ws 4,wd ws 5⟩ }
theorem Zw (s:List UInt8) (hs:s.length<=65536) (ws:List (List UInt8)) (hws:ws=AI 32 s) (hk:kdW ws=5): ∃r,CpE s r:=by
 have h1:1<=ws.length:=by rw[hws];exact Co 32 s
 have hl: ∀w∈ws,w.length<=1000000:=fun w hw=>Nat.le_trans (B0 (l:=s) (Nat.le_refl _) w (hws▸hw)) (by omega)
 have hi:EdI (Ep ws):=⟨fun n hn=>by
  simp only[Ch,List.mem_cons,List.not_mem_nil,or_false] at hn
  rcases hn with rfl|rfl|rfl|rfl|rfl|rfl|rfl|rfl|rfl|rfl|rfl|rfl|rfl|rfl|rfl|rfl|rfl|rfl|rfl|rfl|rfl|rfl|rfl|rfl|rfl|rfl|rfl|rfl<;>first|exact Ee _ _|exact⟨by decide,by decide⟩|exact DE _|exact DH _,fun w hw=>by
  simp only[BM,List.mem_cons,List.not_mem_nil,or_false] at hw
  rcases hw with rfl|rfl|rfl|rfl|rfl|rfl<;>first|exact Nat.zero_le _|exact Dp hl _⟩
 refine⟨_,fun W hv ht hw=>BV s hs W hv ht hw (stI ws.length ([false,false,false,false,true,true]:List Bool).length) (stB ws [false,false,false,false,true,true]) (Ep ws) (F3 (Ep ws) (Ea (A9 (At [] [111,112,101,110,105,110,103]) [(Ep ws).ix,(Ep ws).op.s]) [(Ep ws).op.l,(Ep ws).op.r,(Ep ws).op.o,(Ep ws).op.i]) (AK 0 [(Ep ws).ix,(Ep ws).op.s]) (FT 0 [(Ep ws).op.l,(Ep ws).op.r,(Ep ws).op.o,(Ep ws).op.i])) (fun b g Wb W1 hb hO hv ht hw=> ?_) (fun _ q cap W1 hA hv ht hw=>Cf (Ep ws) q none cap 0 (Ea (A9 (At [] [111,112,101,110,105,110,103]) [(Ep ws).ix,(Ep ws).op.s]) [(Ep ws).op.l,(Ep ws).op.r,(Ep ws).op.o,(Ep ws).op.i]) (AK 0 [(Ep ws).ix,(Ep ws).op.s]) (FT 0 [(Ep ws).op.l,(Ep ws).op.r,(Ep ws).op.o,(Ep ws).op.i]) (show(1:Int)<=5 by decide) (show(5:Int)<=12 by decide) (RK _ q cap I) (Nat.zero_le _) (hi.s _ (by simp[BM])) (Un (CS (by decide) _) _) W1 hA (.inl I) hw fun _ b W2 hb hO=>Nz b _ q cap I hi W1 W2 hb hO hv.max ht)⟩
 subst hws
 exact EZ (Pz b g _ h1 hl Wb W1 hb hO hv hk) I
abbrev JK (ws:List (List UInt8)):EdS:= { k:=6,sz:=⟨w64 (1+EK (wd ws 0) Bw 0),iw ws 1,iw ws 2⟩ }
theorem ZO (s:List UInt8) (hs:s.length<=65536) (ws:List (List UInt8)) (hws:ws=AI 32 s) (hk:kdW ws=6): ∃r,CpE s r:=by
 have h1:1<=ws.length:=by rw[hws];exact Co 32 s
 have hl: ∀w∈ws,w.length<=1000000:=fun w hw=>Nat.le_trans (B0 (l:=s) (Nat.le_refl _) w (hws▸hw)) (by omega)
 have hi:EdI (JK ws):=⟨fun n hn=>by
  simp only[Ch,List.mem_cons,List.not_mem_nil,or_false] at hn
  rcases hn with rfl|rfl|rfl|rfl|rfl|rfl|rfl|rfl|rfl|rfl|rfl|rfl|rfl|rfl|rfl|rfl|rfl|rfl|rfl|rfl|rfl|rfl|rfl|rfl|rfl|rfl|rfl|rfl<;>first|exact Ee _ _|exact⟨by decide,by decide⟩|exact DE _|exact DH _,fun w hw=>by
  simp only[BM,List.mem_cons,List.not_mem_nil,or_false] at hw
  rcases hw with rfl|rfl|rfl|rfl|rfl|rfl<;>first|exact Nat.zero_le _|exact Dp hl _⟩
 refine⟨_,fun W hv ht hw=>BV s hs W hv ht hw (stI ws.length ([true,true,false]:List Bool).length) (stB ws [true,true,false]) (JK ws) (F3 (JK ws) (A9 (At (At [] [115,105,122,101]) (Bw.getD ((JK ws).sz.k-1).toNat [])) [(JK ws).sz.w,(JK ws).sz.d]) (AK 0 [(JK ws).sz.w,(JK ws).sz.d]) 0) (fun b g Wb W1 hb hO hv ht hw=> ?_) (fun _ q cap W1 hA hv ht hw=>Cf (JK ws) q none cap 0 (A9 (At (At [] [115,105,122,101]) (Bw.getD ((JK ws).sz.k-1).toNat [])) [(JK ws).sz.w,(JK ws).sz.d]) (AK 0 [(JK ws).sz.w,(JK ws).sz.d]) 0 (show(1:Int)<=6 by decide) (show(6:Int)<=12 by decide) (Ri _ q cap I) (Nat.zero_le _) (hi.s _ (by simp[BM])) (CS (IZ _ (by decide)) _) W1 hA (.inl I) hw fun hx b W2 hb hO=>Ni b _ q cap I hi (Classical.byContradiction fun h=>hx (.inl ⟨I,fun h2=>h h2.1⟩)) (Classical.byContradiction fun h=>hx (.inl ⟨I,fun h2=>h h2.2⟩)) W1 W2 hb hO ht hw)⟩
 subst hws
 exact EZ (O6 b g _ h1 hl Wb W1 hb hO hv hw hk) I
theorem Zb (s:List UInt8) (hs:s.length<=65536) (ws:List (List UInt8)) (hws:ws=AI 32 s) (hk:kdW ws=7): ∃r,CpE s r:=by
 have h1:1<=ws.length:=by rw[hws];exact Co 32 s
 have hl: ∀w∈ws,w.length<=1000000:=fun w hw=>Nat.le_trans (B0 (l:=s) (Nat.le_refl _) w (hws▸hw)) (by omega)
 have hi:EdI (BL ws):=⟨fun n hn=>by
  simp only[BL,Ch,List.mem_cons,List.not_mem_nil,or_false] at hn
  rcases hn with rfl|rfl|rfl|rfl|rfl|rfl|rfl|rfl|rfl|rfl|rfl|rfl|rfl|rfl|rfl|rfl|rfl|rfl|rfl|rfl|rfl|rfl|rfl|rfl|rfl|rfl|rfl|rfl<;>first|exact Ee _ _|exact⟨by decide,by decide⟩|exact DE _|exact DH _,fun w hw=>by
  simp only[BL,BM,List.mem_cons,List.not_mem_nil,or_false] at hw
  rcases hw with rfl|rfl|rfl|rfl|rfl|rfl<;>first|exact Nat.zero_le _|exact Dp hl _⟩
 have hgn:(BL ws).br.g.length<=1000000:=by
  show(Jt ws (PL ws.length)).length<=1000000
  unfold Jt PL
  rw[List.length_map,List.length_range]
  have:=Pa s
  rw[<-hws] at this
  omega
 refine⟨_,fun W hv ht hw=>BV s hs W hv ht hw (stI ws.length ((trL (6+2*PL ws.length)):List Bool).length) (stB ws (trL (6+2*PL ws.length))) (BL ws) (F3 (BL ws) (IM (A9 (At [] [98,97,114]) [(BL ws).ix,(BL ws).br.w,(BL ws).br.d,(BL ws).br.l,(BL ws).br.n,(BL ws).br.c]) (BL ws).br.g) (PZ (AK 0 [(BL ws).ix,(BL ws).br.w,(BL ws).br.d,(BL ws).br.l,(BL ws).br.n,(BL ws).br.c]) (BL ws).br.g) 0) (fun b g Wb W1 hb hO hv ht hw=> ?_) (fun _ q cap W1 hA hv ht hw=>Cf (BL ws) q q cap cap (IM (A9 (At [] [98,97,114]) [(BL ws).ix,(BL ws).br.w,(BL ws).br.d,(BL ws).br.l,(BL ws).br.n,(BL ws).br.c]) (BL ws).br.g) (PZ (AK 0 [(BL ws).ix,(BL ws).br.w,(BL ws).br.d,(BL ws).br.l,(BL ws).br.n,(BL ws).br.c]) (BL ws).br.g) 0 (show(1:Int)<=7 by decide) (show(7:Int)<=12 by decide) (RW _ q cap I) (hgn) (hi.s _ (by simp[BM])) (aD (CS (by decide) _) _) W1 hA hA hw fun _ b W2 hb hO=>No b _ q cap I hi (fun g hg=>by
    obtain⟨j,_,rfl⟩:=List.mem_map.1 hg
    exact⟨Ee _ _,Ee _ _⟩) hgn W1 W2 hb hO ht (hA.below (Nat.le_refl _) hb) (fun hne a ha x hx=> ?_))⟩
 ·subst hws
  exact A0.weaken (O9 b g _ h1 (by have:=Pa s;omega) hl Wb W1 hb hO hv hk) fun x ⟨⟨a1,_⟩,a2,a3,a4⟩=>⟨fun _=>a1,by rw[List.length_replicate];exact a2,a3,fun hb=>a4 (a3.trans hb)⟩
 ·obtain⟨b0,off,rfl,hr⟩:=hA.row (i:=0) (List.length_pos_iff.2 hne)
  injection ha with ha
  subst ha
  have:=(hO.cell 0 _ rfl x hx).2
  have:=(hr 0 (List.length_pos_iff.2 hne)).lt
  show x.1≠b0
  omega
abbrev QJ (ws:List (List UInt8)):EdS:= { k:=8,nb:=iw ws 0 }
theorem Zf (s:List UInt8) (hs:s.length<=65536) (ws:List (List UInt8)) (hws:ws=AI 32 s) (hk:kdW ws=8): ∃r,CpE s r:=by
 have h1:1<=ws.length:=by rw[hws];exact Co 32 s
 have hl: ∀w∈ws,w.length<=1000000:=fun w hw=>Nat.le_trans (B0 (l:=s) (Nat.le_refl _) w (hws▸hw)) (by omega)
 have hi:EdI (QJ ws):=⟨fun n hn=>by
  simp only[Ch,List.mem_cons,List.not_mem_nil,or_false] at hn
  rcases hn with rfl|rfl|rfl|rfl|rfl|rfl|rfl|rfl|rfl|rfl|rfl|rfl|rfl|rfl|rfl|rfl|rfl|rfl|rfl|rfl|rfl|rfl|rfl|rfl|rfl|rfl|rfl|rfl<;>first|exact Ee _ _|exact⟨by decide,by decide⟩|exact DE _|exact DH _,fun w hw=>by
  simp only[BM,List.mem_cons,List.not_mem_nil,or_false] at hw
  rcases hw with rfl|rfl|rfl|rfl|rfl|rfl<;>first|exact Nat.zero_le _|exact Dp hl _⟩
 refine⟨_,fun W hv ht hw=>BV s hs W hv ht hw (stI ws.length ([true]:List Bool).length) (stB ws [true]) (QJ ws) (F3 (QJ ws) (A9 (At [] [107,101,114,102]) [(QJ ws).nb]) (AK 0 [(QJ ws).nb]) 0) (fun b g Wb W1 hb hO hv ht hw=> ?_) (fun _ q cap W1 hA hv ht hw=>Cf (QJ ws) q none cap 0 (A9 (At [] [107,101,114,102]) [(QJ ws).nb]) (AK 0 [(QJ ws).nb]) 0 (show(1:Int)<=8 by decide) (show(8:Int)<=12 by decide) (QE _ q cap I) (Nat.zero_le _) (hi.s _ (by simp[BM])) (CS (by decide) _) W1 hA (.inl I) hw fun _ b W2 hb hO=>Nc b _ q cap I hi W1 W2 hb hO ht)⟩
 subst hws
 exact EZ (OM b g _ h1 hl Wb W1 hb hO hv hk) I
abbrev Gx (ws:List (List UInt8)):EdS:= { k:=9,tw:=iw ws 0,tl:=iw ws 1,tp:=iw ws 2,tt:=iw ws 3 }
theorem Z6 (s:List UInt8) (hs:s.length<=65536) (ws:List (List UInt8)) (hws:ws=AI 32 s) (hk:kdW ws=9): ∃r,CpE s r:=by
 have h1:1<=ws.length:=by rw[hws];exact Co 32 s
 have hl: ∀w∈ws,w.length<=1000000:=fun w hw=>Nat.le_trans (B0 (l:=s) (Nat.le_refl _) w (hws▸hw)) (by omega)
 have hi:EdI (Gx ws):=⟨fun n hn=>by
  simp only[Ch,List.mem_cons,List.not_mem_nil,or_false] at hn
  rcases hn with rfl|rfl|rfl|rfl|rfl|rfl|rfl|rfl|rfl|rfl|rfl|rfl|rfl|rfl|rfl|rfl|rfl|rfl|rfl|rfl|rfl|rfl|rfl|rfl|rfl|rfl|rfl|rfl<;>first|exact Ee _ _|exact⟨by decide,by decide⟩|exact DE _|exact DH _,fun w hw=>by
  simp only[BM,List.mem_cons,List.not_mem_nil,or_false] at hw
  rcases hw with rfl|rfl|rfl|rfl|rfl|rfl<;>first|exact Nat.zero_le _|exact Dp hl _⟩
 refine⟨_,fun W hv ht hw=>BV s hs W hv ht hw (stI ws.length ([true,true,true,true]:List Bool).length) (stB ws [true,true,true,true]) (Gx ws) (F3 (Gx ws) (A9 (At [] [116,105,108,101]) [(Gx ws).tw,(Gx ws).tl,(Gx ws).tp,(Gx ws).tt]) (AK 0 [(Gx ws).tw,(Gx ws).tl,(Gx ws).tp,(Gx ws).tt]) 0) (fun b g Wb W1 hb hO hv ht hw=> ?_) (fun _ q cap W1 hA hv ht hw=>Cf (Gx ws) q none cap 0 (A9 (At [] [116,105,108,101]) [(Gx ws).tw,(Gx ws).tl,(Gx ws).tp,(Gx ws).tt]) (AK 0 [(Gx ws).tw,(Gx ws).tl,(Gx ws).tp,(Gx ws).tt]) 0 (show(1:Int)<=9 by decide) (show(9:Int)<=12 by decide) (Q0 _ q cap I) (Nat.zero_le _) (hi.s _ (by simp[BM])) (CS (by decide) _) W1 hA (.inl I) hw fun _ b W2 hb hO=>N1 b _ q cap I hi W1 W2 hb hO ht)⟩
 subst hws
 exact EZ (Qi b g _ h1 hl Wb W1 hb hO hv hk) I
abbrev DY (ws:List (List UInt8)):EdS:= { k:=10,ix:=iw ws 0,ld:=⟨iw ws 1,iw ws 2,wd ws 3⟩ }
theorem Yx (s:List UInt8) (hs:s.length<=65536) (ws:List (List UInt8)) (hws:ws=AI 32 s) (hk:kdW ws=10): ∃r,CpE s r:=by
 have h1:1<=ws.length:=by rw[hws];exact Co 32 s
 have hl: ∀w∈ws,w.length<=1000000:=fun w hw=>Nat.le_trans (B0 (l:=s) (Nat.le_refl _) w (hws▸hw)) (by omega)
 have hi:EdI (DY ws):=⟨fun n hn=>by
  simp only[Ch,List.mem_cons,List.not_mem_nil,or_false] at hn
  rcases hn with rfl|rfl|rfl|rfl|rfl|rfl|rfl|rfl|rfl|rfl|rfl|rfl|rfl|rfl|rfl|rfl|rfl|rfl|rfl|rfl|rfl|rfl|rfl|rfl|rfl|rfl|rfl|rfl<;>first|exact Ee _ _|exact⟨by decide,by decide⟩|exact DE _|exact DH _,fun w hw=>by
  simp only[BM,List.mem_cons,List.not_mem_nil,or_false] at hw
  rcases hw with rfl|rfl|rfl|rfl|rfl|rfl<;>first|exact Nat.zero_le _|exact Dp hl _⟩
 refine⟨_,fun W hv ht hw=>BV s hs W hv ht hw (stI ws.length ([false,true,true,true]:List Bool).length) (stB ws [false,true,true,true]) (DY ws) (F3 (DY ws) (Ea (A9 (At [] [108,111,97,100]) [(DY ws).ix,(DY ws).ld.k,(DY ws).ld.s]) [(DY ws).ld.w]) (AK 0 [(DY ws).ix,(DY ws).ld.k,(DY ws).ld.s]) (FT 0 [(DY ws).ld.w])) (fun b g Wb W1 hb hO hv ht hw=> ?_) (fun _ q cap W1 hA hv ht hw=>Cf (DY ws) q none cap 0 (Ea (A9 (At [] [108,111,97,100]) [(DY ws).ix,(DY ws).ld.k,(DY ws).ld.s]) [(DY ws).ld.w]) (AK 0 [(DY ws).ix,(DY ws).ld.k,(DY ws).ld.s]) (FT 0 [(DY ws).ld.w]) (show(1:Int)<=10 by decide) (show(10:Int)<=12 by decide) (OG _ q cap I) (Nat.zero_le _) (hi.s _ (by simp[BM])) (Un (CS (by decide) _) _) W1 hA (.inl I) hw fun _ b W2 hb hO=>Mw b _ q cap I hi W1 W2 hb hO hv.max ht)⟩
 subst hws
 exact EZ (Na b g _ h1 hl Wb W1 hb hO hv hk) I
abbrev Da (ws:List (List UInt8)):EdS:= { k:=11,al:=⟨iw ws 0,iw ws 1,iw ws 2,iw ws 3,iw ws 4⟩ }
theorem XU (s:List UInt8) (hs:s.length<=65536) (ws:List (List UInt8)) (hws:ws=AI 32 s) (hk:kdW ws=11): ∃r,CpE s r:=by
 have h1:1<=ws.length:=by rw[hws];exact Co 32 s
 have hl: ∀w∈ws,w.length<=1000000:=fun w hw=>Nat.le_trans (B0 (l:=s) (Nat.le_refl _) w (hws▸hw)) (by omega)
 have hi:EdI (Da ws):=⟨fun n hn=>by
  simp only[Ch,List.mem_cons,List.not_mem_nil,or_false] at hn
  rcases hn with rfl|rfl|rfl|rfl|rfl|rfl|rfl|rfl|rfl|rfl|rfl|rfl|rfl|rfl|rfl|rfl|rfl|rfl|rfl|rfl|rfl|rfl|rfl|rfl|rfl|rfl|rfl|rfl<;>first|exact Ee _ _|exact⟨by decide,by decide⟩|exact DE _|exact DH _,fun w hw=>by
  simp only[BM,List.mem_cons,List.not_mem_nil,or_false] at hw
  rcases hw with rfl|rfl|rfl|rfl|rfl|rfl<;>first|exact Nat.zero_le _|exact Dp hl _⟩
 refine⟨_,fun W hv ht hw=>BV s hs W hv ht hw (stI ws.length ([true,true,true,true,true]:List Bool).length) (stB ws [true,true,true,true,true]) (Da ws) (F3 (Da ws) (A9 (At [] [115,112,97,110]) [(Da ws).al.w,(Da ws).al.d,(Da ws).al.s,(Da ws).al.l,(Da ws).al.n]) (AK 0 [(Da ws).al.w,(Da ws).al.d,(Da ws).al.s,(Da ws).al.l,(Da ws).al.n]) 0) (fun b g Wb W1 hb hO hv ht hw=> ?_) (fun _ q cap W1 hA hv ht hw=>Cf (Da ws) q none cap 0 (A9 (At [] [115,112,97,110]) [(Da ws).al.w,(Da ws).al.d,(Da ws).al.s,(Da ws).al.l,(Da ws).al.n]) (AK 0 [(Da ws).al.w,(Da ws).al.d,(Da ws).al.s,(Da ws).al.l,(Da ws).al.n]) 0 (show(1:Int)<=11 by decide) (show(11:Int)<=12 by decide) (O3 _ q cap I) (Nat.zero_le _) (hi.s _ (by simp[BM])) (CS (by decide) _) W1 hA (.inl I) hw fun _ b W2 hb hO=>Me b _ q cap I hi W1 W2 hb hO ht)⟩
 subst hws
 exact EZ (MR b g _ h1 hl Wb W1 hb hO hv hk) I
abbrev Iv (ws:List (List UInt8)):EdS:= { k:=12,nb:=Fe (wd ws 0),ix:=iw ws 1 }
theorem Yg (s:List UInt8) (hs:s.length<=65536) (ws:List (List UInt8)) (hws:ws=AI 32 s) (hk:kdW ws=12): ∃r,CpE s r:=by
 have h1:1<=ws.length:=by rw[hws];exact Co 32 s
 have hl: ∀w∈ws,w.length<=1000000:=fun w hw=>Nat.le_trans (B0 (l:=s) (Nat.le_refl _) w (hws▸hw)) (by omega)
 have hi:EdI (Iv ws):=⟨fun n hn=>by
  simp only[Ch,List.mem_cons,List.not_mem_nil,or_false] at hn
  rcases hn with rfl|rfl|rfl|rfl|rfl|rfl|rfl|rfl|rfl|rfl|rfl|rfl|rfl|rfl|rfl|rfl|rfl|rfl|rfl|rfl|rfl|rfl|rfl|rfl|rfl|rfl|rfl|rfl<;>first|exact Ee _ _|exact⟨by decide,by decide⟩|exact DE _|exact DH _,fun w hw=>by
  simp only[BM,List.mem_cons,List.not_mem_nil,or_false] at hw
  rcases hw with rfl|rfl|rfl|rfl|rfl|rfl<;>first|exact Nat.zero_le _|exact Dp hl _⟩
 refine⟨_,fun W hv ht hw=>BV s hs W hv ht hw (stI ws.length ([true,false]:List Bool).length) (stB ws [true,false]) (Iv ws) (F3 (Iv ws) (A9 (At (At [] [114,101,109,111,118,101]) ((Cr CI (Iv ws).nb).getD [])) [(Iv ws).ix]) (AK 0 [(Iv ws).ix]) 0) (fun b g Wb W1 hb hO hv ht hw=> ?_) (fun _ q cap W1 hA hv ht hw=>Cf (Iv ws) q none cap 0 (A9 (At (At [] [114,101,109,111,118,101]) ((Cr CI (Iv ws).nb).getD [])) [(Iv ws).ix]) (AK 0 [(Iv ws).ix]) 0 (show(1:Int)<=12 by decide) (show(12:Int)<=12 by decide) (Qa _ q cap I) (Nat.zero_le _) (hi.s _ (by simp[BM])) (CS (IZ _ (by decide)) _) W1 hA (.inl I) hw fun _ b W2 hb hO=>LW b _ q cap I hi W1 W2 hb hO ht)⟩
 subst hws
 exact EZ (MT b g _ h1 hl Wb W1 hb hO hv hk) I
theorem Ko (s:List UInt8) (hs:s.length<=65536): ∃r,CpE s r:=by
 have h:=Z5 (AI 32 s)
 simp only[List.mem_cons,List.not_mem_nil,or_false] at h
 rcases h with h|h|h|h|h|h|h|h|h|h|h|h|h
 ·exact ZM s hs _ I h
 ·exact Zk s hs _ I h
 ·exact ZX s hs _ I h
 ·exact aG s hs _ I h
 ·exact ZN s hs _ I h
 ·exact Zw s hs _ I h
 ·exact ZO s hs _ I h
 ·exact Zb s hs _ I h
 ·exact Zf s hs _ I h
 ·exact Z6 s hs _ I h
 ·exact Yx s hs _ I h
 ·exact XU s hs _ I h
 ·exact Yg s hs _ I h
noncomputable def cparE (s:List UInt8):Int:=if h:s.length<=65536 then(Ko s h).choose else 4
theorem RB (s:List UInt8) (hs:s.length<=65536) (W:World) (hv:AQ W) (ht:AZ W) (hw:Bo W):
  Ag Tryz.prog 34 #[str s] W (fun x:Value=> .tuple #[x, .int .i64 (cparE s)]) (YL 37) (fun _=>[]):=by
 have e:cparE s=(Ko s hs).choose:=by unfold cparE;rw[dif_pos hs]
 rw[e]
 exact(Ko s hs).choose_spec W hv ht hw
theorem Sh (s:List UInt8) (hs:s.length<=65536) (W:World) (hv:AQ W) (ht:AZ W) (hw:Bo W):
  Ag Tryz.prog 30 #[str s] W (fun _:Unit=> .int .i64 (parJ s)) (fun _=>True) (fun _=>[]):=by
 refine Ab Tryz.func30 I I I<|xb<|wP I<|xg<|wP I<|wD (X:=Value) I I (fun W1 hp=>Pe s (by omega) W1 (hv.hp hp) (ht.hp hp) (hw.hp hp)) ?_
 rintro _ ⟨c,rfl,hc,ho⟩
 refine Ae I<|wG I I fun _=>?_
 refine BT 0 _ tH I I I I I I I I (by show Nat.beq c.length 15=true;rw[hc];rfl) ho (Nat.le_refl _) I ?_
 exact wP I<|xg<|Aa I<|xc<|wR1 I I I
theorem RM (s:List UInt8) (hs:s.length<=65536) (W:World) (hv:AQ W) (ht:AZ W) (hw:Bo W):
  Ag Tryz.prog 33 #[str s] W (fun _:Unit=> .int .i64 (cparE s)) (fun _=>True) (fun _=>[]):=by
 refine Ab Tryz.func33 I I I<|xb<|wP I<|xg<|wP I<|wD (X:=Value) I I (fun W1 hp=>RB s hs W1 (hv.hp hp) (ht.hp hp) (hw.hp hp)) ?_
 rintro _ ⟨c,rfl,hc,ho⟩
 refine Ae I<|wG I I fun _=>?_
 refine BT 0 _ tH I I I I I I I I (by show Nat.beq c.length 37=true;rw[hc];rfl) ho (Nat.le_refl _) I ?_
 exact wP I<|xg<|Aa I<|xc<|wR1 I I I
section
variable {r:Option Nat} {n:Nat} {P:Program} {W0:World} {N:Nat} {D:List Deferred} {ops:List Oper} {Q:Exit->Act->World->Prop} {o:Oper} {rest:List Oper} {env:Env} {bxs:List Bx} {A:World->Prop}
theorem T7 {d k:Nat} {t e:TypeId} {m:Nat} {parts:Array (Nat×Operand)} {vs:List (Nat×Value)} (z:Value) {c:List Value} (ht:P.underlying t=some (.array m e)) (hz: ∀W,(zeroValue t).run P W= .ok z W) (hs: ∀W,(Go.sizeOf e).run P W= .ok k W)
  (hg:Aj ops N env o=some true) (hd:o.dst=some d) (ho:o.op= .build t parts) (hp:Ec (evO N env) parts.toList=some vs) (hc:Gg (Kg k) z.cells.toList vs=some c)
  (h:WL r n P N D ops Q rest ((d, .agg c.toArray)::env) A):WL r n P N D ops Q (o::rest) env A:=
 Bf hg hd (fun c e=>by rw[ho] at e;cases e) (fun ρ W hρ _=>by
  have hparts:(parts.map fun(i,x)=>(i,ρ x)).toList=vs:=by rw[<-EM hρ hp];simp
  have hfill:=Lf hc
  simp only[Array.toArray_toList] at hfill
  have hfill':Instr.fill (fun i=>some (i*k,k)) z.cells (parts.map fun(i,x)=>(i,ρ x)).toList=some c.toArray:=by rw[hparts];exact hfill
  simp only[execOp,ho,Instr.build,Sem.run_bind,hz,Result.andThen_ok,run_underlying ht,hs,Sem.run_pure]
  rw[hfill']
  simp) h
theorem W8 {d c:Nat} {t e:TypeId} {x y:Operand} {m:Nat} {cs:Array Value} {k:IntKind} {i:Int} {v:Value} (ht:P.underlying t=some (.array m e)) (hz: ∀W,(Go.sizeOf e).run P W= .ok c W)
  (hg:Aj ops N env o=some true) (hd:o.dst=some d) (ho:o.op= .index t x y) (hx:evO N env x=some (.agg cs)) (hy:evO N env y=some (.int k i)) (h0:0<=i/\i<m) (hv: ∀W,(part e cs (i.toNat*c)).run P W= .ok v W)
  (h:WL r n P N D ops Q rest ((d,v)::env) A):WL r n P N D ops Q (o::rest) env A:=
 Bf hg hd (fun c e=>by rw[ho] at e;cases e) (fun _ W hρ _=>by
  simp[execOp,ho,hρ _ _ hx,hρ _ _ hy,Instr.index,asIntOf,run_underlying ht,h0,hz,hv]) h
end
theorem Bo.below {W0 W:World} (h:Bo W0) (hb:Below W0.heap.size W0 W):Bo W:=Al.below h (Nat.le_refl _) hb
abbrev fnV (g:Nat):Value:= .func (.func g) #[] #[]
def aW:List Value:=[.nilFunc, .nilFunc,fnV 30,fnV 32,fnV 33,fnV 35,fnV 36,fnV 38,fnV 39,fnV 40,fnV 41,fnV 43,fnV 44,fnV 45]
abbrev aL (k:Int) (a b:Nat):Prop:= ∀W,(part 55 aW.toArray (k.toNat*2)).run Tryz.prog W= .ok (.agg #[fnV a,fnV b]) W
theorem RT (k:Int) (h1:1<=k) (h2:k<=6) (a b:Nat) (hr:aL k a b) (W:World):
  Ag Tryz.prog 21 #[.int .i64 k] W (fun _:Unit=> .agg #[fnV a,fnV b]) (fun _=>True) (fun _=>[]):=by
 refine Ab Tryz.func21 I I I<|xb<|AY (z:= .agg #[.nilFunc, .nilFunc]) I I I (fun W=>by kernel_rfl) fun b2=> ?_
 refine xg<|?_
 iterate 6 refine EJ (.agg #[.nilFunc, .nilFunc]) tH I I I I I (fun W=>by kernel_rfl) I I ?_
 refine T7 (k:=2) (.agg (List.replicate 14 Value.nilFunc).toArray) (c:=aW) Tryz.underlying100 (fun W=>by kernel_rfl) (fun W=>by kernel_rfl) I I I I I ?_
 refine wP I ?_
 refine W8 (c:=2) Tryz.underlying100 (fun W=>by kernel_rfl) I I I I I ⟨by omega,by show k<7;omega⟩ hr ?_
 exact wS 0 I I I<|xc<|Ar tH I (.cell 0 I I I I I) () I tO fun W _=>As.nil _ _
theorem Ex (x:EnS) (h1:1<=x.k) (h2:x.k<=6) (hs:x.t.length<=65536) (a b:Nat) (c:Int) (hr:aL x.k a b) (hE:Bm Tryz.prog a=true) (W:World) (hC: ∀W1,Below W.heap.size W W1->Ag Tryz.prog a #[str x.t] W1 (fun _:Unit=> .int .i64 c) (fun _=>True) (fun _=>[])):
  Ag Tryz.prog 10 #[.agg #[.int .i64 x.k,str x.t]] W (fun _:Unit=> .int .i64 c) (fun _=>True) (fun _=>[]):=by
 refine Ab Tryz.func10 I I I<|xb<|wF I I fun _=>wP I<|xa<|zA<|zH<|xb<|wP I<|wB 0 I I I<|wC I I (fun W1 _=>FM x.k W1)<|wU 6 true I (dT ⟨h1,h2⟩)<|Aa I<|xa<|zS I<|xb<|wP I<|wB 0 I I I<|?_
 refine wP I<|Ao 11 (.int .i64 (x.t.length:Nat)) I (congrArg (fun n:Nat=>Value.int .i64 (n:Int)) (A5 _))<|wP I<|wU 12 false I (dF (show¬((x.t.length:Nat):Int)>65536 by omega))<|wP I<|xa<|zS I<|zI<|zN<|zE<|zA<|zU<|qP I<|qB 0 I I I<|qC I I (fun W1 _=>RT x.k h1 h2 a b hr W1)<|AO I<|qB 0 I I I<|L9 (capt:=[]) I I I I I I hE (fun W1 hp=>hC W1 hp.below)<|qP I<|zD<|xa<|?_
 exact zO<|wR1 I I I
noncomputable def chkE (x:EnS):Int:=if ¬(1<=x.k/\x.k<=6) then 8 else if 65536<x.t.length then 4 else
 if x.k=1 then parJ x.t else if x.k=2 then cparE x.t else if x.k=3 then HT 4096 x.t else if x.k=4 then(if Er x.t then 0 else 13) else if x.k=5 then barsJ x.t else HT 512 x.t
def KO (x:EnS):Prop:=x.t.length<=2000\/65536<x.t.length
theorem Iw (x:EnS) (hl:x.t.length<=1000000000) (W:World) (hv:AQ W) (ht:AZ W) (hw:Bo W):
  Ag Tryz.prog 10 #[.agg #[.int .i64 x.k,str x.t]] W (fun _:Unit=> .int .i64 (chkE x)) (fun _=>True) (fun _=>[]):=by
 have hE:chkE x=if ¬(1<=x.k/\x.k<=6) then 8 else if 65536<x.t.length then 4 else
  if x.k=1 then parJ x.t else if x.k=2 then cparE x.t else if x.k=3 then HT 4096 x.t else if x.k=4 then(if Er x.t then 0 else 13) else if x.k=5 then barsJ x.t else HT 512 x.t:=rfl
 by_cases c1:1<=x.k/\x.k<=6
 rotate_left
 ·rw[if_pos c1] at hE
  refine Ab Tryz.func10 I I I<|xb<|wF I I fun _=>wP I<|xa<|zA<|zH<|xb<|wP I<|wB 0 I I I<|wC I I (fun W1 _=>FM x.k W1)<|wU 6 false I (dF c1)<|Aa I<|xa<|zR I<|xb<|wP I<|zC<|?_
  exact zE<|zO<|zQ<|zP<|wR1 I I (by rw[hE])
 rw[if_neg (fun h=>h c1)] at hE
 by_cases c2:65536<x.t.length
 ·rw[if_pos c2] at hE
  refine Ab Tryz.func10 I I I<|xb<|wF I I fun _=>wP I<|xa<|zA<|zH<|xb<|wP I<|wB 0 I I I<|wC I I (fun W1 _=>FM x.k W1)<|wU 6 true I (dT c1)<|Aa I<|xa<|zS I<|xb<|wP I<|wB 0 I I I<|?_
  exact wP I<|Ao 11 (.int .i64 (x.t.length:Nat)) I (congrArg (fun n:Nat=>Value.int .i64 (n:Int)) (A5 _))<|wP I<|wU 12 true I (dT (show((x.t.length:Nat):Int)>65536 by omega))<|wP I<|xa<|zR I<|xb<|wP I<|xc<|zQ<|zP<|wR1 I I (by rw[hE])
 rw[if_neg c2] at hE
 have hs:x.t.length<=65536:=by omega
 have hk:x.k=1\/x.k=2\/x.k=3\/x.k=4\/x.k=5\/x.k=6:=by omega
 obtain⟨k,t⟩:=x
 rw[hE]
 have hs:t.length<=65536:=hs
 rcases hk with hk|hk|hk|hk|hk|hk<;>(have hk:k=_:=hk;subst hk)
 ·exact Ex ⟨1,t⟩ (show(1:Int)<=1 by decide) (show(1:Int)<=6 by decide) (show t.length<=65536 by omega) 30 32 _ (fun W=>by kernel_rfl) (by kernel_rfl) W fun W1 hb=>Sh t hs W1 (hv.below hb) (ht.below hb) (hw.below hb)
 ·exact Ex ⟨2,t⟩ (show(1:Int)<=2 by decide) (show(2:Int)<=6 by decide) (show t.length<=65536 by omega) 33 35 _ (fun W=>by kernel_rfl) (by kernel_rfl) W fun W1 hb=>RM t (by omega) W1 (hv.below hb) (ht.below hb) (hw.below hb)
 ·exact Ex ⟨3,t⟩ (show(1:Int)<=3 by decide) (show(3:Int)<=6 by decide) (show t.length<=65536 by omega) 36 38 _ (fun W=>by kernel_rfl) (by kernel_rfl) W fun W1 hb=>Qw t (by omega) W1 (hv.below hb)
 ·exact Ex ⟨4,t⟩ (show(1:Int)<=4 by decide) (show(4:Int)<=6 by decide) (show t.length<=65536 by omega) 39 40 _ (fun W=>by kernel_rfl) (by kernel_rfl) W fun W1 hb=>RZ t (by omega) W1
 ·exact Ex ⟨5,t⟩ (show(1:Int)<=5 by decide) (show(5:Int)<=6 by decide) (show t.length<=65536 by omega) 41 43 _ (fun W=>by kernel_rfl) (by kernel_rfl) W fun W1 hb=>R4 t (by omega) W1 (hv.below hb) (ht.below hb)
 ·exact Ex ⟨6,t⟩ (show(1:Int)<=6 by decide) (show(6:Int)<=6 by decide) (show t.length<=65536 by omega) 44 45 _ (fun W=>by kernel_rfl) (by kernel_rfl) W fun W1 hb=>RN t (by omega) W1 (hv.below hb)
def HG (i:Nat) (b:UInt8):Bool:=if i=1 then decide (1<=(b.toNat:Int)-48/\(b.toNat:Int)-48<=6) else decide (b=58)
def Cb (rest:List UInt8):Nat->Nat->Int
 |0,_=>0
 |f+1,i=>if rest.length=i then 1 else if HG i (rest.getD i 0)=true then Cb rest f (i+1) else 2
def noE:EnS:=⟨0,[]⟩
def dgJ (s:List UInt8):Nat:=s.length-(trimLeftS s AJ).length
def Ff (s:List UInt8):Prop:=dgJ s=0\/5<dgJ s\/1<dgJ s/\s[0]? =some 48
instance (s:List UInt8):Decidable (Ff s):=by unfold Ff;infer_instance
def I7 (d n:Nat) (rest:List UInt8):EnS×Nat×Int:=
 if Cb rest 3 0≠0 then(noE,0,Cb rest 3 0) else if (rest.drop 3).length<=n then(noE,0,1) else if (rest.drop 3)[n]? ≠some 10 then(noE,0,2) else
 (⟨((rest.getD 1 0).toNat:Int)-48,(rest.drop 3).take n⟩,d+4+n,0)
def BY (s:List UInt8):EnS×Nat×Int:=
 if Ff s then(noE,0,2) else if 65536<atV (s.take (dgJ s)) then(noE,0,2) else I7 (dgJ s) (atV (s.take (dgJ s))).toNat (s.drop (dgJ s))
theorem P1 {b:UInt8} (h:AJ.contains b=true):48<=b.toNat/\b.toNat<=57:=by
 have h:b∈AJ:=by simpa using h
 exact(show∀b∈AJ,48<=b.toNat/\b.toNat<=57 by decide) b h
theorem SA (p:UInt8->Bool): ∀s:List UInt8,(s.takeWhile p).length+(s.dropWhile p).length=s.length
 |[]=>rfl
 |a::l=>by
  have:=SA p l
  cases h:p a
  ·rw[List.takeWhile_cons_of_neg (by simp[h]),List.dropWhile_cons_of_neg (by simp[h])];simp
  ·rw[List.takeWhile_cons_of_pos h,List.dropWhile_cons_of_pos h,List.length_cons,List.length_cons];omega
theorem Up (p:UInt8->Bool): ∀s:List UInt8,s.take (s.takeWhile p).length=s.takeWhile p/\s.drop (s.takeWhile p).length=s.dropWhile p
 |[]=>⟨rfl,rfl⟩
 |a::l=>by
  have:=Up p l
  cases h:p a
  ·rw[List.takeWhile_cons_of_neg (by simp[h]),List.dropWhile_cons_of_neg (by simp[h])];exact⟨rfl,rfl⟩
  ·rw[List.takeWhile_cons_of_pos h,List.dropWhile_cons_of_pos h,List.length_cons,List.take_succ_cons,List.drop_succ_cons,this.1,this.2];exact⟨rfl,rfl⟩
theorem Qc (s:List UInt8):dgJ s=(s.takeWhile (AJ.contains ·)).length:=by
 have:=SA (AJ.contains ·) s
 unfold dgJ trimLeftS
 omega
theorem Tk (s:List UInt8):dgJ s<=s.length:=Nat.sub_le _ _
theorem W6 {s:List UInt8}: ∀b∈s.take (dgJ s),48<=b.toNat/\b.toNat<=57:=fun b hb=>by
 rw[Qc,(Up _ s).1] at hb
 exact P1 (List.all_eq_true.1 (List.all_takeWhile) b hb)
theorem IB: ∀(l:List UInt8) (acc:Nat),(∀b∈l,48<=b.toNat/\b.toNat<=57)->(acc+1)*10^l.length<=10^17-> ∃u,parseUint10 acc l= .ok u/\u<(acc+1)*10^l.length
 |[],acc,_,_=>⟨acc,rfl,by simp⟩
 |c::r,acc,hd,hb=>by
  have hc:=hd c (List.mem_cons_self ..)
  have h10:0<10^r.length:=Nat.pow_pos (by decide)
  have e:(acc+1)*10^(c::r).length=((acc+1)*10)*10^r.length:=by rw[List.length_cons,Nat.pow_succ,Nat.mul_comm (10^r.length) 10,Nat.mul_assoc]
  rw[e] at hb⊢
  have hle:(acc+1)*10<=10^17:=Nat.le_trans (Nat.le_mul_of_pos_right _ h10) hb
  have hle:(acc+1)*10<=100000000000000000:=hle
  have hm:(acc*10+(c.toNat-48)+1)*10^r.length<=((acc+1)*10)*10^r.length:=Nat.mul_le_mul_right _ (by omega)
  obtain⟨u,h1,h2⟩:=IB r (acc*10+(c.toNat-48)) (fun b hb=>hd b (List.mem_cons_of_mem _ hb)) (Nat.le_trans hm hb)
  refine⟨u, ?_,Nat.lt_of_lt_of_le h2 hm⟩
  unfold parseUint10
  rw[if_pos hc,if_neg (by omega),if_neg (by omega)]
  exact h1
theorem NZ {l:List UInt8} (h0:l≠[]) (hd: ∀b∈l,48<=b.toNat/\b.toNat<=57) (hl:l.length<=5): ∃u:Nat,atoiAll l= .ok (u:Int)/\u<100000:=by
 have hp:10^l.length<=10^5:=Nat.pow_le_pow_right (by decide) hl
 have hp:10^l.length<=100000:=hp
 obtain⟨u,h1,h2⟩:=IB l 0 hd (by show(0+1)*10^l.length<=100000000000000000;omega)
 refine⟨u, ?_,by omega⟩
 cases l with
 |nil=>exact absurd rfl h0
 |cons c r=>
  have hc:=hd c (List.mem_cons_self ..)
  have hm:parseMag (c::r)= .ok u:=by unfold parseMag;rw[if_neg (by simp)];exact h1
  rw[atoiAll_plain c r (by omega) (by omega),hm]
  show(if 9223372036854775808<=u then NumEnd.range else NumEnd.ok (u:Int))=_
  rw[if_neg (by omega)]
theorem UW {s:List UInt8} (h: ¬Ff s): ∃n:Nat,atoiAll (s.take (dgJ s))= .ok (n:Int)/\atV (s.take (dgJ s))=n/\n<100000:=by
 have h1:dgJ s≠0/\dgJ s<=5:=⟨fun e=>h (.inl e),Nat.le_of_not_lt fun e=>h (.inr (.inl e))⟩
 have hl:(s.take (dgJ s)).length=dgJ s:=by rw[List.length_take];exact Nat.min_eq_left (Tk s)
 obtain⟨u,h2,h3⟩:=NZ (l:=s.take (dgJ s)) (fun e=>by rw[e] at hl;exact h1.1 hl.symm) W6 (by omega)
 exact⟨u,h2,by unfold atV;rw[h2],h3⟩
theorem Rs (rest:List UInt8): ∀f i,Cb rest f i=0\/Cb rest f i=1\/Cb rest f i=2
 |0,_=> .inl rfl
 |f+1,i=>by
  show(if rest.length=i then(1:Int) else if HG i (rest.getD i 0)=true then Cb rest f (i+1) else 2)=0\/_\/_
  split
  ·exact .inr (.inl (if_pos (by assumption)))
  ·rename_i h
   rw[show Cb rest (f+1) i=if HG i (rest.getD i 0)=true then Cb rest f (i+1) else 2 from if_neg h]
   split
   ·exact Rs rest f (i+1)
   ·exact .inr (.inr I)
theorem Lm (s:List UInt8):((BY s).2.2=0/\5<=(BY s).2.1/\(BY s).2.1<=s.length/\(BY s).1.t.length<=65536)\/(BY s=(noE,0,1))\/(BY s=(noE,0,2)):=by
 unfold BY
 split
 ·exact .inr (.inr I)
 ·rename_i h1
  split
  ·exact .inr (.inr I)
  ·rename_i h2
   have hd0:dgJ s≠0:=fun e=>h1 (.inl e)
   have hle:=Tk s
   obtain⟨d,hd⟩: ∃d,d=dgJ s:=⟨_,rfl⟩
   obtain⟨n,hn⟩: ∃n,n=(atV (s.take (dgJ s))).toNat:=⟨_,rfl⟩
   have hn2:n<=65536:=by omega
   rw[<-hn]
   rw[<-hd] at hd0 hle⊢
   unfold I7
   split
   ·rename_i h3
    rcases Rs (s.drop d) 3 0 with e|e|e
    ·exact absurd e h3
    ·rw[e];exact .inr (.inl rfl)
    ·rw[e];exact .inr (.inr rfl)
   ·split
    ·exact .inr (.inl I)
    ·rename_i h4
     split
     ·exact .inr (.inr I)
     ·left
      have hl:((s.drop d).drop 3).length=s.length-d-3:=by rw[List.length_drop,List.length_drop]
      refine⟨I,by show 5<=d+4+n;omega,by show d+4+n<=s.length;omega, ?_⟩
      show(((s.drop d).drop 3).take n).length<=65536
      rw[List.length_take]
      omega
def Fk (s:List UInt8):Nat->Nat->List (Nat×EnS×Int)
 |0,_=>[]
 |f+1,n=>if n<s.length then(n+(BY (s.drop n)).2.1,(BY (s.drop n)).1,(BY (s.drop n)).2.2)::(if (BY (s.drop n)).2.2=0 then Fk s f (n+(BY (s.drop n)).2.1) else[]) else[]
def yld (s:List UInt8):List (Nat×EnS×Int):=Fk s s.length 0
theorem Rk {s:List UInt8} {f n:Nat} (h:s.length<=n):Fk s f n=[]:=by
 cases f with
 |zero=>rfl
 |succ f=>exact if_neg (by omega)
theorem Gp {s:List UInt8} {f n:Nat} (h:n<s.length) (hf:s.length<=n+f): ∃g,f=g+1/\Fk s f n=(n+(BY (s.drop n)).2.1,(BY (s.drop n)).1,(BY (s.drop n)).2.2)::(if (BY (s.drop n)).2.2=0 then Fk s g (n+(BY (s.drop n)).2.1) else[]):=by
 cases f with
 |zero=>omega
 |succ g=>exact⟨g,rfl,if_pos h⟩
theorem Mk (x:EnS) (hl:x.t.length<=1000000) (h0:0<=x.k) (h1:x.k<=1000):(Bv x).length<=x.t.length+44:=by
 have l1:(itoa (x.t.length:Nat)).length<=20:=Lb _ (by omega) (by omega)
 have l2:(itoa x.k).length<=20:=Lb _ (by omega) (by omega)
 unfold Bv
 simp only[List.length_append,List.length_singleton]
 omega
theorem Rg {s:List UInt8}: ∀ {f n:Nat} {y:Nat×EnS×Int},y∈Fk s f n->(y.2.2=0\/y.2.2=1\/y.2.2=2)/\y.2.1.t.length<=65536
 |0,_,_,h=>by cases h
 |f+1,n,y,h=>by
  unfold Fk at h
  split at h
  ·rcases List.mem_cons.1 h with rfl|h
   ·rcases Lm (s.drop n) with⟨h1,_,_,h4⟩|e|e
    ·exact⟨.inl h1,h4⟩
    ·rw[e];exact⟨.inr (.inl rfl),Nat.zero_le _⟩
    ·rw[e];exact⟨.inr (.inr rfl),Nat.zero_le _⟩
   ·split at h
    ·exact Rg h
    ·cases h
  ·cases h
theorem Xs {s:List UInt8} {n:Nat} {e:EnS} {is:Int} (h:(n,e,is)∈yld s):e.t.length<=65536:=(Rg h).2
noncomputable def readL:List (Nat×EnS×Int)->List EnS->Nat->List EnS×Nat×Int
 |[],out,n=>(out,n,0)
 |y::r,out,n=>if y.2.2=1 then(out,n,0) else if y.2.2=2\/chkE y.2.1≠0 then([],0,29) else readL r (out++[y.2.1]) y.1
noncomputable def readJ (s:List UInt8):List EnS×Nat×Int:=if 1048576<s.length then([],0,4) else readL (yld s) [] 0
theorem Lj (l:List UInt8) (W:World):Ag Tryz.prog 48 #[str l,str AJ] W (fun _:Unit=>str (trimLeftS l AJ)) (fun _=>True) (fun _=>[]):=by
 refine Ag.of1 ((Any.strings_TrimLeft_laid Tryz.lays161 (by kernel_rfl) ⟨l.toArray⟩ ⟨AJ.toArray⟩ W (by decide) ?_).mono ?_)
 ·intro j b hb
  have hm:b∈AJ:=List.mem_of_getElem? hb
  have: ∀x∈AJ,x.toNat<128:=by decide
  exact this b hm
 ·rintro e w' ⟨rfl,hb⟩
  exact⟨I,hb⟩
section
variable {P:Program} {N:Nat} {D:List Deferred} {ops:List Oper} {o:Oper} {rest:List Oper} {env:Env} {A A2:World->Prop} {R:Act->World->Prop}
theorem Xd {T:Tbl} {i:TI} {d:Nat} {t:TypeId} {x y:Operand} {k:IntKind} {l:List UInt8} {z:Int} (j:Nat) {b:UInt8} (hT:Go.Am.okB P T=true) (hg:Aj ops N env o=some true) (hd:o.dst=some d) (ho:o.op= .index t x y) (ht:find T t=some i) (hk:i.kind=1)
  (hx:evO N env x=some (str l)) (hy:evO N env y=some (.int k z)) (hz:z=j) (hb:l[j]? =some b)
  (h:WQ P N D ops A2 R rest ((d, .int .u8 b.toNat)::env) A):WQ P N D ops A2 R (o::rest) env A:=
 CD hg hd (fun c e=>by rw[ho] at e;cases e) (fun ρ W hρ _=>by
  have hu:=E1 (B8 hT ht) hk
  subst hz
  have hb':(⟨l.toArray⟩:ByteArray)[j]? =some b:=by
   obtain⟨h1,h2⟩:=List.getElem?_eq_some_iff.1 hb
   have h3:j<(⟨l.toArray⟩:ByteArray).size:=by show j<l.toArray.size;rw[List.size_toArray];exact h1
   rw[getElem?_pos _ j h3]
   exact congrArg some h2
  simp[execOp,ho,Instr.index,hρ _ _ hx,hρ _ _ hy,asIntOf,run_underlying hu,hb']) h
theorem aZ {d:Nat} {t u:TypeId} {x:Operand} {k k' kt:IntKind} {z:Int} (ht:P.underlying t=some (.int kt)) (hu:P.underlying u=some (.int k)) (hg:Aj ops N env o=some true) (hd:o.dst=some d) (ho:o.op= .convert t u x) (hx:evO N env x=some (.int k' z))
  (h:WQ P N D ops A2 R rest ((d, .int k (k.wrap z))::env) A):WQ P N D ops A2 R (o::rest) env A:=
 CD hg hd (fun c e=>by rw[ho] at e;cases e) (fun ρ W hρ _=>by
  simp[execOp,ho,convert,hρ _ _ hx,run_underlying ht,run_underlying hu,Conv.intToInt]) h
end
section
variable {r:Option Nat} {n:Nat} {P:Program} {N:Nat} {D:List Deferred} {ops:List Oper} {Q:Exit->Act->World->Prop} {o:Oper} {rest:List Oper} {env:Env} {A:World->Prop}
theorem RD (l:Nat) {T:Tbl} {i:TI} {a:List UInt8} {d:Nat} {t:TypeId} {x y:Operand} {k:IntKind} {z:Int} (hT:Go.Am.okB P T=true) (hg:Aj ops N env o=some true) (hd:o.dst=some d) (ho:o.op= .slice t x none (some y) none) (ht:find T t=some i) (hk:i.kind=1)
  (hx:evO N env x=some (str a)) (hy:evO N env y=some (.int k z)) (hz:z=l) (h1:l<=a.length)
  (hn:WL r n P N D ops Q rest ((d,str (a.take l))::env) A):WL r n P N D ops Q (o::rest) env A:=
 Bf hg hd (fun c e=>by rw[ho] at e;cases e) (fun ρ W hρ _=>by
  have hu:=E1 (B8 hT ht) hk
  subst hz
  have hsz:(⟨a.toArray⟩:ByteArray).size=a.length:=by show a.toArray.size=_;simp
  have e:(⟨a.toArray⟩:ByteArray).extract 0 l=⟨(a.take l).toArray⟩:=by
   apply ByteArray.ext
   rw[ByteArray.data_extract]
   apply Array.toList_inj.1
   simp[List.extract_eq_take_drop]
  simp[execOp,ho,Instr.sliceAt,Instr.slice,Instr.sliceBounds,Instr.sliceBound,hρ _ _ hx,hρ _ _ hy,asIntOf,run_underlying hu,hsz,h1,e]) hn
end
def Nu (i:Nat):Nat:=[50,51,52].getD i 0
theorem VD (i:Nat) (hi:i<3) (b:UInt8) (W:World):Ag Tryz.prog (Nu i) #[.int .u8 b.toNat] W (fun _:Unit=> .bool (HG i b)) (fun _=>True) (fun _=>[]):=by
 rcases i with _|_|_|i
 ·exact Pb b W
 ·exact PA b W
 ·exact Qo b W
 ·omega
theorem Tn (i:Nat) (hi:i<3):Bm Tryz.prog (Nu i)=true:=by
 rcases i with _|_|_|i
 ·kernel_rfl
 ·kernel_rfl
 ·kernel_rfl
 ·omega
theorem cK {W:World} {g i:Nat} (h:Al W g 0 [fnV (Nu 0),fnV (Nu 1),fnV (Nu 2)]) (hi:i<3):Al W g (0+i*1) [fnV (Nu i)]:=by
 have h2:AB 1 (fun i=>[fnV (Nu i)]) W (some ⟨g,0,none⟩) [0,1,2]:=AB.of_row (junk:=[]) (fun _=>rfl) h
 have hl:i<[0,1,2].length:=hi
 obtain⟨b,off,e,hr⟩:=h2.row hl
 injection e with e
 injection e with e1 e2
 subst e1 e2
 have:=hr i hl
 rcases i with _|_|_|i
 ·exact this
 ·exact this
 ·exact this
 ·omega
theorem DW {rest:List UInt8} {f i:Nat} (h1:rest.length≠i) (h2:HG i (rest.getD i 0)=true):Cb rest (f+1) i=Cb rest f (i+1):=by
 show(if rest.length=i then 1 else _)=_
 rw[if_neg h1,if_pos h2]
theorem OP {rest:List UInt8} {f i:Nat} (h1:rest.length≠i) (h2: ¬HG i (rest.getD i 0)=true):Cb rest (f+1) i=2:=by
 show(if rest.length=i then 1 else _)=_
 rw[if_neg h1,if_neg h2]
theorem Sm {s:List UInt8} {c:Int} (h1: ¬Ff s) (h2: ¬65536<atV (s.take (dgJ s))) (h3:Cb (s.drop (dgJ s)) 3 0=c) (hc:c≠0):BY s=(noE,0,c):=by
 unfold BY
 rw[if_neg h1,if_neg h2]
 unfold I7
 rw[if_pos (by rw[h3];exact hc),h3]
abbrev fE (x:EnS×Nat×Int):Value:= .tuple #[.agg #[.int .i64 x.1.k,str x.1.t], .int .i64 (x.2.1:Nat), .int .i64 x.2.2]
theorem Sl (s:List UInt8) (hs:s.length<=1000000000) (W:World) (hv:AQ W):
  Ag Tryz.prog 29 #[str s] W (fun _:Unit=>fE (BY s)) (fun _=>True) (fun _=>[]):=by
 have hle:=Tk s
 have htl:(trimLeftS s AJ).length=s.length-dgJ s:=by unfold dgJ;have:=SA (AJ.contains ·) s;unfold trimLeftS;omega
 have hR:BY s=if Ff s then(noE,0,2) else if 65536<atV (s.take (dgJ s)) then(noE,0,2) else I7 (dgJ s) (atV (s.take (dgJ s))).toNat (s.drop (dgJ s)):=rfl
 obtain⟨d,hd⟩: ∃d,d=dgJ s:=⟨_,rfl⟩
 refine Ab Tryz.func29 I I I<|xb<|wG I I fun _=>Aa I<|zC<|?_
 rename_i b2
 refine xe<|Aa I<|Ao 14 (.int .i64 (s.length:Nat)) I (congrArg (fun n:Nat=>Value.int .i64 (n:Int)) (A5 s))<|wP I<|wC I I (fun W1 _=>Lj s W1)<|wP I<|Ao 17 (.int .i64 ((s.length-dgJ s:Nat):Int)) I (congrArg (fun n:Nat=>Value.int .i64 (n:Int)) ((A5 _).trans htl))<|wP I<|wV 18 (d:Nat) I ((AC (by omega) (by omega)).trans (by omega))<|wP I<|xa<|zA<|zA<|Bz (X:=Unit) (fun _=>[(0,str s),(5, .int .i64 (d:Nat)),(2,Af b2),(33, .bool (decide (Ff s)))]) (fun _=>[⟨b2,31,[.int .i64 0,str []],true,none⟩]) (fun _=>True) ?_ ?_
 ·refine zB<|Aa I<|?_
  by_cases c1:d=0
  ·refine wU 20 true I (beq_iff_eq.2 (show((d:Nat):Int)=0 by omega))<|wP I<|?_
   iterate 2 refine Ac I I ?_
   refine Aa I<|?_
   iterate 7 refine Ac I I ?_
   exact wP I<|zC<|Au () tO ⟨I,I,I,congrArg (fun c=>some (Value.bool c)) (dT (p:=Ff s) (.inl (hd▸c1))).symm,tO⟩ [] I
  refine wU 20 false I (beq_eq_false_iff_ne.2 (show((d:Nat):Int)≠0 by omega))<|Ae I<|?_
  by_cases c2:5<d
  ·refine wU 23 true I (dT (show((d:Nat):Int)>5 by omega))<|Aa I<|?_
   iterate 7 refine Ac I I ?_
   exact wP I<|zC<|Au () tO ⟨I,I,I,congrArg (fun c=>some (Value.bool c)) (dT (p:=Ff s) (.inr (.inl (hd▸c2)))).symm,tO⟩ [] I
  refine wU 23 false I (dF (show¬((d:Nat):Int)>5 by omega))<|A3 I<|?_
  by_cases c3:1<d
  rotate_left
  ·refine wU 27 false I (dF (show¬((d:Nat):Int)>1 by omega))<|wP I<|?_
   iterate 3 refine Ac I I ?_
   exact Aa I<|zC<|Au () tO ⟨I,I,I,congrArg (fun c=>some (Value.bool c)) (dF (p:=Ff s) fun h=>h.elim (fun h=>c1 (hd▸h)) fun h=>h.elim (fun h=>c2 (hd▸h)) fun h=>c3 (hd▸h.1)).symm,tO⟩ [] I
  refine wU 27 true I (dT (show((d:Nat):Int)>1 by omega)) ?_
  obtain⟨b,hb⟩: ∃b,s[0]? =some b:=⟨s[0],List.getElem?_eq_getElem (by omega)⟩
  refine Aa I<|CA 0 tH I I I I I I I I hb<|wP I<|?_
  by_cases c4:b=48
  ·exact wU 31 true I ((He b 48).trans (dT c4))<|Aa I<|zC<|Au () tO ⟨I,I,I,congrArg (fun c=>some (Value.bool c)) (dT (p:=Ff s) (.inr (.inr ⟨hd▸c3,by rw[hb,c4]⟩))).symm,tO⟩ [] I
  ·exact wU 31 false I ((He b 48).trans (dF c4))<|Aa I<|zC<|Au () tO ⟨I,I,I,congrArg (fun c=>some (Value.bool c)) (dF (p:=Ff s) fun h=>h.elim (fun h=>c1 (hd▸h)) fun h=>h.elim (fun h=>c2 (hd▸h)) fun h=>c4 (by have:=h.2;rw[hb] at this;injection this)).symm,tO⟩ [] I
 intro _ _
 refine Av I (fun hx=> ?_) (fun hx=> ?_)
 ·have hx:Ff s:=of_decide_eq_true hx
  rw[if_pos hx] at hR
  refine xb<|Ak Tryz.hZ tH I I I I I I I I ?_
  exact wS 0 I I I<|Aa I<|xc<|zP<|DF tH I (.cell 0 I I I I I) (.tmp I) (.tmp I) () (by rw[hR];rfl) tO fun W _=>As.nil _ _
 have hx: ¬Ff s:=of_decide_eq_false hx
 rw[if_neg hx] at hR
 obtain⟨n,hn1,hn2,hn3⟩:=UW hx
 rw[hn2] at hR
 refine zI<|xe<|Aa I<|RD d tH I I I I I I I I (by omega) ?_
 refine Ao 38 (str (s.take (dgJ s))) I (by rw[hd]) ?_
 refine wD (X:=Int×Value) I I (fun W1 hp=>EA W1 (s.take (dgJ s)) (by rw[List.length_take];have:dgJ s<=5:=Nat.le_of_not_lt fun e=>hx (.inr (.inl e));omega) (hv.hp hp)) ?_
 rintro⟨z,ev⟩ hz
 have hz:z=n/\ev= .nilIface:=by
  rcases hz with⟨m,hm,e⟩|⟨hno,_⟩
  ·rw[hn1] at hm
   injection hm with hm
   injection e with e1 e2
   exact⟨e1.trans hm.symm,e2⟩
  ·exact absurd hn1 (hno _)
 obtain⟨rfl,rfl⟩:=hz
 refine A8 I<|xa<|xd<|Aa I<|?_
 by_cases c5:65536<n
 ·rw[if_pos (show(65536:Int)<(n:Nat) by omega)] at hR
  refine wU 43 true I (dT (show((n:Nat):Int)>65536 by omega))<|xa<|zR I<|xb<|Ak Tryz.hZ tH I I I I I I I I ?_
  exact wS 0 I I I<|Aa I<|xc<|zP<|DF tH I (.cell 0 I I I I I) (.tmp I) (.tmp I) () (by rw[hR];rfl) tO fun W _=>As.nil _ _
 have c5': ¬(65536<atV (s.take (dgJ s))):=by rw[hn2];omega
 rw[if_neg (show¬(65536:Int)<(n:Nat) by omega),Int.toNat_natCast] at hR
 refine wU 43 false I (dF (show¬((n:Nat):Int)>65536 by omega))<|xa<|zS I<|zI<|xe<|Aa I<|Ja d tH I I I I I I I I (by omega) ?_
 obtain⟨rest,hrest⟩: ∃r,r=s.drop (dgJ s):=⟨_,rfl⟩
 have hrl:rest.length<=1000000000:=by rw[hrest,List.length_drop];omega
 refine Ao 47 (str rest) I (by rw[hrest,hd]) ?_
 rw[<-hrest] at hR
 refine wP I<|xa<|xd<|EQ .nilFunc tH I I I I I (fun W=>by kernel_rfl) I I I I I (fun g=> ?_)
 refine Aa I<|xa<|zH<|A6 (X:=Nat) (fun i=>[(0,str s),(5, .int .i64 (d:Nat)),(2,Af b2),(6, .int .i64 (n:Nat)),(8,str rest),(48,slv (some ⟨g,0,none⟩) 3 3),(49, .int .i64 3),(50, .int .i64 (i:Nat))]) (fun _=>[⟨b2,31,[.int .i64 0,str []],true,none⟩,⟨g,107,[fnV (Nu 0),fnV (Nu 1),fnV (Nu 2)],true,none⟩]) (fun i=>i<=3/\i<=rest.length/\Cb rest 3 0=Cb rest (3-i) i) (fun i=>3-i) 0 ⟨Nat.zero_le _,Nat.zero_le _,I⟩ ⟨I,I,I,I,I,I,I,I,tO⟩ [] I ?_
 rintro i ⟨hi3,hil,hsc⟩
 have hi3:i<=3:=hi3
 refine xb<|wP I<|?_
 by_cases hlt:i<3
 ·refine wU 51 true I (dT (show((i:Nat):Int)<3 by omega))<|xa<|zA<|zR I<|xh<|wP I<|wJ ?_
  refine wL 0 I I (fun W1 hp=>cK (i:=i) (Al.of_bx hp 1 I I) hlt) I<|Aa I<|xa<|xd<|Aa I<|Ao 56 (.int .i64 (rest.length:Nat)) I (congrArg (fun n:Nat=>Value.int .i64 (n:Int)) (A5 rest))<|Aa I<|?_
  have e3:3-i=(2-i)+1:=by omega
  by_cases c6:rest.length=i
  ·refine wU 58 true I (beq_iff_eq.2 (show((rest.length:Nat):Int)=(i:Nat) by omega))<|xa<|zR I<|xb<|Ak Tryz.hZ tH I I I I I I I I ?_
   refine wS 0 I I I<|Aa I<|xc<|zP<|xi<|?_
   have hF:BY s=(noE,0,1):=Sm hx c5' (by rw[<-hrest,hsc,e3];exact if_pos c6) (by decide)
   exact DF tH I (.cell 0 I I I I I) (.tmp I) (.tmp I) () (by rw[hF];rfl) tO fun W _=>As.nil _ _
  refine wU 58 false I (beq_eq_false_iff_ne.2 (show((rest.length:Nat):Int)≠(i:Nat) by omega))<|xa<|zS I<|zI<|zE<|?_
  have hbi:rest[i]? =some (rest.getD i 0):=by rw[List.getD_eq_getElem?_getD,List.getElem?_eq_getElem (by omega)];rfl
  refine xb<|Ae I<|CA i tH I I I I I I I I hbi<|BK (capt:=[]) I I I I I I (Tn i hlt) (fun W1 _=>VD i hlt (rest.getD i 0) W1)<|?_
  by_cases c7:HG i (rest.getD i 0)=true
  rotate_left
  ·refine wP I<|Ao 65 (.bool true) I (by show Value.bool (!HG i (rest.getD i 0))=_;rw[Bool.eq_false_iff.2 c7];rfl)<|xa<|zR I<|xb<|Ak Tryz.hZ tH I I I I I I I I ?_
   refine wS 0 I I I<|Aa I<|xc<|xi<|?_
   have hF:BY s=(noE,0,2):=Sm hx c5' (by rw[<-hrest,hsc,e3];exact OP c6 c7) (by decide)
   exact DF tH I (.cell 0 I I I I I) (.tmp I) (.tmp I) () (by rw[hF];rfl) tO fun W _=>As.nil _ _
  exact wP I<|Ao 65 (.bool false) I (by show Value.bool (!HG i (rest.getD i 0))=_;rw[c7];rfl)<|xa<|zS I<|zI<|xj<|wP I<|wV 67 ((i+1:Nat):Int) I (Az (by omega))<|wP I<|zC<|Ax (i+1) ⟨hlt,by show i+1<=rest.length;have hil:i<=rest.length:=hil;omega,by show _=Cb rest (3-(i+1)) (i+1);rw[hsc,e3,DW c6 c7,show 3-(i+1)=2-i by omega]⟩ (by show 3-(i+1)<3-i;omega) ⟨I,I,I,I,I,I,I,I,tO⟩ [] I
 have e3:i=3:=by omega
 subst e3
 refine Ao 51 (.bool false) I I<|zC<|?_
 have hil:3<=rest.length:=hil
 have hT:I7 (dgJ s) n rest=if (rest.drop 3).length<=n then(noE,0,1) else if (rest.drop 3)[n]? ≠some 10 then(noE,0,2) else(⟨((rest.getD 1 0).toNat:Int)-48,(rest.drop 3).take n⟩,dgJ s+4+n,0):=by
  unfold I7
  rw[if_neg (by rw[hsc];intro h;exact h rfl)]
 rw[hT] at hR
 have hk1:HG 1 (rest.getD 1 0)=true:=by
  have h3:Cb rest 3 0=0:=hsc
  refine Classical.byContradiction fun h=> ?_
  by_cases h0:HG 0 (rest.getD 0 0)=true
  ·rw[DW (by omega) h0,OP (by omega) h] at h3
   cases h3
  ·rw[OP (by omega) h0] at h3
   cases h3
 obtain⟨kb,hkb⟩: ∃b,b=rest.getD 1 0:=⟨_,rfl⟩
 rw[<-hkb] at hk1 hR
 have hk2:1<=(kb.toNat:Int)-48/\(kb.toNat:Int)-48<=6:=of_decide_eq_true hk1
 have hkr:rest[1]? =some kb:=by rw[hkb,List.getD_eq_getElem?_getD,List.getElem?_eq_getElem (by omega)];rfl
 obtain⟨tx,htx⟩: ∃t,t=rest.drop 3:=⟨_,rfl⟩
 have htl2:tx.length<=1000000000:=by rw[htx,List.length_drop];omega
 rw[<-htx] at hR
 refine zE<|zA<|zS I<|xf<|zE<|zA<|Bh (X:=Unit) [true,true,true,true,true,true,false,false] (fun _=>[(5, .int .i64 (d:Nat)),(2,Af b2),(6, .int .i64 (n:Nat)),(11, .int .i64 ((kb.toNat:Int)-48)),(12,str tx)]) (fun _=>[⟨b2,31,[.int .i64 0,str []],true,none⟩]) 2 [⟨b2,31,[.int .i64 0,str []],true,none⟩] Tryz.mixed (by kernel_rfl) ?_ ?_
 ·refine qP I<|Xd 1 tH I I I I I I I I hkr ?_
  refine qP I<|DO 70 (.int .u8 ((kb.toNat:Int)-48)) I (congrArg (Value.int .u8) (Vb (by omega) (by omega)))<|aZ Tryz.underlying5 Tryz.underlying3 I I I I ?_
  refine qV 71 ((kb.toNat:Int)-48) I (AC (by omega) (by omega))<|qP I<|Ld 3 tH I I I I I I I I hil ?_
  refine DO 73 (str tx) I (by rw[htx])<|Cp<|wX<|wZ<|wP I<|zC<|Aw<|wX<|wZ<|wP I<|zC<|Aw<|?_
  refine B6 I (by((repeat (first|refine B3.same ?_|refine B3.off I ?_));exact tO)) ?_
  exact AR () ⟨I,I,I,I,I,tO⟩ [0] (by decide) I
 intro _
 refine zE<|zA<|zH<|xb<|Aa I<|Ao 76 (.int .i64 (tx.length:Nat)) I (congrArg (fun n:Nat=>Value.int .i64 (n:Int)) (A5 tx))<|Aa I<|?_
 by_cases c8:tx.length<=n
 ·rw[if_pos c8] at hR
  refine wU 78 true I (dT (show((tx.length:Nat):Int)<=(n:Nat) by omega))<|wP I<|xa<|zR I<|xb<|Ak Tryz.hZ tH I I I I I I I I ?_
  exact wS 0 I I I<|Aa I<|xc<|zQ<|zP<|DF tH I (.cell 0 I I I I I) (.tmp I) (.tmp I) () (by rw[hR];rfl) tO fun W _=>As.nil _ _
 rw[if_neg c8] at hR
 refine wU 78 false I (dF (show¬((tx.length:Nat):Int)<=(n:Nat) by omega))<|wP I<|zC<|?_
 obtain⟨nb,hnb⟩: ∃b,tx[n]? =some b:=⟨_,List.getElem?_eq_getElem (by omega)⟩
 refine zE<|zS I<|xb<|Aa I<|CA n tH I I I I I I I I hnb<|wP I<|?_
 by_cases c9:nb=10
 rotate_left
 ·rw[if_pos (by rw[hnb];exact fun e=>c9 (by injection e))] at hR
  refine Ao 84 (.bool true) I (congrArg (fun c:Bool=>Value.bool (!c)) ((He nb 10).trans (dF c9)))<|wP I<|xa<|zR I<|xb<|Ak Tryz.hZ tH I I I I I I I I ?_
  exact wS 0 I I I<|Aa I<|xc<|zQ<|zP<|DF tH I (.cell 0 I I I I I) (.tmp I) (.tmp I) () (by rw[hR];rfl) tO fun W _=>As.nil _ _
 rw[if_neg (fun h=>h (by rw[hnb,c9]))] at hR
 refine Ao 84 (.bool false) I (congrArg (fun c:Bool=>Value.bool (!c)) ((He nb 10).trans (dT c9)))<|wP I<|xa<|zS I<|zI<|zN<|xe<|Ae I<|RD n tH I I I I I I I I (by omega) ?_
 refine Ak Tryz.hZ tH I I I I I I I I ?_
 exact Aa I<|wV 92 ((d+4:Nat):Int) I ((AC (by omega) (by omega)).trans (by omega))<|Aa I<|wV 94 ((d+4+n:Nat):Int) I ((AC (by omega) (by omega)).trans (by omega))<|wS 0 I I I<|Aa I<|xc<|DF tH I (.cell 0 I I I I I) (.tmp I) (.tmp I) () (by rw[hR,hd];rfl) tO fun W _=>As.nil _ _
theorem Nv (s:List UInt8) (W:World):Ag Tryz.prog 19 #[str s] W (fun b:Nat=> .func (.func 28) #[] #[.pointer (some ⟨b,0,none⟩)]) (fun _=>True) (fun b=>[⟨b,9,[str s],true,none⟩]):=by
 refine Ab Tryz.func19 I I I<|xb<|wF I I fun _=>wP I<|zC<|?_
 rename_i b1
 exact xe<|Aa I<|xc<|Ar tH I (.tmp I) b1 I tO fun W1 hp=>hp.own
def dQ (l:List (Nat×EnS×Int)) (k:Nat):List Value:=[.int .i64 ((l.getD k (0,noE,0)).1:Nat), .agg #[.int .i64 (l.getD k (0,noE,0)).2.1.k,str (l.getD k (0,noE,0)).2.1.t, .int .i64 (l.getD k (0,noE,0)).2.2]]
structure fB (b1:Nat) (s:List UInt8) (W:World):Prop where
 var:Al W b1 0 [str s]
 v:AQ W
def SE (b:Nat) (x:EnS):List (Nat×Obj):=[(b, .cells #[.int .i64 x.k,str x.t] 31 (0,0))]
theorem PD (b1:Nat) (s:List UInt8) (hs:s.length<=1000000000):
  aX Tryz.prog 28 [Af b1] (yld s).length (dQ (yld s)) (fun _=>fB b1 s):=by
 refine⟨fun y J Jx hN hB hA hU hY W hJ=> ?_⟩
 have hG: ∀k L,aO (J k L):=fun k L W W' h hb=>hB k L W W' h hb
 refine E2 (args:=[.func (.yield y) #[] #[],Af b1]) (J0:=J 0 []) Tryz.func28 I I I hJ ?_
 refine xb<|wP I<|xa<|zH<|?_
 refine En (X:=Nat×Nat×Nat×List (Nat×Obj)) (fun x=>[(0, .func (.yield y) #[] #[]),(1,Af b1),(3, .int .i64 (x.2.1:Nat))]) (fun x=>J x.1 x.2.2.2) (fun x=>(yld s).drop x.1=Fk s x.2.2.1 x.2.1/\s.length<=x.2.1+x.2.2.1/\x.2.1<=s.length/\x.1<=(yld s).length) (fun x=>s.length-x.2.1) (0,0,s.length,[]) ⟨I,by show s.length<=0+s.length;omega,Nat.zero_le _,Nat.zero_le _⟩ ⟨I,I,I,tO⟩ (fun W h=>h) ?_
 rintro⟨k,n,f,L⟩ ⟨hd,hf,hn,hkl⟩
 have hd:(yld s).drop k=Fk s f n:=hd
 have hf:s.length<=n+f:=hf
 have hn:n<=s.length:=hn
 have hkl:k<=(yld s).length:=hkl
 refine xd<|wP I<|wL 0 I I (fun W hp=>(hN _ _ W hp).1.var) I<|wP I<|Ao 9 (.int .i64 (s.length:Nat)) I (congrArg (fun n:Nat=>Value.int .i64 (n:Int)) (A5 s))<|wP I<|?_
 by_cases hlt:n<s.length
 rotate_left
 ·refine wU 10 false I (dF (show¬((n:Nat):Int)<(s.length:Nat) by omega))<|xa<|zS I<|xf<|?_
  have e:k=(yld s).length:=by
   rw[Rk (by omega)] at hd
   have:=congrArg List.length hd
   rw[List.length_drop] at this
   have:(yld s).length-k=0:=this
   omega
  exact Io I fun W hp=>⟨L,by
   have hp:J k L W:=hp
   rw[e] at hp
   exact hp⟩
 refine wU 10 true I (dT (show((n:Nat):Int)<(s.length:Nat) by omega))<|xa<|zR I<|zI<|zE<|zH<|xb<|?_
 obtain⟨g,hfg,hy⟩:=Gp hlt hf
 have hsp:=Lm (s.drop n)
 rw[List.length_drop] at hsp
 obtain⟨⟨e,m,is⟩,hx⟩: ∃x,x=BY (s.drop n):=⟨_,rfl⟩
 rw[<-hx] at hy hsp
 have hy:Fk s f n=(n+m,e,is)::(if is=0 then Fk s g (n+m) else[]):=hy
 have hmn:n+m<=s.length:=by
  rcases hsp with⟨_,_,h,_⟩|h|h
  ·have h:m<=s.length-n:=h;omega
  ·injection h with _ h;injection h with h _;omega
  ·injection h with _ h;injection h with h _;omega
 have hkm:k<(yld s).length:=by
  have:=congrArg List.length (hd.trans hy)
  rw[List.length_drop,List.length_cons] at this
  omega
 have hget:(yld s).getD k (0,noE,0)=(n+m,e,is):=by
  have h0:((yld s).drop k)[0]? =some (n+m,e,is):=by rw[hd,hy];rfl
  rw[List.getElem?_drop] at h0
  rw[List.getD_eq_getElem?_getD]
  rw[show k+0=k from rfl] at h0
  rw[h0];rfl
 have hdn:(yld s).drop (k+1)=(if is=0 then Fk s g (n+m) else[]):=by
  have:(yld s).drop (k+1)=((yld s).drop k).drop 1:=by rw[List.drop_drop]
  rw[this,hd,hy];rfl
 refine wL 0 I I (fun W hp=>(hN _ _ W hp).1.var) I<|wP I<|Ja n tH I I I I I I I I hn ?_
 refine Mi (hG k L) I I I I I I (by kernel_rfl) (fun W hp=>(Sl (s.drop n) (by rw[List.length_drop];omega) W (hN _ _ W hp).1.v).cast (by rw[<-hx])) ?_
 refine A3 I<|VT (fun b W=>J k [(b, .cells (Value.agg #[.int .i64 0,str []]).cells 31 (0,0))] W) I I I (Tryz.hZ.get I) (fun W W' b hp hb hl ho=>hA _ _ W W' b _ hp hb hl ho) fun b=> ?_
 refine Ke (cs:=[.int .i64 0,str []]) (ty:=31) (fun W=>J k (SE b e) W) tH I I I I I I (fun W hp=>(hN _ _ W hp).2 (b,_) (List.mem_cons_self ..)) I I I (fun W W' hp hu=>hU _ _ _ _ W W' hp hu) ?_
 refine Aa I<|xg<|Ae I<|wV 21 ((n+m:Nat):Int) I (show w64 (((n:Nat):Int)+((m:Nat):Int))=((n+m:Nat):Int) from(AC (by omega) (by omega)).trans (by omega))<|wP I<|xg<|Aa I<|wL 0 I I (fun W hp=>show Al W b 0 [.int .i64 e.k,str e.t] from Al.of_block ((hN _ _ W hp).2 (b,_) (List.mem_cons_self ..))) I<|wP I<|Ak Tryz.hZ tH I I I I I I I I ?_
 have hYk: ∀W,J k (SE b e) W->YieldAt (Fw none) 0 Tryz.prog y #[.int .i64 ((n+m:Nat):Int), .agg #[.int .i64 e.k,str e.t, .int .i64 is]] W fun e' W'=>(e'= .returned (.bool true)/\J (k+1) (SE b e) W')\/(e'= .returned (.bool false)/\Jx W'):=fun W h=>by
  have:=hY _ _ W hkm h
  unfold dQ at this
  rw[hget] at this
  exact this
 refine F6 (A1:=fun W=>J (k+1) (SE b e) W) (A2:=Jx) I I I I I I hYk ?_ ?_
 rotate_left
 ·refine Aa I<|?_
  iterate 2 refine Ac I I ?_
  exact wP I<|xa<|zR I<|zO<|zQ<|zP<|zQ<|CP I (fun W h=>h)
 refine A3 I<|?_
 by_cases c1:is=0
 ·refine wU 31 false I (by rw[c1];rfl)<|wP I<|xa<|zS I<|zI<|zN<|?_
  rw[if_pos c1] at hdn
  have hm5:5<=m:=by
   rcases hsp with⟨_,h,_,_⟩|h|h
   ·exact h
   ·injection h with _ h;injection h with _ h;rw[c1] at h;cases h
   ·injection h with _ h;injection h with _ h;rw[c1] at h;cases h
  exact D5 (k+1,n+m,g,SE b e) ⟨hdn,by show s.length<=n+m+g;omega,hmn,hkm⟩ (by show s.length-(n+m)<s.length-n;omega) ⟨I,I,I,tO⟩ (fun W hp=>hp)
 ·refine wU 31 true I (bne_iff_ne.2 c1)<|wP I<|xa<|zR I<|zO<|zQ<|zP<|zQ<|?_
  rw[if_neg c1] at hdn
  have ek:k+1=(yld s).length:=by
   have:=congrArg List.length hdn
   rw[List.length_drop] at this
   have:(yld s).length-(k+1)=0:=this
   omega
  exact Rh I fun W hp=>⟨SE b e,by
   have hp:J (k+1) (SE b e) W:=hp
   rw[ek] at hp
   exact hp⟩
structure RjX where
 out:List EnS
 V:Vec
 n:Nat
 r2:Value
 r3:Int
 r4:Int
theorem eI (W0 W1:World) (c:List Value):As W0 W1 [Vec.empty.bx 31 c]:=Own.one (fun p hp=>by cases hp) List.nodup_nil
theorem LL {y:Nat×EnS×Int} {r:List (Nat×EnS×Int)} {out:List EnS} {n:Nat} (h:y.2.2=1):readL (y::r) out n=(out,n,0):=by unfold readL;rw[if_pos h]
theorem KZ {y:Nat×EnS×Int} {r:List (Nat×EnS×Int)} {out:List EnS} {n:Nat} (h1:y.2.2≠1) (h:y.2.2=2\/chkE y.2.1≠0):readL (y::r) out n=([],0,29):=by unfold readL;rw[if_neg h1,if_pos h]
theorem JF {y:Nat×EnS×Int} {r:List (Nat×EnS×Int)} {out:List EnS} {n:Nat} (h1:y.2.2≠1) (h: ¬(y.2.2=2\/chkE y.2.1≠0)):readL (y::r) out n=readL r (out++[y.2.1]) y.1:=by rw[readL,if_neg h1,if_neg h]
theorem Tx {α:Type} {l:List α} {k:Nat} (h:k<l.length) (d:α):l.drop k=l.getD k d::l.drop (k+1):=by
 rw[List.drop_eq_getElem_cons h,List.getD_eq_getElem?_getD,List.getElem?_eq_getElem h];rfl
theorem YK (s:List UInt8):(yld s).length<=s.length:=by
 have key: ∀f n,(Fk s f n).length<=f:=by
  intro f
  induction f with
  |zero=>intro n;exact Nat.le_refl _
  |succ f ih=>
   intro n
   unfold Fk
   split
   ·rw[List.length_cons]
    split
    ·have:=ih (n+(BY (s.drop n)).2.1);omega
    ·simp
   ·exact Nat.zero_le _
 exact key s.length 0
abbrev rjV (x:List EnS×Nat×Int) (V:Vec):Value:= .tuple #[slv (AU V) x.1.length (Bd V), .int .i64 (x.2.1:Nat), .int .i64 x.2.2]
theorem GH (s:List UInt8) (hs:s.length<=1000000000) (W:World) (hv:AQ W) (ht:AZ W) (hw:Bo W):
  Ag Tryz.prog 9 #[str s] W (fun V:Vec=>rjV (readJ s) V) (fun V=>V.OK 2 (readJ s).1.length ((readJ s).1.flatMap enC)) (fun V=>[V.bx 31 ((readJ s).1.flatMap enC)]):=by
 have hR:readJ s=if 1048576<s.length then([],0,4) else readL (yld s) [] 0:=rfl
 obtain⟨R,hRR⟩: ∃R,R=readJ s:=⟨_,rfl⟩
 rw[<-hRR] at hR⊢
 refine Ab Tryz.func9 I I I<|xb<|wG I I fun _=>wG I I fun _=>wG I I fun _=>zC<|?_
 rename_i b2 b3 b4
 refine zE<|xd<|Aa I<|Ao 10 (.int .i64 (s.length:Nat)) I (congrArg (fun n:Nat=>Value.int .i64 (n:Int)) (A5 s))<|wP I<|?_
 by_cases h0:1048576<s.length
 ·rw[if_pos h0] at hR
  exact wU 11 true I (dT (show((s.length:Nat):Int)>1048576 by omega))<|xa<|zR I<|xb<|wS 0 I I I<|wS 1 I I I<|wS 2 I I I<|xc<|zP<|DF tH I (.cell 0 I I I I I) (.cell 1 I I I I I) (.cell 2 I I I I I) Vec.empty (by rw[hR];rfl) (by rw[hR];exact Vec.OK.empty 2) fun W1 _=>eI _ _ _
 rw[if_neg h0] at hR
 refine wU 11 false I (dF (show¬((s.length:Nat):Int)>1048576 by omega))<|xa<|zS I<|zI<|xe<|wG I I fun _=>zC<|?_
 rename_i b5
 refine xe<|wG I I fun _=>wS 4 I I I<|zC<|?_
 rename_i b6
 refine zE<|xd<|wP I<|wD (X:=Nat) I I (fun W1 _=>Nv s W1) ?_
 intro bS _
 refine xa<|zH<|Be ?_
 have hm:=YK s
 refine W7 (X:=RjX) (fun x=>[⟨b2,22,[x.r2],true,none⟩,⟨b3,3,[.int .i64 x.r3],true,none⟩,⟨b4,27,[.int .i64 x.r4],true,none⟩,⟨b5,22,[slv (AU x.V) x.out.length (Bd x.V)],true,none⟩,⟨b6,3,[.int .i64 ((x.n:Nat):Int)],true,none⟩,⟨bS,9,[str s],true,none⟩,x.V.bx 31 (x.out.flatMap enC)])
  (fun k x=>x.V.OK 2 x.out.length (x.out.flatMap enC)/\x.out.length<=k/\readL ((yld s).drop k) x.out x.n=R/\x.r2= .slice none 0 0/\x.r3=0/\x.r4=0)
  (fun c x=>c= .ret/\((R=(x.out,x.n,0)/\x.V.OK 2 x.out.length (x.out.flatMap enC)/\x.r2=slv (AU x.V) x.out.length (Bd x.V)/\x.r3=(x.n:Nat)/\x.r4=0)\/(R=([],0,29)/\x.r2= .slice none 0 0/\x.r3=0/\x.r4=29)))
  ⟨[],Vec.empty,0, .slice none 0 0,0,0⟩ rfl (by kernel_rfl) (PD bS s hs) (fun k=>rfl) ⟨Vec.OK.empty 2,Nat.zero_le _,hR.symm,rfl,rfl,rfl⟩ [] rfl (fun k x W1 _ hp=>⟨Al.of_bx hp 5 rfl rfl,hv.hp hp⟩) ?_ ?_ ?_
 ·rintro k ⟨out,V,n,r2,r3,r4⟩ d l' rec L hk ⟨hV,hok,hrd,e2,e3,e4⟩ hrec
  have hV:V.OK 2 out.length (out.flatMap enC):=hV
  have hok:out.length<=k:=hok
  obtain rfl:r2= .slice none 0 0:=e2
  obtain rfl:r3=0:=e3
  obtain rfl:r4=0:=e4
  have hrd:readL ((yld s).drop k) out n=R:=hrd
  rw[Tx hk (0,noE,0)] at hrd
  unfold dQ
  obtain⟨⟨n',e,is⟩,hye⟩: ∃y,y=(yld s).getD k (0,noE,0):=⟨_,rfl⟩
  rw[<-hye] at hrd⊢
  have hval:=Bs hV
  refine xb<|wP I<|xa<|zB<|wG I I fun _=>wS 10 I I I<|zC<|?_
  rename_i b8
  refine CJ 9 hrec I ?_
  refine zH<|zA<|zH<|xb<|wP I<|wB 10 I I I<|wP I<|?_
  by_cases c1:is=1
  ·rw[LL c1] at hrd
   refine wU 19 true I (beq_iff_eq.2 c1)<|wP I<|xa<|zR I<|zA<|?_
   refine Bh (X:=Unit) [true,true,false,false,false] (fun _=>[]) (fun _=>[Ad L,⟨b2,22,[slv (AU V) out.length (Bd V)],true,none⟩,⟨b3,3,[.int .i64 ((n:Nat):Int)],true,none⟩,⟨b4,27,[.int .i64 0],true,none⟩,⟨b5,22,[slv (AU V) out.length (Bd V)],true,none⟩,⟨b6,3,[.int .i64 ((n:Nat):Int)],true,none⟩,⟨bS,9,[str s],true,none⟩,V.bx 31 (out.flatMap enC),B7 d,Bc l' rec .busy none,⟨b8,50,[.int .i64 e.k,str e.t, .int .i64 is],true,none⟩])
    3 [Ad L,⟨b2,22,[.slice none 0 0],false,none⟩,⟨b3,3,[.int .i64 0],false,none⟩,⟨b4,27,[.int .i64 0],true,none⟩,⟨b5,22,[slv (AU V) out.length (Bd V)],true,none⟩,⟨b6,3,[.int .i64 ((n:Nat):Int)],true,none⟩,⟨bS,9,[str s],true,none⟩,V.bx 31 (out.flatMap enC),B7 d,Bc l' rec .busy none,⟨b8,50,[.int .i64 e.k,str e.t, .int .i64 is],true,none⟩] Tryz.mixed (by kernel_rfl) ?_ ?_
   ·refine qB 4 I I I<|qB 5 I I I<|Cp<|wX<|wZ<|wS 1 I I I<|zC<|Aw<|wX<|wZ<|wS 2 I I I<|zC<|Aw<|wX<|wZ<|wS 3 I I I<|zC<|Aw<|?_
    refine B6 I (by((repeat (first|refine B3.same ?_|refine B3.off I ?_));exact tO)) ?_
    exact AR () tO [0,1,2,3,4,5,6,7,8,9,10] (by decide) I
   intro _
   exact zE<|zO<|zQ<|zP<|zQ<|BA 9 ⟨out,V,n,slv (AU V) out.length (Bd V),(n:Nat),0⟩ hrec I ⟨I, .inl ⟨hrd.symm,hV,I,I,I⟩⟩ [_] I
  refine wU 19 false I (beq_eq_false_iff_ne.2 c1)<|wP I<|xa<|zS I<|xb<|wP I<|wB 10 I I I<|wP I<|?_
  by_cases c2:is=2
  ·rw[KZ c1 (.inl c2)] at hrd
   refine wU 25 true I (beq_iff_eq.2 c2)<|wP I<|?_
   iterate 4 refine Ac I I ?_
   exact Aa I<|xa<|zR I<|xb<|wS 1 I I I<|wS 2 I I I<|wS 3 I I I<|xc<|zQ<|zP<|zQ<|BA 9 ⟨out,V,n, .slice none 0 0,0,29⟩ hrec I ⟨I, .inr ⟨hrd.symm,I,I,I⟩⟩ [_] I
  refine wU 25 false I (beq_eq_false_iff_ne.2 c2) ?_
  have htl:e.t.length<=65536:=by
   have hm:(n',e,is)∈yld s:=by rw[hye,List.getD_eq_getElem?_getD,List.getElem?_eq_getElem hk];exact List.getElem_mem hk
   exact Xs hm
  refine Aa I<|wB 10 I I I<|wC I I (fun W1 hp=>Iw e (by omega) W1 (hv.hp hp) (ht.hp hp) (hw.hp hp))<|wP I<|?_
  by_cases c3:chkE e=0
  rotate_left
  ·rw[KZ c1 (.inr c3)] at hrd
   exact wU 30 true I (bne_iff_ne.2 c3)<|Aa I<|xa<|zR I<|xb<|wS 1 I I I<|wS 2 I I I<|wS 3 I I I<|xc<|zQ<|zP<|zQ<|BA 9 ⟨out,V,n, .slice none 0 0,0,29⟩ hrec I ⟨I, .inr ⟨hrd.symm,I,I,I⟩⟩ [_] I
  rw[JF c1 (fun h=>h.elim c2 fun h=>h c3)] at hrd
  refine wU 30 false I (by rw[c3];rfl)<|Aa I<|xa<|zS I<|zI<|xj<|wB 4 I I I<|wP I<|wB 10 I I I<|?_
  (refine Ai Tryz.hZ tH rfl rfl rfl rfl rfl rfl rfl rfl rfl rfl rfl ?_;intro)
  refine AA (V:=V) (len:=out.length) (xs:=out.flatMap enC) 7 11 Tryz.vec22 (out++[e]).length ((out++[e]).flatMap enC) I I I I I I I I I (congrArg some hval.symm) I hV I I (by rw[List.length_append];rfl) (by rw[CV];rfl) (by rw[List.length_append,List.length_singleton];simp only[maxLen];omega) (by rw[List.length_append,List.length_singleton];omega) I ?_
  intro g1 c4 j1 hV1
  exact wP I<|wS 4 I I I<|wS 5 I I I<|zC<|zN<|BQ 9 ⟨out++[e],⟨some g1,c4,j1⟩,n', .slice none 0 0,0,0⟩ hrec I ⟨hV1,by show(out++[e]).length<=k+1;rw[List.length_append,List.length_singleton];omega,hrd,I,I,I⟩ [_,_] I
 ·rintro⟨out,V,n,r2,r3,r4⟩ d l' rec ⟨hV,hok,hrd,e2,e3,e4⟩
  have hV:V.OK 2 out.length (out.flatMap enC):=hV
  obtain rfl:r2= .slice none 0 0:=e2
  obtain rfl:r3=0:=e3
  obtain rfl:r4=0:=e4
  have hrd:readL ((yld s).drop (yld s).length) out n=R:=hrd
  rw[List.drop_length] at hrd
  have hrd:(out,n,0)=R:=hrd
  refine zN<|zE<|zA<|?_
  refine Bh (X:=Unit) [true,true,false,false,false] (fun _=>[(2,Af b2),(3,Af b3),(4,Af b4)]) (fun _=>[⟨b2,22,[slv (AU V) out.length (Bd V)],true,none⟩,⟨b3,3,[.int .i64 ((n:Nat):Int)],true,none⟩,⟨b4,27,[.int .i64 0],true,none⟩,⟨b5,22,[slv (AU V) out.length (Bd V)],true,none⟩,⟨b6,3,[.int .i64 ((n:Nat):Int)],true,none⟩,⟨bS,9,[str s],true,none⟩,V.bx 31 (out.flatMap enC),B7 d])
   3 [⟨b2,22,[.slice none 0 0],false,none⟩,⟨b3,3,[.int .i64 0],false,none⟩,⟨b4,27,[.int .i64 0],true,none⟩,⟨b5,22,[slv (AU V) out.length (Bd V)],true,none⟩,⟨b6,3,[.int .i64 ((n:Nat):Int)],true,none⟩,⟨bS,9,[str s],true,none⟩,V.bx 31 (out.flatMap enC),B7 d] Tryz.mixed (by kernel_rfl) ?_ ?_
  ·refine qB 3 I I I<|qB 4 I I I<|Cp<|wX<|wZ<|wS 0 I I I<|zC<|Aw<|wX<|wZ<|wS 1 I I I<|zC<|Aw<|wX<|wZ<|wS 2 I I I<|zC<|Aw<|?_
   refine B6 I (by((repeat (first|refine B3.same ?_|refine B3.off I ?_));exact tO)) ?_
   exact AR () ⟨I,I,I,tO⟩ [0,1,2,3,4,5,6,7] (by decide) I
  intro _
  refine zE<|zO<|C2 7 I ?_
  rw[<-hrd]
  exact DF tH I (.cell 0 I I I I I) (.cell 1 I I I I I) (.cell 2 I I I I I) V I hV fun W1 hp=>As.of_hp (hp.pick (l:=[V.bx 31 (out.flatMap enC)]) [6] (by decide) I)
 ·rintro⟨out,V,n,r2,r3,r4⟩ d l' rec cd ⟨rfl,hR⟩
  refine zO<|zQ<|zP<|C2 7 I ?_
  rcases hR with⟨h1,hV,e2,e3,e4⟩|⟨h1,e2,e3,e4⟩
  ·have h1:R=(out,n,0):=h1
   obtain rfl:r2=slv (AU V) out.length (Bd V):=e2
   obtain rfl:r3=(n:Nat):=e3
   obtain rfl:r4=0:=e4
   subst h1
   exact DF tH I (.cell 0 I I I I I) (.cell 1 I I I I I) (.cell 2 I I I I I) V I hV fun W1 hp=>As.of_hp (hp.pick (l:=[V.bx 31 (out.flatMap enC)]) [6] (by decide) I)
  ·have h1:R=([],0,29):=h1
   obtain rfl:r2= .slice none 0 0:=e2
   obtain rfl:r3=0:=e3
   obtain rfl:r4=29:=e4
   subst h1
   exact DF tH I (.cell 0 I I I I I) (.cell 1 I I I I I) (.cell 2 I I I I I) Vec.empty I (Vec.OK.empty 2) fun W1 _=>eI _ _ _
theorem GG {x:EnS} (h:chkE x=0):(1<=x.k/\x.k<=6)/\x.t.length<=65536:=by
 unfold chkE at h
 by_cases c1:1<=x.k/\x.k<=6
 ·rw[if_neg (fun h=>h c1)] at h
  by_cases c2:65536<x.t.length
  ·rw[if_pos c2] at h;cases h
  ·exact⟨c1,by omega⟩
 ·rw[if_pos c1] at h;cases h
noncomputable def appJ (s:List UInt8) (x:EnS):List UInt8×Int:=
 if chkE x≠0 then([],chkE x) else if (readJ s).2.2≠0 then([],(readJ s).2.2) else if (readJ s).2.1<s.length then([],29) else if 1048576<(s++Bv x).length then([],4) else(s++Bv x,0)
theorem HH (s:List UInt8) (hs:s.length<=8000000) (x:EnS) (hl:x.t.length<=1000000000) (W:World) (hv:AQ W) (ht:AZ W) (hw:Bo W):
  Ag Tryz.prog 15 #[str s, .agg #[.int .i64 x.k,str x.t]] W (fun _:Unit=> .tuple #[str (appJ s x).1, .int .i64 (appJ s x).2]) (fun _=>True) (fun _=>[]):=by
 have hR:appJ s x=if chkE x≠0 then([],chkE x) else if (readJ s).2.2≠0 then([],(readJ s).2.2) else if (readJ s).2.1<s.length then([],29) else if 1048576<(s++Bv x).length then([],4) else(s++Bv x,0):=rfl
 refine Ab Tryz.func15 I I I<|xb<|wF I I fun _=>Aa I<|xa<|xd<|wB 0 I I I<|wC I I (fun W1 hp=>Iw x hl W1 (hv.hp hp) (ht.hp hp) (hw.hp hp))<|wP I<|xg<|Aa I<|?_
 by_cases c0:chkE x=0
 rotate_left
 ·rw[if_pos c0] at hR
  exact wU 13 true I (bne_iff_ne.2 c0)<|xa<|zR I<|xb<|Ae I<|xc<|zP<|wR2 I I (by rw[hR])
 rw[if_neg (fun h=>h c0)] at hR
 obtain⟨hk,htl⟩:=GG c0
 refine wU 13 false I (by rw[c0];rfl)<|xa<|zS I<|zI<|xe<|wP I<|wD (X:=Vec) I I (fun W1 hp=>GH s (by omega) W1 (hv.hp hp) (ht.hp hp) (hw.hp hp)) ?_
 intro V _
 refine Bb I<|wP I<|xa<|xd<|Aa I<|?_
 by_cases c1:(readJ s).2.2=0
 rotate_left
 ·rw[if_pos c1] at hR
  exact wU 22 true I (bne_iff_ne.2 c1)<|xa<|zR I<|xb<|Ae I<|xc<|zP<|wR2 I I (by rw[hR])
 rw[if_neg (fun h=>h c1)] at hR
 refine wU 22 false I (by rw[c1];rfl)<|xa<|zS I<|zI<|zE<|xd<|Ae I<|Ao 26 (.int .i64 (s.length:Nat)) I (congrArg (fun n:Nat=>Value.int .i64 (n:Int)) (A5 s))<|wP I<|?_
 by_cases c2:(readJ s).2.1<s.length
 ·rw[if_pos c2] at hR
  exact wU 27 true I (dT (show(((readJ s).2.1:Nat):Int)<(s.length:Nat) by omega))<|xa<|zR I<|xb<|Aa I<|xc<|zP<|wR2 I I (by rw[hR])
 rw[if_neg c2] at hR
 refine wU 27 false I (dF (show¬(((readJ s).2.1:Nat):Int)<(s.length:Nat) by omega))<|xa<|zS I<|zI<|zE<|?_
 have hrl:=Mk x (by omega) (by omega) (by omega)
 refine xd<|wP I<|wB 0 I I I<|wC I I (fun W1 hp=>PR x (by omega) (by omega) (by omega) W1 (ht.hp hp))<|DR (a:=s) (b:=Bv x) I I I I I (by omega) (by omega) ?_
 refine wP I<|xg<|Aa I<|Ao 33 (.int .i64 ((s++Bv x).length:Nat)) I (congrArg (fun n:Nat=>Value.int .i64 (n:Int)) (A5 _))<|wP I<|?_
 by_cases c3:1048576<(s++Bv x).length
 ·rw[if_pos c3] at hR
  exact wU 34 true I (dT (show(((s++Bv x).length:Nat):Int)>1048576 by omega))<|xa<|zR I<|xb<|Aa I<|xc<|zP<|wR2 I I (by rw[hR])
 rw[if_neg c3] at hR
 exact wU 34 false I (dF (show¬(((s++Bv x).length:Nat):Int)>1048576 by omega))<|xa<|zS I<|zI<|xe<|Ae I<|xc<|wR2 I I (by rw[hR])
theorem TP {p:UInt8->Bool}: ∀ {ds rest:List UInt8},(∀b∈ds,p b=true)->(∀c r,rest=c::r->p c=false)->(ds++rest).takeWhile p=ds/\(ds++rest).dropWhile p=rest
 |[],[],_,_=>⟨rfl,rfl⟩
 |[],c::r,_,h=>⟨List.takeWhile_cons_of_neg (by rw[h c r rfl];decide),List.dropWhile_cons_of_neg (by rw[h c r rfl];decide)⟩
 |d::ds,rest,hd,h=>by
  have ih:=TP (fun b hb=>hd b (List.mem_cons_of_mem _ hb)) h
  rw[List.cons_append,List.takeWhile_cons_of_pos (hd d (List.mem_cons_self ..)),List.dropWhile_cons_of_pos (hd d (List.mem_cons_self ..)),ih.1,ih.2]
  exact⟨I,I⟩
theorem ML {ds rest:List UInt8} {n:Nat} (h0:ds≠[]) (h5:ds.length<=5) (hd: ∀b∈ds,48<=b.toNat/\b.toNat<=57) (hz:1<ds.length->ds[0]? ≠some 48) (hv:atV ds=n) (hn:n<=65536) (hr: ∀c r,rest=c::r-> ¬(48<=c.toNat/\c.toNat<=57)):
  BY (ds++rest)=I7 ds.length n rest:=by
 obtain⟨h1,h2⟩:=TP (p:=(AJ.contains ·)) (ds:=ds) (rest:=rest) (fun b hb=>KW (hd b hb).1 (hd b hb).2) (fun c r e=>by
  cases h:AJ.contains c with
  |false=>rfl
  |true=>exact absurd (P1 h) (hr c r e))
 have hdg:dgJ (ds++rest)=ds.length:=by rw[Qc,h1]
 have ht:(ds++rest).take ds.length=ds:=by simp
 have hdr:(ds++rest).drop ds.length=rest:=by simp
 have hl:0<ds.length:=List.length_pos_iff.2 h0
 unfold BY
 rw[if_neg (fun h=>by
  unfold Ff at h
  rw[hdg] at h
  rcases h with h|h|⟨h,h'⟩
  ·omega
  ·omega
  ·rw[List.getElem?_append_left hl] at h'
   exact hz h h'),hdg,ht,hdr,hv,if_neg (by omega),Int.toNat_natCast]
theorem cE:HG 0 58=true:=by decide
theorem fC:HG 2 58=true:=by decide
theorem IR {x:EnS} (h1:1<=x.k) (h2:x.k<=6): ∃kb:UInt8,HG 1 kb=true/\(kb.toNat:Int)-48=x.k/\Bv x=decDigits x.t.length++(58::kb::58::(x.t++[10])):=by
 have e1:itoa (x.t.length:Nat)=decDigits x.t.length:=by unfold itoa;rw[if_neg (by omega),Int.toNat_natCast]
 have ek:x.k=((x.k.toNat:Nat):Int):=by omega
 have e2:itoa x.k=[UInt8.ofNat (48+x.k.toNat)]:=by
  rw[ek,Fx (by omega),Int.toNat_natCast]
 have e3:(UInt8.ofNat (48+x.k.toNat)).toNat=48+x.k.toNat:=Dv (by omega)
 obtain⟨kb,hkb⟩: ∃kb,kb=UInt8.ofNat (48+x.k.toNat):=⟨_,rfl⟩
 rw[<-hkb] at e2 e3
 refine⟨kb,dT ⟨by omega,by omega⟩,by omega, ?_⟩
 unfold Bv
 rw[e1,e2]
 simp
theorem dX:Cb [58] 3 0=1:=by
 have a:Cb [58] 3 0=Cb [58] 2 1:=DW (by simp) cE
 rw[a]
 rfl
theorem eY {kb:UInt8} (hk:HG 1 kb=true):Cb [58,kb] 3 0=1:=by
 have a:Cb [58,kb] 3 0=Cb [58,kb] 2 1:=DW (by simp) cE
 have b:Cb [58,kb] 2 1=Cb [58,kb] 1 2:=DW (by simp) hk
 rw[a,b]
 rfl
theorem Xr {kb:UInt8} (hk:HG 1 kb=true) (t:List UInt8):Cb (58::kb::58::t) 3 0=0:=by
 have a:Cb (58::kb::58::t) 3 0=Cb (58::kb::58::t) 2 1:=DW (by simp) cE
 have b:Cb (58::kb::58::t) 2 1=Cb (58::kb::58::t) 1 2:=DW (by simp) hk
 have c:Cb (58::kb::58::t) 1 2=Cb (58::kb::58::t) 0 3:=DW (by simp) fC
 rw[a,b,c]
 rfl
structure eP (n:Nat) (ds:List UInt8):Prop where
 ne:ds≠[]
 len:ds.length<=5
 dig: ∀b∈ds,48<=b.toNat/\b.toNat<=57
 lead:1<ds.length->ds[0]? ≠some 48
 val: ∃m:Nat,atV ds=m/\m<=n
theorem JP {n:Nat} (hn:n<=65536):eP n (decDigits n)/\atV (decDigits n)=n:=by
 have hv:atV (decDigits n)=n:=by
  have h:=JZ (n:Nat) (by omega) (by omega)
  unfold itoa at h
  rw[if_neg (by omega),Int.toNat_natCast] at h
  unfold atV
  rw[h]
 refine⟨⟨Hd n,Fa 5 n (by decide) (by omega),Eu n,fun hl=> ?_,n,hv,Nat.le_refl _⟩,hv⟩
 by_cases h0:n=0
 ·subst h0;rw[FK] at hl;simp at hl
 ·obtain⟨b,r,e,hb⟩:=Ph n h0
  rw[e]
  intro h
  injection h with h
  subst h
  exact hb I
theorem NW: ∀(p q:List UInt8) (acc u:Nat),parseUint10 acc (p++q)= .ok u-> ∃v,parseUint10 acc p= .ok v/\acc<=v/\v<=u
 |[],q,acc,u,h=>by
  refine⟨acc,I,Nat.le_refl _, ?_⟩
  induction q generalizing acc with
  |nil=>injection h with h;omega
  |cons c r ih=>
   simp only[List.nil_append,parseUint10] at h
   split at h
   ·split at h
    ·cases h
    ·split at h
     ·cases h
     ·have:=ih (acc*10+(c.toNat-48)) h;omega
   ·cases h
 |c::p,q,acc,u,h=>by
  simp only[List.cons_append,parseUint10] at h⊢
  split at h
  ·rename_i h1
   rw[if_pos h1]
   split at h
   ·cases h
   ·rename_i h2
    rw[if_neg h2]
    split at h
    ·cases h
    ·rename_i h3
     rw[if_neg h3]
     obtain⟨v,a1,a2,a3⟩:=NW p q _ u h
     exact⟨v,a1,by omega,a3⟩
  ·cases h
theorem Yo {n m:Nat} (hn:n<=65536) (hm:0<m):eP n ((decDigits n).take m):=by
 have h:=(JP hn).1
 have hne:(decDigits n).take m≠[]:=fun e=>by
  have:=congrArg List.length e
  rw[List.length_take] at this
  have h0:=List.length_pos_iff.2 h.ne
  have this:min m (decDigits n).length=0:=this
  omega
 have hdg: ∀b∈(decDigits n).take m,48<=b.toNat/\b.toNat<=57:=fun b hb=>h.dig b (List.mem_of_mem_take hb)
 have hl5:((decDigits n).take m).length<=5:=by rw[List.length_take];have:=h.len;omega
 refine⟨hne,hl5,hdg,fun hl=> ?_, ?_⟩
 ·rw[List.getElem?_take_of_lt hm]
  exact h.lead (by rw[List.length_take] at hl;omega)
 ·obtain⟨u,hu,_⟩:=NZ hne hdg hl5
  refine⟨u,by unfold atV;rw[hu], ?_⟩
  have hp:=ME n (by omega)
  rw[<-List.take_append_drop m (decDigits n)] at hp
  obtain⟨v,a1,_,a3⟩:=NW _ _ _ _ hp
  obtain⟨c,r,hc⟩: ∃c r,(decDigits n).take m=c::r:=by
   cases e:(decDigits n).take m with
   |nil=>exact absurd e hne
   |cons c r=>exact⟨c,r,rfl⟩
  rw[hc] at hu a1 hdg
  have hcd:=hdg c (List.mem_cons_self ..)
  have hmag:parseMag (c::r)= .ok v:=by unfold parseMag;rw[if_neg (by simp)];exact a1
  rw[atoiAll_plain c r (by omega) (by omega),hmag] at hu
  have hu:(if 9223372036854775808<=v then NumEnd.range else NumEnd.ok (v:Int))= .ok (u:Int):=hu
  rw[if_neg (by omega)] at hu
  injection hu with hu
  omega
theorem HE: ¬(48<=(58:UInt8).toNat/\(58:UInt8).toNat<=57):=by decide
theorem Us {x:EnS} (h1:1<=x.k) (h2:x.k<=6) (hl:x.t.length<=65536) (r:List UInt8):BY (Bv x++r)=(x,(Bv x).length,0):=by
 obtain⟨hd,hv⟩:=JP hl
 obtain⟨kb,k1,k2,k3⟩:=IR h1 h2
 have e:Bv x++r=decDigits x.t.length++(58::kb::58::(x.t++10::r)):=by rw[k3];simp
 have hlen:(Bv x).length=(decDigits x.t.length).length+4+x.t.length:=by rw[k3];simp;omega
 rw[e,ML hd.ne hd.len hd.dig hd.lead hv hl (fun c r e=>by injection e with e _;subst e;exact HE),hlen]
 have hsc:=Xr k1 (x.t++10::r)
 unfold I7
 have hdr:(58::kb::58::(x.t++10::r)).drop 3=x.t++10::r:=rfl
 have hk:((((58::kb::58::(x.t++10::r)).getD 1 0).toNat:Nat):Int)-48=x.k:=k2
 rw[if_neg (by rw[hsc];simp),hdr,if_neg (by simp),if_neg (by simp),hk,List.take_left']
 rfl
theorem Y0 {x:EnS} (h1:1<=x.k) (h2:x.k<=6) (hl:x.t.length<=65536) {m:Nat} (hm0:0<m) (hm:m<(Bv x).length):BY ((Bv x).take m)=(noE,0,1):=by
 obtain⟨hd,hv⟩:=JP hl
 obtain⟨kb,k1,k2,k3⟩:=IR h1 h2
 have hlen:(Bv x).length=(decDigits x.t.length).length+4+x.t.length:=by rw[k3];simp;omega
 obtain⟨ds,hds⟩: ∃ds,ds=decDigits x.t.length:=⟨_,rfl⟩
 rw[<-hds] at hd hv k3 hlen
 have hrest: ∀q c r,(58::kb::58::(x.t++[10])).take q=c::r-> ¬(48<=c.toNat/\c.toNat<=57):=fun q c r e=>by
  cases q with
  |zero=>cases e
  |succ q=>rw[List.take_succ_cons] at e;injection e with e _;subst e;exact HE
 rw[k3,List.take_append]
 by_cases hc:m<=ds.length
 ·have ht:=Yo hl hm0
  rw[<-hds] at ht
  obtain⟨v,hv1,hv2⟩:=ht.val
  rw[show m-ds.length=0 by omega,List.take_zero,ML ht.ne ht.len ht.dig ht.lead hv1 (by omega) (fun c r e=>by cases e)]
  unfold I7
  rw[if_pos (by decide)]
  rfl
 ·have hdt:ds.take m=ds:=List.take_of_length_le (by omega)
  obtain⟨q,hq⟩: ∃q,m-ds.length=q+1:=⟨m-ds.length-1,by omega⟩
  rw[hdt,hq,ML hd.ne hd.len hd.dig hd.lead hv hl (hrest _)]
  rcases q with _|_|q
  ·have hs:Cb ((58::kb::58::(x.t++[10])).take (0+1)) 3 0=1:=dX
   unfold I7
   rw[if_pos (by rw[hs];decide),hs]
  ·have hs:Cb ((58::kb::58::(x.t++[10])).take (0+1+1)) 3 0=1:=eY k1
   unfold I7
   rw[if_pos (by rw[hs];decide),hs]
  ·have ht:(58::kb::58::(x.t++[10])).take (q+1+1+1)=58::kb::58::(x.t++[10]).take q:=rfl
   rw[ht]
   have hs:=Xr k1 ((x.t++[10]).take q)
   unfold I7
   rw[if_neg (by rw[hs];simp),if_pos]
   show((x.t++[10]).take q).length<=x.t.length
   rw[List.length_take]
   omega
def A7 (l:List EnS):List UInt8:=l.flatMap Bv
theorem Mo (l:List EnS) (x:EnS):A7 (l++[x])=A7 l++Bv x:=by simp[A7]
theorem Vp (l m:List EnS):A7 (l++m)=A7 l++A7 m:=by simp[A7]
def WI (r:List UInt8):Prop:=r=[]\/BY r=(noE,0,1)
theorem Qs {r:List UInt8} (hr:WI r) (s:List UInt8): ∀(l:List EnS) (f n:Nat),s.drop n=A7 l++r->s.length<=n+f->n<=s.length->(∀x∈l,chkE x=0)->
  (∀y∈Fk s f n,y.2.2=0->y.2.1∈l)/\ ∀out,readL (Fk s f n) out n=(out++l,n+(A7 l).length,0)
 |[],f,n,hs,hf,hn,_=>by
  have hs:s.drop n=r:=hs
  by_cases hlt:n<s.length
  ·obtain⟨g,_,hy⟩:=Gp hlt hf
   rcases hr with e|e
   ·rw[e] at hs
    have:=congrArg List.length hs
    rw[List.length_drop] at this
    have:s.length-n=0:=this
    omega
   ·rw[hs,e] at hy
    have hy:Fk s f n=[(n,noE,1)]:=hy
    rw[hy]
    refine⟨fun y hy h=> ?_,fun out=> ?_⟩
    ·obtain rfl:=List.mem_singleton.1 hy
     cases h
    ·rw[LL rfl,List.append_nil]
     rfl
  ·rw[Rk (by omega)]
   refine⟨fun y h=>(by cases h),fun out=> ?_⟩
   rw[List.append_nil]
   rfl
 |x::l,f,n,hs,hf,hn,hc=>by
  obtain⟨⟨k1,k2⟩,htl⟩:=GG (hc x (List.mem_cons_self ..))
  have hs:s.drop n=Bv x++(A7 l++r):=by rw[hs];simp[A7]
  have hx:=Us k1 k2 htl (A7 l++r)
  have hll:=congrArg List.length hs
  rw[List.length_drop,List.length_append] at hll
  have hpos:0<(Bv x).length:=by obtain⟨_,_,_,e⟩:=IR k1 k2;rw[e];simp;omega
  obtain⟨g,hfg,hy⟩:=Gp (show n<s.length by omega) hf
  rw[hs,hx] at hy
  have hy:Fk s f n=(n+(Bv x).length,x,0)::Fk s g (n+(Bv x).length):=hy
  have hnx:s.drop (n+(Bv x).length)=A7 l++r:=by rw[<-List.drop_drop,hs,List.drop_left'];rfl
  obtain⟨i1,i2⟩:=Qs hr s l g (n+(Bv x).length) hnx (by omega) (by omega) fun y hy=>hc y (List.mem_cons_of_mem _ hy)
  rw[hy]
  refine⟨fun y hy h=> ?_,fun out=> ?_⟩
  ·rcases List.mem_cons.1 hy with rfl|hy
   ·exact List.mem_cons_self ..
   ·exact List.mem_cons_of_mem _ (i1 y hy h)
  ·rw[JF (by show(0:Int)≠1;decide) (fun h=>h.elim (fun h=>by cases h) fun h=>h (hc x (List.mem_cons_self ..)))]
   rw[i2]
   have e1:(out++[x])++l=out++x::l:=by simp
   have e2:n+(Bv x).length+(A7 l).length=n+(A7 (x::l)).length:=by
    show _=n+(Bv x++A7 l).length
    rw[List.length_append];omega
   rw[e1,e2]
theorem NQ {l:List EnS} {r:List UInt8} (hr:WI r) (hc: ∀x∈l,chkE x=0) (hl:(A7 l++r).length<=1048576):readJ (A7 l++r)=(l,(A7 l).length,0):=by
 unfold readJ yld
 rw[if_neg (by omega),(Qs hr (A7 l++r) l _ 0 rfl (by omega) (Nat.zero_le _) hc).2 []]
 rw[List.nil_append,Nat.zero_add]
theorem YX:WI []:= .inl rfl
theorem Js {l:List EnS} (hc: ∀x∈l,chkE x=0) (ho: ∀x∈l,KO x):(A7 l).length<=2044*l.length:=by
 induction l with
 |nil=>exact Nat.le_refl _
 |cons x l ih=>
  have h1:=ih (fun y hy=>hc y (List.mem_cons_of_mem _ hy)) fun y hy=>ho y (List.mem_cons_of_mem _ hy)
  obtain⟨⟨k1,k2⟩,htl⟩:=GG (hc x (List.mem_cons_self ..))
  have h3:=Mk x (by omega) (by omega) (by omega)
  have h4:x.t.length<=2000:=(ho x (List.mem_cons_self ..)).resolve_right (by omega)
  show(Bv x++A7 l).length<=_
  rw[List.length_append,List.length_cons]
  omega
noncomputable def okL (l:List EnS):List EnS:=l.filter fun x=>decide (chkE x=0)
theorem La {l:List EnS} {x:EnS}:x∈okL l↔x∈l/\chkE x=0:=by unfold okL;rw[List.mem_filter,decide_eq_true_iff]
theorem U6 (l:List EnS):(okL l).length<=l.length:=List.length_filter_le _ _
theorem Xx (l:List EnS) (x:EnS):okL (l++[x])=if chkE x=0 then okL l++[x] else okL l:=by
 unfold okL
 rw[List.filter_append]
 by_cases h:chkE x=0
 ·rw[if_pos h,List.filter_cons_of_pos (by rw[dT h]),List.filter_nil]
 ·rw[if_neg h,List.filter_cons_of_neg (by rw[dF h];decide),List.filter_nil,List.append_nil]
theorem XL {l:List EnS} {x:EnS} (hc: ∀y∈l,chkE y=0) (ho: ∀y∈l,KO y) (hx:KO x) (hn:l.length<=20) (h:chkE x=0):appJ (A7 l) x=(A7 (l++[x]),0):=by
 have hl:=Js hc ho
 have hr:=NQ (l:=l) YX hc (by rw[List.append_nil];omega)
 rw[List.append_nil] at hr
 obtain⟨⟨k1,k2⟩,htl⟩:=GG h
 have h3:=Mk x (by omega) (by omega) (by omega)
 have h4:x.t.length<=2000:=hx.resolve_right (by omega)
 unfold appJ
 rw[if_neg (fun e=>e h),hr,if_neg (fun e=>e rfl),if_neg (by show¬(A7 l).length<(A7 l).length;omega),if_neg (by rw[List.length_append];omega),Mo]
theorem cZ {s:List UInt8} {x:EnS} (h:chkE x≠0):appJ s x=([],chkE x):=by unfold appJ;rw[if_pos h]
theorem WW {t:List UInt8} (h:Er t):chkE ⟨4,t⟩=0:=by
 have hl:t.length<=16:=h.2.2
 unfold chkE
 rw[if_neg (by intro h;exact h ⟨show(1:Int)<=4 by decide,show(4:Int)<=6 by decide⟩),if_neg (show¬65536<t.length by omega),if_neg (show¬(4:Int)=1 by decide),if_neg (show¬(4:Int)=2 by decide),if_neg (show¬(4:Int)=3 by decide),if_pos (show(4:Int)=4 from rfl),if_pos h]
def exE:EnS:=⟨4,[67,49]⟩
theorem X5:chkE exE=0:=WW (by decide)
theorem Qk:A7 [exE]=[50,58,52,58,67,49,10]:=by
 have e1:itoa (([67,49]:List UInt8).length:Nat)=[50]:=XT
 have e2:itoa 4=[52]:=Fx (n:=4) (by decide)
 show Bv exE++[]=_
 unfold Bv exE
 rw[e1,e2]
 rfl
theorem XO:BY [51,58,52,58,67]=(noE,0,1):=by
 have e1:itoa (([67,49,50]:List UInt8).length:Nat)=[51]:=Fx (n:=3) (by decide)
 have e2:itoa 4=[52]:=Fx (n:=4) (by decide)
 have h:Bv ⟨4,[67,49,50]⟩=[51,58,52,58,67,49,50,10]:=by
  unfold Bv
  rw[e1,e2]
  rfl
 have:=Y0 (x:=⟨4,[67,49,50]⟩) (m:=5) (show(1:Int)<=4 by decide) (show(4:Int)<=6 by decide) (show[67,49,50].length<=65536 by decide) (by decide) (by rw[h];decide)
 rwa [h] at this
theorem ZJ: ∀x∈[exE],chkE x=0:=fun x hx=>by
 obtain rfl:=List.mem_singleton.1 hx
 exact X5
theorem Xl:readJ [50,58,52,58,67,49,10,51,58,52,58,67]=([exE],7,0):=by
 have:=NQ (l:=[exE]) (r:=[51,58,52,58,67]) (.inr XO) ZJ (by rw[Qk];decide)
 rw[Qk] at this
 exact this
theorem aJ:appJ [] exE=([50,58,52,58,67,49,10],0):=by
 have:=XL (l:=[]) (x:=exE) (fun x hx=>by cases hx) (fun x hx=>by cases hx) (.inl (by decide)) (by decide) X5
 rw[show A7 ([]++[exE])=A7 [exE] from rfl,Qk] at this
 exact this
theorem FY (W:World) (hv:AQ W) (ht:AZ W) (hw:Bo W):Ag Tryz.prog 7 #[] W (fun _:Unit=> .bool true) (fun _=>True) (fun _=>[]):=by
 refine Ab Tryz.func7 I I I<|xb<|wP I<|xg<|Ak Tryz.hZ tH I I I I I I I I ?_
 refine BK (v:= .tuple #[str [50,58,52,58,67,49,10], .int .i64 0]) I I I I I I (by kernel_rfl) (fun W1 hp=>by
  have:=HH [] (by decide) exE (by decide) W1 (hv.hp hp) (ht.hp hp) (hw.hp hp)
  rw[aJ] at this
  exact this) ?_
 refine A8 I<|xg<|wP I<|DR (a:=[50,58,52,58,67,49,10]) (b:=[51,58,52,58,67]) I I I I I (by decide) (by decide) ?_
 refine wD (X:=Vec) I I (fun W1 hp=>GH [50,58,52,58,67,49,10,51,58,52,58,67] (by decide) W1 (hv.hp hp) (ht.hp hp) (hw.hp hp)) ?_
 intro V hV
 rw[Xl] at hV⊢
 have hV:V.OK 2 1 ([exE].flatMap enC):=hV
 refine Bb I<|wP I<|xg<|?_
 iterate 9 refine wP I ?_
 refine wU 26 true I ((Hk _ _).trans (dT I))<|Bb I<|wP I<|Ak Tryz.hZ tH I I I I I I I I ?_
 (refine Ai Tryz.hZ tH rfl rfl rfl rfl rfl rfl rfl rfl rfl rfl rfl ?_;intro)
 rename_i bs
 exact wC I I (fun W1 hp=>Pm [exE] [exE] (AU V) (some ⟨bs,0,none⟩) (Bd V) 1 (by decide) W1 (EI Ij hp 0 hV I) (AB.of_row (junk:=[]) Ij (Al.of_bx hp 1 I I)))<|wU 36 true I (dT I)<|Aa I<|xc<|wR1 I I I
theorem I6 (l:List EnS) (p:Option Addr) (cap:Nat) (hn:l.length<=10) (ho: ∀x∈l,KO x) (hl: ∀x∈l,x.t.length<=1000000000) (W:World) (hA:AB 2 enC W p l) (hv:AQ W) (ht:AZ W) (hw:Bo W):
  Ag Tryz.prog 8 #[slv p l.length cap] W (fun V:Vec=> .tuple #[str (A7 (okL l)),slv (AU V) (okL l).length (Bd V)]) (fun V=>V.OK 2 (okL l).length ((okL l).flatMap enC)) (fun V=>[V.bx 31 ((okL l).flatMap enC)]):=by
 refine Ab Tryz.func8 I I I<|xb<|Aa I<|xg<|wP I<|xg<|wP I<|xa<|xd<|Ae I<|zC<|?_
 refine zE<|zH<|Be ?_
 refine A6 (X:=Nat×Vec) (fun x=>[(4,str (A7 (okL (l.take x.1)))),(5,slv (AU x.2) (okL (l.take x.1)).length (Bd x.2)),(10,slv p l.length cap),(11, .int .i64 (l.length:Nat)),(12, .int .i64 (x.1:Nat))]) (fun x=>[x.2.bx 31 ((okL (l.take x.1)).flatMap enC)])
  (fun x=>x.1<=l.length/\x.2.OK 2 (okL (l.take x.1)).length ((okL (l.take x.1)).flatMap enC)) (fun x=>l.length-x.1) (0,Vec.empty) ⟨Nat.zero_le _,Vec.OK.empty 2⟩ ⟨rfl,rfl,rfl,rfl,rfl,trivial⟩ [] rfl ?_
 rintro⟨i,V⟩ ⟨hi,hV⟩
 have hi:i<=l.length:=hi
 have hV:V.OK 2 (okL (l.take i)).length ((okL (l.take i)).flatMap enC):=hV
 refine xb<|wP I<|?_
 by_cases hlt:i<l.length
 rotate_left
 ·have e:i=l.length:=by omega
  subst e
  refine wU 13 false I (dF (by omega))<|zC<|?_
  rw[List.take_length] at hV
  exact zE<|zA<|zS I<|xf<|xe<|A3 I<|xc<|An tH I (.tmp I) (.tmp I) V (by rw[List.take_length]) hV fun W1 hp=>by rw[List.take_length] at hp;exact hp.own
 refine wU 13 true I (dT (show((i:Nat):Int)<(l.length:Nat) by omega))<|xa<|zA<|zR I<|xh<|?_
 obtain⟨b,off,rfl,hrow⟩:=hA.row hlt
 have hri:=hrow i hlt
 have hxo:=ho _ (List.getElem_mem hlt)
 have hxl:=hl _ (List.getElem_mem hlt)
 have hS:okL (l.take (i+1))=if chkE l[i]=0 then okL (l.take i)++[l[i]] else okL (l.take i):=by rw[List.take_succ_eq_append_getElem hlt,Xx]
 have hcO: ∀y∈okL (l.take i),chkE y=0:=fun y hy=>(La.1 hy).2
 have hoO: ∀y∈okL (l.take i),KO y:=fun y hy=>ho y (List.mem_of_mem_take (La.1 hy).1)
 have hnO:(okL (l.take i)).length<=10:=by
  have h1:=U6 (l.take i)
  rw[List.length_take] at h1
  omega
 obtain⟨x,hx⟩: ∃x,x=l[i]:=⟨_,rfl⟩
 obtain⟨own,hown⟩: ∃o,o=okL (l.take i):=⟨_,rfl⟩
 rw[<-hx] at hri hxo hxl hS
 rw[<-hown] at hS hcO hoO hnO hV⊢
 have hL:=Js hcO hoO
 refine wJ ?_
 refine wL 0 I I (fun W1 hp=>hri.hp hp) I<|wG I I fun _=>wS 1 I I I<|xg<|wP I<|wB 1 I I I<|wC I I (fun W1 hp=>HH (A7 own) (by omega) x hxl W1 (hv.hp hp) (ht.hp hp) (hw.hp hp))<|?_
 by_cases hc:chkE x=0
 ·rw[if_pos hc] at hS
  rw[XL hcO hoO hxo (by omega) hc]
  refine A8 I<|xg<|Aa I<|xa<|zR I<|zB<|Aa I<|wB 1 I I I<|?_
  (refine Ai Tryz.hZ tH rfl rfl rfl rfl rfl rfl rfl rfl rfl rfl rfl ?_;intro)
  refine AA (V:=V) (len:=own.length) (xs:=own.flatMap enC) 0 2 Tryz.vec22 (own++[x]).length ((own++[x]).flatMap enC) I I I I I I I I I (congrArg some (Bs hV).symm) I hV I I (by rw[List.length_append];rfl) (by rw[CV];rfl) (by rw[List.length_append,List.length_singleton];simp only[maxLen];omega) (by rw[List.length_append,List.length_singleton];omega) I ?_
  intro g1 c1 j1 hV1
  refine Aa I<|zC<|xj<|wP I<|wV 29 ((i+1:Nat):Int) I (Az (by omega))<|wP I<|zC<|?_
  rw[<-hS] at hV1⊢
  exact Ax (i+1,⟨some g1,c1,j1⟩) ⟨hlt,hV1⟩ (by show l.length-(i+1)<l.length-i;omega) ⟨I,I,I,I,I,tO⟩ [_,_] I
 ·rw[if_neg hc] at hS
  rw[cZ hc]
  refine A8 I<|xg<|Aa I<|wU 23 false I (beq_eq_false_iff_ne.2 hc)<|xa<|zS I<|zI<|xj<|wP I<|wV 29 ((i+1:Nat):Int) I (Az (by omega))<|wP I<|zC<|?_
  rw[<-hS] at hV⊢
  exact Ax (i+1,V) ⟨hlt,hV⟩ (by show l.length-(i+1)<l.length-i;omega) ⟨I,I,I,I,I,tO⟩ [_] I
theorem XZ {l:List EnS} (h: ¬Mt l) (hn:l.length<=10): ∀x∈l,KO x/\x.t.length<=65538:=fun x hx=>by
 obtain⟨i,hi,rfl⟩:=List.getElem_of_mem hx
 have h1: ¬grT (l.getD i default).t.length:=fun hg=>h (.inr ⟨i,hi,by omega,hg⟩)
 have e:l.getD i default=l[i]:=by rw[List.getD_eq_getElem?_getD,List.getElem?_eq_getElem hi];rfl
 rw[e] at h1
 unfold grT at h1
 exact⟨by unfold KO;omega,by omega⟩
theorem Za {l:List EnS} (ho: ∀x∈l,KO x/\x.t.length<=65538):(∀x∈okL l,chkE x=0)/\(∀x∈okL l,KO x):=⟨fun _ hx=>(La.1 hx).2,fun x hx=>(ho x (La.1 hx).1).1⟩
abbrev GB (V:Vec) (l:List EnS):Bx:=V.bx 31 (l.flatMap enC)
theorem QQ {α:Type} {k:Nat} {c:α->List Value} {W:World} {p:Option Addr} {l:List α} (h:AB k c W p l) (j:Nat):AB k c W p (l.take j):=by
 rcases h with h|⟨b,off,e,hr⟩
 ·subst h;exact .inl (List.take_nil)
 ·refine .inr ⟨b,off,e,fun i hi=> ?_⟩
  rw[List.getElem_take]
  rw[List.length_take] at hi
  exact hr i (by omega)
theorem SV (a b:List UInt8):hasPrefix (a++b) a=true:=by
 unfold hasPrefix
 rw[List.isPrefixOf_iff_prefix]
 exact List.prefix_append a b
end
end Go.Proofs.YtidgbjcdppjknaaGreatDoor
