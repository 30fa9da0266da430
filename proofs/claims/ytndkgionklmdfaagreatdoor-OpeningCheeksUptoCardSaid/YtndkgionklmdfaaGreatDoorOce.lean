/-
  Lemmas that the theorem openingCheeks_upto_card needs (part 5 of 8).
-/
import Derived.Test.YtndkgionklmdfaaGreatDoorOcd
set_option maxHeartbeats 64000000
namespace Go.Proofs.YtndkgionklmdfaaGreatDoor
section
open Go Go.RowKit Go.Am
set_option maxRecDepth 10000
def axR (l:List Sd) (i:Nat):Bool:=w64 (w64 (NI l i*NI l i)+w64 (NO l i*NO l i))==1
def okR (l:List Sd) (i:Nat):Bool:=axR l i&& !(Le l i==0)
def Jl (l:List Sd):Bool:=(List.range l.length).all (okR l)&&decide (l.length≥4)
theorem ND {l:List Sd} {k:Nat} (hk:k<l.length) (h:okR l k=false):Jl l=false:=by
 unfold Jl
 rw[BH hk h];rfl
theorem Oo (W:World) (p:Option Addr) (cap:Nat) (l:List Sd) (hn:l.length<4611686018427387904) (hR:Cc W p l):
  Ad Tryz.prog 47 #[slv p l.length cap] W (fun _:Unit=> .bool (Jl l)) (fun _=>True) (fun _=>[]):=by
 refine Ab (args:=[slv p l.length cap]) Tryz.func47 I I I (zA (zB (wP I (Aa (zE (zA (zA (zB (wP I (Aa (zE (zH (Ar (X:=Nat) (fun k=>[(0,slv p l.length cap),(3, .int .i64 (k:Nat))]) (fun _=>[]) (fun k=>k<=l.length/\ ∀i,i<k->okR l i=true) (fun k=>l.length-k) 0 ⟨Nat.zero_le _,fun i hi=>absurd hi (Nat.not_lt_zero _)⟩ ⟨I,I,tO⟩ [] I ?_)))))))))))))
 rintro k ⟨hk,hok⟩
 refine zA (zA (zB (wP I (wP I (wP I (wP I (Aa (zE (Ah I (fun h=> ?_) (fun h=> ?_))))))))))
 rotate_left
 ·have e:k=l.length:=by simp at h;omega
  subst e
  refine zJ (zK (zK (zL (zE (zA (zB (wP I (wP I (wP I (wP I (Aa (zE (zO ?_)))))))))))))
  have hall:(List.range l.length).all (okR l)=true:=List.all_eq_true.2 fun i hi=>hok i (List.mem_range.1 hi)
  have e:Jl l=decide ((l.length:Int)≥4):=by
   unfold Jl
   rw[hall,Bool.true_and]
   by_cases h4:l.length≥4
   ·rw[dT h4,dT (by omega)]
   ·rw[dF h4,dF (by omega)]
  exact wR1 I I (by rw[e])
 have hk:k<l.length:=by simp at h;omega
 clear h
 refine zI (zE (zA (zH (zA (zB (wP I (wP I (wC I I (fun W hp=>Fg W _ cap l k hn (hR.hp hp) hk) (wP I (wP I (wP I (wP I (wP I (Aa (zE (zA (zB ?_)))))))))))))))))
 iterate 9 refine wP I ?_
 refine AG 26 I (fun h26=> ?_) (fun h26=> ?_)
 ·refine Ae I I ?_
  iterate 3 refine Ae I I ?_
  refine wP I (Aa (zE (zR I (zA (zB (wP I (Aa (zE (zO (zQ (zP (zP (zQ (zP ?_))))))))))))))
  have h':(w64 (w64 (NI l k*NI l k)+w64 (NO l k*NO l k)) !=1)=true:=h26
  have hf:okR l k=false:=by unfold okR axR;rw[bne_iff_ne] at h';rw[beq_eq_false_iff_ne.2 h'];rfl
  exact wR1 I I (by rw[ND hk hf])
 ·refine wP I (wP I (wC I I (fun W hp=>Nc W _ cap l k hn (hR.hp hp) hk) (wP I (wP I (Aa ?_)))))
  have h':(w64 (w64 (NI l k*NI l k)+w64 (NO l k*NO l k)) !=1)=false:=h26
  have ha:axR l k=true:=by unfold axR;rw[bne_eq_false_iff_eq] at h';rw[beq_iff_eq];exact h'
  refine zE (Ah I (fun h=> ?_) (fun h=> ?_))
  ·refine zA (zB (wP I (Aa (zE (zO (zQ (zP (zP (zQ (zP ?_))))))))))
   have hf:okR l k=false:=by unfold okR;rw[show(Le l k==0)=true from h,Bool.not_true,Bool.and_false]
   exact wR1 I I (by rw[ND hk hf])
  ·have hf:okR l k=true:=by unfold okR;rw[ha,show(Le l k==0)=false from h];rfl
   refine zI (zN (zE (zB (wP I (wP I (wP I (Aa (Aj (k+1) ⟨hk,fun i hi=> ?_⟩ (by omega) ⟨I,congrArg (fun z=>some (Value.int .i64 z)) (AF (x:=(k:Int)+1) (by omega) (by omega)),tO⟩ [] I))))))))
   by_cases e:i=k
   ·subst e;exact hf
   ·exact hok i (by omega)
theorem I1 (W:World) (p q:Option Addr) (cap caq:Nat) (l m:List Sd) (i k:Nat) (hn:l.length<4611686018427387904) (hm:m.length<4611686018427387904) (hR:Cc W p l) (hS:Cc W q m) (hi:i<l.length) (hk:k<m.length):
  Ad Tryz.prog 118 #[slv p l.length cap, .int .i64 (i:Nat),slv q m.length caq, .int .i64 (k:Nat)] W (fun _:Unit=> .bool (E9 (sd l i) (sd l (nxt l.length i)) (sd m k) (sd m (nxt m.length k)))) (fun _=>True) (fun _=>[]):=by
 obtain⟨b,off,rfl,hrow⟩:=hR.row hi
 obtain⟨b',off',rfl,hrow'⟩:=hS.row hk
 refine Ab (args:=[slv (some ⟨b,off,none⟩) l.length cap, .int .i64 (i:Nat),slv (some ⟨b',off',none⟩) m.length caq, .int .i64 (k:Nat)]) Tryz.func118 I I I (zA (zB (wP I (Aa (zE (zA (zB (wP I (wP I (wC I I (fun W hp=>GU W _ cap l i hn (hR.hp hp) hi) (wP I (wP I (wP I (wP I (wP I (Aa (zE (zA (zB (wP I (wP I (wC I I (fun W hp=>GU W _ caq m k hm (hS.hp hp) hk) (wP I (wP I (wP I (wP I (wP I ?_)))))))))))))))))))))))))))
 refine Aa ?_
 obtain⟨B1,e1⟩: ∃b,decide (lox (sd l i) (sd l (nxt l.length i))<=hix (sd m k) (sd m (nxt m.length k)))=b:=⟨_,rfl⟩
 obtain⟨B2,e2⟩: ∃b,decide (lox (sd m k) (sd m (nxt m.length k))<=hix (sd l i) (sd l (nxt l.length i)))=b:=⟨_,rfl⟩
 obtain⟨B3,e3⟩: ∃b,decide (loy (sd l i) (sd l (nxt l.length i))<=hiy (sd m k) (sd m (nxt m.length k)))=b:=⟨_,rfl⟩
 obtain⟨B4,e4⟩: ∃b,decide (loy (sd m k) (sd m (nxt m.length k))<=hiy (sd l i) (sd l (nxt l.length i)))=b:=⟨_,rfl⟩
 have hM:E9 (sd l i) (sd l (nxt l.length i)) (sd m k) (sd m (nxt m.length k))=(B1&&B2&&B3&&B4):=by unfold E9;rw[e1,e2,e3,e4]
 refine zE (zA (zU (qP I (qP I (qJ ?_)))))
 refine qP I (qL 0 I I (fun W hp=>(hrow i hi).hp hp) I (qP I (qP I (qP I (qP I (qJ ?_))))))
 refine qP I (qL 0 I I (fun W hp=>(hrow' k hk).hp hp) I (qP I (qP I (qP I (qP I (Hz 40 I (fun h40=> ?_) (fun h40=> ?_)))))))
 ·refine qP I (qP I (qJ ?_))
  refine qP I (qL 0 I I (fun W hp=>(hrow' k hk).hp hp) I (qP I (qP I (qP I (qP I (qJ ?_))))))
  refine qP I (qL 0 I I (fun W hp=>(hrow i hi).hp hp) I (qP I (qP I (qP I (qP I (qP I (Hz 57 I (fun h57=> ?_) (fun h57=> ?_))))))))
  ·refine qP I (qP I (qJ ?_))
   refine qP I (qL 1 I I (fun W hp=>(hrow i hi).hp hp) I (qP I (qP I (qP I (qP I (qJ ?_))))))
   refine qP I (qL 1 I I (fun W hp=>(hrow' k hk).hp hp) I (qP I (qP I (qP I (qP I (qP I (Hz 74 I (fun h74=> ?_) (fun h74=> ?_))))))))
   ·refine qP I (qP I (qJ ?_))
    refine qP I (qL 1 I I (fun W hp=>(hrow' k hk).hp hp) I (qP I (qP I (qP I (qP I (qJ ?_))))))
    exact qP I (qL 1 I I (fun W hp=>(hrow i hi).hp hp) I (qP I (qP I (qP I (qP I (qP I (A8 (Aa (zE (zO (wR1 I I (by rw[hM,show B1=true from e1.symm.trans h40,show B2=true from e2.symm.trans h57,show B3=true from e3.symm.trans h74];exact congrArg Value.bool e4))))))))))))
   ·refine Cg I I ?_
    iterate 14 refine Cg I I ?_
    refine qP I (qP I (A8 (Aa (zE (zO ?_)))))
    have e:(B1&&B2&&B3&&B4)=false:=by first|(rw[show B1=false from e1.symm.trans h40];rfl)|(rw[show B2=false from e2.symm.trans h57];cases B1<;>rfl)|(rw[show B3=false from e3.symm.trans h74];cases B1<;>cases B2<;>rfl)
    exact wR1 I I (by rw[hM,e])
  ·refine Cg I I ?_
   iterate 14 refine Cg I I ?_
   refine qP I (qP I ?_)
   iterate 15 refine Cg I I ?_
   refine qP I (qP I (A8 (Aa (zE (zO ?_)))))
   have e:(B1&&B2&&B3&&B4)=false:=by first|(rw[show B1=false from e1.symm.trans h40];rfl)|(rw[show B2=false from e2.symm.trans h57];cases B1<;>rfl)|(rw[show B3=false from e3.symm.trans h74];cases B1<;>cases B2<;>rfl)
   exact wR1 I I (by rw[hM,e])
 ·refine Cg I I ?_
  iterate 14 refine Cg I I ?_
  refine qP I (qP I ?_)
  iterate 15 refine Cg I I ?_
  refine qP I (qP I ?_)
  iterate 15 refine Cg I I ?_
  refine qP I (qP I (A8 (Aa (zE (zO ?_)))))
  have e:(B1&&B2&&B3&&B4)=false:=by first|(rw[show B1=false from e1.symm.trans h40];rfl)|(rw[show B2=false from e2.symm.trans h57];cases B1<;>rfl)|(rw[show B3=false from e3.symm.trans h74];cases B1<;>cases B2<;>rfl)
  exact wR1 I I (by rw[hM,e])
def L3 (t u:Sd) (px py:Int):Bool:=(t.x==u.x)&&decide (u.x>px)&&decide (loy t u<=py)&&decide (py<hiy t u)
def GI (l:List Sd) (px py:Int):Nat->Bool
 |0=>false
 |k+1=>if L3 (sd l k) (sd l (nxt l.length k)) px py=true then !GI l px py k else GI l px py k
theorem O3 (W:World) (p:Option Addr) (cap:Nat) (l:List Sd) (px py:Int) (hn:l.length<4611686018427387904) (hR:Cc W p l):
  Ad Tryz.prog 120 #[slv p l.length cap, .int .i64 px, .int .i64 py] W (fun _:Unit=> .bool (GI l px py l.length)) (fun _=>True) (fun _=>[]):=by
 refine Ab (args:=[slv p l.length cap, .int .i64 px, .int .i64 py]) Tryz.func120 I I I (zA (zB (wP I (Aa (zE (zA (zB (wP I (Aa (zE (zA (zA (zB (wP I (Aa (zE (zH (Ar (X:=Nat) (fun k=>[(0,slv p l.length cap),(1, .int .i64 px),(2, .int .i64 py),(7, .bool (GI l px py k)),(8, .int .i64 (k:Nat))]) (fun _=>[]) (fun k=>k<=l.length) (fun k=>l.length-k) 0 (Nat.zero_le _) ⟨I,I,I,I,I,tO⟩ [] I ?_))))))))))))))))))
 intro k hk
 refine zA (zA (zB (wP I (wP I (wP I (wP I (Aa (zE (Ah I (fun h=> ?_) (fun h=> ?_))))))))))
 rotate_left
 ·have e:k=l.length:=by simp at h;omega
  subst e
  exact zJ (zK (zK (zL (zE (zA (zB (wP I (wP I (Aa (zE (zO (wR1 I I I))))))))))))
 have hk:k<l.length:=by simp at h;omega
 clear h
 obtain⟨b,off,rfl,hrow⟩:=hR.row hk
 refine zI (zE (zA (zH (zA (zB (wP I (wP I (wC I I (fun W hp=>GU W _ cap l k hn (hR.hp hp) hk) (wP I (wP I (wP I (wP I (wP I (Aa ?_))))))))))))))
 obtain⟨B1,e1⟩: ∃b,((sd l k).x==(sd l (nxt l.length k)).x)=b:=⟨_,rfl⟩
 obtain⟨B2,e2⟩: ∃b,decide ((sd l (nxt l.length k)).x>px)=b:=⟨_,rfl⟩
 obtain⟨B3,e3⟩: ∃b,decide (loy (sd l k) (sd l (nxt l.length k))<=py)=b:=⟨_,rfl⟩
 obtain⟨B4,e4⟩: ∃b,decide (py<hiy (sd l k) (sd l (nxt l.length k)))=b:=⟨_,rfl⟩
 have hM:L3 (sd l k) (sd l (nxt l.length k)) px py=(B1&&B2&&B3&&B4):=by unfold L3;rw[e1,e2,e3,e4]
 have no:(B1&&B2&&B3&&B4)=false->GI l px py (k+1)=GI l px py k:=fun h=>by
  show(if L3 (sd l k) (sd l (nxt l.length k)) px py=true then !GI l px py k else GI l px py k)=_
  rw[hM,h,if_neg (by decide)]
 have yes:(B1&&B2&&B3&&B4)=true->GI l px py (k+1)= !GI l px py k:=fun h=>by
  show(if L3 (sd l k) (sd l (nxt l.length k)) px py=true then !GI l px py k else GI l px py k)=_
  rw[hM,h,if_pos rfl]
 refine zE (zA (zB (wP I (wP I (wJ ?_)))))
 refine wP I (wL 0 I I (fun W hp=>(hrow k hk).hp hp) I (wP I (wP I (wP I (AG 30 I (fun h30=> ?_) (fun h30=> ?_))))))
 ·refine wP I (wP I (wP I (wP I (wP I (AG 35 I (fun h35=> ?_) (fun h35=> ?_))))))
  ·refine wP I (wP I (wJ ?_))
   refine wP I (wL 1 I I (fun W hp=>(hrow k hk).hp hp) I (wP I (wP I (wP I (wP I (wP I (wP I (AG 46 I (fun h46=> ?_) (fun h46=> ?_)))))))))
   ·refine wP I (wP I (wP I (wJ ?_)))
    refine wP I (wL 1 I I (fun W hp=>(hrow k hk).hp hp) I (wP I (wP I (wP I (wP I (Aa ?_))))))
    have e:(B1&&B2&&B3&&B4)=B4:=by rw[show B1=true from e1.symm.trans h30,show B2=true from e2.symm.trans h35,show B3=true from e3.symm.trans h46];rfl
    refine zE (Ah I (fun h=> ?_) (fun h=> ?_))
    ·have e5:(B1&&B2&&B3&&B4)=true:=e.trans (e4.symm.trans h)
     exact zB (wP I (wP I (wP I (Aa (zN (zE (zB (wP I (wP I (wP I (Aa (Aj (k+1) hk (by omega) ⟨I,I,I,congrArg (fun z=>some (Value.bool z)) (yes e5).symm,congrArg (fun z=>some (Value.int .i64 z)) (AF (x:=(k:Int)+1) (by omega) (by omega)),tO⟩ [] I))))))))))))
    ·have e5:(B1&&B2&&B3&&B4)=false:=e.trans (e4.symm.trans h)
     exact zI (zN (zE (zB (wP I (wP I (wP I (Aa (Aj (k+1) hk (by omega) ⟨I,I,I,congrArg (fun z=>some (Value.bool z)) (no e5).symm,congrArg (fun z=>some (Value.int .i64 z)) (AF (x:=(k:Int)+1) (by omega) (by omega)),tO⟩ [] I))))))))
   ·refine Ae I I ?_
    iterate 8 refine Ae I I ?_
    refine wP I (Aa ?_)
    have e:(B1&&B2&&B3&&B4)=false:=by first|(rw[show B1=false from e1.symm.trans h30];rfl)|(rw[show B2=false from e2.symm.trans h35];cases B1<;>rfl)|(rw[show B3=false from e3.symm.trans h46];cases B1<;>cases B2<;>rfl)
    exact zE (zS I (zI (zN (zE (zB (wP I (wP I (wP I (Aa (Aj (k+1) hk (by omega) ⟨I,I,I,congrArg (fun z=>some (Value.bool z)) (no e).symm,congrArg (fun z=>some (Value.int .i64 z)) (AF (x:=(k:Int)+1) (by omega) (by omega)),tO⟩ [] I))))))))))
  ·refine Ae I I ?_
   iterate 8 refine Ae I I ?_
   refine wP I (wP I ?_)
   iterate 9 refine Ae I I ?_
   refine wP I (Aa ?_)
   have e:(B1&&B2&&B3&&B4)=false:=by first|(rw[show B1=false from e1.symm.trans h30];rfl)|(rw[show B2=false from e2.symm.trans h35];cases B1<;>rfl)|(rw[show B3=false from e3.symm.trans h46];cases B1<;>cases B2<;>rfl)
   exact zE (zS I (zI (zN (zE (zB (wP I (wP I (wP I (Aa (Aj (k+1) hk (by omega) ⟨I,I,I,congrArg (fun z=>some (Value.bool z)) (no e).symm,congrArg (fun z=>some (Value.int .i64 z)) (AF (x:=(k:Int)+1) (by omega) (by omega)),tO⟩ [] I))))))))))
 ·refine Ae I I ?_
  iterate 2 refine Ae I I ?_
  refine wP I (wP I ?_)
  iterate 9 refine Ae I I ?_
  refine wP I (wP I ?_)
  iterate 9 refine Ae I I ?_
  refine wP I (Aa ?_)
  have e:(B1&&B2&&B3&&B4)=false:=by first|(rw[show B1=false from e1.symm.trans h30];rfl)|(rw[show B2=false from e2.symm.trans h35];cases B1<;>rfl)|(rw[show B3=false from e3.symm.trans h46];cases B1<;>cases B2<;>rfl)
  exact zE (zS I (zI (zN (zE (zB (wP I (wP I (wP I (Aa (Aj (k+1) hk (by omega) ⟨I,I,I,congrArg (fun z=>some (Value.bool z)) (no e).symm,congrArg (fun z=>some (Value.int .i64 z)) (AF (x:=(k:Int)+1) (by omega) (by omega)),tO⟩ [] I))))))))))
end
section
open Go Go.RowKit Go.Am
theorem CA {f:Nat->Int}: ∀n,(∀i,i<n->f i=0)->AI f n=0
 |0,_=>rfl
 |n+1,h=>by
  show AI f n+f n=0
  rw[CA n (fun i hi=>h i (by omega)),h n (by omega)];rfl
theorem KN {f:Nat->Int} {j:Nat}: ∀n,j<n->(∀i,i<n->i≠j->f i=0)->AI f n=f j
 |0,hj,_=>absurd hj (Nat.not_lt_zero _)
 |n+1,hj,h=>by
  show AI f n+f n=f j
  by_cases e:j=n
  ·subst e
   rw[CA j (fun i hi=>h i (by omega) (by omega))];omega
  ·rw[KN n (by omega) (fun i hi=>h i (by omega)),h n (by omega) (fun x=>e x.symm)];omega
theorem Dx (f g:Nat->Int): ∀n,AI (fun i=>f i-g i) n=AI f n-AI g n
 |0=>rfl
 |n+1=>by
  show AI _ n+(f n-g n)=AI f n+f n-(AI g n+g n)
  rw[Dx f g n];omega
theorem Jy (f:Nat->Nat->Int) (m:Nat): ∀n,AI (fun i=>AI (fun j=>f i j) m) n=AI (fun j=>AI (fun i=>f i j) n) m
 |0=>(CA m (fun _ _=>rfl)).symm
 |n+1=>by
  show AI _ n+AI (fun j=>f n j) m=AI (fun j=>AI (fun i=>f i j) n+f n j) m
  rw[Jy f m n,ON]
theorem Hj {f:Nat->Int}: ∀n,(∀i,i<n->0<=f i)->0<=AI f n
 |0,_=>Int.le_refl _
 |n+1,h=>by
  have h1:=Hj n (fun i hi=>h i (by omega))
  have h2:=h n (by omega)
  show 0<=AI f n+f n
  omega
theorem KD {f:Nat->Int} {j:Nat}: ∀n,(∀i,i<n->0<=f i)->j<n->0<f j->0<AI f n
 |0,_,hj,_=>absurd hj (Nat.not_lt_zero _)
 |n+1,h,hj,h0=>by
  have h1:=Hj n (fun i hi=>h i (by omega))
  have h2:=h n (by omega)
  show 0<AI f n+f n
  by_cases e:j=n
  ·subst e;omega
  ·have:=KD n (fun i hi=>h i (by omega)) (show j<n by omega) h0
   omega
def ind (a b:Int):Int:=if a>b then 1 else 0
theorem D0 (a b:Int):(ind a b=1/\a>b)\/(ind a b=0/\a<=b):=by
 unfold ind
 by_cases h:a>b
 ·rw[if_pos h];exact .inl ⟨rfl,h⟩
 ·rw[if_neg h];exact .inr ⟨rfl,by omega⟩
theorem FI {a b:Int} (h:a>b):ind a b=1:=if_pos h
theorem FK {a b:Int} (h:a<=b):ind a b=0:=if_neg (by omega)
theorem UB {a:Int} (h:0<=a): ∀m:Nat,AI (fun x=>ind a x) m=if a<=m then a else m
 |0=>by
  show(0:Int)=_
  split<;>omega
 |m+1=>by
  show AI (fun x=>ind a x) m+ind a m=_
  rw[UB h m]
  rcases D0 a m with⟨e,h1⟩|⟨e,h1⟩<;>rw[e]<;>split<;>split<;>omega
theorem KO {a:Int} {m:Nat} (h:0<=a) (h2:a<=m):AI (fun x=>ind a x) m=a:=by rw[UB h,if_pos h2]
def On (σ:Nat->Nat) (X Y:Nat->Int) (k:Nat) (px py:Int):Prop:=
 (X k<=px\/X (σ k)<=px)/\(px<=X k\/px<=X (σ k))/\(Y k<=py\/Y (σ k)<=py)/\(py<=Y k\/py<=Y (σ k))
structure Net (T:Nat) (σ:Nat->Nat) (X Y:Nat->Int):Prop where
 lt: ∀k,k<T->σ k<T
 sum: ∀f:Nat->Int,AI (fun k=>f (σ k)) T=AI f T
 side: ∀k,k<T->(X (σ k)=X k/\Y (σ k)≠Y k)\/(Y (σ k)=Y k/\X (σ k)≠X k)
 alt: ∀k,k<T->(X (σ k)=X k↔Y (σ (σ k))=Y (σ k))
 free: ∀j k,j<T->k<T-> ∀px py,On σ X Y j px py->On σ X Y k px py->j=k\/j=σ k\/k=σ j
def Wn (T:Nat) (σ:Nat->Nat) (X Y:Nat->Int) (x y:Int):Int:=AI (fun k=>ind (X k) x*(ind (Y (σ k)) y-ind (Y k) y)) T
def Vd (σ:Nat->Nat) (X Y:Nat->Int) (x y:Int) (k:Nat):Int:=(ind (X k) (x-1)-ind (X k) x)*(ind (Y (σ k)) y-ind (Y k) y)
def Hd (σ:Nat->Nat) (X Y:Nat->Int) (x y:Int) (k:Nat):Int:=(ind (X (σ k)) x-ind (X k) x)*(ind (Y (σ k)) (y-1)-ind (Y (σ k)) y)
def LC (σ:Nat->Nat) (X Y:Nat->Int) (k:Nat) (x y:Int):Prop:=
 (Y k<Y (σ k)/\x=X k-1/\Y k<=y/\y<Y (σ k))\/(Y (σ k)<Y k/\x=X k/\Y (σ k)<=y/\y<Y k)\/
 (X k<X (σ k)/\y=Y k/\X k<=x/\x<X (σ k))\/(X (σ k)<X k/\y=Y k-1/\X (σ k)<=x/\x<X k)
def RC (σ:Nat->Nat) (X Y:Nat->Int) (k:Nat) (x y:Int):Prop:=
 (Y k<Y (σ k)/\x=X k/\Y k<=y/\y<Y (σ k))\/(Y (σ k)<Y k/\x=X k-1/\Y (σ k)<=y/\y<Y k)\/
 (X k<X (σ k)/\y=Y k-1/\X k<=x/\x<X (σ k))\/(X (σ k)<X k/\y=Y k/\X (σ k)<=x/\x<X k)
def Lv (T:Nat) (σ:Nat->Nat) (X Y:Nat->Int) (k:Nat) (L:Int):Prop:=
 (∀x y,LC σ X Y k x y->Wn T σ X Y x y=L)/\ ∀x y,RC σ X Y k x y->Wn T σ X Y x y=L-1
section
variable {T:Nat} {σ:Nat->Nat} {X Y:Nat->Int}
theorem Yn (x y:Int):Wn T σ X Y (x-1) y-Wn T σ X Y x y=AI (Vd σ X Y x y) T:=by
 unfold Wn
 rw[<-Dx]
 exact BT T fun k _=>by unfold Vd;rw[Int.sub_mul]
theorem bM (N:Net T σ X Y) (x y:Int):Wn T σ X Y x y-Wn T σ X Y x (y-1)=AI (Hd σ X Y x y) T:=by
 have h1:=N.sum fun k=>ind (X k) x*(ind (Y k) (y-1)-ind (Y k) y)
 unfold Wn
 rw[<-Dx]
 have h2:AI (fun i=>ind (X i) x*(ind (Y (σ i)) y-ind (Y i) y)-ind (X i) x*(ind (Y (σ i)) (y-1)-ind (Y i) (y-1))) T=
   AI (fun k=>ind (X k) x*(ind (Y k) (y-1)-ind (Y k) y)-ind (X k) x*(ind (Y (σ k)) (y-1)-ind (Y (σ k)) y)) T:=
  BT T fun k _=>by simp only[Int.mul_sub];omega
 rw[h2,Dx, <-h1, <-Dx]
 exact BT T fun k _=>by unfold Hd;rw[Int.sub_mul]
theorem Wr {x y:Int} {k:Nat} (h:Vd σ X Y x y k≠0):X k=x/\((Y k<=y/\y<Y (σ k))\/(Y (σ k)<=y/\y<Y k)):=by
 unfold Vd at h
 rcases D0 (X k) (x-1) with⟨e1,h1⟩|⟨e1,h1⟩<;>rcases D0 (X k) x with⟨e2,h2⟩|⟨e2,h2⟩<;>rcases D0 (Y (σ k)) y with⟨e3,h3⟩|⟨e3,h3⟩<;>rcases D0 (Y k) y with⟨e4,h4⟩|⟨e4,h4⟩<;>
  rw[e1,e2,e3,e4] at h<;>first|exact absurd rfl h|omega
theorem Zh {x y:Int} {k:Nat} (h:Hd σ X Y x y k≠0):Y (σ k)=y/\((X k<=x/\x<X (σ k))\/(X (σ k)<=x/\x<X k)):=by
 unfold Hd at h
 rcases D0 (X (σ k)) x with⟨e1,h1⟩|⟨e1,h1⟩<;>rcases D0 (X k) x with⟨e2,h2⟩|⟨e2,h2⟩<;>rcases D0 (Y (σ k)) (y-1) with⟨e3,h3⟩|⟨e3,h3⟩<;>rcases D0 (Y (σ k)) y with⟨e4,h4⟩|⟨e4,h4⟩<;>
  rw[e1,e2,e3,e4] at h<;>first|exact absurd rfl h|omega
theorem aQ {y:Int} {k:Nat} (h:Y k<=y/\y<Y (σ k)):Vd σ X Y (X k) y k=1:=by
 unfold Vd
 rw[FI (show X k>X k-1 by omega),FK (Int.le_refl _),FI h.2,FK h.1];rfl
theorem Yd {y:Int} {k:Nat} (h:Y (σ k)<=y/\y<Y k):Vd σ X Y (X k) y k= -1:=by
 unfold Vd
 rw[FI (show X k>X k-1 by omega),FK (Int.le_refl _),FI h.2,FK h.1];rfl
theorem YO {x:Int} {k:Nat} (e:Y (σ k)=Y k) (h:X k<=x/\x<X (σ k)):Hd σ X Y x (Y k) k=1:=by
 unfold Hd
 rw[e,FI (show Y k>Y k-1 by omega),FK (Int.le_refl (Y k)),FI h.2,FK h.1];rfl
theorem XS {x:Int} {k:Nat} (e:Y (σ k)=Y k) (h:X (σ k)<=x/\x<X k):Hd σ X Y x (Y k) k= -1:=by
 unfold Hd
 rw[e,FI (show Y k>Y k-1 by omega),FK (Int.le_refl (Y k)),FI h.2,FK h.1];rfl
theorem Net.up_eq (N:Net T σ X Y) {k:Nat} (hk:k<T) (hv:X (σ k)=X k) {c y:Int} (hc:c=X k-1\/c=X k) (h1:(Y k<=y/\y+1<Y (σ k))\/(Y (σ k)<=y/\y+1<Y k)):Wn T σ X Y c (y+1)=Wn T σ X Y c y:=by
 have h2:=bM N c (y+1)
 rw[show y+1-1=y by omega] at h2
 rw[CA (f:=Hd σ X Y c (y+1)) T (fun j hj=> ?_)] at h2
 ·omega
 ·refine Classical.byContradiction fun h=> ?_
  obtain⟨e,hx⟩:=Zh h
  have e2:Y j=y+1:=by rcases N.side j hj with h|h<;>omega
  rcases N.free j k hj hk (X k) (y+1) ⟨by omega,by omega,by omega,by omega⟩ ⟨by omega,by omega,by omega,by omega⟩ with h|h|h
  ·subst h;omega
  ·subst h;omega
  ·rw[h] at h1 hv hc;rw[h] at*;omega
theorem Net.flat_eq (N:Net T σ X Y) {k:Nat} (hk:k<T) (hh:Y (σ k)=Y k) {c x:Int} (hc:c=Y k-1\/c=Y k) (h1:(X k<=x-1/\x<X (σ k))\/(X (σ k)<=x-1/\x<X k)):Wn T σ X Y (x-1) c=Wn T σ X Y x c:=by
 have h2:=Yn (T:=T) (σ:=σ) (X:=X) (Y:=Y) x c
 rw[CA (f:=Vd σ X Y x c) T (fun j hj=> ?_)] at h2
 ·omega
 ·refine Classical.byContradiction fun h=> ?_
  obtain⟨e,hx⟩:=Wr h
  have e2:X (σ j)=x:=by rcases N.side j hj with h|h<;>omega
  rcases N.free j k hj hk x (Y k) ⟨by omega,by omega,by omega,by omega⟩ ⟨by omega,by omega,by omega,by omega⟩ with h|h|h
  ·subst h;omega
  ·subst h;omega
  ·rw[h] at h1;omega
theorem Net.up_const (N:Net T σ X Y) {k:Nat} (hk:k<T) (hv:X (σ k)=X k) {c lo:Int} (hc:c=X k-1\/c=X k) (hlo:lo=Y k\/lo=Y (σ k)) (hm:lo<=Y k/\lo<=Y (σ k)): ∀d:Nat,(lo+d<Y k\/lo+d<Y (σ k))->Wn T σ X Y c (lo+d)=Wn T σ X Y c lo
 |0,_=>by rw[show lo+((0:Nat):Int)=lo by omega]
 |d+1,h=>by
  rw[show lo+((d+1:Nat):Int)=lo+d+1 by omega,N.up_eq hk hv hc (by omega)]
  exact N.up_const hk hv hc hlo hm d (by omega)
theorem Net.flat_const (N:Net T σ X Y) {k:Nat} (hk:k<T) (hh:Y (σ k)=Y k) {c lo:Int} (hc:c=Y k-1\/c=Y k) (hlo:lo=X k\/lo=X (σ k)) (hm:lo<=X k/\lo<=X (σ k)): ∀d:Nat,(lo+d<X k\/lo+d<X (σ k))->Wn T σ X Y (lo+d) c=Wn T σ X Y lo c
 |0,_=>by rw[show lo+((0:Nat):Int)=lo by omega]
 |d+1,h=>by
  have h1:=N.flat_eq hk hh hc (x:=lo+((d+1:Nat):Int)) (by omega)
  rw[<-h1,show lo+((d+1:Nat):Int)-1=lo+d by omega]
  exact N.flat_const hk hh hc hlo hm d (by omega)
theorem Net.over_up (N:Net T σ X Y) {k:Nat} (hk:k<T) (hv:X (σ k)=X k) {y:Int} (h1:(Y k<=y/\y<Y (σ k))\/(Y (σ k)<=y/\y<Y k)):Wn T σ X Y (X k-1) y-Wn T σ X Y (X k) y=Vd σ X Y (X k) y k:=by
 rw[Yn]
 refine KN T hk fun j hj hne=> ?_
 refine Classical.byContradiction fun h=> ?_
 obtain⟨e,hx⟩:=Wr h
 have e2:X (σ j)=X j:=by rcases N.side j hj with h|h<;>omega
 rcases N.free j k hj hk (X k) y ⟨by omega,by omega,by omega,by omega⟩ ⟨by omega,by omega,by omega,by omega⟩ with h|h|h
 ·exact hne h
 ·have:=(N.alt k hk).1 hv
  rw[<-h] at this;omega
 ·have:=(N.alt j hj).1 e2
  rw[<-h] at this;omega
theorem Net.over_flat (N:Net T σ X Y) {k:Nat} (hk:k<T) (hh:Y (σ k)=Y k) {x:Int} (h1:(X k<=x/\x<X (σ k))\/(X (σ k)<=x/\x<X k)):Wn T σ X Y x (Y k)-Wn T σ X Y x (Y k-1)=Hd σ X Y x (Y k) k:=by
 rw[bM N]
 refine KN T hk fun j hj hne=> ?_
 refine Classical.byContradiction fun h=> ?_
 obtain⟨e,hx⟩:=Zh h
 have e2:Y (σ j)=Y j:=by rcases N.side j hj with h|h<;>omega
 rcases N.free j k hj hk x (Y k) ⟨by omega,by omega,by omega,by omega⟩ ⟨by omega,by omega,by omega,by omega⟩ with h|h|h
 ·exact hne h
 ·have:=N.alt k hk
  rw[<-h] at this h1
  have h9:=this.2 e2
  omega
 ·have:=N.alt j hj
  rw[<-h] at this hx
  have h9:=this.2 hh
  omega
theorem Net.lv_ex (N:Net T σ X Y) {k:Nat} (hk:k<T): ∃L,Lv T σ X Y k L:=by
 rcases N.side k hk with⟨hv,hd⟩|⟨hh,hd⟩
 ·have con: ∀c,(c=X k-1\/c=X k)-> ∀lo,(lo=Y k\/lo=Y (σ k))->lo<=Y k->lo<=Y (σ k)-> ∀y,lo<=y->(y<Y k\/y<Y (σ k))->Wn T σ X Y c y=Wn T σ X Y c lo:=fun c hc lo hlo m1 m2 y h1 h2=>by
   have:=N.up_const hk hv hc hlo ⟨m1,m2⟩ (y-lo).toNat (by omega)
   rw[show lo+((y-lo).toNat:Int)=y by omega] at this
   exact this
  by_cases hu:Y k<Y (σ k)
  ·refine⟨Wn T σ X Y (X k-1) (Y k),fun x y h=> ?_,fun x y h=> ?_⟩
   ·unfold LC at h
    obtain⟨rfl,h1,h2⟩:x=X k-1/\Y k<=y/\y<Y (σ k):=by omega
    exact con _ (.inl I) _ (.inl I) (Int.le_refl _) (by omega) y h1 (.inr h2)
   ·unfold RC at h
    obtain⟨rfl,h1,h2⟩:x=X k/\Y k<=y/\y<Y (σ k):=by omega
    have e1:=con _ (.inl rfl) _ (.inl rfl) (Int.le_refl _) (by omega) y h1 (.inr h2)
    have e2:=N.over_up hk hv (.inl ⟨h1,h2⟩)
    rw[aQ ⟨h1,h2⟩] at e2
    omega
  ·refine⟨Wn T σ X Y (X k) (Y (σ k)),fun x y h=> ?_,fun x y h=> ?_⟩
   ·unfold LC at h
    obtain⟨rfl,h1,h2⟩:x=X k/\Y (σ k)<=y/\y<Y k:=by omega
    exact con _ (.inr I) _ (.inr I) (by omega) (Int.le_refl _) y h1 (.inl h2)
   ·unfold RC at h
    obtain⟨rfl,h1,h2⟩:x=X k-1/\Y (σ k)<=y/\y<Y k:=by omega
    have e1:=con _ (.inr rfl) _ (.inr rfl) (by omega) (Int.le_refl _) y h1 (.inl h2)
    have e2:=N.over_up hk hv (.inr ⟨h1,h2⟩)
    rw[Yd ⟨h1,h2⟩] at e2
    omega
 ·have con: ∀c,(c=Y k-1\/c=Y k)-> ∀lo,(lo=X k\/lo=X (σ k))->lo<=X k->lo<=X (σ k)-> ∀x,lo<=x->(x<X k\/x<X (σ k))->Wn T σ X Y x c=Wn T σ X Y lo c:=fun c hc lo hlo m1 m2 x h1 h2=>by
   have:=N.flat_const hk hh hc hlo ⟨m1,m2⟩ (x-lo).toNat (by omega)
   rw[show lo+((x-lo).toNat:Int)=x by omega] at this
   exact this
  by_cases hu:X k<X (σ k)
  ·refine⟨Wn T σ X Y (X k) (Y k),fun x y h=> ?_,fun x y h=> ?_⟩
   ·unfold LC at h
    obtain⟨rfl,h1,h2⟩:y=Y k/\X k<=x/\x<X (σ k):=by omega
    exact con _ (.inr I) _ (.inl I) (Int.le_refl _) (by omega) x h1 (.inr h2)
   ·unfold RC at h
    obtain⟨rfl,h1,h2⟩:y=Y k-1/\X k<=x/\x<X (σ k):=by omega
    have e1:=con _ (.inr rfl) _ (.inl rfl) (Int.le_refl _) (by omega) x h1 (.inr h2)
    have e2:=N.over_flat hk hh (.inl ⟨h1,h2⟩)
    rw[YO hh ⟨h1,h2⟩] at e2
    omega
  ·refine⟨Wn T σ X Y (X (σ k)) (Y k-1),fun x y h=> ?_,fun x y h=> ?_⟩
   ·unfold LC at h
    obtain⟨rfl,h1,h2⟩:y=Y k-1/\X (σ k)<=x/\x<X k:=by omega
    exact con _ (.inl I) _ (.inr I) (by omega) (Int.le_refl _) x h1 (.inl h2)
   ·unfold RC at h
    obtain⟨rfl,h1,h2⟩:y=Y k/\X (σ k)<=x/\x<X k:=by omega
    have e1:=con _ (.inl rfl) _ (.inr rfl) (by omega) (Int.le_refl _) x h1 (.inl h2)
    have e2:=N.over_flat hk hh (.inr ⟨h1,h2⟩)
    rw[XS hh ⟨h1,h2⟩] at e2
    omega
theorem Net.share (N:Net T σ X Y) {k:Nat} (hk:k<T): ∃x y,(LC σ X Y k x y/\LC σ X Y (σ k) x y)\/(RC σ X Y k x y/\RC σ X Y (σ k) x y):=by
 have h1:=N.side k hk
 have h2:=N.side (σ k) (N.lt k hk)
 have h3:=N.alt k hk
 unfold LC RC
 generalize σ (σ k)=k2 at*
 generalize σ k=k1 at*
 by_cases a:Y k<Y k1
 ·by_cases b:X k1<X k2
  ·exact⟨X k1,Y k1-1, .inr ⟨by omega,by omega⟩⟩
  ·exact⟨X k1-1,Y k1-1, .inl ⟨by omega,by omega⟩⟩
 by_cases a2:Y k1<Y k
 ·by_cases b:X k1<X k2
  ·exact⟨X k1,Y k1, .inl ⟨by omega,by omega⟩⟩
  ·exact⟨X k1-1,Y k1, .inr ⟨by omega,by omega⟩⟩
 by_cases a3:X k<X k1
 ·by_cases b:Y k1<Y k2
  ·exact⟨X k1-1,Y k1, .inl ⟨by omega,by omega⟩⟩
  ·exact⟨X k1-1,Y k1-1, .inr ⟨by omega,by omega⟩⟩
 ·by_cases b:Y k1<Y k2
  ·exact⟨X k1,Y k1, .inr ⟨by omega,by omega⟩⟩
  ·exact⟨X k1,Y k1-1, .inl ⟨by omega,by omega⟩⟩
theorem Net.lv_next (N:Net T σ X Y) {k:Nat} (hk:k<T) {L:Int} (h:Lv T σ X Y k L):Lv T σ X Y (σ k) L:=by
 obtain⟨L',h'⟩:=N.lv_ex (N.lt k hk)
 obtain⟨x,y,⟨h1,h2⟩|⟨h1,h2⟩⟩:=N.share hk
 ·have e1:=h.1 x y h1
  have e2:=h'.1 x y h2
  rw[show L=L' by omega];exact h'
 ·have e1:=h.2 x y h1
  have e2:=h'.2 x y h2
  rw[show L=L' by omega];exact h'
theorem Ig {x:Int} (h: ∀k,k<T->X k<=x) (y:Int):Wn T σ X Y x y=0:=CA T fun k hk=>by rw[FK (h k hk),Int.zero_mul]
theorem U5 {x y:Int} {j:Nat} (h:Vd σ X Y x y j≠0):(LC σ X Y j (x-1) y/\RC σ X Y j x y)\/(RC σ X Y j (x-1) y/\LC σ X Y j x y):=by
 obtain⟨e,hx⟩:=Wr h
 rcases hx with⟨h1,h2⟩|⟨h1,h2⟩
 ·exact .inl ⟨.inl ⟨by omega,by omega,h1,h2⟩, .inl ⟨by omega,by omega,h1,h2⟩⟩
 ·exact .inr ⟨.inr (.inl ⟨by omega,by omega,h1,h2⟩), .inr (.inl ⟨by omega,by omega,h1,h2⟩)⟩
theorem Net.ray (N:Net T σ X Y) {M:Int} (hM: ∀k,k<T->X k<=M) (y:Int): ∀d:Nat,Wn T σ X Y (M-d) y=0\/ ∃k L,k<T/\Lv T σ X Y k L/\(Wn T σ X Y (M-d) y=L\/Wn T σ X Y (M-d) y=L-1)
 |0=> .inl (Ig (fun k hk=>by have:=hM k hk;omega) y)
 |d+1=>by
  have h1:=Yn (T:=T) (σ:=σ) (X:=X) (Y:=Y) (M-d) y
  rw[show M-((d+1:Nat):Int)=M-d-1 by omega]
  by_cases h: ∃j,j<T/\Vd σ X Y (M-d) y j≠0
  ·obtain⟨j,hj,h⟩:=h
   obtain⟨L,hL⟩:=N.lv_ex hj
   refine .inr ⟨j,L,hj,hL, ?_⟩
   rcases U5 h with⟨h,_⟩|⟨h,_⟩
   ·exact .inl (hL.1 _ _ h)
   ·exact .inr (hL.2 _ _ h)
  ·rw[CA (f:=Vd σ X Y (M-d) y) T (fun j hj=>Classical.byContradiction fun e=>h ⟨j,hj,e⟩)] at h1
   rw[show Wn T σ X Y (M-d-1) y=Wn T σ X Y (M-d) y by omega]
   exact N.ray hM y d
theorem Net.values (N:Net T σ X Y) (x y:Int):Wn T σ X Y x y=0\/ ∃k L,k<T/\Lv T σ X Y k L/\(Wn T σ X Y x y=L\/Wn T σ X Y x y=L-1):=by
 have bound: ∀n, ∃M:Int, ∀k,k<n->X k<=M:=fun n=>by
  induction n with
  |zero=>exact⟨0,fun k hk=>absurd hk (Nat.not_lt_zero _)⟩
  |succ n ih=>
   obtain⟨M,hM⟩:=ih
   refine⟨if M<X n then X n else M,fun k hk=> ?_⟩
   by_cases e:k=n
   ·subst e;split<;>omega
   ·have:=hM k (by omega);split<;>omega
 obtain⟨M,hM⟩:=bound T
 by_cases h:x<=M
 ·have:=N.ray hM y (M-x).toNat
  rw[show M-((M-x).toNat:Int)=x by omega] at this
  exact this
 ·exact .inl (Ig (fun k hk=>by have:=hM k hk;omega) y)
theorem Net.first (N:Net T σ X Y) {M:Int} (hM: ∀k,k<T->X k<=M) (y:Int): ∀d:Nat,(∀x,M-d<=x->Wn T σ X Y x y=0)\/ ∃k x,k<T/\(∀x',x<=x'->Wn T σ X Y x' y=0)/\((LC σ X Y k (x-1) y/\RC σ X Y k x y)\/(RC σ X Y k (x-1) y/\LC σ X Y k x y))
 |0=> .inl fun x hx=>Ig (fun k hk=>by have:=hM k hk;omega) y
 |d+1=>by
  rcases N.first hM y d with h0|h0
  ·by_cases h: ∃j,j<T/\Vd σ X Y (M-d) y j≠0
   ·obtain⟨j,hj,h⟩:=h
    exact .inr ⟨j,M-d,hj,h0,U5 h⟩
   ·left
    intro x hx
    have h1:=Yn (T:=T) (σ:=σ) (X:=X) (Y:=Y) (M-d) y
    rw[CA (f:=Vd σ X Y (M-d) y) T (fun j hj=>Classical.byContradiction fun e=>h ⟨j,hj,e⟩)] at h1
    have h2:=h0 (M-d) (Int.le_refl _)
    by_cases e:x=M-d-1
    ·subst e;omega
    ·exact h0 x (by omega)
  ·exact .inr h0
theorem Net.range (N:Net T σ X Y) {M:Int} (hX: ∀k,k<T->0<=X k/\X k<=M) (hY: ∀k,k<T->0<=Y k/\Y k<=M) {x y:Int} (h:Wn T σ X Y x y≠0):(0<=x/\x<M)/\0<=y/\y<M:=by
 refine Classical.byContradiction fun hn=>h ?_
 by_cases h1:M<=x
 ·exact Ig (fun k hk=>by have:=hX k hk;omega) y
 by_cases h2:x<0
 ·unfold Wn
  rw[BT (g:=fun k=>ind (Y (σ k)) y-ind (Y k) y) T (fun k hk=>by rw[FI (show X k>x by have:=hX k hk;omega),Int.one_mul]),Dx,N.sum (fun k=>ind (Y k) y)];omega
 by_cases h3:M<=y
 ·exact CA T fun k hk=>by rw[FK (show Y k<=y by have:=hY k hk;omega),FK (show Y (σ k)<=y by have:=hY _ (N.lt k hk);omega)];simp
 by_cases h4:y<0
 ·exact CA T fun k hk=>by rw[FI (show Y k>y by have:=hY k hk;omega),FI (show Y (σ k)>y by have:=hY _ (N.lt k hk);omega)];simp
 omega
theorem Net.area (N:Net T σ X Y) {M:Nat} (hX: ∀k,k<T->0<=X k/\X k<=M) (hY: ∀k,k<T->0<=Y k/\Y k<=M):
  AI (fun k=>X k*Y (σ k)-Y k*X (σ k)) T=2*AI (fun x=>AI (fun y=>Wn T σ X Y x y) M) M:=by
 have h1:AI (fun k=>X k*(Y (σ k)-Y k)) T=AI (fun x=>AI (fun y=>Wn T σ X Y x y) M) M:=by
  unfold Wn
  rw[BT (g:=fun k=>AI (fun x:Nat=>AI (fun y:Nat=>ind (X k) x*(ind (Y (σ k)) y-ind (Y k) y)) M) M) T fun k hk=> ?_]
  ·rw[Jy]
   refine BT M fun x _=> ?_
   rw[Jy]
  ·have e1:=KO (hX k hk).1 (hX k hk).2
   have e2:=KO (hY k hk).1 (hY k hk).2
   have e3:=KO (hY _ (N.lt k hk)).1 (hY _ (N.lt k hk)).2
   rw[BT (g:=fun x:Nat=>(Y (σ k)-Y k)*ind (X k) x) M fun x _=> ?_]
   ·rw[F4,e1,Int.mul_comm]
   ·show AI (fun y:Nat=>ind (X k) x*(ind (Y (σ k)) y-ind (Y k) y)) M=_
    rw[F4,Dx,e2,e3,Int.mul_comm]
 rw[<-h1, <-F4]
 have h2:=N.sum fun k=>X k*Y k
 have h3:AI (fun k=>X k*Y (σ k)-Y k*X (σ k)-2*(X k*(Y (σ k)-Y k))) T=AI (fun k=>X k*Y k-X (σ k)*Y (σ k)) T:=BT T fun k hk=>by
  rcases N.side k hk with⟨e,_⟩|⟨e,_⟩
  ·rw[e,Int.mul_sub,Int.mul_comm (Y k) (X k)];omega
  ·rw[e,Int.mul_sub,Int.mul_comm (Y k) (X (σ k))];omega
 rw[Dx,Dx (fun k=>X k*Y k),h2] at h3
 omega
end
theorem RE {n:Nat} {P:Nat->Prop} (h0:0<n->P 0) (h: ∀k,k<n->P k->P (nxt n k)): ∀k,k<n->P k
 |0,hk=>h0 hk
 |k+1,hk=>by
  have:=h k (by omega) (RE h0 h k (by omega))
  rw[show nxt n k=k+1 from Nat.mod_eq_of_lt hk] at this
  exact this
section
variable {n:Nat} {X Y:Nat->Int}
theorem Net.one (N:Net n (nxt n) X Y) (h0:0<n): ∃L:Int,(L=0\/L=1)/\(∀k,k<n->Lv n (nxt n) X Y k L)/\ ∀x y,Wn n (nxt n) X Y x y=0\/Wn n (nxt n) X Y x y=2*L-1:=by
 obtain⟨L,hL⟩:=N.lv_ex h0
 have all: ∀k,k<n->Lv n (nxt n) X Y k L:=RE (fun _=>hL) fun k hk h=>N.lv_next hk h
 have hb: ∀m, ∃M:Int, ∀k,k<m->X k<=M:=fun m=>by
  induction m with
  |zero=>exact⟨0,fun k hk=>absurd hk (Nat.not_lt_zero _)⟩
  |succ m ih=>
   obtain⟨M,hM⟩:=ih
   refine⟨if M<X m then X m else M,fun k hk=> ?_⟩
   by_cases e:k=m
   ·subst e;split<;>omega
   ·have:=hM k (by omega);split<;>omega
 obtain⟨M,hM⟩:=hb n
 have cell: ∃x y,LC (nxt n) X Y 0 x y/\ ∃x' y',RC (nxt n) X Y 0 x' y':=by
  have:=N.side 0 h0
  unfold LC RC
  by_cases a:Y 0<Y (nxt n 0)
  ·exact⟨X 0-1,Y 0,by omega,X 0,Y 0,by omega⟩
  by_cases a2:Y (nxt n 0)<Y 0
  ·exact⟨X 0,Y (nxt n 0),by omega,X 0-1,Y (nxt n 0),by omega⟩
  by_cases a3:X 0<X (nxt n 0)
  ·exact⟨X 0,Y 0,by omega,X 0,Y 0-1,by omega⟩
  ·exact⟨X (nxt n 0),Y 0-1,by omega,X (nxt n 0),Y 0,by omega⟩
 obtain⟨x1,y1,c1,x2,y2,c2⟩:=cell
 have e1:=hL.1 _ _ c1
 have e2:=hL.2 _ _ c2
 have try1: ∀x y,Wn n (nxt n) X Y x y≠0->L=0\/L=1:=fun x y h=>by
  have hx:x<M:=Classical.byContradiction fun e=>h (Ig (fun k hk=>by have:=hM k hk;omega) y)
  rcases N.first hM y (M-x).toNat with h1|⟨k,x',hk,h1,h2⟩
  ·exact absurd (h1 x (by omega)) h
  ·have z:=h1 x' (Int.le_refl _)
   rcases h2 with⟨_,h2⟩|⟨_,h2⟩
   ·have:=(all k hk).2 _ _ h2;omega
   ·have:=(all k hk).1 _ _ h2;omega
 have h01:L=0\/L=1:=by
  by_cases e:L=0
  ·exact .inl e
  ·exact try1 x1 y1 (by rw[e1];exact e)
 refine⟨L,h01,all,fun x y=> ?_⟩
 rcases N.values x y with h|⟨k,L',hk,h1,h2⟩
 ·exact .inl h
 ·have e:L'=L:=by
   have a:=all k hk
   have hc: ∃x y,LC (nxt n) X Y k x y:=by
    have:=N.side k hk
    unfold LC
    by_cases a:Y k<Y (nxt n k)
    ·exact⟨X k-1,Y k,by omega⟩
    by_cases a2:Y (nxt n k)<Y k
    ·exact⟨X k,Y (nxt n k),by omega⟩
    by_cases a3:X k<X (nxt n k)
    ·exact⟨X k,Y k,by omega⟩
    ·exact⟨X (nxt n k),Y k-1,by omega⟩
   obtain⟨x,y,hc⟩:=hc
   rw[<-h1.1 _ _ hc,a.1 _ _ hc]
  omega
theorem Net.area_one (N:Net n (nxt n) X Y) (h0:0<n) {M:Nat} (hX: ∀k,k<n->0<=X k/\X k<=M) (hY: ∀k,k<n->0<=Y k/\Y k<=M) {L:Int} (h01:L=0\/L=1) (hL: ∀k,k<n->Lv n (nxt n) X Y k L) (hv: ∀x y,Wn n (nxt n) X Y x y=0\/Wn n (nxt n) X Y x y=2*L-1):
  0<(2*L-1)*AI (fun k=>X k*Y (nxt n k)-Y k*X (nxt n k)) n:=by
 rw[N.area hX hY]
 have hsome: ∃x y,Wn n (nxt n) X Y x y=2*L-1:=by
  have:=N.side 0 h0
  have h:=hL 0 h0
  have cell:(∃x y,LC (nxt n) X Y 0 x y)/\ ∃x' y',RC (nxt n) X Y 0 x' y':=by
   unfold LC RC
   by_cases a:Y 0<Y (nxt n 0)
   ·exact⟨⟨X 0-1,Y 0,by omega⟩,X 0,Y 0,by omega⟩
   by_cases a2:Y (nxt n 0)<Y 0
   ·exact⟨⟨X 0,Y (nxt n 0),by omega⟩,X 0-1,Y (nxt n 0),by omega⟩
   by_cases a3:X 0<X (nxt n 0)
   ·exact⟨⟨X 0,Y 0,by omega⟩,X 0,Y 0-1,by omega⟩
   ·exact⟨⟨X (nxt n 0),Y 0-1,by omega⟩,X (nxt n 0),Y 0,by omega⟩
  obtain⟨⟨x1,y1,c1⟩,x2,y2,c2⟩:=cell
  have e1:=h.1 _ _ c1
  have e2:=h.2 _ _ c2
  rcases h01 with e|e
  ·exact⟨x2,y2,by omega⟩
  ·exact⟨x1,y1,by omega⟩
 obtain⟨x,y,hxy⟩:=hsome
 obtain⟨⟨r1,r2⟩,r3,r4⟩:=N.range hX hY (x:=x) (y:=y) (by rw[hxy];omega)
 have sq: ∀x y,0<=(2*L-1)*Wn n (nxt n) X Y x y:=fun x y=>by
  rcases hv x y with h|h<;>rw[h]
  ·simp
  ·rcases h01 with e|e<;>subst e<;>decide
 have pos:0<(2*L-1)*Wn n (nxt n) X Y x y:=by
  rw[hxy]
  rcases h01 with e|e<;>subst e<;>decide
 have hp:0<AI (fun i=>AI (fun j=>(2*L-1)*Wn n (nxt n) X Y i j) M) M:=by
  refine KD (j:=x.toNat) M (fun i _=>Hj M fun j _=>sq i j) (by omega) ?_
  refine KD (j:=y.toNat) M (fun j _=>sq _ j) (by omega) ?_
  show 0<(2*L-1)*Wn n (nxt n) X Y (x.toNat:Nat) (y.toNat:Nat)
  rw[show((x.toNat:Nat):Int)=x by omega,show((y.toNat:Nat):Int)=y by omega]
  exact pos
 have e:AI (fun i:Nat=>AI (fun j:Nat=>(2*L-1)*Wn n (nxt n) X Y i j) M) M=(2*L-1)*AI (fun i:Nat=>AI (fun j:Nat=>Wn n (nxt n) X Y i j) M) M:=by
  rw[<-F4]
  exact BT M fun i _=>F4 _ _ M
 rw[e] at hp
 rcases h01 with e|e<;>subst e<;>omega
end
theorem RF {rs:List (List Sd)} {m:Nat}: ∀k,k<=rs.length->m<tot (rs.take k)-> ∃r i,r<k/\i<(rg rs r).length/\m=tot (rs.take r)+i
 |0,_,h=>by simp[tot] at h
 |k+1,hk,h=>by
  rw[Bs (by omega)] at h
  by_cases e:m<tot (rs.take k)
  ·obtain⟨r,i,h1,h2,h3⟩:=RF k (by omega) e
   exact⟨r,i,by omega,h2,h3⟩
  ·exact⟨k,m-tot (rs.take k),by omega,by omega,by omega⟩
theorem Xc {rs:List (List Sd)} {m:Nat} (h:m<tot rs): ∃r i,r<rs.length/\i<(rg rs r).length/\m=tot (rs.take r)+i:=RF rs.length (Nat.le_refl _) (by rw[List.take_length];exact h)
theorem Hw {n k:Nat} (h:k<n):nxt n k=if k+1=n then 0 else k+1:=by
 unfold nxt
 split
 ·rename_i e;rw[e,Nat.mod_self]
 ·exact Nat.mod_eq_of_lt (by omega)
theorem Yr {n k:Nat} (h:k<n):prv n k=if k=0 then n-1 else k-1:=by
 unfold prv
 split
 ·rename_i e;subst e;rw[Nat.zero_add];exact Nat.mod_eq_of_lt (by omega)
 ·rw[show k+n-1=k-1+n by omega,Nat.add_mod_right];exact Nat.mod_eq_of_lt (by omega)
theorem YG {n k:Nat} (h:k<n):prv n (nxt n k)=k:=by
 rw[Yr (DW h),Hw h];split<;>split<;>omega
theorem XH {n r a b:Nat} (hb:b<a) (ha:a<n):nbB n (r,a) (r,b)=true↔(a=nxt n b\/b=nxt n a):=by
 unfold nbB
 rw[Hw ha,Hw (show b<n by omega)]
 simp only[beq_self_eq_true,Bool.true_and,Bool.or_eq_true,beq_iff_eq]
 split<;>split<;>omega
def near (rs:List (List Sd)) (r i s k:Nat):Prop:=r=s/\(i=k\/i=nxt (rg rs r).length k\/k=nxt (rg rs r).length i)
theorem Q5 (rs:List (List Sd)):crs rs=false↔ ∀r i s k,r<rs.length->i<(rg rs r).length->s<rs.length->k<(rg rs s).length-> ¬near rs r i s k->E9 (bsd rs (r,i)) (esd rs (r,i)) (bsd rs (s,k)) (esd rs (s,k))=false:=by
 constructor
 ·intro h r i s k hr hi hs hk hn
  by_cases e:r=s
  rotate_left
  ·exact Va h hr hi hs hk e
  subst e
  have one: ∀ {a b:Nat},a<(rg rs r).length->b<a-> ¬(a=nxt (rg rs r).length b\/b=nxt (rg rs r).length a)->E9 (bsd rs (r,a)) (esd rs (r,a)) (bsd rs (r,b)) (esd rs (r,b))=false:=by
   intro a b ha hb hab
   have hj:=Td hr ha
   have h2:Di rs (pl rs (tot (rs.take r)+a)) (pl rs (tot (rs.take r)+b))=false:=by
    cases he:Di rs (pl rs (tot (rs.take r)+a)) (pl rs (tot (rs.take r)+b)) with
    |false=>rfl
    |true=>
     have:crs rs=true:=List.any_eq_true.2 ⟨_,List.mem_range.2 hj,List.any_eq_true.2 ⟨_,List.mem_range.2 (by omega),he⟩⟩
     rw[h] at this;cases this
   rw[Ja hr ha,Ja hr (by omega)] at h2
   unfold Di at h2
   have h3:nbB (rg rs r).length (r,a) (r,b)=false:=Bool.eq_false_iff.2 fun e=>hab ((XH hb ha).1 e)
   rw[h3] at h2
   simpa using h2
  rcases Nat.lt_trichotomy i k with hlt|heq|hgt
  ·rw[K4]
   exact one hk hlt fun h=>hn ⟨I,by omega⟩
  ·exact absurd ⟨I, .inl heq⟩ hn
  ·exact one hi hgt fun h=>hn ⟨I,by omega⟩
 ·intro h
  unfold crs
  refine DI fun m hm=>DI fun j hj=> ?_
  obtain⟨r,i,hr,hi,rfl⟩:=Xc hm
  obtain⟨s,k,hs,hk,rfl⟩:=Xc (show j<tot rs by omega)
  rw[Ja hr hi,Ja hs hk]
  unfold Di
  cases hb:nbB (rg rs r).length (r,i) (s,k) with
  |true=>rfl
  |false=>
   simp only[Bool.not_false,Bool.true_and]
   refine h r i s k hr hi hs hk fun hn=> ?_
   obtain⟨rfl,hn⟩:=hn
   have hik:k<i:=by omega
   have:=(XH (r:=r) hik hi).2 (by omega)
   rw[hb] at this;cases this
theorem Y4 {t u t' u':Sd} {px py:Int} (h:E9 t u t' u'=false) (h1:(t.x<=px\/u.x<=px)/\(px<=t.x\/px<=u.x)/\(t.y<=py\/u.y<=py)/\(py<=t.y\/py<=u.y))
  (h2:(t'.x<=px\/u'.x<=px)/\(px<=t'.x\/px<=u'.x)/\(t'.y<=py\/u'.y<=py)/\(py<=t'.y\/py<=u'.y)):False:=by
 have e:E9 t u t' u'=true:=by
  unfold E9 lox hix loy hiy
  simp only[Bool.and_eq_true,decide_eq_true_eq]
  refine⟨⟨⟨?_, ?_⟩, ?_⟩, ?_⟩<;>split<;>split<;>omega
 rw[h] at e;cases e
theorem VX {rs:List (List Sd)} (hin:VJ rs) (hs: ∀l∈rs,shp l=true) (hc:crs rs=false) {r:Nat} (hr:r<rs.length):Net (rg rs r).length (nxt (rg rs r).length) (fun k=>(sd (rg rs r) k).x) (fun k=>(sd (rg rs r) k).y):=by
 have hm:rg rs r∈rs:=List.mem_of_getElem? (Bm hr)
 refine⟨fun k hk=>DW hk,fun f=>Vl f _,fun k hk=> ?_,fun k hk=> ?_,fun j k hj hk px py h1 h2=> ?_⟩
 ·have:=(ET (hin _ hm) (hs _ hm) hk).1
  omega
 ·have h1:=(ET (hin _ hm) (hs _ hm) hk).1
  have h2:=(ET (hin _ hm) (hs _ hm) (DW hk))
  rw[YG hk] at h2
  omega
 ·refine Classical.byContradiction fun hn=> ?_
  have h:=(Q5 rs).1 hc r j r k hr hj hr hk fun h=>hn (by obtain⟨_,h⟩:=h;omega)
  exact Y4 h h1 h2
theorem X8 {rs:List (List Sd)} (hin:VJ rs) (hs: ∀l∈rs,shp l=true) (hc:crs rs=false) {r:Nat} (hr:r<rs.length):
  ∃L:Int,(L=0\/L=1)/\(∀k,k<(rg rs r).length->Lv (rg rs r).length (nxt (rg rs r).length) (fun k=>(sd (rg rs r) k).x) (fun k=>(sd (rg rs r) k).y) k L)/\
   (∀x y,Wn (rg rs r).length (nxt (rg rs r).length) (fun k=>(sd (rg rs r) k).x) (fun k=>(sd (rg rs r) k).y) x y=0\/Wn (rg rs r).length (nxt (rg rs r).length) (fun k=>(sd (rg rs r) k).x) (fun k=>(sd (rg rs r) k).y) x y=2*L-1)/\
   0<(2*L-1)*AI (EN (rg rs r)) (rg rs r).length:=by
 have hm:rg rs r∈rs:=List.mem_of_getElem? (Bm hr)
 have N:=VX hin hs hc hr
 have h4:=TX (hs _ hm)
 obtain⟨L,h01,hL,hv⟩:=N.one (by omega)
 refine⟨L,h01,hL,hv, ?_⟩
 have hi: ∀k,k<(rg rs r).length->inR (sd (rg rs r) k):=fun k hk=>Dh (hin _ hm) hk
 exact N.area_one (M:=65536) (by omega) (fun k hk=>⟨(hi k hk).1,(hi k hk).2.1⟩) (fun k hk=>⟨(hi k hk).2.2.1,(hi k hk).2.2.2⟩) h01 hL hv
theorem Yu {rs:List (List Sd)} (hin:VJ rs) (hs: ∀l∈rs,shp l=true) (hc:crs rs=false) {r:Nat} (hr:r<rs.length):AI (EN (rg rs r)) (rg rs r).length≠0:=by
 obtain⟨L,_,_,_,h⟩:=X8 hin hs hc hr
 intro e
 rw[e,Int.mul_zero] at h
 exact absurd h (by decide)
end
section
open Go Go.RowKit Go.Am
set_option maxRecDepth 10000
def Ki (rs:List (List Sd)) (r i s k:Nat):Bool:=
 !((r==s)&&(decide (k<=i)||(k==i+1)||((i==0)&&(k+1==(rg rs r).length))))&&E9 (sd (rg rs r) i) (sd (rg rs r) (nxt (rg rs r).length i)) (sd (rg rs s) k) (sd (rg rs s) (nxt (rg rs s).length k))
theorem M4 {rs:List (List Sd)} {r i s k:Nat} (hr:r<rs.length) (hi:i<(rg rs r).length) (hs:s<rs.length) (hk:k<(rg rs s).length) (h:Ki rs r i s k=true):crs rs=true:=by
 unfold Ki at h
 obtain⟨h1,h2⟩:=Bool.and_eq_true_iff.1 h
 cases hc:crs rs with
 |true=>rfl
 |false=>
  have:=(Q5 rs).1 hc r i s k hr hi hs hk (fun hn=>by
   obtain⟨rfl,hn⟩:=hn
   rw[Hw hi,Hw hk] at hn
   have:((r==r)&&(decide (k<=i)||(k==i+1)||((i==0)&&(k+1==(rg rs r).length))))=true:=by
    simp only[beq_self_eq_true,Bool.true_and,Bool.or_eq_true,Bool.and_eq_true,decide_eq_true_eq,beq_iff_eq]
    revert hn
    split<;>split<;>intro hn<;>omega
   rw[this] at h1;cases h1)
  rw[show E9 (bsd rs (r,i)) (esd rs (r,i)) (bsd rs (s,k)) (esd rs (s,k))=true from h2] at this
  cases this
theorem VS {rs:List (List Sd)} (h: ∀r i s k,r<rs.length->i<(rg rs r).length->s<rs.length->k<(rg rs s).length->r<=s->Ki rs r i s k=false):crs rs=false:=by
 have one: ∀r i s k,r<rs.length->i<(rg rs r).length->s<rs.length->k<(rg rs s).length->(r<s\/(r=s/\i<k))-> ¬near rs r i s k->E9 (bsd rs (r,i)) (esd rs (r,i)) (bsd rs (s,k)) (esd rs (s,k))=false:=fun r i s k hr hi hs hk ho hn=>by
  have hb:=h r i s k hr hi hs hk (by omega)
  unfold Ki at hb
  have:((r==s)&&(decide (k<=i)||(k==i+1)||((i==0)&&(k+1==(rg rs r).length))))=false:=by
   by_cases e:r=s
   ·subst e
    have hik:i<k:=by omega
    rw[beq_self_eq_true,Bool.true_and,Bool.eq_false_iff]
    intro h2
    refine hn ⟨I, ?_⟩
    rw[Hw hi,Hw hk]
    simp only[Bool.or_eq_true,Bool.and_eq_true,decide_eq_true_eq,beq_iff_eq] at h2
    split<;>split<;>omega
   ·rw[beq_eq_false_iff_ne.2 e];rfl
  rw[this,Bool.not_false,Bool.true_and] at hb
  exact hb
 refine(Q5 rs).2 fun r i s k hr hi hs hk hn=> ?_
 by_cases ho:r<s\/(r=s/\i<k)
 ·exact one r i s k hr hi hs hk ho hn
 ·rw[K4]
  have hne: ¬(r=s/\i=k):=fun⟨e1,e2⟩=>hn ⟨e1, .inl e2⟩
  refine one s k r i hs hk hr hi (by omega) fun hn2=>hn ?_
  obtain⟨rfl,hn2⟩:=hn2
  exact⟨I,by omega⟩
theorem MW (W:World) (p:Option Addr) (cap:Nat) (rs:List (List Sd)) (hn:rs.length<4611686018427387904) (hl: ∀l∈rs,l.length<4611686018427387904) (hR:Bd W p rs):
  Ad Tryz.prog 48 #[slv p rs.length cap] W (fun _:Unit=> .bool (crs rs)) (fun _=>True) (fun _=>[]):=by
 refine Ab (args:=[slv p rs.length cap]) Tryz.func48 I I I (zA (zB (wP I (Aa (zE (zA (zA (zB (wP I (Aa (zE (zH ?_))))))))))))
 refine Ar (X:=Nat) (fun r=>[(0,slv p rs.length cap),(3, .int .i64 (r:Nat))]) (fun _=>[])
  (fun r=>r<=rs.length/\ ∀r' i s k,r'<r->r'<rs.length->i<(rg rs r').length->s<rs.length->k<(rg rs s).length->r'<=s->Ki rs r' i s k=false) (fun r=>rs.length-r) 0 ⟨Nat.zero_le _,fun r' i s k h=>absurd h (Nat.not_lt_zero _)⟩ ⟨rfl,rfl,trivial⟩ [] rfl ?_
 rintro r ⟨hr,P1⟩
 refine zA (zA (zB (wP I (wP I (wP I (wP I (Aa (zE (Ah I (fun h=> ?_) (fun h=> ?_))))))))))
 rotate_left
 ·have e:r=rs.length:=by simp at h;omega
  subst e
  refine zJ (zK (zK (zL (zE (zA (zB (wP I (Aa (zE (zO ?_))))))))))
  have hc:crs rs=false:=VS fun r' i s k h1 h2 h3 h4 h5=>P1 r' i s k h1 h1 h2 h3 h4 h5
  exact wR1 I I (by rw[hc])
 have hr:r<rs.length:=by simp at h;omega
 clear h
 obtain⟨b,off,rfl,hrow⟩:=hR.row hr
 obtain⟨q,cap2,hq1,hq2⟩:=hrow r hr
 have hlr:=hl _ (List.mem_of_getElem? (Bm hr))
 refine zI (zE (zA (zH (zA (zB (wP I (Aa (zE (zH ?_)))))))))
 refine Ar (X:=Nat) (fun i=>[(0,slv (some ⟨b,off,none⟩) rs.length cap),(3, .int .i64 (r:Nat)),(4, .int .i64 (i:Nat))]) (fun _=>[])
  (fun i=>i<=(rg rs r).length/\ ∀i' s k,i'<i->i'<(rg rs r).length->s<rs.length->k<(rg rs s).length->r<=s->Ki rs r i' s k=false) (fun i=>(rg rs r).length-i) 0 ⟨Nat.zero_le _,fun i' s k h=>absurd h (Nat.not_lt_zero _)⟩ ⟨rfl,rfl,rfl,trivial⟩ [] rfl ?_
 rintro i ⟨hi,P2⟩
 refine zA (zA (zB (wP I (wP I (wP I (wJ ?_))))))
 refine wL 0 I I (fun W hp=>hq1.hp hp) I (wP I (wP I (Aa (zE (Ah I (fun h=> ?_) (fun h=> ?_))))))
 rotate_left
 ·have e:i=(rg rs r).length:=by simp at h;omega
  subst e
  refine zJ (zK (zK (zL (zN (zE (zB (wP I (wP I (wP I (Aa (Aj (r+1) ⟨hr,fun r' i' s k h0 h1 h2 h3 h4 h5=> ?_⟩ (by omega) ⟨I,congrArg (fun z=>some (Value.int .i64 z)) (AF (x:=(r:Int)+1) (by omega) (by omega)),tO⟩ [] I)))))))))))
  by_cases e:r'=r
  ·subst e;exact P2 i' s k h2 h2 h3 h4 h5
  ·exact P1 r' i' s k (by omega) h1 h2 h3 h4 h5
 have hi:i<(rg rs r).length:=by simp at h;omega
 clear h
 refine zI (zE (zA (zH (zA (zB (wP I (wP I (Aa (zE (zH ?_))))))))))
 refine Ar (X:=Nat) (fun s=>[(0,slv (some ⟨b,off,none⟩) rs.length cap),(3, .int .i64 (r:Nat)),(4, .int .i64 (i:Nat)),(5, .int .i64 (s:Nat))]) (fun _=>[])
  (fun s=>s<=rs.length/\r<=s/\ ∀s' k,s'<s->s'<rs.length->k<(rg rs s').length->r<=s'->Ki rs r i s' k=false) (fun s=>rs.length-s) r ⟨by omega,Nat.le_refl _,fun s' k h0 _ _ h5=>absurd h0 (by omega)⟩ ⟨rfl,rfl,rfl,rfl,trivial⟩ [] rfl ?_
 rintro s ⟨hs,hrs,P3⟩
 refine zA (zA (zB (wP I (wP I (wP I (wP I (Aa (zE (Ah I (fun h=> ?_) (fun h=> ?_))))))))))
 rotate_left
 ·have e:s=rs.length:=by simp at h;omega
  subst e
  refine zJ (zK (zK (zL (zN (zE (zB (wP I (wP I (wP I (Aa (Aj (i+1) ⟨hi,fun i' s k h0 h2 h3 h4 h5=> ?_⟩ (by omega) ⟨I,I,congrArg (fun z=>some (Value.int .i64 z)) (AF (x:=(i:Int)+1) (by omega) (by omega)),tO⟩ [] I)))))))))))
  by_cases e:i'=i
  ·subst e;exact P3 s k h3 h3 h4 h5
  ·exact P2 i' s k (by omega) h2 h3 h4 h5
 have hs:s<rs.length:=by simp at h;omega
 clear h
 obtain⟨q',cap3,hq3,hq4⟩:=hrow s hs
 have hls:=hl _ (List.mem_of_getElem? (Bm hs))
 refine zI (zE (zA (zH (zA (zB (wP I (Aa (zE (zH ?_)))))))))
 refine Ar (X:=Nat) (fun k=>[(0,slv (some ⟨b,off,none⟩) rs.length cap),(3, .int .i64 (r:Nat)),(4, .int .i64 (i:Nat)),(5, .int .i64 (s:Nat)),(6, .int .i64 (k:Nat))]) (fun _=>[])
  (fun k=>k<=(rg rs s).length/\ ∀k',k'<k->Ki rs r i s k'=false) (fun k=>(rg rs s).length-k) 0 ⟨Nat.zero_le _,fun k' h=>absurd h (Nat.not_lt_zero _)⟩ ⟨rfl,rfl,rfl,rfl,rfl,trivial⟩ [] rfl ?_
 rintro k ⟨hk,P4⟩
 refine zA (zA (zB (wP I (wP I (wP I (wJ ?_))))))
 refine wL 0 I I (fun W hp=>hq3.hp hp) I (wP I (wP I (Aa (zE (Ah I (fun h=> ?_) (fun h=> ?_))))))
 rotate_left
 ·have e:k=(rg rs s).length:=by simp at h;omega
  subst e
  refine zJ (zK (zK (zL (zN (zE (zB (wP I (wP I (wP I (Aa (Aj (s+1) ⟨hs,by omega,fun s' k h0 h3 h4 h5=> ?_⟩ (by omega) ⟨I,I,I,congrArg (fun z=>some (Value.int .i64 z)) (AF (x:=(s:Int)+1) (by omega) (by omega)),tO⟩ [] I)))))))))))
  by_cases e:s'=s
  ·subst e;exact P4 k h4
  ·exact P3 s' k (by omega) h3 h4 h5
 have hk:k<(rg rs s).length:=by simp at h;omega
 clear h
 have fin:Ki rs r i s k=false-> ∀k',k'<k+1->Ki rs r i s k'=false:=fun h k' hk'=>by
  by_cases e:k'=k
  ·subst e;exact h
  ·exact P4 k' (by omega)
 have e1: ∀z:Int,z=(k:Int)+1->w64 z=((k+1:Nat):Int):=fun z h=>by rw[h,Ak (by omega) (by omega)];omega
 have skip:((r==s)&&(decide (k<=i)||(k==i+1)||((i==0)&&(k+1==(rg rs r).length))))=true->Ki rs r i s k=false:=fun h=>by unfold Ki;rw[h];rfl
 have test:((r==s)&&(decide (k<=i)||(k==i+1)||((i==0)&&(k+1==(rg rs r).length))))=false->Ki rs r i s k=E9 (sd (rg rs r) i) (sd (rg rs r) (nxt (rg rs r).length i)) (sd (rg rs s) k) (sd (rg rs s) (nxt (rg rs s).length k)):=fun h=>by unfold Ki;rw[h];rfl
 obtain⟨C1,c1⟩: ∃b,((r:Int)==(s:Int))=b:=⟨_,rfl⟩
 obtain⟨C2,c2⟩: ∃b,decide ((k:Int)<=(i:Int))=b:=⟨_,rfl⟩
 obtain⟨C3,c3⟩: ∃b,((k:Int)==w64 ((i:Int)+1))=b:=⟨_,rfl⟩
 obtain⟨C4,c4⟩: ∃b,((i:Int)==0)=b:=⟨_,rfl⟩
 obtain⟨C5,c5⟩: ∃b,((k:Int)==w64 (((rg rs r).length:Nat)-1))=b:=⟨_,rfl⟩
 have hC:((r==s)&&(decide (k<=i)||(k==i+1)||((i==0)&&(k+1==(rg rs r).length))))=(C1&&(C2||C3||(C4&&C5))):=by
  rw[Ak (by omega) (by omega)] at c3 c5
  rw[<-c1, <-c2, <-c3, <-c4, <-c5,CB]
  have a2:decide (k<=i)=decide ((k:Int)<=(i:Int)):=by by_cases h:k<=i;rw[dT h,dT (by omega)];rw[dF h,dF (by omega)]
  have a3:(k==i+1)=((k:Int)==(i:Int)+1):=by rw[Bool.eq_iff_iff,beq_iff_eq,beq_iff_eq];omega
  have a4:(i==0)=((i:Int)==0):=by rw[Bool.eq_iff_iff,beq_iff_eq,beq_iff_eq];omega
  have a5:(k+1==(rg rs r).length)=((k:Int)==((rg rs r).length:Nat)-1):=by rw[Bool.eq_iff_iff,beq_iff_eq,beq_iff_eq];omega
  rw[a2,a3,a4,a5]
 refine zI (zE (zA (zH (zA (zB (wP I (wP I (wJ ?_))))))))
 refine wL 0 I I (fun W hp=>hq1.hp hp) I (wP I (wP I (Aa (zE (zA (zA (zB (wP I (wP I (wP I (wP I (AG 47 I (fun h47=> ?_) (fun h47=> ?_)))))))))))))
 ·refine wP I (wP I (wP I (wP I (AG 51 I (fun h51=> ?_) (fun h51=> ?_)))))
  ·refine Ae I I ?_
   iterate 3 refine Ae I I ?_
   refine wP I (wP I ?_)
   iterate 8 refine Ae I I ?_
   refine wP I (wP I (Aa ?_))
   have e:(C1&&(C2||C3||(C4&&C5)))=true:=by first|(rw[show C1=true from c1.symm.trans h47,show C2=true from c2.symm.trans h51];rfl)|(rw[show C1=true from c1.symm.trans h47,show C3=true from c3.symm.trans h57];cases C2<;>rfl)
   exact zE (zR I (zJ (zK (zL (zE (zB (wP I (wP I (wP I (Aa (Aj (k+1) ⟨hk,fin (skip (hC.trans e))⟩ (by omega) ⟨I,I,I,I,congrArg (fun z=>some (Value.int .i64 z)) (AF (x:=(k:Int)+1) (by omega) (by omega)),tO⟩ [] I)))))))))))
  ·refine wP I (wP I (wP I (wP I (wP I (wP I (AG 57 I (fun h57=> ?_) (fun h57=> ?_)))))))
   ·refine Ae I I ?_
    iterate 7 refine Ae I I ?_
    refine wP I (wP I (Aa ?_))
    have e:(C1&&(C2||C3||(C4&&C5)))=true:=by first|(rw[show C1=true from c1.symm.trans h47,show C2=true from c2.symm.trans h51];rfl)|(rw[show C1=true from c1.symm.trans h47,show C3=true from c3.symm.trans h57];cases C2<;>rfl)
    exact zE (zR I (zJ (zK (zL (zE (zB (wP I (wP I (wP I (Aa (Aj (k+1) ⟨hk,fin (skip (hC.trans e))⟩ (by omega) ⟨I,I,I,I,congrArg (fun z=>some (Value.int .i64 z)) (AF (x:=(k:Int)+1) (by omega) (by omega)),tO⟩ [] I)))))))))))
   ·refine wP I (wP I (wP I (AG 60 I (fun h60=> ?_) (fun h60=> ?_))))
    ·refine wP I (wP I (wP I (wP I (wP I (wP I (wP I (Aa (zE (Ah I (fun hx=> ?_) (fun hx=> ?_))))))))))
     ·have e:(C1&&(C2||C3||(C4&&C5)))=true:=by first|(rw[show C1=true from c1.symm.trans h47,show C3=true from c3.symm.trans h57];cases C2<;>rfl)|(rw[show C1=true from c1.symm.trans h47,show C4=true from c4.symm.trans h60,show C5=true from c5.symm.trans hx];cases C2<;>cases C3<;>rfl)|(rw[show C1=true from c1.symm.trans h47,show C3=true from c3.symm.trans hx];cases C2<;>rfl)
      exact zJ (zK (zL (zE (zB (wP I (wP I (wP I (Aa (Aj (k+1) ⟨hk,fin (skip (hC.trans e))⟩ (by omega) ⟨I,I,I,I,congrArg (fun z=>some (Value.int .i64 z)) (AF (x:=(k:Int)+1) (by omega) (by omega)),tO⟩ [] I)))))))))
     ·have e:(C1&&(C2||C3||(C4&&C5)))=false:=by first|(rw[show C2=false from c2.symm.trans h51,show C3=false from c3.symm.trans h57,show C5=false from c5.symm.trans hx,Bool.and_false];cases C1<;>rfl)
      refine zI (zE (zA (zU (qP I (qP I (qJ ?_))))))
      refine qL 0 I I (fun W hp=>hq1.hp hp) I (qP I (qP I (qP I (qJ ?_))))
      refine qL 0 I I (fun W hp=>hq3.hp hp) I (qP I (qC I I (fun W hp=>I1 W q q' cap2 cap3 (rg rs r) (rg rs s) i k hlr hls (hq2.hp hp) (hq4.hp hp) hi hk) (A8 (Aa (zE (Ah I (fun h=> ?_) (fun h=> ?_)))))))
      ·refine zA (zB (wP I (Aa (zE (zO (zQ (zP (zP (zQ (zQ (zP (zP (zQ (zQ (zP (zP (zQ (zQ (zP (zP (zQ (zP ?_))))))))))))))))))))))
       have hc:crs rs=true:=M4 hr hi hs hk ((test (hC.trans e)).trans h)
       exact wR1 I I (by rw[hc])
      ·exact zI (zN (zE (zB (wP I (wP I (wP I (Aa (Aj (k+1) ⟨hk,fin ((test (hC.trans e)).trans h)⟩ (by omega) ⟨I,I,I,I,congrArg (fun z=>some (Value.int .i64 z)) (AF (x:=(k:Int)+1) (by omega) (by omega)),tO⟩ [] I))))))))
    ·refine Ae I I ?_
     iterate 3 refine Ae I I ?_
     refine wP I (wP I (wP I (Aa ?_)))
     have e:(C1&&(C2||C3||(C4&&C5)))=false:=by first|(rw[show C1=false from c1.symm.trans h47];rfl)|(rw[show C2=false from c2.symm.trans h51,show C3=false from c3.symm.trans h57,show C4=false from c4.symm.trans h60,Bool.false_and];cases C1<;>rfl)
     refine zE (zS I (zI (zE (zA (zU (qP I (qP I (qJ ?_))))))))
     refine qL 0 I I (fun W hp=>hq1.hp hp) I (qP I (qP I (qP I (qJ ?_))))
     refine qL 0 I I (fun W hp=>hq3.hp hp) I (qP I (qC I I (fun W hp=>I1 W q q' cap2 cap3 (rg rs r) (rg rs s) i k hlr hls (hq2.hp hp) (hq4.hp hp) hi hk) (A8 (Aa (zE (Ah I (fun h=> ?_) (fun h=> ?_)))))))
     ·refine zA (zB (wP I (Aa (zE (zO (zQ (zP (zP (zQ (zQ (zP (zP (zQ (zQ (zP (zP (zQ (zQ (zP (zP (zQ (zP ?_))))))))))))))))))))))
      have hc:crs rs=true:=M4 hr hi hs hk ((test (hC.trans e)).trans h)
      exact wR1 I I (by rw[hc])
     ·exact zI (zN (zE (zB (wP I (wP I (wP I (Aa (Aj (k+1) ⟨hk,fin ((test (hC.trans e)).trans h)⟩ (by omega) ⟨I,I,I,I,congrArg (fun z=>some (Value.int .i64 z)) (AF (x:=(k:Int)+1) (by omega) (by omega)),tO⟩ [] I))))))))
 ·refine Ae I I ?_
  iterate 18 refine Ae I I ?_
  refine wP I (Aa ?_)
  have e:(C1&&(C2||C3||(C4&&C5)))=false:=by first|(rw[show C1=false from c1.symm.trans h47];rfl)|(rw[show C2=false from c2.symm.trans h51,show C3=false from c3.symm.trans h57,show C4=false from c4.symm.trans h60,Bool.false_and];cases C1<;>rfl)
  refine zE (zS I (zI (zE (zA (zU (qP I (qP I (qJ ?_))))))))
  refine qL 0 I I (fun W hp=>hq1.hp hp) I (qP I (qP I (qP I (qJ ?_))))
  refine qL 0 I I (fun W hp=>hq3.hp hp) I (qP I (qC I I (fun W hp=>I1 W q q' cap2 cap3 (rg rs r) (rg rs s) i k hlr hls (hq2.hp hp) (hq4.hp hp) hi hk) (A8 (Aa (zE (Ah I (fun h=> ?_) (fun h=> ?_)))))))
  ·refine zA (zB (wP I (Aa (zE (zO (zQ (zP (zP (zQ (zQ (zP (zP (zQ (zQ (zP (zP (zQ (zQ (zP (zP (zQ (zP ?_))))))))))))))))))))))
   have hc:crs rs=true:=M4 hr hi hs hk ((test (hC.trans e)).trans h)
   exact wR1 I I (by rw[hc])
  ·exact zI (zN (zE (zB (wP I (wP I (wP I (Aa (Aj (k+1) ⟨hk,fin ((test (hC.trans e)).trans h)⟩ (by omega) ⟨I,I,I,I,congrArg (fun z=>some (Value.int .i64 z)) (AF (x:=(k:Int)+1) (by omega) (by omega)),tO⟩ [] I))))))))
def OB (rs:List (List Sd)) (r s:Nat):Bool:=(s==r)||(GI (rg rs s) (sd (rg rs r) 0).x (sd (rg rs r) 0).y (rg rs s).length==(s==0))
def SY (rs:List (List Sd)) (r:Nat):Bool:=(r==0)||(!decide (twR (rg rs r) (rg rs r).length≥0)&&(List.range rs.length).all (OB rs r))
def HD (rs:List (List Sd)):Bool:= !decide (twR (rg rs 0) (rg rs 0).length<=0)&&(List.range rs.length).all (SY rs)
theorem Oz (W:World) (p:Option Addr) (cap:Nat) (rs:List (List Sd)) (hn:rs.length<4611686018427387904) (hl: ∀l∈rs,l.length<4611686018427387904) (hne: ∀l∈rs,l≠[]) (h0:0<rs.length) (hR:Bd W p rs):
  Ad Tryz.prog 49 #[slv p rs.length cap] W (fun _:Unit=> .bool (HD rs)) (fun _=>True) (fun _=>[]):=by
 obtain⟨b,off,rfl,hrow⟩:=hR.row h0
 obtain⟨q0,cap0,hq1,hq2⟩:=hrow 0 h0
 refine Ab (args:=[slv (some ⟨b,off,none⟩) rs.length cap]) Tryz.func49 I I I (zA (zB (wP I (Aa (zE (zA (zA (zB (wP I (wJ ?_))))))))))
 refine wL 0 I I (fun W hp=>hq1.hp hp) I (wC I I (fun W hp=>Lx W q0 cap0 (rg rs 0) (hl _ (List.mem_of_getElem? (Bm h0))) (hq2.hp hp)) (wP I (Aa (zE (Ah I (fun h=> ?_) (fun h=> ?_))))))
 ·refine zA (zB (wP I (Aa (zE (zO (zP ?_))))))
  have hf:HD rs=false:=by unfold HD;rw[show decide (twR (rg rs 0) (rg rs 0).length<=0)=true from h];rfl
  exact wR1 I I (by rw[hf])
 have hA:decide (twR (rg rs 0) (rg rs 0).length<=0)=false:=h
 clear h
 refine zI (zE (zA (zA (zB (wP I (Aa (zE (zH ?_))))))))
 refine Ar (X:=Nat) (fun r=>[(0,slv (some ⟨b,off,none⟩) rs.length cap),(3, .int .i64 (r:Nat))]) (fun _=>[]) (fun r=>1<=r/\r<=rs.length/\ ∀j,j<r->SY rs j=true) (fun r=>rs.length-r) 1
  ⟨Nat.le_refl _,h0,fun j hj=>by rw[show j=0 by omega];rfl⟩ ⟨rfl,rfl,trivial⟩ [] rfl ?_
 rintro r ⟨hr1,hr,hok⟩
 refine zA (zA (zB (wP I (wP I (wP I (wP I (Aa (zE (Ah I (fun h=> ?_) (fun h=> ?_))))))))))
 rotate_left
 ·have e:r=rs.length:=by simp at h;omega
  subst e
  refine zJ (zK (zK (zL (zE (zA (zB (wP I (Aa (zE (zO ?_))))))))))
  have ht:HD rs=true:=by unfold HD;rw[hA,List.all_eq_true.2 fun j hj=>hok j (List.mem_range.1 hj)];rfl
  exact wR1 I I (by rw[ht])
 have hr:r<rs.length:=by simp at h;omega
 clear h
 obtain⟨q,cap2,hq3,hq4⟩:=hrow r hr
 have hlr:=hl _ (List.mem_of_getElem? (Bm hr))
 have hner:0<(rg rs r).length:=List.length_pos_iff.2 (hne _ (List.mem_of_getElem? (Bm hr)))
 have hr0:(r==0)=false:=beq_eq_false_iff_ne.2 (by omega)
 refine zI (zE (zA (zH (zA (zA (zB (wP I (wP I (wJ ?_)))))))))
 refine wL 0 I I (fun W hp=>hq3.hp hp) I (wC I I (fun W hp=>Lx W q cap2 (rg rs r) hlr (hq4.hp hp)) (wP I (Aa (zE (Ah I (fun h=> ?_) (fun h=> ?_))))))
 ·refine zA (zB (wP I (Aa (zE (zO (zP (zQ (zP (zP (zQ (zP ?_)))))))))))
  have hf:HD rs=false:=by unfold HD;rw[BH hr (by unfold SY;rw[hr0,show decide (twR (rg rs r) (rg rs r).length≥0)=true from h];rfl),Bool.and_false]
  exact wR1 I I (by rw[hf])
 have hB:decide (twR (rg rs r) (rg rs r).length≥0)=false:=h
 clear h
 refine zI (zE (zA (zB (wP I (Aa (zE (zH ?_)))))))
 refine Ar (X:=Nat) (fun s=>[(0,slv (some ⟨b,off,none⟩) rs.length cap),(3, .int .i64 (r:Nat)),(4, .int .i64 (s:Nat))]) (fun _=>[]) (fun s=>s<=rs.length/\ ∀j,j<s->OB rs r j=true) (fun s=>rs.length-s) 0
  ⟨Nat.zero_le _,fun j hj=>absurd hj (Nat.not_lt_zero _)⟩ ⟨rfl,rfl,rfl,trivial⟩ [] rfl ?_
 rintro s ⟨hs,hoks⟩
 refine zA (zA (zB (wP I (wP I (wP I (wP I (Aa (zE (Ah I (fun h=> ?_) (fun h=> ?_))))))))))
 rotate_left
 ·have e:s=rs.length:=by simp at h;omega
  subst e
  refine zJ (zK (zK (zL (zN (zE (zB (wP I (wP I (wP I (Aa (Aj (r+1) ⟨by omega,hr,fun j hj=> ?_⟩ (by omega) ⟨I,congrArg (fun z=>some (Value.int .i64 z)) (AF (x:=(r:Int)+1) (by omega) (by omega)),tO⟩ [] I)))))))))))
  by_cases e:j=r
  ·subst e
   unfold SY
   rw[hB,List.all_eq_true.2 fun m hm=>hoks m (List.mem_range.1 hm),hr0];rfl
  ·exact hok j (by omega)
 have hs:s<rs.length:=by simp at h;omega
 clear h
 obtain⟨q',cap3,hq5,hq6⟩:=hrow s hs
 have hls:=hl _ (List.mem_of_getElem? (Bm hs))
 have next:OB rs r s=true-> ∀j,j<s+1->OB rs r j=true:=fun h j hj=>by
  by_cases e:j=s
  ·subst e;exact h
  ·exact hoks j (by omega)
 obtain⟨b3,off3,rfl,hrow3⟩:=hq4.row hner
 refine zI (zE (zA (zH (zA (zU (qP I (qP I (qP I (qP I (Hz 31 I (fun h31=> ?_) (fun h31=> ?_)))))))))))
 ·refine qP I (qP I (qJ ?_))
  refine qL 0 I I (fun W hp=>hq5.hp hp) I (qP I (qP I (qJ ?_)))
  refine qL 0 I I (fun W hp=>hq3.hp hp) I (qJ ?_)
  refine qP I (qL 0 I I (fun W hp=>(hrow3 0 hner).hp hp) I (qP I (qP I (qJ ?_))))
  refine qL 0 I I (fun W hp=>hq3.hp hp) I (qJ ?_)
  refine qP I (qL 1 I I (fun W hp=>(hrow3 0 hner).hp hp) I (qC I I (fun W hp=>O3 W q' cap3 (rg rs s) _ _ hls (hq6.hp hp)) (qP I (qP I (Tn Tryz.underlying4 I I I I I I ?_)))))
  refine qP I (A8 (Aa ?_))
  have e:(s==r)=false:=by have h':((s:Int) !=(r:Int))=true:=h31;rw[bne_iff_ne] at h';rw[beq_eq_false_iff_ne];omega
  refine zE (Ah I (fun h=> ?_) (fun h=> ?_))
  ·refine zA (zB (wP I (Aa (zE (zO (zQ (zP (zP (zQ (zQ (zP (zP (zQ (zP ?_))))))))))))))
   have h':(GI (rg rs s) (sd (rg rs r) 0).x (sd (rg rs r) 0).y (rg rs s).length==(s==0))=false:=by
    rw[<-CB s 0]
    have h2:(!(GI (rg rs s) (sd (rg rs r) 0).x (sd (rg rs r) 0).y (rg rs s).length==((s:Int)==0)))=true:=h
    simpa using h2
   have hf:HD rs=false:=by unfold HD;rw[BH hr (by unfold SY;rw[hr0,BH hs (by unfold OB;rw[e,h'];rfl),Bool.and_false];rfl),Bool.and_false]
   exact wR1 I I (by rw[hf])
  ·have h':(GI (rg rs s) (sd (rg rs r) 0).x (sd (rg rs r) 0).y (rg rs s).length==(s==0))=true:=by
    rw[<-CB s 0]
    have h2:(!(GI (rg rs s) (sd (rg rs r) 0).x (sd (rg rs r) 0).y (rg rs s).length==((s:Int)==0)))=false:=h
    simpa using h2
   exact zI (zN (zE (zB (wP I (wP I (wP I (Aa (Aj (s+1) ⟨hs,next (by unfold OB;rw[h',Bool.or_true])⟩ (by omega) ⟨I,I,congrArg (fun z=>some (Value.int .i64 z)) (AF (x:=(s:Int)+1) (by omega) (by omega)),tO⟩ [] I))))))))
 ·refine Cg I I ?_
  iterate 21 refine Cg I I ?_
  refine qP I (A8 (Aa ?_))
  have e:(s==r)=true:=by have h':((s:Int) !=(r:Int))=false:=h31;rw[bne_eq_false_iff_eq] at h';rw[beq_iff_eq];omega
  exact zE (zS I (zI (zN (zE (zB (wP I (wP I (wP I (Aa (Aj (s+1) ⟨hs,next (by unfold OB;rw[e];rfl)⟩ (by omega) ⟨I,I,congrArg (fun z=>some (Value.int .i64 z)) (AF (x:=(s:Int)+1) (by omega) (by omega)),tO⟩ [] I))))))))))
def HQ (l:List Sd) (k:Nat):Bool:= !(decide (Le l k<0)&&((sd l (prv l.length k)).gable||(sd l k).gable||((sd l (prv l.length k)).plate !=(sd l k).plate)))
def KI (rs:List (List Sd)):Bool:=rs.all (fun l=>(List.range l.length).all (HQ l))&&Bg rs rs.length
theorem PZ (W:World) (p:Option Addr) (cap:Nat) (rs:List (List Sd)) (hn:rs.length<4611686018427387904) (hl: ∀l∈rs,l.length<4611686018427387904) (hR:Bd W p rs):
  Ad Tryz.prog 50 #[slv p rs.length cap] W (fun _:Unit=> .bool (KI rs)) (fun _=>True) (fun _=>[]):=by
 refine Ab (args:=[slv p rs.length cap]) Tryz.func50 I I I (zA (zB (wP I (Aa (zE (zA (zB (wP I (Aa (zE (zA (zA (zB (wP I (Aa (zE (zH ?_)))))))))))))))))
 refine Ar (X:=Nat) (fun r=>[(0,slv p rs.length cap),(3, .bool (Bg rs r)),(4, .int .i64 (r:Nat))]) (fun _=>[]) (fun r=>r<=rs.length/\ ∀j,j<r->(List.range (rg rs j).length).all (HQ (rg rs j))=true) (fun r=>rs.length-r) 0
  ⟨Nat.zero_le _,fun j hj=>absurd hj (Nat.not_lt_zero _)⟩ ⟨rfl,rfl,rfl,trivial⟩ [] rfl ?_
 rintro r ⟨hr,hok⟩
 refine zA (zA (zB (wP I (wP I (wP I (wP I (Aa (zE (Ah I (fun h=> ?_) (fun h=> ?_))))))))))
 rotate_left
 ·have e:r=rs.length:=by simp at h;omega
  subst e
  refine zJ (zK (zK (zL (zE (zA (zB (wP I (wP I (Aa (zE (zO ?_)))))))))))
  have ht:KI rs=Bg rs rs.length:=by
   unfold KI
   rw[List.all_eq_true.2 fun l hl=> ?_,Bool.true_and]
   obtain⟨j,hj,e⟩:=List.getElem_of_mem hl
   have:=hok j hj
   rw[show rg rs j=l by simp[rg,hj,e]] at this
   exact this
  exact wR1 I I (by rw[ht])
 have hr:r<rs.length:=by simp at h;omega
 clear h
 obtain⟨b,off,rfl,hrow⟩:=hR.row hr
 obtain⟨q,cap2,hq1,hq2⟩:=hrow r hr
 have hlr:=hl _ (List.mem_of_getElem? (Bm hr))
 refine zI (zE (zA (zH (zA (zB (wP I (wP I (wJ ?_))))))))
 refine wL 0 I I (fun W hp=>hq1.hp hp) I (wP I (Aa (zE (zA (zB (wP I (Aa (zE (zH ?_)))))))))
 refine Ar (X:=Nat) (fun i=>[(0,slv (some ⟨b,off,none⟩) rs.length cap),(3, .bool (Bu (rg rs r) (Bg rs r) i)),(4, .int .i64 (r:Nat)),(5,slv q (rg rs r).length cap2),(6, .int .i64 (i:Nat))]) (fun _=>[]) (fun i=>i<=(rg rs r).length/\ ∀j,j<i->HQ (rg rs r) j=true) (fun i=>(rg rs r).length-i) 0
  ⟨Nat.zero_le _,fun j hj=>absurd hj (Nat.not_lt_zero _)⟩ ⟨rfl,rfl,rfl,rfl,rfl,trivial⟩ [] rfl ?_
 rintro i ⟨hi,hoki⟩
 refine zA (zA (zB (wP I (wP I (wP I (wP I (Aa (zE (Ah I (fun h=> ?_) (fun h=> ?_))))))))))
 rotate_left
 ·have e:i=(rg rs r).length:=by simp at h;omega
  subst e
  refine zJ (zK (zK (zL (zN (zE (zB (wP I (wP I (wP I (Aa (Aj (r+1) ⟨hr,fun j hj=> ?_⟩ (by omega) ⟨I,I,congrArg (fun z=>some (Value.int .i64 z)) (AF (x:=(r:Int)+1) (by omega) (by omega)),tO⟩ [] I)))))))))))
  by_cases e:j=r
  ·subst e;exact List.all_eq_true.2 fun m hm=>hoki m (List.mem_range.1 hm)
  ·exact hok j (by omega)
 have hi:i<(rg rs r).length:=by simp at h;omega
 clear h
 have hi2:=G8 hi
 obtain⟨b3,off3,rfl,hrow3⟩:=hq2.row hi
 have bad:HQ (rg rs r) i=false->KI rs=false:=fun h=>by
  unfold KI
  have:rs.all (fun l=>(List.range l.length).all (HQ l))=false:=Bool.eq_false_iff.2 fun e=>by
   have:=List.all_eq_true.1 e _ (List.mem_of_getElem? (Bm hr))
   rw[BH hi h] at this;cases this
  rw[this];rfl
 have good:HQ (rg rs r) i=true-> ∀j,j<i+1->HQ (rg rs r) j=true:=fun h j hj=>by
  by_cases e:j=i
  ·subst e;exact h
  ·exact hoki j (by omega)
 refine zI (zE (Av (Bv ?_)))
 repeat refine Av ?_
 refine NA (X:=Nat×Nat) (fun y=>[(0,slv (some ⟨b,off,none⟩) rs.length cap),(3, .bool (Bu (rg rs r) (Bg rs r) i)),(4, .int .i64 (r:Nat)),(5,slv (some ⟨b3,off3,none⟩) (rg rs r).length cap2),(6, .int .i64 (i:Nat)),(7, .pointer (some ⟨y.1,0,none⟩)),(8, .pointer (some ⟨y.2,0,none⟩))])
  (fun y=>[⟨y.1,97,(sd (rg rs r) (prv (rg rs r).length i)).cells,true,none⟩,⟨y.2,97,(sd (rg rs r) i).cells,true,none⟩]) 4 Tryz.mixed (by kernel_rfl) ?_ ?_
 ·refine qP I (qP I (qP I (qP I (qP I (qP I (qV 30 ((i+(rg rs r).length-1:Nat):Int) I (show w64 (w64 ((i:Nat)+((rg rs r).length:Nat))-1)=((i+(rg rs r).length-1:Nat):Int) by rw[Ak (x:=(i:Nat)+((rg rs r).length:Nat)) (by omega) (by omega),Ak (by omega) (by omega)];omega) (qP I (qP I (DB I I I I I (by omega) ?_)))))))))
  refine qV 33 (prv (rg rs r).length i:Nat) I (show Int.tmod ((i+(rg rs r).length-1:Nat):Int) ((rg rs r).length:Nat)=(prv (rg rs r).length i:Nat) from(Int.ofNat_tmod _ _).symm) (qJ ?_)
  refine qL 0 I I (fun W hp=>(hrow3 _ hi2).hp hp) I (qP I (qP I (qJ ?_)))
  refine qL 0 I I (fun W hp=>(hrow3 i hi).hp hp) I (BU (wX (RS.cons ?_ (RS.cons ?_ (RS.nil)))))
  ·refine B8 Tryz.hZ rfl rfl rfl rfl ?_;intro b7
   refine Aa (Ag (wX (wZ ?_)))
   refine B8 Tryz.hZ rfl rfl rfl rfl ?_;intro b8
   refine Aa (Ag (wX (wZ (wS 0 I I I (Aa (Ag (wX (wZ (wS 1 I I I (Aa (Ag ?_)))))))))))
   (first|refine AD rfl (by((repeat (first|refine AJ.same ?_|refine AJ.off rfl ?_));exact trivial)) ?_|refine AT rfl (by kernel_rfl) ?_);(first|exact A4 (b7,b8) ⟨rfl,rfl,rfl,rfl,rfl,rfl,rfl,trivial⟩ [0,1] (by decide) rfl|exact A4 (b7,b8) ⟨rfl,rfl,rfl,rfl,rfl,rfl,rfl,trivial⟩ [1,0] (by decide) rfl)
  ·refine B8 Tryz.hZ rfl rfl rfl rfl ?_;intro b8
   refine Aa (Ag (wX (wZ ?_)))
   refine B8 Tryz.hZ rfl rfl rfl rfl ?_;intro b7
   refine Aa (Ag (wX (wZ (wS 1 I I I (Aa (Ag (wX (wZ (wS 0 I I I (Aa (Ag ?_)))))))))))
   (first|refine AD rfl (by((repeat (first|refine AJ.same ?_|refine AJ.off rfl ?_));exact trivial)) ?_|refine AT rfl (by kernel_rfl) ?_);(first|exact A4 (b7,b8) ⟨rfl,rfl,rfl,rfl,rfl,rfl,rfl,trivial⟩ [0,1] (by decide) rfl|exact A4 (b7,b8) ⟨rfl,rfl,rfl,rfl,rfl,rfl,rfl,trivial⟩ [1,0] (by decide) rfl)
 rintro⟨b7,b8⟩
 obtain⟨C1,c1⟩: ∃b,decide (Le (rg rs r) i<0)=b:=⟨_,rfl⟩
 obtain⟨C4,c4⟩: ∃b,((sd (rg rs r) (prv (rg rs r).length i)).plate !=(sd (rg rs r) i).plate)=b:=⟨_,rfl⟩
 have hC:HQ (rg rs r) i= !(C1&&((sd (rg rs r) (prv (rg rs r).length i)).gable||(sd (rg rs r) i).gable||C4)):=by unfold HQ;rw[c1,c4]
 refine zE (zA (zA (zB (wP I (wP I (wC I I (fun W hp=>Nc W _ cap2 (rg rs r) i hlr (hq2.hp hp) hi) (wP I (wP I (AG 44 I (fun h44=> ?_) (fun h44=> ?_))))))))))
 ·refine wP I (wB 0 I I I (wP I (AG 47 I (fun h47=> ?_) (fun h47=> ?_))))
  ·refine Ae I I ?_
   refine Ae I I ?_
   refine wP I (wP I ?_)
   iterate 5 refine Ae I I ?_
   refine wP I (wP I (Aa ?_))
   have e:HQ (rg rs r) i=false:=by
    rw[hC,show C1=true from c1.symm.trans h44]
    first
    |(rw[show(sd (rg rs r) (prv (rg rs r).length i)).gable=true from h47];rfl)
    |(rw[show(sd (rg rs r) i).gable=true from h51];cases(sd (rg rs r) (prv (rg rs r).length i)).gable<;>rfl)
   exact zE (zR I (zA (zB (wP I (Aa (zE (zO (zP (zQ (zP (zP (zQ (zQ (zP (zP (zQ (zP (wR1 I I (by rw[bad e])))))))))))))))))))
  ·refine wP I (wB 1 I I I (wP I (wP I (AG 51 I (fun h51=> ?_) (fun h51=> ?_)))))
   ·refine Ae I I ?_
    iterate 4 refine Ae I I ?_
    refine wP I (wP I (Aa ?_))
    have e:HQ (rg rs r) i=false:=by
     rw[hC,show C1=true from c1.symm.trans h44]
     first
     |(rw[show(sd (rg rs r) (prv (rg rs r).length i)).gable=true from h47];rfl)
     |(rw[show(sd (rg rs r) i).gable=true from h51];cases(sd (rg rs r) (prv (rg rs r).length i)).gable<;>rfl)
    exact zE (zR I (zA (zB (wP I (Aa (zE (zO (zP (zQ (zP (zP (zQ (zQ (zP (zP (zQ (zP (wR1 I I (by rw[bad e])))))))))))))))))))
   ·refine wP I (wB 0 I I I (wP I (wB 1 I I I (wP I (wP I (wP I (Aa (zE (Ah I (fun hx=> ?_) (fun hx=> ?_))))))))))
    ·have e:HQ (rg rs r) i=false:=by
      rw[hC,show C1=true from c1.symm.trans h44,show C4=true from c4.symm.trans hx]
      cases(sd (rg rs r) (prv (rg rs r).length i)).gable<;>cases(sd (rg rs r) i).gable<;>rfl
     exact zA (zB (wP I (Aa (zE (zO (zP (zQ (zP (zP (zQ (zQ (zP (zP (zQ (zP (wR1 I I (by rw[bad e])))))))))))))))))
    ·have e:HQ (rg rs r) i=true:=by
      rw[hC,show(sd (rg rs r) (prv (rg rs r).length i)).gable=false from h47]
      rw[show(sd (rg rs r) i).gable=false from h51,show C4=false from c4.symm.trans hx]
      cases C1<;>rfl
     refine zI (zE (zB (wP I (wP I (AG 60 I (fun h60=> ?_) (fun h60=> ?_))))))
     ·refine Ae I I ?_
      iterate 2 refine Ae I I ?_
      exact wP I (wP I (Aa (zN (zE (zB (wP I (wP I (wP I (Aa (Aj (i+1) ⟨hi,good e⟩ (by omega) ⟨I,congrArg (fun z=>some (Value.bool z)) (show _=(Bu (rg rs r) (Bg rs r) i|| !(sd (rg rs r) i).gable) by first|(rw[show Bu (rg rs r) (Bg rs r) i=true from h60];rfl)|(rw[show Bu (rg rs r) (Bg rs r) i=false from h60];rfl)),I,I,congrArg (fun z=>some (Value.int .i64 z)) (AF (x:=(i:Int)+1) (by omega) (by omega)),tO⟩ [_,_] I))))))))))
     ·exact wP I (wB 1 I I I (wP I (wP I (wP I (Aa (zN (zE (zB (wP I (wP I (wP I (Aa (Aj (i+1) ⟨hi,good e⟩ (by omega) ⟨I,congrArg (fun z=>some (Value.bool z)) (show _=(Bu (rg rs r) (Bg rs r) i|| !(sd (rg rs r) i).gable) by first|(rw[show Bu (rg rs r) (Bg rs r) i=true from h60];rfl)|(rw[show Bu (rg rs r) (Bg rs r) i=false from h60];rfl)),I,I,congrArg (fun z=>some (Value.int .i64 z)) (AF (x:=(i:Int)+1) (by omega) (by omega)),tO⟩ [_,_] I)))))))))))))
 ·refine Ae I I ?_
  iterate 12 refine Ae I I ?_
  refine wP I (Aa ?_)
  have e:HQ (rg rs r) i=true:=by rw[hC,show C1=false from c1.symm.trans h44];rfl
  refine zE (zS I (zI (zE (zB (wP I (wP I (AG 60 I (fun h60=> ?_) (fun h60=> ?_))))))))
  ·refine Ae I I ?_
   iterate 2 refine Ae I I ?_
   exact wP I (wP I (Aa (zN (zE (zB (wP I (wP I (wP I (Aa (Aj (i+1) ⟨hi,good e⟩ (by omega) ⟨I,congrArg (fun z=>some (Value.bool z)) (show _=(Bu (rg rs r) (Bg rs r) i|| !(sd (rg rs r) i).gable) by first|(rw[show Bu (rg rs r) (Bg rs r) i=true from h60];rfl)|(rw[show Bu (rg rs r) (Bg rs r) i=false from h60];rfl)),I,I,congrArg (fun z=>some (Value.int .i64 z)) (AF (x:=(i:Int)+1) (by omega) (by omega)),tO⟩ [_,_] I))))))))))
  ·exact wP I (wB 1 I I I (wP I (wP I (wP I (Aa (zN (zE (zB (wP I (wP I (wP I (Aa (Aj (i+1) ⟨hi,good e⟩ (by omega) ⟨I,congrArg (fun z=>some (Value.bool z)) (show _=(Bu (rg rs r) (Bg rs r) i|| !(sd (rg rs r) i).gable) by first|(rw[show Bu (rg rs r) (Bg rs r) i=true from h60];rfl)|(rw[show Bu (rg rs r) (Bg rs r) i=false from h60];rfl)),I,I,congrArg (fun z=>some (Value.int .i64 z)) (AF (x:=(i:Int)+1) (by omega) (by omega)),tO⟩ [_,_] I)))))))))))))
def N4 (rs:List (List Sd)):Int:=
 if rs.any (fun l=>l.length==0)=true then 5
 else if tot rs=0 then 5
 else if tot rs>24 then 4
 else if rs.flatten.any (fun s=> !rgd s)=true then 2
 else if rs.any (fun l=> !Jl l)=true then 14
 else if crs rs=true then 15
 else if (!HD rs|| !KI rs)=true then 14
 else 0
theorem JV (W:World) (p:Option Addr) (cap:Nat) (rs:List (List Sd)) (hn:rs.length<4611686018427387904) (hT:tot rs<1099511627776) (hR:Bd W p rs):
  Ad Tryz.prog 12 #[BW p rs.length cap] W (fun _:Unit=> .int .i64 (N4 rs)) (fun _=>True) (fun _=>[]):=by
 have hl: ∀l∈rs,l.length<4611686018427387904:=fun l h=>by have:=He h;omega
 refine Ab (args:=[BW p rs.length cap]) Tryz.func12 I I I (zA (zB (wF I I fun _=>(wP I (Aa ?_)))))
 rename_i b1
 refine zE (zA (zA (zB (wP I (wB 0 I I I (wP I (wP I (Aa (zE (Ah I (fun h=> ?_) (fun h=> ?_)))))))))))
 ·refine zA (zB (wP I (Aa (zE (zO (zP ?_))))))
  have h0:rs=[]:=by have h':(((rs.length:Nat):Int)==0)=true:=h;rw[beq_iff_eq] at h';exact List.length_eq_zero_iff.1 (by omega)
  exact wR1 rfl rfl (by subst h0;rfl)
 have hpos:0<rs.length:=by have h':(((rs.length:Nat):Int)==0)=false:=h;rw[beq_eq_false_iff_ne] at h';omega
 clear h
 obtain⟨b,off,rfl,hrow⟩:=hR.row hpos
 refine zI (zE (zA (zB (wP I (Aa (zE (zA (zA (zB (wP I (Aa (zE (zH ?_)))))))))))))
 refine Ar (X:=Nat) (fun k=>[(1, .pointer (some ⟨b1,0,none⟩)),(3, .int .i64 (tot (rs.take k):Nat)),(4, .int .i64 (k:Nat))]) (fun _=>[⟨b1,36,[slv (some ⟨b,off,none⟩) rs.length cap],true,none⟩])
  (fun k=>k<=rs.length/\ ∀j,j<k->(rg rs j).length≠0) (fun k=>rs.length-k) 0 ⟨Nat.zero_le _,fun j hj=>absurd hj (Nat.not_lt_zero _)⟩ ⟨rfl,rfl,rfl,trivial⟩ [] rfl ?_
 rintro k ⟨hk,hok⟩
 refine zA (zA (zB (wP I (wP I (wB 0 I I I (wP I (wP I (Aa (zE (Ah I (fun h=> ?_) (fun h=> ?_)))))))))))
 ·have hk:k<rs.length:=by simp at h;omega
  clear h
  obtain⟨q,cap2,hq1,hq2⟩:=hrow k hk
  refine zI (zE (zA (zH (zA (zA (zB (wP I (wB 0 I I I (wP I (wJ ?_))))))))))
  refine wL 0 I I (fun W hp=>hq1.hp hp) I (wP I (wP I (Aa (zE (Ah I (fun h=> ?_) (fun h=> ?_))))))
  ·refine zA (zB (wP I (Aa (zE (zO (zP (zQ (zP (zP (zQ (zP ?_)))))))))))
   have he:rs.any (fun l=>l.length==0)=true:=List.any_eq_true.2 ⟨_,List.mem_of_getElem? (Bm hk),by have h':((((rg rs k).length:Nat):Int)==0)=true:=h;rw[beq_iff_eq] at h'⊢;omega⟩
   exact wR1 I I (by unfold N4;rw[if_pos he])
  have hz:(rg rs k).length≠0:=by
   have h':((((rg rs k).length:Nat):Int)==0)=false:=h
   rw[beq_eq_false_iff_ne] at h';omega
  clear h
  refine zI (zE (zB (wP I (wP I (wB 0 I I I (wP I (wJ ?_)))))))
  refine wL 0 I I (fun W hp=>hq1.hp hp) I (wP I (wP I (wP I (Aa ?_))))
  have hs:w64 ((tot (rs.take k):Nat)+((rg rs k).length:Nat))=(tot (rs.take (k+1)):Nat):=by
   have h1:=Bs hk
   have h2:=Cz rs (k+1)
   rw[Ak (by omega) (by omega)];omega
  refine zN (zE (zB (Al 3 _ I (congrArg (Value.int .i64) hs) (wP I (wP I (wP I (Aa (Aj (k+1) ⟨hk,fun j hj=> ?_⟩ (by omega) ⟨I,I,congrArg (fun z=>some (Value.int .i64 z)) (AF (x:=(k:Int)+1) (by omega) (by omega)),tO⟩ [] I))))))))
  by_cases e:j=k
  ·subst e;exact hz
  ·exact hok j (by omega)
 have e:k=rs.length:=by simp at h;omega
 subst e
 clear h
 rw[List.take_length]
 have hne: ∀l∈rs,l≠[]:=fun l hl e=>by
  obtain⟨i,hi,e2⟩:=List.getElem_of_mem hl
  have:=hok i hi
  rw[show rg rs i=rs[i] by simp[rg,hi],e2,e] at this
  exact this I
 have he:rs.any (fun l=>l.length==0)=false:=Bool.eq_false_iff.2 fun h2=>by
  obtain⟨l,h3,h4⟩:=List.any_eq_true.1 h2
  rw[beq_iff_eq] at h4
  exact hne l h3 (List.length_eq_zero_iff.1 h4)
 have hN: ¬(rs.any (fun l=>l.length==0)=true):=by rw[he];decide
 have h0: ¬tot rs=0:=by
  have h1:=He (List.mem_of_getElem? (Bm hpos))
  have h2:=hok 0 hpos
  omega
 refine zJ (zK (zK (zL (zE (zA (zA (zB (wP I (wP I (Aa (zE (Ah I (fun h=> ?_) (fun h=> ?_)))))))))))))
 ·refine zA (zB (wP I (Aa (zE (zO (zP ?_))))))
  have h1:tot rs>24:=by have h':decide (((tot rs:Nat):Int)>24)=true:=h;rw[decide_eq_true_iff] at h';omega
  exact wR1 I I (by unfold N4;rw[if_neg hN,if_neg h0,if_pos h1])
 have h1: ¬tot rs>24:=by have h':decide (((tot rs:Nat):Int)>24)=false:=h;rw[decide_eq_false_iff_not] at h';omega
 clear h
 refine zI (zE (zA (zA (zB (wP I (Aa (zE (zH ?_))))))))
 refine Ar (X:=Nat) (fun k=>[(1, .pointer (some ⟨b1,0,none⟩)),(5, .int .i64 (k:Nat))]) (fun _=>[⟨b1,36,[slv (some ⟨b,off,none⟩) rs.length cap],true,none⟩])
  (fun k=>k<=rs.length/\ ∀j,j<k-> ∀s∈rg rs j,rgd s=true) (fun k=>rs.length-k) 0 ⟨Nat.zero_le _,fun j hj=>absurd hj (Nat.not_lt_zero _)⟩ ⟨rfl,rfl,trivial⟩ [] rfl ?_
 rintro k ⟨hk,hok2⟩
 refine zA (zA (zB (wP I (wP I (wB 0 I I I (wP I (wP I (Aa (zE (Ah I (fun h=> ?_) (fun h=> ?_)))))))))))
 ·have hk:k<rs.length:=by simp at h;omega
  clear h
  obtain⟨q,cap2,hq1,hq2⟩:=hrow k hk
  have hlk:=hl _ (List.mem_of_getElem? (Bm hk))
  refine zI (zE (zA (zH (zA (zB (wP I (Aa (zE (zH ?_)))))))))
  refine Ar (X:=Nat) (fun i=>[(1, .pointer (some ⟨b1,0,none⟩)),(5, .int .i64 (k:Nat)),(6, .int .i64 (i:Nat))]) (fun _=>[⟨b1,36,[slv (some ⟨b,off,none⟩) rs.length cap],true,none⟩])
   (fun i=>i<=(rg rs k).length/\ ∀j,j<i->rgd (sd (rg rs k) j)=true) (fun i=>(rg rs k).length-i) 0 ⟨Nat.zero_le _,fun j hj=>absurd hj (Nat.not_lt_zero _)⟩ ⟨rfl,rfl,rfl,trivial⟩ [] rfl ?_
  rintro i ⟨hi,hoki⟩
  refine zA (zA (zB (wP I (wP I (wB 0 I I I (wP I (wJ ?_)))))))
  refine wL 0 I I (fun W hp=>hq1.hp hp) I (wP I (wP I (Aa (zE (Ah I (fun h=> ?_) (fun h=> ?_))))))
  ·have hi:i<(rg rs k).length:=by simp at h;omega
   clear h
   obtain⟨b4,off4,rfl,hrow4⟩:=hq2.row hi
   refine zI (zE (zA (zH (zA (zB (wP I (wB 0 I I I (wP I (wJ ?_)))))))))
   refine wL 0 I I (fun W hp=>hq1.hp hp) I (wP I (wJ ?_))
   refine wL 0 I I (fun W hp=>(hrow4 i hi).hp hp) I (wC I I (fun W _=>O0 (sd (rg rs k) i) W) (wP I (Aa (zE (Ah I (fun h=> ?_) (fun h=> ?_))))))
   ·refine zA (zB (wP I (Aa (zE (zO (zQ (zP (zP (zQ (zQ (zP (zP (zQ (zP ?_))))))))))))))
    have h2:rs.flatten.any (fun s=> !rgd s)=true:=List.any_eq_true.2 ⟨sd (rg rs k) i,List.mem_flatten.2 ⟨rg rs k,List.mem_of_getElem? (Bm hk),List.mem_of_getElem? (Hk hi)⟩,h⟩
    exact wR1 I I (by unfold N4;rw[if_neg hN,if_neg h0,if_neg h1,if_pos h2])
   ·have hg:rgd (sd (rg rs k) i)=true:=by have h':(!rgd (sd (rg rs k) i))=false:=h;simpa using h'
    refine zI (zN (zE (zB (wP I (wP I (wP I (Aa (Aj (i+1) ⟨hi,fun j hj=> ?_⟩ (by omega) ⟨I,I,congrArg (fun z=>some (Value.int .i64 z)) (AF (x:=(i:Int)+1) (by omega) (by omega)),tO⟩ [] I))))))))
    by_cases e:j=i
    ·subst e;exact hg
    ·exact hoki j (by omega)
  ·have e:i=(rg rs k).length:=by simp at h;omega
   subst e
   refine zJ (zK (zK (zL (zN (zE (zB (wP I (wP I (wP I (Aa (Aj (k+1) ⟨hk,fun j hj s hs=> ?_⟩ (by omega) ⟨I,congrArg (fun z=>some (Value.int .i64 z)) (AF (x:=(k:Int)+1) (by omega) (by omega)),tO⟩ [] I)))))))))))
   by_cases e:j=k
   ·subst e
    obtain⟨m,hm,e⟩:=List.getElem_of_mem hs
    have:=hoki m hm
    rw[show sd (rg rs j) m=s by simp[sd,hm,e]] at this
    exact this
   ·exact hok2 j (by omega) s hs
 have e:k=rs.length:=by simp at h;omega
 subst e
 clear h
 have hrg: ∀l∈rs, ∀s∈l,rgd s=true:=fun l hl s hs=>by
  obtain⟨i,hi,e2⟩:=List.getElem_of_mem hl
  have:=hok2 i hi
  rw[show rg rs i=l by simp[rg,hi,e2]] at this
  exact this s hs
 have h2: ¬(rs.flatten.any (fun s=> !rgd s)=true):=fun h=>by
  obtain⟨s,hs,h⟩:=List.any_eq_true.1 h
  obtain⟨l,hl,hs⟩:=List.mem_flatten.1 hs
  rw[hrg l hl s hs] at h;cases h
 refine zJ (zK (zK (zL (zE (zA (zA (zB (wP I (Aa (zE (zH ?_)))))))))))
 refine Ar (X:=Nat) (fun k=>[(1, .pointer (some ⟨b1,0,none⟩)),(7, .int .i64 (k:Nat))]) (fun _=>[⟨b1,36,[slv (some ⟨b,off,none⟩) rs.length cap],true,none⟩])
  (fun k=>k<=rs.length/\ ∀j,j<k->Jl (rg rs j)=true) (fun k=>rs.length-k) 0 ⟨Nat.zero_le _,fun j hj=>absurd hj (Nat.not_lt_zero _)⟩ ⟨rfl,rfl,trivial⟩ [] rfl ?_
 rintro k ⟨hk,hok3⟩
 refine zA (zA (zB (wP I (wP I (wB 0 I I I (wP I (wP I (Aa (zE (Ah I (fun h=> ?_) (fun h=> ?_)))))))))))
 ·have hk:k<rs.length:=by simp at h;omega
  clear h
  obtain⟨q,cap2,hq1,hq2⟩:=hrow k hk
  have hlk:=hl _ (List.mem_of_getElem? (Bm hk))
  refine zI (zE (zA (zH (zA (zB (wP I (wB 0 I I I (wP I (wJ ?_)))))))))
  refine wL 0 I I (fun W hp=>hq1.hp hp) I (wC I I (fun W hp=>Oo W q cap2 (rg rs k) hlk (hq2.hp hp)) (wP I (Aa (zE (Ah I (fun h=> ?_) (fun h=> ?_))))))
  ·refine zA (zB (wP I (Aa (zE (zO (zQ (zP (zP (zQ (zP ?_))))))))))
   have h3:rs.any (fun l=> !Jl l)=true:=List.any_eq_true.2 ⟨_,List.mem_of_getElem? (Bm hk),h⟩
   exact wR1 I I (by unfold N4;rw[if_neg hN,if_neg h0,if_neg h1,if_neg h2,if_pos h3])
  ·have hg:Jl (rg rs k)=true:=by have h':(!Jl (rg rs k))=false:=h;simpa using h'
   refine zI (zN (zE (zB (wP I (wP I (wP I (Aa (Aj (k+1) ⟨hk,fun j hj=> ?_⟩ (by omega) ⟨I,congrArg (fun z=>some (Value.int .i64 z)) (AF (x:=(k:Int)+1) (by omega) (by omega)),tO⟩ [] I))))))))
   by_cases e:j=k
   ·subst e;exact hg
   ·exact hok3 j (by omega)
 have e:k=rs.length:=by simp at h;omega
 subst e
 clear h
 have h3: ¬(rs.any (fun l=> !Jl l)=true):=fun h=>by
  obtain⟨l,hl,h⟩:=List.any_eq_true.1 h
  obtain⟨i,hi,e2⟩:=List.getElem_of_mem hl
  have:=hok3 i hi
  rw[show rg rs i=l by simp[rg,hi,e2]] at this
  rw[this] at h;cases h
 refine zJ (zK (zK (zL (zE (zA (zA (zB (wP I (wB 0 I I I (wC I I (fun W hp=>MW W _ cap rs hn hl (hR.below (Nat.le_refl _) hp.below)) (Aa (zE (Ah I (fun h=> ?_) (fun h=> ?_))))))))))))))
 ·exact zA (zB (wP I (Aa (zE (zO (zP (wR1 I I (by unfold N4;rw[if_neg hN,if_neg h0,if_neg h1,if_neg h2,if_neg h3,if_pos h]))))))))
 have h4: ¬(crs rs=true):=by rw[h];decide
 clear h
 refine zI (zE (zA (zA (zB (wP I (wB 0 I I I (wC I I (fun W hp=>Oz W _ cap rs hn hl hne hpos (hR.below (Nat.le_refl _) hp.below)) (wP I (wP I (AG 84 I (fun h84=> ?_) (fun h84=> ?_)))))))))))
 ·refine Ae I I ?_
  iterate 3 refine Ae I I ?_
  refine wP I (Aa ?_)
  have h5:(!HD rs|| !KI rs)=true:=by rw[show(!HD rs)=true from h84];rfl
  exact zE (zR I (zA (zB (wP I (Aa (zE (zO (zP (wR1 I I (by unfold N4;rw[if_neg hN,if_neg h0,if_neg h1,if_neg h2,if_neg h3,if_neg h4,if_pos h5]))))))))))
 ·refine wP I (wB 0 I I I (wC I I (fun W hp=>PZ W _ cap rs hn hl (hR.below (Nat.le_refl _) hp.below)) (wP I (wP I (Aa ?_)))))
  have h':(!HD rs)=false:=h84
  refine zE (Ah I (fun h=> ?_) (fun h=> ?_))
  ·refine zA (zB (wP I (Aa (zE (zO (zP ?_))))))
   have h5:(!HD rs|| !KI rs)=true:=by rw[h',show(!KI rs)=true from h];rfl
   exact wR1 I I (by unfold N4;rw[if_neg hN,if_neg h0,if_neg h1,if_neg h2,if_neg h3,if_neg h4,if_pos h5])
  ·refine zI (zE (zA (zB (wP I (Aa (zE (zO ?_)))))))
   have h5: ¬((!HD rs|| !KI rs)=true):=by rw[h',show(!KI rs)=false from h];decide
   exact wR1 I I (by unfold N4;rw[if_neg hN,if_neg h0,if_neg h1,if_neg h2,if_neg h3,if_neg h4,if_neg h5])
end
section
open Go Go.RowKit Go.Am
theorem F5 (a:Int):(sgI a= -1/\a<0)\/(sgI a=0/\a=0)\/(sgI a=1/\a>0):=by
 unfold sgI
 rcases Int.lt_trichotomy a 0 with h|h|h
 ·rw[if_pos h];exact .inl ⟨rfl,h⟩
 ·rw[if_neg (by omega),if_neg (by omega)];exact .inr (.inl ⟨rfl,h⟩)
 ·rw[if_neg (by omega),if_pos h];exact .inr (.inr ⟨rfl,h⟩)
theorem Tv {l:List Sd} (hr: ∀s∈l,inR s) {i:Nat} (hi:i<l.length):NI l i=sgI ((sd l (nxt l.length i)).x-(sd l i).x)/\NO l i=sgI ((sd l (nxt l.length i)).y-(sd l i).y):=by
 obtain⟨s1,s2,s3,s4⟩:=Dh hr hi
 obtain⟨n1,n2,n3,n4⟩:=Dh hr (DW hi)
 unfold NI NO
 rw[d64 ⟨n1,n2⟩ ⟨s1,s2⟩,d64 ⟨n3,n4⟩ ⟨s3,s4⟩]
 exact⟨I,I⟩
theorem N2 {l:List Sd} (hr: ∀s∈l,inR s) {i:Nat} (hi:i<l.length):axR l i=true↔ ¬(((sd l (nxt l.length i)).x-(sd l i).x=0)↔((sd l (nxt l.length i)).y-(sd l i).y=0)):=by
 obtain⟨e1,e2⟩:=Tv hr hi
 unfold axR
 rw[e1,e2]
 generalize (sd l (nxt l.length i)).x-(sd l i).x=a
 generalize (sd l (nxt l.length i)).y-(sd l i).y=b
 rcases F5 a with⟨ea,ha⟩|⟨ea,ha⟩|⟨ea,ha⟩<;>rcases F5 b with⟨eb,hb⟩|⟨eb,hb⟩|⟨eb,hb⟩<;>rw[ea,eb]
 ·rw[show(w64 (w64 (-1* -1)+w64 (-1* -1))==1)=false by decide];constructor<;>intro h;cases h;omega
 ·rw[show(w64 (w64 (-1* -1)+w64 (0*0))==1)=true by decide];constructor<;>intro h;omega;rfl
 ·rw[show(w64 (w64 (-1* -1)+w64 (1*1))==1)=false by decide];constructor<;>intro h;cases h;omega
 ·rw[show(w64 (w64 (0*0)+w64 (-1* -1))==1)=true by decide];constructor<;>intro h;omega;rfl
 ·rw[show(w64 (w64 (0*0)+w64 (0*0))==1)=false by decide];constructor<;>intro h;cases h;omega
 ·rw[show(w64 (w64 (0*0)+w64 (1*1))==1)=true by decide];constructor<;>intro h;omega;rfl
 ·rw[show(w64 (w64 (1*1)+w64 (-1* -1))==1)=false by decide];constructor<;>intro h;cases h;omega
 ·rw[show(w64 (w64 (1*1)+w64 (0*0))==1)=true by decide];constructor<;>intro h;omega;rfl
 ·rw[show(w64 (w64 (1*1)+w64 (1*1))==1)=false by decide];constructor<;>intro h;cases h;omega
theorem Lc {l:List Sd} (hr: ∀s∈l,inR s) {i:Nat} (hi:i<l.length) (h1:axR l i=true) (h2:axR l (prv l.length i)=true):
  (Le l i≠0↔ ¬(((sd l i).x-(sd l (prv l.length i)).x=0)↔((sd l (nxt l.length i)).x-(sd l i).x=0)))/\(Le l i≠0->(Le l i<0↔I3 (sd l (prv l.length i)) (sd l i) (sd l (nxt l.length i))=false)):=by
 have a1:=(N2 hr hi).1 h1
 have a2:=(N2 hr (G8 hi)).1 h2
 obtain⟨e1,e2⟩:=Tv hr hi
 obtain⟨e3,e4⟩:=Tv hr (G8 hi)
 rw[XV hi] at a2 e3 e4
 have i1:=Dh hr hi
 have i2:=Dh hr (DW hi)
 have i3:=Dh hr (G8 hi)
 rw[X2 i3 i1 i2,decide_eq_false_iff_not]
 unfold Le
 rw[e1,e2,e3,e4]
 generalize (sd l (nxt l.length i)).x-(sd l i).x=c at*
 generalize (sd l (nxt l.length i)).y-(sd l i).y=d at*
 generalize (sd l i).x-(sd l (prv l.length i)).x=a at*
 generalize (sd l i).y-(sd l (prv l.length i)).y=b at*
 have pp: ∀x y:Int,x>0->y>0->x*y>0:=fun x y h h'=>Int.mul_pos h h'
 have pn: ∀x y:Int,x>0->y<0->x*y<0:=fun x y h h'=>Int.mul_neg_of_pos_of_neg h h'
 have np: ∀x y:Int,x<0->y>0->x*y<0:=fun x y h h'=>Int.mul_neg_of_neg_of_pos h h'
 have nn: ∀x y:Int,x<0->y<0->x*y>0:=fun x y h h'=>Int.mul_pos_of_neg_of_neg h h'
 by_cases ha:a=0
 ·subst ha
  have hb:b≠0:=by omega
  rw[show sgI 0=0 from rfl,Int.zero_mul,Int.zero_mul]
  by_cases hd:d=0
  ·subst hd
   have hc:c≠0:=by omega
   rcases F5 b with⟨eb,hb'⟩|⟨eb,hb'⟩|⟨eb,hb'⟩<;>rcases F5 c with⟨ec,hc'⟩|⟨ec,hc'⟩|⟨ec,hc'⟩<;>first|omega|skip
   ·rw[eb,ec,show w64 (w64 0-w64 (-1* -1))= -1 by decide];have:=nn b c hb' hc';omega
   ·rw[eb,ec,show w64 (w64 0-w64 (-1*1))=1 by decide];have:=np b c hb' hc';omega
   ·rw[eb,ec,show w64 (w64 0-w64 (1* -1))=1 by decide];have:=pn b c hb' hc';omega
   ·rw[eb,ec,show w64 (w64 0-w64 (1*1))= -1 by decide];have:=pp b c hb' hc';omega
  ·have hc:c=0:=by omega
   subst hc
   rw[show sgI 0=0 from rfl,Int.mul_zero,show w64 (w64 0-w64 0)=0 by decide]
   omega
 ·have hb:b=0:=by omega
  subst hb
  rw[show sgI 0=0 from rfl,Int.zero_mul,Int.zero_mul]
  by_cases hc:c=0
  ·subst hc
   have hd:d≠0:=by omega
   rcases F5 a with⟨eb,hb'⟩|⟨eb,hb'⟩|⟨eb,hb'⟩<;>rcases F5 d with⟨ec,hc'⟩|⟨ec,hc'⟩|⟨ec,hc'⟩<;>first|omega|skip
   ·rw[eb,ec,show w64 (w64 (-1* -1)-w64 0)=1 by decide];have:=nn a d hb' hc';omega
   ·rw[eb,ec,show w64 (w64 (-1*1)-w64 0)= -1 by decide];have:=np a d hb' hc';omega
   ·rw[eb,ec,show w64 (w64 (1* -1)-w64 0)= -1 by decide];have:=pn a d hb' hc';omega
   ·rw[eb,ec,show w64 (w64 (1*1)-w64 0)=1 by decide];have:=pp a d hb' hc';omega
  ·have hd:d=0:=by omega
   subst hd
   rw[show sgI 0=0 from rfl,Int.mul_zero,show w64 (w64 0-w64 0)=0 by decide]
   omega
theorem X5 {l:List Sd} (hr: ∀s∈l,inR s):Jl l=shp l:=by
 rw[Bool.eq_iff_iff]
 constructor
 ·intro h
  unfold Jl at h
  obtain⟨h1,h2⟩:=Bool.and_eq_true_iff.1 h
  have ok: ∀i,i<l.length->axR l i=true/\Le l i≠0:=fun i hi=>by
   have:=List.all_eq_true.1 h1 i (List.mem_range.2 hi)
   unfold okR at this
   obtain⟨a,b⟩:=Bool.and_eq_true_iff.1 this
   exact⟨a,by simpa using b⟩
  exact Zx hr (of_decide_eq_true h2) fun i hi=>⟨(N2 hr hi).1 (ok i hi).1,(Lc hr hi (ok i hi).1 (ok _ (G8 hi)).1).1.1 (ok i hi).2⟩
 ·intro h
  have ax: ∀i,i<l.length->axR l i=true:=fun i hi=>(N2 hr hi).2 (ET hr h hi).1
  unfold Jl
  rw[dT (TX h),Bool.and_true]
  refine List.all_eq_true.2 fun i hi=> ?_
  have hi:=List.mem_range.1 hi
  have:=(Lc hr hi (ax i hi) (ax _ (G8 hi))).1.2 (ET hr h hi).2
  unfold okR
  rw[ax i hi,beq_eq_false_iff_ne.2 this];rfl
theorem WD {l:List Sd} (hr: ∀s∈l,inR s) (h:shp l=true) {i:Nat} (hi:i<l.length):Le l i≠0/\(Le l i<0↔I3 (sd l (prv l.length i)) (sd l i) (sd l (nxt l.length i))=false):=by
 have ax: ∀i,i<l.length->axR l i=true:=fun i hi=>(N2 hr hi).2 (ET hr h hi).1
 have t:=Lc hr hi (ax i hi) (ax _ (G8 hi))
 have hne:=t.1.2 (ET hr h hi).2
 exact⟨hne,t.2 hne⟩
theorem ZG {l:List Sd} (hr: ∀s∈l,inR s) (h:shp l=true) {i:Nat} (hi:i<l.length):HQ l i=CZ l i:=by
 have t:=(WD hr h hi).2
 unfold HQ CZ NG
 cases hl:I3 (sd l (prv l.length i)) (sd l i) (sd l (nxt l.length i)) with
 |true=>rw[dF (fun e=>by rw[t.1 e] at hl;cases hl)];rfl
 |false=>
  rw[dT (t.2 hl),Bool.true_and,Bool.false_or]
  have e: ∀a b:Int,(!(false||false||(a !=b)))=(!false&& !false&&(b==a)):=fun a b=>by
   by_cases h:a=b
   ·subst h;simp
   ·rw[bne_iff_ne.2 h,beq_eq_false_iff_ne.2 (fun x=>h x.symm)];rfl
  cases(sd l i).gable<;>cases(sd l (prv l.length i)).gable<;>first|rfl|exact e _ _
theorem ZJ {rs:List (List Sd)} (hin:VJ rs) (hs: ∀l∈rs,shp l=true):KI rs=jnd rs:=by
 unfold KI jnd
 congr 1
 rw[Bool.eq_iff_iff,List.all_eq_true,List.all_eq_true]
 have e: ∀l∈rs,((List.range l.length).all (HQ l))=GB l:=fun l hl=>OZ fun i hi=>ZG (hin l hl) (hs l hl) hi
 constructor<;>intro h l hl
 ·rw[<-e l hl];exact h l hl
 ·rw[e l hl];exact h l hl
theorem Zp {l:List Sd} (h: ∀s∈l,inR s): ∀k,k<=l.length->k<=1000000->twR l k=AI (EN l) k/\ -(k*4294967296:Int)<=twR l k/\twR l k<=k*4294967296
 |0,_,_=>⟨rfl,by simp[twR],by simp[twR]⟩
 |k+1,hk,hm=>by
  obtain⟨h1,h2,h3⟩:=Zp h k (by omega) (by omega)
  have hs:=Dh h (show k<l.length by omega)
  have hn:=Dh h (DW (show k<l.length by omega))
  obtain⟨a1,a2⟩:=IG hs.1 hs.2.1 hn.2.2.1 hn.2.2.2
  obtain⟨b1,b2⟩:=IG hs.2.2.1 hs.2.2.2 hn.1 hn.2.1
  have e:twR l (k+1)=twR l k+EN l k:=by
   show w64 (w64 (twR l k+w64 ((sd l k).x*(sd l (nxt l.length k)).y))-w64 ((sd l (nxt l.length k)).x*(sd l k).y))=_
   unfold EN
   rw[Int.mul_comm (sd l (nxt l.length k)).x,Ak (x:=(sd l k).x*_) (by omega) (by omega),Ak (x:=(sd l k).y*_) (by omega) (by omega),Ak (x:=twR l k+_) (by omega) (by omega)]
   rw[Ak (by omega) (by omega)];omega
  have ec:EN l k=(sd l k).x*(sd l (nxt l.length k)).y-(sd l k).y*(sd l (nxt l.length k)).x:=rfl
  refine⟨by rw[e,h1];rfl, ?_, ?_⟩<;>rw[e,ec]<;>push_cast<;>omega
theorem VZ {l:List Sd} (h: ∀s∈l,inR s) (px py:Int): ∀k,k<=l.length->GI l px py k=DX l px py k
 |0,_=>rfl
 |k+1,hk=>by
  have hs:=Dh h (show k<l.length by omega)
  have hn:=Dh h (DW (show k<l.length by omega))
  have e:L3 (sd l k) (sd l (nxt l.length k)) px py=Jh (sd l k) (sd l (nxt l.length k)) px py:=by
   unfold L3 Jh
   rw[d64 ⟨hn.1,hn.2.1⟩ ⟨hs.1,hs.2.1⟩]
   generalize sd l k=t
   generalize sd l (nxt l.length k)=u
   by_cases hx:t.x=u.x
   ·rw[beq_iff_eq.2 hx,beq_iff_eq.2 (show u.x-t.x=0 by omega),hx]
    rw[Bool.true_and,Bool.and_assoc]
    congr 1
    unfold loy hiy
    by_cases h1:t.y>py<;>by_cases h2:u.y>py
    ·rw[dT h1,dT h2,dF (by split<;>omega)];rfl
    ·rw[dT h1,dF h2,dT (by split<;>omega),dT (by split<;>omega)];rfl
    ·rw[dF h1,dT h2,dT (by split<;>omega),dT (by split<;>omega)];rfl
    ·rw[dF h1,dF h2,dF (p:=py<_) (by split<;>omega),Bool.and_false];rfl
   ·rw[beq_eq_false_iff_ne.2 hx,beq_eq_false_iff_ne.2 (show u.x-t.x≠0 by omega)];rfl
  show(if L3 (sd l k) (sd l (nxt l.length k)) px py=true then !GI l px py k else GI l px py k)=(if Jh (sd l k) (sd l (nxt l.length k)) px py=true then !DX l px py k else DX l px py k)
  rw[e,VZ h px py k (by omega)]
theorem ZB {rs:List (List Sd)} (hin:VJ rs) (hs: ∀l∈rs,shp l=true) (hc:crs rs=false) (hT:tot rs<=24) (hpos:0<rs.length):HD rs=plc rs:=by
 have ar: ∀r,r<rs.length->twR (rg rs r) (rg rs r).length=CO (rg rs r) (rg rs r).length/\CO (rg rs r) (rg rs r).length≠0:=fun r hr=>by
  have hm:rg rs r∈rs:=List.mem_of_getElem? (Bm hr)
  have hlen:=He hm
  rw[(Zp (hin _ hm) _ (Nat.le_refl _) (by omega)).1,(OV (hin _ hm) _ (Nat.le_refl _) (by omega)).1]
  exact⟨I,Yu hin hs hc hr⟩
 have pk: ∀r s,r<rs.length->s<rs.length->r≠0->OB rs r s=FR rs r s:=fun r s hr hs' h0=>by
  unfold OB FR
  rw[VZ (hin _ (List.mem_of_getElem? (Bm hs'))) _ _ _ (Nat.le_refl _),beq_eq_false_iff_ne.2 h0,Bool.or_false]
 have all: ∀r,r<rs.length->r≠0->((List.range rs.length).all (OB rs r))=((List.range rs.length).all (FR rs r)):=fun r hr h0=>OZ fun s hs'=>pk r s hr hs' h0
 rw[Bool.eq_iff_iff]
 constructor
 ·intro h
  unfold HD at h
  obtain⟨h1,h2⟩:=Bool.and_eq_true_iff.1 h
  refine List.all_eq_true.2 fun r hr=> ?_
  have hr:=List.mem_range.1 hr
  have hr2:=List.all_eq_true.1 h2 r (List.mem_range.2 hr)
  obtain⟨a1,a2⟩:=ar r hr
  unfold D3
  by_cases e:r=0
  ·subst e
   rw[a1] at h1
   have h1: ¬CO (rg rs 0) (rg rs 0).length<=0:=by simpa using h1
   rw[dT (by omega)]
   exact Bool.and_eq_true_iff.2 ⟨I,List.all_eq_true.2 fun k _=>by unfold FR;simp⟩
  ·unfold SY at hr2
   rw[beq_eq_false_iff_ne.2 e,Bool.false_or,a1] at hr2
   obtain⟨b1,b2⟩:=Bool.and_eq_true_iff.1 hr2
   have b1: ¬CO (rg rs r) (rg rs r).length≥0:=by simpa using b1
   rw[dF (by omega),beq_eq_false_iff_ne.2 e, <-all r hr e,b2];rfl
 ·intro h
  have pr: ∀r,r<rs.length->D3 rs r=true:=fun r hr=>List.all_eq_true.1 h r (List.mem_range.2 hr)
  unfold HD
  have h0:=pr 0 hpos
  unfold D3 at h0
  obtain⟨c1,_⟩:=Bool.and_eq_true_iff.1 h0
  obtain⟨a1,a2⟩:=ar 0 hpos
  have c2:CO (rg rs 0) (rg rs 0).length>0:=by simpa using c1
  rw[a1,dF (by omega),Bool.not_false,Bool.true_and]
  refine List.all_eq_true.2 fun r hr=> ?_
  have hr:=List.mem_range.1 hr
  unfold SY
  by_cases e:r=0
  ·subst e;rfl
  ·have h1:=pr r hr
   unfold D3 at h1
   obtain⟨d1,d2⟩:=Bool.and_eq_true_iff.1 h1
   obtain⟨a1,a2⟩:=ar r hr
   rw[beq_eq_false_iff_ne.2 e,beq_iff_eq,decide_eq_false_iff_not] at d1
   rw[a1,dF (by omega),all r hr e,d2]
   simp
theorem U9 (rs:List (List Sd)):N4 rs=chk rs:=by
 unfold N4 chk
 by_cases hN:rs.any (fun l=>l.length==0)=true
 ·rw[if_pos hN,if_pos hN]
 rw[if_neg hN,if_neg hN]
 by_cases h0:tot rs=0
 ·rw[if_pos h0,if_pos h0]
 rw[if_neg h0,if_neg h0]
 by_cases h1:tot rs>24
 ·rw[if_pos h1,if_pos h1]
 rw[if_neg h1,if_neg h1]
 by_cases h2:rs.flatten.any (fun s=> !rgd s)=true
 ·rw[if_pos h2,if_pos h2]
 rw[if_neg h2,if_neg h2]
 have hg: ∀l∈rs, ∀s∈l,rgd s=true:=Yy (by simpa using h2)
 have hin:VJ rs:=fun l hl s hs=>Ud (hg l hl s hs)
 have e3:rs.any (fun l=> !Jl l)=rs.any (fun l=> !shp l):=by
  rw[Bool.eq_iff_iff,List.any_eq_true,List.any_eq_true]
  constructor<;>rintro⟨l,hl,h⟩
  ·exact⟨l,hl,by rw[<-X5 (hin l hl)];exact h⟩
  ·exact⟨l,hl,by rw[X5 (hin l hl)];exact h⟩
 rw[e3]
 by_cases h3:rs.any (fun l=> !shp l)=true
 ·rw[if_pos h3,if_pos h3]
 rw[if_neg h3,if_neg h3]
 have hs: ∀l∈rs,shp l=true:=fun l hl=>by
  cases h:shp l with
  |true=>rfl
  |false=>exact absurd (List.any_eq_true.2 ⟨l,hl,by rw[h];rfl⟩) h3
 by_cases h4:crs rs=true
 ·rw[if_pos h4,if_pos h4]
 rw[if_neg h4,if_neg h4]
 have hpos:0<rs.length:=by
  cases rs with
  |nil=>exact absurd rfl h0
  |cons x rs=>simp
 rw[ZB hin hs (by simpa using h4) (by omega) hpos,ZJ hin hs]
end
section
open Go Go.RowKit Go.Am Go.Lib
set_option maxRecDepth 10000
theorem XK {rs:List (List Sd)} {r:Nat} (hr:r<rs.length) (i:Nat) (hi:i<(rg rs r).length):rs.flatten[tot (rs.take r)+i]? =some (sd (rg rs r) i):=by
 have e:rs.flatten=(rs.take r).flatten++(rg rs r++(rs.drop (r+1)).flatten):=by
  conv=>lhs;rw[<-List.take_append_drop r rs,List.drop_eq_getElem_cons hr,List.flatten_append,List.flatten_cons]
  rw[show rs[r]=rg rs r by unfold rg;rw[List.getD_eq_getElem?_getD,List.getElem?_eq_getElem hr];rfl]
 have hl:(rs.take r).flatten.length=tot (rs.take r):=List.length_flatten
 rw[e,List.getElem?_append_right (by omega),hl,Nat.add_sub_cancel_left,List.getElem?_append_left hi]
 exact Hk hi
theorem Yk {rs:List (List Sd)} {r:Nat} (hr:r<rs.length) {i:Nat} (hi:i<(rg rs r).length):sd rs.flatten (tot (rs.take r)+i)=sd (rg rs r) i:=by
 have h1:=XK hr i hi
 have h2:=Hk (l:=rs.flatten) (List.getElem?_eq_some_iff.1 h1).1
 rw[h1] at h2
 exact(Option.some.inj h2).symm
theorem Vec.frs {V:Vec} {l:List FrP} (hV:V.OK 5 l.length (frC l)) (h0:0<l.length): ∃g cap,V.val l.length= .slice (some ⟨g,0,none⟩) l.length cap/\
  ∀ {W0 W:World} {bxs:List Bx},Hp W0 bxs W-> ∀k,nth bxs k=some (V.bx 56 (frC l))-> ∀m f,l[m]? =some f->Ai W g (0+m*5) (frV f).cells.toList:=by
 obtain⟨p,cap,junk⟩:=V
 cases p with
 |none=>have:=hV.nil rfl;omega
 |some g=>
  refine⟨g,cap,I,fun {W0 W bxs} hp k hk m f hf=> ?_⟩
  obtain⟨hm,rfl⟩:=List.getElem?_eq_some_iff.1 hf
  refine GZ hp k (A:=frC (l.take m)) (C:=frC (l.drop (m+1))++junk) hk ?_ (by rw[YY,List.length_take];omega)
  have e:frC l=frC (l.take m)++((frV l[m]).cells.toList++frC (l.drop (m+1))):=by
   conv=>lhs;rw[<-List.take_append_drop m l,List.drop_eq_getElem_cons hm,P9]
   rfl
  rw[e,List.append_assoc,List.append_assoc]
theorem Vec.sds {V:Vec} {l:List Sd} (hV:V.OK 7 l.length (cellsOf l)) (h0:0<l.length): ∃g cap,V.val l.length=slv (some ⟨g,0,none⟩) l.length cap/\
  ∀ {W0 W:World} {bxs:List Bx},Hp W0 bxs W-> ∀k,nth bxs k=some (V.bx 97 (cellsOf l))-> ∀m,m<l.length->Ai W g (0+m*7) (sd l m).cells:=by
 obtain⟨p,cap,junk⟩:=V
 cases p with
 |none=>have:=hV.nil rfl;omega
 |some g=>
  refine⟨g,cap,I,fun {W0 W bxs} hp k hk m hm=> ?_⟩
  have hrow:=Ai.of_bx hp k hk rfl
  have hring:G4 W g 0 l:=G4.of_cells hrow.lt fun j u hj=>by
   refine hrow.get j u ?_
   show(cellsOf l++junk)[j]? =some u
   rw[List.getElem?_append_left (List.getElem?_eq_some_iff.1 hj).1]
   exact hj
  exact hring.get m _ (Hk hm)
def rdQ (a:List UInt8):Rat:=match frm a with
 |some (z,d)=>nrm z d
 |none=>0
theorem DH (q:Rat):rdQ (Ac q)=q:=by
 have hd:=q.den_pos
 unfold rdQ Ac
 rw[FG q.num q.den_pos]
 show nrm q.num q.den=q
 rw[Gi _ (by omega)]
 exact Rat.num_divInt_den q
def flt (rs:List (List Sd)) (m:Nat):Sd:=sd rs.flatten m
def frs (rs:List (List Sd)) (m:Nat):FrP:=(DV rs).getD m ⟨false,0,1,0,0⟩
theorem JB {rs:List (List Sd)} {m:Nat} (h:m<tot rs):(DV rs)[m]? =some (frs rs m):=by
 have hl:=Ia rs
 unfold frs
 rw[List.getD_eq_getElem?_getD,List.getElem?_eq_getElem (by omega)]
 rfl
theorem Tj {rs:List (List Sd)} (hc:chk rs=0) {m:Nat} (h:m<tot rs) (hg:(flt rs m).gable=false):(frs rs m).Go:=by
 obtain⟨hrg,_⟩:=IA hc
 obtain⟨r,i,hr,hi,rfl⟩:=Xc h
 have e:=JB h
 rw[U4 hr hi] at e
 have e:=(Option.some.inj e).symm
 have hs: ∀s∈rg rs r,rgd s=true:=hrg _ (List.mem_of_getElem? (Bm hr))
 have h1:=hs _ (List.mem_of_getElem? (Hk hi))
 unfold flt at hg
 rw[Yk hr hi] at hg
 obtain⟨_,_,hp,hb⟩:=GV h1
 have hb:=hb hg
 rw[e]
 unfold MD
 refine⟨Z6 h1, ?_, ?_,fun h0=> ?_⟩
 ·show szQ (if _ then(0:Rat) else nrm _ _) 2
  rw[if_neg (by rw[hg];decide)]
  exact F8 hb.2 hb.1
 ·exact Ge (by show(sd (rg rs r) i).plate.natAbs<100000;omega) (by decide)
 ·have:=(Z0 h1).1 h0
  rw[hg] at this
  cases this
def bsE (rs:List (List Sd)) (s:Int) (x h e:List UInt8) (a b:Int):Int:=
 if s<0\/(tot rs:Int)<=s then 2
 else if (flt rs s.toNat).gable=true then 18
 else if ner [x,h,e]≠0 then ner [x,h,e]
 else if rdQ h<=0\/rdQ e<(frs rs s.toNat).st\/LJ a b=false then 2 else 0
def bsV (rs:List (List Sd)) (s:Int) (x h e:List UInt8) (a b:Int):Value:=
 if bsE rs s x h e a b=0 then frV (frs rs s.toNat) else .agg #[.bool false, .int .i64 0, .int .i64 0,str [],str []]
theorem Ie (W:World) (p:Option Addr) (cap:Nat) (rs:List (List Sd)) (hn:rs.length<4611686018427387904) (hR:Bd W p rs) (hc:chk rs=0) (hd:Fk W) (hv:AE W) (ht:A7 W)
  (s a b:Int) (x h e:List UInt8) (hx:x.length<=8) (hh:h.length<=8) (he:e.length<=8):
  Ad Tryz.prog 51 #[BW p rs.length cap,dmS s x h e a b, .slice none 0 0] W (fun _:Unit=> .tuple #[bsV rs s x h e a b, .int .i64 (bsE rs s x h e a b)]) (fun _=>True) (fun _=>[]):=by
 obtain⟨_,hT,hT0⟩:=Nd hc
 have hfl:rs.flatten.length=tot rs:=List.length_flatten
 have hal:=Ia rs
 refine Ab (args:=[BW p rs.length cap,dmS s x h e a b, .slice none 0 0]) Tryz.func51 I I I (zA (zB (wF I I fun _=>(wF I I fun _=>(wG I I fun _=>(wP I (Aa ?_)))))))
 rename_i b3 b4 b6
 refine zE (zA (zB (wB 0 I I I (wD (X:=Vec) I I (fun W1 hp=>RK W1 p cap rs hn (hR.hp hp) hc) ?_))))
 intro S hS
 have hS:S.OK 7 rs.flatten.length (cellsOf rs.flatten):=hS
 obtain⟨gS,cS,hSv,hSr⟩:=Vec.sds hS (by omega)
 rw[hSv]
 refine wP I (wP I (wP I (wP I (wP I (Aa (zE (zA (zA (zB (wP I (wP I (Aa (zE (zS I (zI (zE (zA (zA (zB (wP I (wB 1 I I I (wP I ?_))))))))))))))))))))))
 by_cases h0:s<0
 ·have hE:bsE rs s x h e a b=2:=by unfold bsE;rw[if_pos (.inl h0)]
  refine wU 23 true I (dT h0) (wP I ?_)
  iterate 5 refine Ae I I ?_
  refine wP I (Aa (zE (zR I (zA (zB (Ap Tryz.hZ tH I I I I I I I I ?_))))))
  exact wS 2 I I I (wP I (Aa (zE (zO (zP (A0 tH I (.cell 2 I I I I I) (.tmp I) () (by rw[bsV,hE];rfl) tO fun W _=>As.nil _ _))))))
 refine wU 23 false I (dF h0) ?_
 obtain⟨m,rfl⟩: ∃m:Nat,s=m:=⟨s.toNat,by omega⟩
 refine wP I (wP I (wB 1 I I I (wP I (wP I (wP I ?_)))))
 by_cases h1:m<tot rs
 rotate_left
 ·have hE:bsE rs (m:Int) x h e a b=2:=by unfold bsE;rw[if_pos (.inr (by omega))]
  refine wU 29 true I (dT (by omega)) (wP I (Aa (zE (zR I (zA (zB (Ap Tryz.hZ tH I I I I I I I I ?_)))))))
  exact wS 2 I I I (wP I (Aa (zE (zO (zP (A0 tH I (.cell 2 I I I I I) (.tmp I) () (by rw[bsV,hE];rfl) tO fun W _=>As.nil _ _))))))
 refine wU 29 false I (dF (by omega)) (wP I (Aa (zE (zS I (zI (zE (zA (zA (zB ?_)))))))))
 have hE:bsE rs (m:Int) x h e a b=if (flt rs m).gable=true then 18 else if ner [x,h,e]≠0 then ner [x,h,e] else if rdQ h<=0\/rdQ e<(frs rs m).st\/LJ a b=false then 2 else 0:=by
  unfold bsE;rw[if_neg (by omega)];rfl
 refine wP I (wP I (wB 1 I I I (wJ ?_)))
 refine wP I (wL 0 I I (fun W1 hp=>(hSr hp 3 I m (by omega)).sub 4) I ?_)
 by_cases hg:(flt rs m).gable=true
 ·rw[if_pos hg] at hE
  refine wU 37 true I hg (Aa (zE (zR I (zA (zB (Ap Tryz.hZ tH I I I I I I I I ?_))))))
  exact wS 2 I I I (wP I (Aa (zE (zO (zP (A0 tH I (.cell 2 I I I I I) (.tmp I) () (by rw[bsV,hE];rfl) tO fun W _=>As.nil _ _))))))
 rw[if_neg hg] at hE
 have hg:(flt rs m).gable=false:=by simpa using hg
 refine wU 37 false I hg (Aa (zE (zS I (zI (zE (zA (zA (zB (wP I (wB 1 I I I (wP I (wB 1 I I I (wP I (wB 1 I I I (Ao Tryz.hZ tH I I I I I I I I I I I fun bS=> ?_)))))))))))))))
 refine wC I I (fun W1 hp=>I6 W1 (some ⟨bS,0,none⟩) 3 [x,h,e] (.inr ⟨bS,0,I,Ai.of_bx hp 4 I I⟩) (show 3<=100000 by decide) (fun y hy=>by
  rcases List.mem_cons.1 hy with rfl|hy
  ·omega
  rcases List.mem_cons.1 hy with rfl|hy
  ·omega
  obtain rfl:=List.mem_singleton.1 hy
  omega) (hv.hp hp) (ht.hp hp)) ?_
 refine wP I (Aa (zE (zA (zB (wP I (wP I ?_))))))
 by_cases hz:ner [x,h,e]=0
 rotate_left
 ·rw[if_pos hz] at hE
  refine wU 48 true I (bne_iff_ne.2 hz) (Aa (zE (zR I (zA (zB (Ap Tryz.hZ tH I I I I I I I I ?_))))))
  exact wP I (wS 2 I I I (wP I (Aa (zE (zO (zP (A0 tH I (.cell 2 I I I I I) (.tmp I) () (by rw[bsV,hE,if_neg hz];rfl) tO fun W _=>As.nil _ _)))))))
 rw[if_neg (fun h=>h hz)] at hE
 refine wU 48 false I (bne_eq_false_iff_eq.2 hz) (Aa (zE (zS I (zI (zE (zA (zB ?_)))))))
 have hzm:=FU hz
 obtain⟨x',_,rfl⟩:=DF (hzm x (by simp))
 obtain⟨h',_,rfl⟩:=DF (hzm h (by simp))
 obtain⟨e',_,rfl⟩:=DF (hzm e (by simp))
 rw[DH,DH] at hE
 have zh:=DL hh (by decide)
 have ze:=DL he (by decide)
 have hgo:=Tj hc h1 hg
 obtain⟨f,hf⟩: ∃f,f=frs rs m:=⟨_,rfl⟩
 have hfm:=JB h1
 rw[<-hf] at hfm hgo hE
 refine wB 0 I I I (wD (X:=Vec) I I (fun W1 hp=>Hr W1 p cap rs hn (hR.hp hp) hc (hd.hp hp) (ht.hp hp)) ?_)
 intro F hF
 have hF:F.OK 5 (DV rs).length (frC (DV rs)):=hF
 obtain⟨gF,cF,hFv,hFr⟩:=Vec.frs hF (by omega)
 rw[hFv]
 refine wP I (wP I (wP I (wP I (wP I (Aa (zE (zA (zA (zB (wP I (wP I (Aa (zE (zS I (zI (zE (zA (zB (wP I (wP I (wB 1 I I I (wJ ?_))))))))))))))))))))))
 refine wL 0 I I (fun W1 hp=>hFr hp 5 I m f hfm) I (wG I I fun _=>(wS 6 I I I (Aa ?_)))
 rename_i b12
 refine zE (zA (zA (zB (wP I (wB 1 I I I ?_)))))
 refine wC I I (fun W1 hp=>(show Ad Tryz.prog 82 #[str (Ac h'),str [48]] W1 (fun _:Unit=> .int .i64 (CU h' 0)) (fun _=>True) (fun _=>[]) by
  have h2:=BF h' 0 (sz2 zh szo (by decide)) W1 (hv.hp hp) (ht.hp hp)
  rwa [Cv] at h2)) ?_
 refine wP I ?_
 by_cases h2:h'<=0
 ·rw[if_pos (.inl h2)] at hE
  refine wU 68 true I ((GK _ _).trans (dT h2)) (wP I ?_)
  iterate 6 refine Ae I I ?_
  refine wP I (wP I ?_)
  iterate 6 refine Ae I I ?_
  refine wP I (Aa (zE (zR I (zA (zB (Ap Tryz.hZ tH I I I I I I I I ?_))))))
  exact wS 2 I I I (wP I (Aa (zE (zO (zP (A0 tH I (.cell 2 I I I I I) (.tmp I) () (by rw[bsV,hE];rfl) tO fun W _=>As.nil _ _))))))
 refine wU 68 false I ((GK _ _).trans (dF h2)) (wP I (wP I (wB 1 I I I (wP I (wB 6 I I I (wC I I (fun W1 hp=>BF e' f.st (sz2 ze hgo.st (by decide)) W1 (hv.hp hp) (ht.hp hp)) (wP I ?_)))))))
 by_cases h3:e'<f.st
 ·rw[if_pos (.inr (.inl h3))] at hE
  refine wU 75 true I ((BP _ _).trans (dT h3)) (wP I (wP I ?_))
  iterate 6 refine Ae I I ?_
  refine wP I (Aa (zE (zR I (zA (zB (Ap Tryz.hZ tH I I I I I I I I ?_))))))
  exact wS 2 I I I (wP I (Aa (zE (zO (zP (A0 tH I (.cell 2 I I I I I) (.tmp I) () (by rw[bsV,hE];rfl) tO fun W _=>As.nil _ _))))))
 refine wU 75 false I ((BP _ _).trans (dF h3)) (wP I (wP I (wP I (wB 1 I I I (wP I (wB 1 I I I (wC I I (fun W1 _=>Ku a b W1) (wP I ?_))))))))
 by_cases h4:LJ a b=true
 rotate_left
 ·have h4:LJ a b=false:=by simpa using h4
  rw[if_pos (.inr (.inr h4))] at hE
  refine wU 83 true I (by rw[h4];rfl) (wP I (Aa (zE (zR I (zA (zB (Ap Tryz.hZ tH I I I I I I I I ?_)))))))
  exact wS 2 I I I (wP I (Aa (zE (zO (zP (A0 tH I (.cell 2 I I I I I) (.tmp I) () (by rw[bsV,hE];rfl) tO fun W _=>As.nil _ _))))))
 rw[if_neg (by rw[h4];exact fun hh=>by rcases hh with hh|hh|hh;exact h2 hh;exact h3 hh;cases hh)] at hE
 refine wU 83 false I (by rw[h4];rfl) (wP I (Aa (zE (zS I (zI (zE (Av ?_)))))))
 refine AW (X:=Unit) [true,true,true,false,false] (fun _=>[(6,Af b6),(7, .int .i64 0)]) (fun _=>[⟨b6,56,(frV f).cells.toList,true,none⟩])
   2 [⟨b3,36,[slv p rs.length cap],true,none⟩,⟨b4,38,(dmS m (Ac x') (Ac h') (Ac e') a b).cells.toList,true,none⟩,⟨b6,56,(frV f).cells.toList,false,none⟩,S.bx 97 (cellsOf rs.flatten),⟨bS,25,[str (Ac x'),str (Ac h'),str (Ac e')],true,none⟩,F.bx 56 (frC (DV rs)),⟨b12,56,(frV f).cells.toList,true,none⟩] Tryz.mixed (by kernel_rfl) ?_ ?_
 ·refine qB 6 I I I (qP I (qC I I (fun W1 hp=>I6 W1 none 0 [] (.inl I) (by decide) (fun y hy=>absurd hy List.not_mem_nil) (hv.hp hp) (ht.hp hp)) (BU (wX (wZ (wS 2 I I I (Aa (Ag (wX (wZ (wP I (Aa (Ag ?_)))))))))))))
  refine AD I (by((repeat (first|refine AJ.same ?_|refine AJ.off I ?_));exact tO)) ?_
  exact A4 () ⟨I,I,tO⟩ [2] (by decide) I
 intro _
 exact zE (zO (A0 tH rfl (.cell 0 rfl rfl rfl rfl rfl) (.tmp rfl) () (by rw[bsV,hE,if_pos rfl];subst hf;rfl) trivial fun W _=>As.nil _ _))
def Ef (q:Rat):Bool:= !(decide (q.num.natAbs<10^12)&&decide (q.den<10^12))
theorem NH {q:Rat} (h:Ef q=false):szQ q 12:=by
 unfold Ef at h
 rw[Bool.not_eq_false',Bool.and_eq_true] at h
 exact⟨of_decide_eq_true h.1,of_decide_eq_true h.2⟩
theorem S1 {q:Rat} (h:szQ q 12):Ef q=false:=by
 unfold Ef
 rw[dT h.1,dT h.2];rfl
theorem Yo (u:Nat):(decDigits u).length<=12↔u<10^12:=⟨fun h=>Nat.lt_of_lt_of_le (EP u) (Nat.pow_le_pow_right (by decide) h),fun h=>Cp 12 u (by decide) h⟩
theorem Rt (q:Rat) (hk:okQ q) (W:World) (hv:AE W) (ht:A7 W):
  Ad Tryz.prog 186 #[str (Ac q)] W (fun _:Unit=> .int .i64 (if Ef q=true then 4 else 0)) (fun _=>True) (fun _=>[]):=by
 refine Ab (args:=[str (Ac q)]) Tryz.func186 I I I (zA (zB (wP I (Aa (zE (zA (zB (wP I (wC I I (fun W hp=>Et q hk W (hv.hp hp) (ht.hp hp)) (wP I (wP I (wP I (wP I (wP I (wP I (wP I (Aa (zE (zA (zA (zB (wP I (wP I ?_)))))))))))))))))))))))
 refine Aa (zE (zS I (zI (zE (zA (zA (zB (wP I (wC I I (fun W _=>(BA (itoa q.num) [45] W).cast (by rw[AV])) (wP I (Al 17 (.int .i64 ((decDigits q.num.natAbs).length:Nat)) I (congrArg (fun n:Nat=>Value.int .i64 (n:Int)) (A3 _)) (wP I ?_))))))))))))
 by_cases h1:q.num.natAbs<10^12
 rotate_left
 ·have hb:Ef q=true:=by unfold Ef;rw[dF h1];rfl
  refine wU 18 true I (dT (by have:=mt (Yo _).1 h1;omega)) (wP I ?_)
  iterate 3 refine Ae I I ?_
  exact wP I (Aa (zE (zR I (zA (zB (wP I (Aa (zE (zO (zP (wR1 I I (by rw[if_pos hb]))))))))))))
 refine wU 18 false I (dF (by have:=(Yo _).2 h1;omega)) (wP I (wP I (wP I (Al 21 (.int .i64 ((decDigits q.den).length:Nat)) I (congrArg (fun n:Nat=>Value.int .i64 (n:Int)) ((A3 _).trans (by rw[Fh]))) (wP I ?_)))))
 by_cases h2:q.den<10^12
 rotate_left
 ·have hb:Ef q=true:=by unfold Ef;rw[dF h2,Bool.and_false];rfl
  exact wU 22 true I (dT (by have:=mt (Yo _).1 h2;omega)) (wP I (Aa (zE (zR I (zA (zB (wP I (Aa (zE (zO (zP (wR1 I I (by rw[if_pos hb])))))))))))))
 have hb:Ef q=false:=S1 ⟨h1,h2⟩
 exact wU 22 false I (dF (by have:=(Yo _).2 h2;omega)) (wP I (Aa (zE (zS I (zI (zE (zA (zB (wP I (Aa (zE (zO (wR1 I I (by rw[hb];rfl))))))))))))))
def HO (a:List UInt8):Bool:=Ef (rdQ a)
def nrs (l:List (List UInt8)):Int:=if ner l≠0 then ner l else if l.any HO then 4 else 0
theorem Vn {α:Type} {p:α->Bool} {l:List α} {i:Nat} (hi:i<l.length):(l.drop i).any p=(p l[i]||(l.drop (i+1)).any p):=by
 rw[List.drop_eq_getElem_cons hi,List.any_cons]
theorem W5 {l:List (List UInt8)} (h:nrs l=0): ∀a∈l, ∃q,a=Ac q/\okQ q/\szQ q 12:=by
 intro a ha
 unfold nrs at h
 by_cases h1:ner l=0
 rotate_left
 ·rw[if_pos h1] at h;exact absurd h h1
 rw[if_neg (fun h=>h h1)] at h
 obtain⟨q,hq,rfl⟩:=DF (FU h1 a ha)
 refine⟨q,I,hq,NH ?_⟩
 cases hb:Ef q with
 |false=>rfl
 |true=>
  have:l.any HO=true:=List.any_eq_true.2 ⟨_,ha,by unfold HO;rw[DH];exact hb⟩
  rw[if_pos this] at h
  cases h
theorem JE (W:World) (p:Option Addr) (cap:Nat) (l:List (List UInt8)) (hA:EA W p l) (hn:l.length<=100000) (hs: ∀a∈l,a.length<=4000000) (hv:AE W) (ht:A7 W):
  Ad Tryz.prog 114 #[slv p l.length cap] W (fun _:Unit=> .int .i64 (nrs l)) (fun _=>True) (fun _=>[]):=by
 refine Ab (args:=[slv p l.length cap]) Tryz.func114 I I I (zA (zB (wP I (Aa (zE (zA (zA (zB (wP I (wP I (wP I (Aa (zE (zH (Ar (X:=Nat) (fun i=>[(0,slv p l.length cap),(2, .int .i64 0),(9,slv p l.length cap),(10, .int .i64 (l.length:Nat)),(11, .int .i64 (i:Nat))]) (fun _=>[]) (fun i=>i<=l.length/\ner l=ner (l.drop i)) (fun i=>l.length-i) 0 ⟨Nat.zero_le _,I⟩ ⟨I,I,I,I,I,tO⟩ [] I ?_)))))))))))))))
 rintro i ⟨hi,he⟩
 have hi:i<=l.length:=hi
 have he:ner l=ner (l.drop i):=he
 refine zA (zB (wP I ?_))
 by_cases hlt:i<l.length
 ·refine wU 12 true I (dT (by omega)) (Aa (zE (zA (zR I (zI (zE (zA (zH (zA (zB ?_))))))))))
  obtain⟨b,off,rfl,hrow⟩:=hA.row hlt
  have hr:=hrow i hlt
  have hz:=hs l[i] (List.getElem_mem _)
  rw[S6 hlt] at he
  obtain⟨x,hx⟩: ∃x,x=l[i]:=⟨_,rfl⟩
  rw[<-hx] at hr hz he
  refine wJ ?_
  refine wL 0 I I (fun W1 hp=>hr.hp hp) I (wP I (Aa (zE (zA (zB (wP I (wC I I (fun W1 hp=>Bz x (by omega) W1 (hv.hp hp) (ht.hp hp)) (wP I (Aa (zE (zA (zB (wP I (wP I ?_))))))))))))))
  by_cases h1:(rdR x).2=0
  rotate_left
  ·refine wU 18 true I (bne_iff_ne.2 h1) (Aa (zE (zR I (zA (zB (wP I (wP I (Aa (zE (zO (zQ (zP (zP (zQ (zP ?_)))))))))))))))
   rw[if_neg h1] at he
   exact wR1 I I (by rw[nrs,he,if_pos h1])
  rw[if_pos h1] at he
  exact wU 18 false I (bne_eq_false_iff_eq.2 h1) (Aa (zE (zS I (zI (zN (zE (zB (wP I (wV 20 ((i+1:Nat):Int) I (Aw (by omega)) (wP I (Aa (Aj (i+1) ⟨hlt,he⟩ (by show l.length-(i+1)<l.length-i;omega) ⟨I,I,I,I,I,tO⟩ [] I))))))))))))
 refine wU 12 false I (dF (by omega)) (Aa (zE (zA (zS I (zJ (zK (zK (zL (zE (zA (zA (zB ?_))))))))))))
 rw[List.drop_of_length_le (by omega)] at he
 have he:ner l=0:=he
 have hall:=FU he
 have hN:nrs l=if l.any HO then 4 else 0:=by unfold nrs;rw[if_neg (fun h=>h he)]
 refine wP I (wP I (wP I (Aa (zE (zH (Ar (X:=Nat) (fun i=>[(2, .int .i64 0),(21,slv p l.length cap),(22, .int .i64 (l.length:Nat)),(23, .int .i64 (i:Nat))]) (fun _=>[]) (fun i=>i<=l.length/\l.any HO=(l.drop i).any HO) (fun i=>l.length-i) 0 ⟨Nat.zero_le _,by rw[List.drop_zero]⟩ ⟨I,I,I,I,tO⟩ [] I ?_))))))
 rintro i ⟨hi,hB⟩
 have hi:i<=l.length:=hi
 have hB:l.any HO=(l.drop i).any HO:=hB
 refine zA (zB (wP I ?_))
 by_cases hlt:i<l.length
 ·refine wU 24 true I (dT (by omega)) (Aa (zE (zA (zR I (zI (zE (zA (zH (zA (zB ?_))))))))))
  obtain⟨b,off,rfl,hrow⟩:=hA.row hlt
  have hr:=hrow i hlt
  obtain⟨q,hq,hx⟩:=DF (hall l[i] (List.getElem_mem _))
  rw[Vn hlt] at hB
  rw[hx] at hr hB
  have hB:l.any HO=(Ef q||(l.drop (i+1)).any HO):=by rw[hB];unfold HO;rw[DH]
  refine wJ ?_
  refine wL 0 I I (fun W1 hp=>hr.hp hp) I (wP I (Aa (zE (zA (zB (wP I (wC I I (fun W1 hp=>Rt q hq W1 (hv.hp hp) (ht.hp hp)) ?_)))))))
  cases hb:Ef q with
  |true=>
   rw[hb] at hB
   exact wP I (Aa (zE (zA (zB (wP I (wP I (Aa (zE (zR I (zA (zB (wP I (wP I (Aa (zE (zO (zQ (zP (zP (zQ (zP (wR1 I I (by rw[hN,hB];rfl)))))))))))))))))))))))
  |false=>
   rw[hb,Bool.false_or] at hB
   exact wP I (Aa (zE (zA (zB (wP I (wP I (Aa (zE (zS I (zI (zN (zE (zB (wP I (wV 32 ((i+1:Nat):Int) I (Aw (by omega)) (wP I (Aa (Aj (i+1) ⟨hlt,hB⟩ (by show l.length-(i+1)<l.length-i;omega) ⟨I,I,I,I,tO⟩ [] I))))))))))))))))))
 refine wU 24 false I (dF (by omega)) (Aa (zE (zA (zS I (zJ (zK (zK (zL (zE (zA (zB ?_)))))))))))
 rw[List.drop_of_length_le (by omega)] at hB
 exact wP I (Aa (zE (zO (wR1 I I (by rw[hN,hB];rfl)))))
def boE (rs:List (List Sd)) (s:Int) (x h e:List UInt8) (a b:Int):Int:=
 if s<0\/(tot rs:Int)<=s then 2
 else if (flt rs s.toNat).gable=true then 18
 else if nrs [x,h,e]≠0 then nrs [x,h,e]
 else if rdQ h<=0\/rdQ e<(frs rs s.toNat).st\/LJ a b=false then 2 else 0
def boV (rs:List (List Sd)) (s:Int) (x h e:List UInt8) (a b:Int):Value:=
 if boE rs s x h e a b=0 then frV (frs rs s.toNat) else .agg #[.bool false, .int .i64 0, .int .i64 0,str [],str []]
def bmE (rs:List (List Sd)) (s:Int) (x h e:List UInt8) (a b:Int) (M:List (List UInt8)):Int:=if boE rs s x h e a b=0 then nrs M else boE rs s x h e a b
theorem Fm (W:World) (p:Option Addr) (cap:Nat) (rs:List (List Sd)) (hn:rs.length<4611686018427387904) (hR:Bd W p rs) (hc:chk rs=0) (hd:Fk W) (hv:AE W) (ht:A7 W)
  (s a b:Int) (x h e:List UInt8) (hx:x.length<=4000000) (hh:h.length<=4000000) (he:e.length<=4000000) (M:List (List UInt8)) (pM:Option Addr) (cM:Nat) (hM:EA W pM M) (lM:M.length<=100000) (sM: ∀y∈M,y.length<=4000000):
  Ad Tryz.prog 51 #[BW p rs.length cap,dmS s x h e a b,slv pM M.length cM] W (fun _:Unit=> .tuple #[boV rs s x h e a b, .int .i64 (bmE rs s x h e a b M)]) (fun _=>True) (fun _=>[]):=by
 obtain⟨_,hT,hT0⟩:=Nd hc
 have hfl:rs.flatten.length=tot rs:=List.length_flatten
 have hal:=Ia rs
 refine Ab (args:=[BW p rs.length cap,dmS s x h e a b,slv pM M.length cM]) Tryz.func51 I I I (zA (zB (wF I I fun _=>(wF I I fun _=>(wG I I fun _=>(wP I (Aa ?_)))))))
 rename_i b3 b4 b6
 refine zE (zA (zB (wB 0 I I I (wD (X:=Vec) I I (fun W1 hp=>RK W1 p cap rs hn (hR.hp hp) hc) ?_))))
 intro S hS
 have hS:S.OK 7 rs.flatten.length (cellsOf rs.flatten):=hS
 obtain⟨gS,cS,hSv,hSr⟩:=Vec.sds hS (by omega)
 rw[hSv]
 refine wP I (wP I (wP I (wP I (wP I (Aa (zE (zA (zA (zB (wP I (wP I (Aa (zE (zS I (zI (zE (zA (zA (zB (wP I (wB 1 I I I (wP I ?_))))))))))))))))))))))
 by_cases h0:s<0
 ·have hE:boE rs s x h e a b=2:=by unfold boE;rw[if_pos (.inl h0)]
  refine wU 23 true I (dT h0) (wP I ?_)
  iterate 5 refine Ae I I ?_
  refine wP I (Aa (zE (zR I (zA (zB (Ap Tryz.hZ tH I I I I I I I I ?_))))))
  exact wS 2 I I I (wP I (Aa (zE (zO (zP (A0 tH I (.cell 2 I I I I I) (.tmp I) () (by rw[boV,bmE,hE];rfl) tO fun W _=>As.nil _ _))))))
 refine wU 23 false I (dF h0) ?_
 obtain⟨m,rfl⟩: ∃m:Nat,s=m:=⟨s.toNat,by omega⟩
 refine wP I (wP I (wB 1 I I I (wP I (wP I (wP I ?_)))))
 by_cases h1:m<tot rs
 rotate_left
 ·have hE:boE rs (m:Int) x h e a b=2:=by unfold boE;rw[if_pos (.inr (by omega))]
  refine wU 29 true I (dT (by omega)) (wP I (Aa (zE (zR I (zA (zB (Ap Tryz.hZ tH I I I I I I I I ?_)))))))
  exact wS 2 I I I (wP I (Aa (zE (zO (zP (A0 tH I (.cell 2 I I I I I) (.tmp I) () (by rw[boV,bmE,hE];rfl) tO fun W _=>As.nil _ _))))))
 refine wU 29 false I (dF (by omega)) (wP I (Aa (zE (zS I (zI (zE (zA (zA (zB ?_)))))))))
 have hE:boE rs (m:Int) x h e a b=if (flt rs m).gable=true then 18 else if nrs [x,h,e]≠0 then nrs [x,h,e] else if rdQ h<=0\/rdQ e<(frs rs m).st\/LJ a b=false then 2 else 0:=by
  unfold boE;rw[if_neg (by omega)];rfl
 refine wP I (wP I (wB 1 I I I (wJ ?_)))
 refine wP I (wL 0 I I (fun W1 hp=>(hSr hp 3 I m (by omega)).sub 4) I ?_)
 by_cases hg:(flt rs m).gable=true
 ·rw[if_pos hg] at hE
  refine wU 37 true I hg (Aa (zE (zR I (zA (zB (Ap Tryz.hZ tH I I I I I I I I ?_))))))
  exact wS 2 I I I (wP I (Aa (zE (zO (zP (A0 tH I (.cell 2 I I I I I) (.tmp I) () (by rw[boV,bmE,hE];rfl) tO fun W _=>As.nil _ _))))))
 rw[if_neg hg] at hE
 have hg:(flt rs m).gable=false:=by simpa using hg
 refine wU 37 false I hg (Aa (zE (zS I (zI (zE (zA (zA (zB (wP I (wB 1 I I I (wP I (wB 1 I I I (wP I (wB 1 I I I (Ao Tryz.hZ tH I I I I I I I I I I I fun bS=> ?_)))))))))))))))
 refine wC I I (fun W1 hp=>JE W1 (some ⟨bS,0,none⟩) 3 [x,h,e] (.inr ⟨bS,0,I,Ai.of_bx hp 4 I I⟩) (show 3<=100000 by decide) (fun y hy=>by
  rcases List.mem_cons.1 hy with rfl|hy
  ·omega
  rcases List.mem_cons.1 hy with rfl|hy
  ·omega
  obtain rfl:=List.mem_singleton.1 hy
  omega) (hv.hp hp) (ht.hp hp)) ?_
 refine wP I (Aa (zE (zA (zB (wP I (wP I ?_))))))
 by_cases hz:nrs [x,h,e]=0
 rotate_left
 ·rw[if_pos hz] at hE
  refine wU 48 true I (bne_iff_ne.2 hz) (Aa (zE (zR I (zA (zB (Ap Tryz.hZ tH I I I I I I I I ?_))))))
  exact wP I (wS 2 I I I (wP I (Aa (zE (zO (zP (A0 tH I (.cell 2 I I I I I) (.tmp I) () (by rw[boV,bmE,hE,if_neg hz,if_neg hz];rfl) tO fun W _=>As.nil _ _)))))))
 rw[if_neg (fun h=>h hz)] at hE
 refine wU 48 false I (bne_eq_false_iff_eq.2 hz) (Aa (zE (zS I (zI (zE (zA (zB ?_)))))))
 have hzm:=W5 hz
 obtain⟨x',rfl,_,_⟩:=hzm x (by simp)
 obtain⟨h',rfl,_,zh⟩:=hzm h (by simp)
 obtain⟨e',rfl,_,ze⟩:=hzm e (by simp)
 rw[DH,DH] at hE
 have hgo:=Tj hc h1 hg
 obtain⟨f,hf⟩: ∃f,f=frs rs m:=⟨_,rfl⟩
 have hfm:=JB h1
 rw[<-hf] at hfm hgo hE
 refine wB 0 I I I (wD (X:=Vec) I I (fun W1 hp=>Hr W1 p cap rs hn (hR.hp hp) hc (hd.hp hp) (ht.hp hp)) ?_)
 intro F hF
 have hF:F.OK 5 (DV rs).length (frC (DV rs)):=hF
 obtain⟨gF,cF,hFv,hFr⟩:=Vec.frs hF (by omega)
 rw[hFv]
 refine wP I (wP I (wP I (wP I (wP I (Aa (zE (zA (zA (zB (wP I (wP I (Aa (zE (zS I (zI (zE (zA (zB (wP I (wP I (wB 1 I I I (wJ ?_))))))))))))))))))))))
 refine wL 0 I I (fun W1 hp=>hFr hp 5 I m f hfm) I (wG I I fun _=>(wS 6 I I I (Aa ?_)))
 rename_i b12
 refine zE (zA (zA (zB (wP I (wB 1 I I I ?_)))))
 refine wC I I (fun W1 hp=>(show Ad Tryz.prog 82 #[str (Ac h'),str [48]] W1 (fun _:Unit=> .int .i64 (CU h' 0)) (fun _=>True) (fun _=>[]) by
  have h2:=BF h' 0 (sz2 zh szo (by decide)) W1 (hv.hp hp) (ht.hp hp)
  rwa [Cv] at h2)) ?_
 refine wP I ?_
 by_cases h2:h'<=0
 ·rw[if_pos (.inl h2)] at hE
  refine wU 68 true I ((GK _ _).trans (dT h2)) (wP I ?_)
  iterate 6 refine Ae I I ?_
  refine wP I (wP I ?_)
  iterate 6 refine Ae I I ?_
  refine wP I (Aa (zE (zR I (zA (zB (Ap Tryz.hZ tH I I I I I I I I ?_))))))
  exact wS 2 I I I (wP I (Aa (zE (zO (zP (A0 tH I (.cell 2 I I I I I) (.tmp I) () (by rw[boV,bmE,hE];rfl) tO fun W _=>As.nil _ _))))))
 refine wU 68 false I ((GK _ _).trans (dF h2)) (wP I (wP I (wB 1 I I I (wP I (wB 6 I I I (wC I I (fun W1 hp=>BF e' f.st (sz2 ze hgo.st (by decide)) W1 (hv.hp hp) (ht.hp hp)) (wP I ?_)))))))
 by_cases h3:e'<f.st
 ·rw[if_pos (.inr (.inl h3))] at hE
  refine wU 75 true I ((BP _ _).trans (dT h3)) (wP I (wP I ?_))
  iterate 6 refine Ae I I ?_
  refine wP I (Aa (zE (zR I (zA (zB (Ap Tryz.hZ tH I I I I I I I I ?_))))))
  exact wS 2 I I I (wP I (Aa (zE (zO (zP (A0 tH I (.cell 2 I I I I I) (.tmp I) () (by rw[boV,bmE,hE];rfl) tO fun W _=>As.nil _ _))))))
 refine wU 75 false I ((BP _ _).trans (dF h3)) (wP I (wP I (wP I (wB 1 I I I (wP I (wB 1 I I I (wC I I (fun W1 _=>Ku a b W1) (wP I ?_))))))))
 by_cases h4:LJ a b=true
 rotate_left
 ·have h4:LJ a b=false:=by simpa using h4
  rw[if_pos (.inr (.inr h4))] at hE
  refine wU 83 true I (by rw[h4];rfl) (wP I (Aa (zE (zR I (zA (zB (Ap Tryz.hZ tH I I I I I I I I ?_)))))))
  exact wS 2 I I I (wP I (Aa (zE (zO (zP (A0 tH I (.cell 2 I I I I I) (.tmp I) () (by rw[boV,bmE,hE];rfl) tO fun W _=>As.nil _ _))))))
 rw[if_neg (by rw[h4];exact fun hh=>by rcases hh with hh|hh|hh;exact h2 hh;exact h3 hh;cases hh)] at hE
 refine wU 83 false I (by rw[h4];rfl) (wP I (Aa (zE (zS I (zI (zE (Av ?_)))))))
 refine AW (X:=Unit) [true,true,true,false,false] (fun _=>[(6,Af b6),(7, .int .i64 (nrs M))]) (fun _=>[⟨b6,56,(frV f).cells.toList,true,none⟩])
   2 [⟨b3,36,[slv p rs.length cap],true,none⟩,⟨b4,38,(dmS m (Ac x') (Ac h') (Ac e') a b).cells.toList,true,none⟩,⟨b6,56,(frV f).cells.toList,false,none⟩,S.bx 97 (cellsOf rs.flatten),⟨bS,25,[str (Ac x'),str (Ac h'),str (Ac e')],true,none⟩,F.bx 56 (frC (DV rs)),⟨b12,56,(frV f).cells.toList,true,none⟩] Tryz.mixed (by kernel_rfl) ?_ ?_
 ·refine qB 6 I I I (qP I (qC I I (fun W1 hp=>JE W1 pM cM M (hM.hp hp) lM sM (hv.hp hp) (ht.hp hp)) (BU (wX (wZ (wS 2 I I I (Aa (Ag (wX (wZ (wP I (Aa (Ag ?_)))))))))))))
  refine AD I (by((repeat (first|refine AJ.same ?_|refine AJ.off I ?_));exact tO)) ?_
  exact A4 () ⟨I,I,tO⟩ [2] (by decide) I
 intro _
 exact zE (zO (A0 tH rfl (.cell 0 rfl rfl rfl rfl rfl) (.tmp rfl) () (by rw[boV,bmE,hE,if_pos rfl];subst hf;rfl) trivial fun W _=>As.nil _ _))
structure Yw (rs:List (List Sd)) (s:Int) (x h e:List UInt8) (a b:Int) (f:FrP) (x' h' e':Rat):Prop where
 s0:0<=s
 s1:s<tot rs
 hf:f=frs rs s.toNat
 hx:x=Ac x'
 hh:h=Ac h'
 he:e=Ac e'
 zx:szQ x' 8
 zh:szQ h' 8
 ze:szQ e' 8
 go:f.Go
 h0:0<h'
 e0:f.st<=e'
 ha:1<=a/\a<=48
 hb:1<=b/\b<=48
 v:bsV rs s x h e a b=frV f
theorem Zz {rs:List (List Sd)} (hc:chk rs=0) {s a b:Int} {x h e:List UInt8} (hE:bsE rs s x h e a b=0) (lx:x.length<=8) (lh:h.length<=8) (le:e.length<=8): ∃f x' h' e',Yw rs s x h e a b f x' h' e':=by
 have hV:bsV rs s x h e a b=frV (frs rs s.toNat):=by rw[bsV,if_pos hE]
 unfold bsE at hE
 by_cases h1:s<0\/(tot rs:Int)<=s
 ·rw[if_pos h1] at hE;cases hE
 rw[if_neg h1] at hE
 by_cases h2:(flt rs s.toNat).gable=true
 ·rw[if_pos h2] at hE;cases hE
 rw[if_neg h2] at hE
 by_cases h3:ner [x,h,e]=0
 rotate_left
 ·rw[if_pos h3] at hE;exact absurd hE h3
 rw[if_neg (fun h=>h h3)] at hE
 by_cases h4:rdQ h<=0\/rdQ e<(frs rs s.toNat).st\/LJ a b=false
 ·rw[if_pos h4] at hE;cases hE
 have hzm:=FU h3
 obtain⟨x',_,rfl⟩:=DF (hzm x (by simp))
 obtain⟨h',_,rfl⟩:=DF (hzm h (by simp))
 obtain⟨e',_,rfl⟩:=DF (hzm e (by simp))
 rw[DH,DH] at h4
 have hp:LJ a b=true:=by
  cases hp:LJ a b with
  |true=>rfl
  |false=>exact absurd (.inr (.inr hp)) h4
 have hp:=of_decide_eq_true hp
 exact⟨_,x',h',e',by omega,by omega,I,I,I,I,DL lx (by decide),DL lh (by decide),DL le (by decide),Tj hc (by omega) (by simpa using h2),
  Rat.not_le.1 fun h=>h4 (.inl h),Rat.not_lt.1 fun h=>h4 (.inr (.inl h)),⟨hp.1,hp.2.1⟩,⟨hp.2.2.1,hp.2.2.2⟩,hV⟩
def Mx (h e:Rat) (a b:Int):Rat:=e+h*nrm a b
theorem Ij (W:World) (p:Option Addr) (cap:Nat) (rs:List (List Sd)) (hn:rs.length<4611686018427387904) (hR:Bd W p rs) (hc:chk rs=0) (hd:Fk W) (hv:AE W) (ht:A7 W)
  (s a b:Int) (x h e:List UInt8) (hx:x.length<=8) (hh:h.length<=8) (he:e.length<=8) (hE:bsE rs s x h e a b=0) (f:FrP) (x' h' e':Rat) (ho:Yw rs s x h e a b f x' h' e'):
  Ad Tryz.prog 14 #[BW p rs.length cap,dmS s x h e a b] W (fun _:Unit=> .tuple #[str (Ac (Mx h' e' a b)),f.spot x' ((Mx h' e' a b-f.st)*f.sp), .int .i64 0]) (fun _=>True) (fun _=>[]):=by
 have hV:=ho.v
 obtain⟨_,_,_,rfl,rfl,rfl,zx,zh,ze,hgo,_,_,ha,hb,_⟩:=ho
 obtain⟨z,hz⟩: ∃z,z=Mx h' e' a b:=⟨_,rfl⟩
 have zz:szQ z 19:=by rw[hz];exact ze.add (zh.mul (F8 ha hb))
 rw[<-hz]
 refine Ab (args:=[BW p rs.length cap,dmS s (Ac x') (Ac h') (Ac e') a b]) Tryz.func14 I I I (zA (zB (wF I I fun _=>(wF I I fun _=>(wP I (wG I I fun _=>(wP I (Aa ?_))))))))
 rename_i b2 b3 b5
 refine zE (zA (zB (wB 0 I I I (wB 1 I I I (wC I I (fun W1 hp=>(Ie W1 p cap rs hn (hR.hp hp) hc (hd.hp hp) (hv.hp hp) (ht.hp hp) s a b (Ac x') (Ac h') (Ac e') hx hh he).cast (v':= .tuple #[frV f, .int .i64 0]) (by rw[hV,hE])) (wP I (wP I (wP I (wG I I fun _=>(wS 3 I I I (wP I (Aa ?_))))))))))))
 rename_i b7
 refine zE (zA (zA (zB (wP I (wP I (Aa (zE (zS I (zI (zE (zA (zB (wB 1 I I I (wC I I (fun W1 hp=>(PQ s a b (Ac x') h' e' ha hb zh ze W1 (hv.hp hp) (ht.hp hp)).cast (v':= .tuple #[str (Ac z), .int .i64 0]) (by rw[hz];rfl)) (wP I (wP I (wP I (wP I (wP I (Aa (zE (zA (zA ?_)))))))))))))))))))))))
 refine zB (wP I (wP I (Aa (zE (zS I (zI (zE (zA (zB (wB 3 I I I (wP I (wB 1 I I I (wP I (wC I I (fun W1 hp=>KP f hgo x' z (zx.mono (by decide)) zz W1 (hv.hp hp) (ht.hp hp)) (wP I (wP I (wP I (wG I I fun _=>(wS 4 I I I (wP I (Aa ?_)))))))))))))))))))))
 rename_i b10
 refine zE (zA (zA (zB (wP I (wP I (Aa (zE (zS I (zI (zE (Av ?_)))))))))))
 refine AW (X:=Unit) [true,true,true,false,false] (fun _=>[(4,str (Ac z)),(5,Af b5),(6, .int .i64 0)]) (fun _=>[⟨b5,45,(f.spot x' ((z-f.st)*f.sp)).cells.toList,true,none⟩])
   2 [⟨b2,36,[slv p rs.length cap],true,none⟩,⟨b3,38,(dmS s (Ac x') (Ac h') (Ac e') a b).cells.toList,true,none⟩,⟨b5,45,[str [],str [],str []],false,none⟩,⟨b7,56,(frV f).cells.toList,true,none⟩,⟨b10,45,(f.spot x' ((z-f.st)*f.sp)).cells.toList,true,none⟩] Tryz.mixed (by kernel_rfl) ?_ ?_
 ·refine qP I (qB 4 I I I (qP I (BU (wX (wZ (wS 2 I I I (Aa (Ag (wX (wZ (wP I (Aa (Ag ?_)))))))))))))
  refine AD I (by((repeat (first|refine AJ.same ?_|refine AJ.off I ?_));exact tO)) ?_
  exact A4 () ⟨I,I,I,tO⟩ [2] (by decide) I
 intro _
 exact zE (zO (Ul tH I (.tmp I) (.cell 0 I I I I I) (.tmp I) () I tO fun W _=>As.nil _ _))
theorem Qy (W:World) (p:Option Addr) (cap:Nat) (rs:List (List Sd)) (hn:rs.length<4611686018427387904) (hR:Bd W p rs) (hc:chk rs=0) (hd:Fk W) (hv:AE W) (ht:A7 W)
  (s a b:Int) (x h e:List UInt8) (hx:x.length<=8) (hh:h.length<=8) (he:e.length<=8) (hE:bsE rs s x h e a b≠0):
  Ad Tryz.prog 13 #[BW p rs.length cap,dmS s x h e a b] W (fun _:Unit=> .tuple #[.slice none 0 0, .int .i64 (bsE rs s x h e a b)]) (fun _=>True) (fun _=>[]):=by
 have hV:bsV rs s x h e a b= .agg #[.bool false, .int .i64 0, .int .i64 0,str [],str []]:=if_neg hE
 refine Ab (args:=[BW p rs.length cap,dmS s x h e a b]) Tryz.func13 I I I (zA (zB (wF I I fun _=>(wF I I fun _=>(wP I (wP I (Aa (zE (zA (zB (wB 0 I I I (wB 1 I I I (wC I I (fun W1 hp=>(Ie W1 p cap rs hn (hR.hp hp) hc (hd.hp hp) (hv.hp hp) (ht.hp hp) s a b x h e hx hh he).cast (by rw[hV])) (wP I (wP I (wP I (wG I I fun _=>(wS 2 I I I (wP I (Aa (zE (zA (zA ?_)))))))))))))))))))))))
 exact zB (wP I (wP I (wU 21 true I (bne_iff_ne.2 hE) (Aa (zE (zR I (zA (zB (wP I (wP I (wP I (Aa (zE (zO (zP (wR2 I I I))))))))))))))))
def aR (f:FrP) (x h e z:Rat):List Value:=(f.spot (x-h) ((e-f.st)*f.sp)).cells.toList++(f.spot x ((z-f.st)*f.sp)).cells.toList++(f.spot (x+h) ((e-f.st)*f.sp)).cells.toList
theorem P6 (W:World) (p:Option Addr) (cap:Nat) (rs:List (List Sd)) (hn:rs.length<4611686018427387904) (hR:Bd W p rs) (hc:chk rs=0) (hd:Fk W) (hv:AE W) (ht:A7 W)
  (s a b:Int) (x h e:List UInt8) (hx:x.length<=8) (hh:h.length<=8) (he:e.length<=8) (hE:bsE rs s x h e a b=0) (f:FrP) (x' h' e':Rat) (ho:Yw rs s x h e a b f x' h' e'):
  Ad Tryz.prog 13 #[BW p rs.length cap,dmS s x h e a b] W (fun g:Nat=> .tuple #[slv (some ⟨g,0,none⟩) 3 3, .int .i64 0]) (fun _=>True) (fun g=>[⟨g,45,aR f x' h' e' (Mx h' e' a b),true,none⟩]):=by
 have ho2:=ho
 have hV:=ho.v
 obtain⟨_,_,_,rfl,rfl,rfl,zx,zh,ze,hgo,_,_,ha,hb,_⟩:=ho
 obtain⟨z,hz⟩: ∃z,z=Mx h' e' a b:=⟨_,rfl⟩
 have zl:szQ (x'-h') 17:=zx.sub zh
 have zr:szQ (x'+h') 17:=zx.add zh
 rw[<-hz]
 refine Ab (args:=[BW p rs.length cap,dmS s (Ac x') (Ac h') (Ac e') a b]) Tryz.func13 I I I (zA (zB (wF I I fun _=>(wF I I fun _=>(wP I (wP I (Aa (zE (zA (zB (wB 0 I I I (wB 1 I I I (wC I I (fun W1 hp=>(Ie W1 p cap rs hn (hR.hp hp) hc (hd.hp hp) (hv.hp hp) (ht.hp hp) s a b (Ac x') (Ac h') (Ac e') hx hh he).cast (v':= .tuple #[frV f, .int .i64 0]) (by rw[hV,hE])) (wP I (wP I (wP I (wG I I fun _=>(wS 2 I I I (wP I (Aa (zE (zA (zA ?_)))))))))))))))))))))))
 refine zB (wP I (wP I (Aa (zE (zS I (zI (zE (zA (zB (wB 1 I I I (wC I I (fun W1 hp=>Ok s a b (Ac e') x' h' zx zh W1 (hv.hp hp) (ht.hp hp)) (wP I (wP I (wP I (wP I (wP I (wP I (wP I (Aa (zE (zA (zA (zB ?_)))))))))))))))))))))))
 refine wP I (wP I (Aa (zE (zS I (zI (zE (zA (zB (wB 2 I I I (wP I (wP I (wB 1 I I I (wC I I (fun W1 hp=>KP f hgo (x'-h') e' zl (ze.mono (by decide)) W1 (hv.hp hp) (ht.hp hp)) (wP I (wP I (wP I (wG I I fun _=>(wS 3 I I I (wP I (Aa (zE (zA (zA ?_)))))))))))))))))))))))
 refine zB (wP I (wP I (Aa (zE (zS I (zI (zE (zA (zB (wB 0 I I I (wB 1 I I I (wC I I (fun W1 hp=>(Ij W1 p cap rs hn (hR.hp hp) hc (hd.hp hp) (hv.hp hp) (ht.hp hp) s a b (Ac x') (Ac h') (Ac e') hx hh he hE f x' h' e' ho2).cast (v':= .tuple #[str (Ac z),f.spot x' ((z-f.st)*f.sp), .int .i64 0]) (by rw[hz])) (wP I (wP I (wP I (wP I (wG I I fun _=>(wP I (wS 4 I I I (wP I (Aa (zE (zA (zA ?_))))))))))))))))))))))))
 refine zB (wP I (wP I (Aa (zE (zS I (zI (zE (zA (zB (wB 2 I I I (wP I (wP I (wB 1 I I I (wC I I (fun W1 hp=>KP f hgo (x'+h') e' zr (ze.mono (by decide)) W1 (hv.hp hp) (ht.hp hp)) (wP I (wP I (wP I (wG I I fun _=>(wS 5 I I I (wP I (Aa (zE (zA (zA ?_))))))))))))))))))))))))
 refine zB (wP I (wP I (Aa (zE (zS I (zI (zE (zA (zB (wB 3 I I I (wB 4 I I I (wB 5 I I I (Ao Tryz.hZ tH I I I I I I I I I I I fun bS=> ?_)))))))))))))
 exact wP I (wP I (Aa (zE (zO (A0 tH I (.tmp I) (.tmp I) bS I tO fun W1 hp=>As.of_hp (hp.pick (l:=[⟨bS,45,aR f x' h' e' z,true,none⟩]) [6] (by decide) I))))))
theorem Xm (b:UInt8):decide (((b.toNat:Nat):Int)<48)=decide (b.toNat<48):=decide_eq_decide.2 (by omega)
theorem Xn (b:UInt8):decide (((b.toNat:Nat):Int)>57)=decide (57<b.toNat):=decide_eq_decide.2 (by omega)
def dgB (s:List UInt8):Bool:=decide (s=decDigits (AL s))
theorem Hh {s:List UInt8}:dgB s=true↔OG s:=by unfold dgB;rw[decide_eq_true_iff];exact S7.symm
theorem Tl {s:List UInt8} (h: ¬OG s):dgB s=false:=by
 cases e:dgB s
 ·rfl
 ·exact absurd (Hh.1 e) h
theorem I4 (s:List UInt8) (hs:s.length<4611686018427387904):AX Tryz.prog 175 [str s] (.bool (dgB s)):=by
 intro W
 refine Ab Tryz.func175 I I I (zA (zB (wP I (Aa (A6 (Av (Av (AA (X:=Unit) (fun _=>[(0,str s),(16, .bool (decide (s=[]\/(1<s.length/\s[0]? =some 48))))]) (fun _=>[]) (fun _=>True) ?_ ?_))))))))
 ·refine zB (wP I (wP I (Al 5 (.int .i64 (s.length:Nat)) I (congrArg (fun n:Nat=>Value.int .i64 (n:Int)) (A3 s)) (wP I ?_))))
  by_cases h0:s=[]
  ·refine wU 6 true I (by rw[h0];rfl) (wP I ?_)
   iterate 8 refine Ae I I ?_
   exact wP I (Aa (An () tO ⟨I,by rw[dT (Or.inl h0)];rfl,tO⟩ [] I))
  ·have hpos:0<s.length:=List.length_pos_iff.2 h0
   refine wU 6 false I (by rw[beq_eq_false_iff_ne];omega) (wP I (wP I (wP I (Al 9 (.int .i64 (s.length:Nat)) I (congrArg (fun n:Nat=>Value.int .i64 (n:Int)) (A3 s)) (wP I ?_)))))
   by_cases h1:1<s.length
   ·refine wU 10 true I (dT (by omega)) ?_
    obtain⟨b,hb⟩: ∃b,s[0]? =some b:=⟨s[0],List.getElem?_eq_getElem hpos⟩
    refine wP I (wP I (AZ 0 tH I I I I I I I I hb (wP I (wU 14 (decide (b=48)) I (Em b 48) (wP I (wP I (Aa (An () tO ⟨I, ?_,tO⟩ [] I))))))))
    have e:decide (s=[]\/(1<s.length/\s[0]? =some 48))=decide (b=48):=by
     rw[decide_eq_decide,hb]
     constructor
     ·rintro(h|⟨_,h⟩)
      ·exact absurd h h0
      ·exact Option.some.inj h
     ·intro h;exact .inr ⟨h1,by rw[h]⟩
    rw[e];rfl
   ·refine wU 10 false I (dF (by omega)) (wP I ?_)
    iterate 3 refine Ae I I ?_
    exact wP I (wP I (Aa (An () tO ⟨I,by rw[show decide (s=[]\/1<s.length/\s[0]? =some 48)=false from dF (fun h=>h.elim h0 (fun h=>h1 h.1))];rfl,tO⟩ [] I)))
 intro _ _
 refine Ah I (fun hc=> ?_) (fun hc=> ?_)
 ·have hc:=of_decide_eq_true hc
  refine zA (zB (wP I (Aa (zE (zO (zP (wR1 I I ?_)))))))
  rw[Tl fun h=> ?_]
  rcases hc with hc|⟨h1,h2⟩
  ·exact h.ne hc
  ·exact h.lead h1 h2
 have hc:=of_decide_eq_false hc
 have hne:s≠[]:=fun h=>hc (.inl h)
 have hlead:1<s.length->s[0]? ≠some 48:=fun h1 h2=>hc (.inr ⟨h1,h2⟩)
 refine zI (zE (zA (zA (zB (wP I (Aa (zE (zH (Ar (X:=Nat) (fun i=>[(0,str s),(3, .int .i64 (i:Nat))]) (fun _=>[]) (fun i=>i<=s.length/\ ∀b∈s.take i,El b=true) (fun i=>s.length-i) 0 ⟨Nat.zero_le _,fun b hb=>by simp at hb⟩ ⟨I,I,tO⟩ [] I ?_)))))))))
 rintro i ⟨hi,hdg⟩
 have hi:i<=s.length:=hi
 have hdg: ∀b∈s.take i,El b=true:=hdg
 refine zA (zA (zB (wP I (wP I (wP I (Al 19 (.int .i64 (s.length:Nat)) I (congrArg (fun n:Nat=>Value.int .i64 (n:Int)) (A3 s)) (wP I ?_)))))))
 by_cases hlt:i<s.length
 ·refine wU 20 true I (dT (by omega)) (Aa (zE (zR I (zI (zE (zA (zH (zA (zB ?_)))))))))
  obtain⟨b,hb⟩: ∃b,s[i]? =some b:=⟨s[i],List.getElem?_eq_getElem hlt⟩
  have hbm:b∈s:=List.mem_of_getElem? hb
  refine wP I (wP I (AZ i tH I I I I I I I I hb (wP I ?_)))
  by_cases h48:b.toNat<48
  ·refine wU 26 true I ((Xm b).trans (dT h48)) (wP I ?_)
   iterate 4 refine Ae I I ?_
   refine wP I (Aa (zE (zR I (zA (zB (wP I (Aa (zE (zO (zQ (zP (zP (zQ (zP (wR1 I I ?_)))))))))))))))
   rw[Tl fun h=>by have:=CL.1 (h.all b hbm);omega]
  ·refine wU 26 false I ((Xm b).trans (dF h48)) (wP I (wP I (wP I (AZ i tH I I I I I I I I hb (wP I ?_)))))
   by_cases h57:57<b.toNat
   ·refine wU 31 true I ((Xn b).trans (dT h57)) (wP I (Aa (zE (zR I (zA (zB (wP I (Aa (zE (zO (zQ (zP (zP (zQ (zP (wR1 I I ?_))))))))))))))))
    rw[Tl fun h=>by have:=CL.1 (h.all b hbm);omega]
   ·refine wU 31 false I ((Xn b).trans (dF h57)) (wP I (Aa (zE (zS I (zI (zN (zE (zB (wP I (wP I (wV 22 ((i+1:Nat):Int) I (Aw (by omega)) (wP I (Aa ?_)))))))))))))
    refine Aj (i+1) ⟨hlt,fun c hc=> ?_⟩ (by show s.length-(i+1)<s.length-i;omega) ⟨I,I,tO⟩ [] I
    rw[List.take_add_one,hb,List.mem_append] at hc
    rcases hc with hc|hc
    ·exact hdg c hc
    ·obtain rfl:c=b:=by simpa using hc
     exact CL.2 ⟨by omega,by omega⟩
 ·refine wU 20 false I (dF (by omega)) (Aa (zE (zS I (zJ (zK (zK (zL (zE (zA (zB (wP I (Aa (zE (zO (wR1 I I ?_)))))))))))))))
  rw[List.take_of_length_le (by omega)] at hdg
  rw[Hh.2 ⟨hne,hdg,hlead⟩]
theorem Ly (a b:Nat) (ha:a<9223372036854775808) (hb:b<9223372036854775808):AX Tryz.prog 176 [.int .i64 (a:Nat), .int .i64 (b:Nat)] (.int .i64 (Nat.gcd a b:Nat)):=by
 intro W
 refine Ab Tryz.func176 I I I (zA (zB (wP I (Aa (zE (zA (zH (Ar (X:=Nat×Nat) (fun x=>[(0, .int .i64 (x.1:Nat)),(1, .int .i64 (x.2:Nat))]) (fun _=>[]) (fun x=>x.1<9223372036854775808/\x.2<9223372036854775808/\Nat.gcd x.1 x.2=Nat.gcd a b) (fun x=>x.2) (a,b) ⟨ha,hb,I⟩ ⟨I,I,tO⟩ [] I ?_))))))))
 rintro⟨x,y⟩ ⟨hx,hy,hg⟩
 have hx:x<9223372036854775808:=hx
 have hy:y<9223372036854775808:=hy
 have hg:Nat.gcd x y=Nat.gcd a b:=hg
 refine zA (zA (zB (wP I (wP I (Aa (zE ?_))))))
 by_cases h0:y=0
 ·refine AY 6 (.bool false) I (congrArg Value.bool (by rw[bne_eq_false_iff_eq];omega)) ?_
  exact zS I (zJ (zK (zK (zL (zE (zA (zB (wP I (wP I (Aa (zE (zO (wR1 I I (by rw[<-hg,h0,Nat.gcd_zero_right]))))))))))))))
 ·refine AY 6 (.bool true) I (congrArg Value.bool (by rw[bne_iff_ne];omega)) ?_
  refine zR I (zI (zE (zH (zU (qP I (qP I (qP I (DB I I I I I (by omega) ?_))))))))
  refine qP I (qP I (A8 (Aa (zN ?_))))
  have hr:x%y<y:=Nat.mod_lt _ (by omega)
  exact Aj (y,x%y) ⟨hy,Nat.lt_trans hr hy,by show Nat.gcd y (x%y)=_;rw[Nat.gcd_comm, <-Nat.gcd_rec,Nat.gcd_comm];exact hg⟩ hr ⟨I,I,tO⟩ [] I
theorem Cj (s:List UInt8) (hs:s.length<=18) (hd: ∀b∈s,El b=true):AX Tryz.prog 107 [str s] (.int .i64 (AL s:Nat)):=by
 intro W
 have hlt: ∀i,AL (s.take i)<1000000000000000000:=fun i=>by
  have h1:=Gc (s.take i).length (s:=s.take i) rfl fun b hb=>hd b (List.mem_of_mem_take hb)
  have h2:(s.take i).length<=18:=by rw[List.length_take];omega
  exact Nat.lt_of_lt_of_le h1 (Nat.pow_le_pow_right (by decide) h2)
 refine Ab Tryz.func107 I I I (zA (zB (wP I (Aa (zE (zA (zB (wP I (Aa (zE (zA (zA (zB (wP I (Aa (zE (zH (Ar (X:=Nat) (fun i=>[(0,str s),(3, .int .i64 (AL (s.take i):Nat)),(4, .int .i64 (i:Nat))]) (fun _=>[]) (fun i=>i<=s.length) (fun i=>s.length-i) 0 (Nat.zero_le _) ⟨I,I,I,tO⟩ [] I ?_))))))))))))))))))
 intro i hi
 have hi:i<=s.length:=hi
 refine zA (zA (zB (wP I (wP I (wP I (Al 7 (.int .i64 (s.length:Nat)) I (congrArg (fun n:Nat=>Value.int .i64 (n:Int)) (A3 s)) (wP I ?_)))))))
 by_cases h:i<s.length
 ·refine wU 8 true I (dT (by omega)) (Aa (zE (zR I (zI (zE (zA (zH (zB ?_))))))))
  obtain⟨b,hb⟩: ∃b,s[i]? =some b:=⟨s[i],List.getElem?_eq_getElem h⟩
  have hdb:=CL.1 (hd b (List.mem_of_getElem? hb))
  have e1:AL (s.take (i+1))=10*AL (s.take i)+(b.toNat-48):=by
   rw[List.take_add_one,hb];exact D4 _ _
  have l1:=hlt i
  have l2:=hlt (i+1)
  refine wP I (wP I (wV 12 ((10*AL (s.take i):Nat):Int) I (show w64 (10*(AL (s.take i):Nat))=_ by rw[Ak (by omega) (by omega)];omega) (wP I (wP I (AZ i tH I I I I I I I I hb (wP I ?_))))))
  refine Al 16 (.int .u8 ((b.toNat-48:Nat):Int)) I (congrArg (Value.int .u8) (show IntKind.u8.wrap ((b.toNat:Nat)-48)=_ by
   simp only[IntKind.wrap,IntKind.signed,IntKind.bits];simp;omega)) ?_
  refine J4 Tryz.underlying5 Tryz.underlying3 I I I I ?_
  exact wV 17 ((b.toNat-48:Nat):Int) I (BE (by omega)) (wP I (wV 18 ((AL (s.take (i+1)):Nat):Int) I (show w64 (((10*AL (s.take i):Nat):Int)+((b.toNat-48:Nat):Int))=_ by rw[Ak (by omega) (by omega),e1];omega) (wP I (Aa (zN (zE (zB (wP I (wP I (wV 10 ((i+1:Nat):Int) I (Aw (by omega)) (wP I (Aa (Aj (i+1) h (by show s.length-(i+1)<s.length-i;omega) ⟨I,I,I,tO⟩ [] I)))))))))))))
 ·exact wU 8 false I (dF (by omega)) (Aa (zE (zS I (zJ (zK (zK (zL (zE (zA (zB (wP I (wP I (Aa (zE (zO (wR1 I I (by rw[List.take_of_length_le (by omega)])))))))))))))))))
section
variable {r:Option Nat} {n:Nat} {P:Program} {N:Nat} {D:List Deferred} {ops:List Oper} {Q:Exit->Act->World->Prop} {o:Oper} {rest:List Oper} {env:Env} {A:World->Prop} {A2:World->Prop} {R:Act->World->Prop}
theorem WE {T:Tbl} {i:TI} {ρ:Operand->Value} {a:List UInt8} {t:TypeId} {x y:Operand} {k:IntKind} (l:Nat) (hT:Go.Am.okB P T=true) (ho:o.op= .slice t x none (some y) none) (ht:Cn T t=some i) (hk:i.kind=1)
  (hx:ρ x=str a) (hy:ρ y= .int k l) (h1:l<=a.length) (W:World):(execOp ρ o).run P W= .ok (.value (str (a.take l))) W:=by
 have hu:=GQ (Bw hT ht) hk
 have hsz:(⟨a.toArray⟩:ByteArray).size=a.length:=by show a.toArray.size=_;simp
 have e:(⟨a.toArray⟩:ByteArray).extract 0 l=⟨(a.take l).toArray⟩:=by
  apply ByteArray.ext
  rw[ByteArray.data_extract]
  apply Array.toList_inj.1
  simp[List.extract_eq_take_drop]
 simp[execOp,ho,Instr.sliceAt,Instr.slice,Instr.sliceBounds,Instr.sliceBound,hx,hy,asIntOf,run_underlying hu,hsz,h1,e]
theorem Yz (l:Nat) {T:Tbl} {i:TI} {a:List UInt8} {d:Nat} {t:TypeId} {x y:Operand} {k:IntKind} {z:Int} (hT:Go.Am.okB P T=true) (hg:Ay ops N env o=some true) (hd:o.dst=some d) (ho:o.op= .slice t x none (some y) none) (ht:Cn T t=some i) (hk:i.kind=1)
  (hx:evO N env x=some (str a)) (hy:evO N env y=some (.int k z)) (hz:z=l) (h1:l<=a.length)
  (hn:WQ P N D ops A2 R rest ((d,str (a.take l))::env) A):WQ P N D ops A2 R (o::rest) env A:=
 DS hg hd (fun c e=>by rw[ho] at e;cases e) (fun ρ W hρ _=>WE l hT ho ht hk (hρ _ _ hx) (by rw[<-hz];exact hρ _ _ hy) h1 W) hn
end
section
variable {n:Nat} {P:Program} {W0:World} {N:Nat} {env:Env} {bxs:List Bx}
theorem UL {fn:Func} {T:Tbl} {r1 r2 r3 r4:ResultVar} {v1 v2 v3 v4:Value} {X:Type} {val:X->Value} {Φ:X->Prop} {nb:X->List Bx} (hT:Go.Am.okB P T=true) (hr:fn.results= #[r1,r2,r3,r4])
  (h1:Res P T env bxs N r1 v1) (h2:Res P T env bxs N r2 v2) (h3:Res P T env bxs N r3 v3) (h4:Res P T env bxs N r4 v4)
  (x:X) (hv: .tuple #[v1,v2,v3,v4]=val x) (hx:Φ x) (hnb: ∀W,Hp W0 bxs W->As W0 W (nb x)):NE N [] (GR P fn W0 val Φ nb) .ret env (Hp W0 bxs):=
 N3 (rvs:=[r1,r2,r3,r4]) (vs:=[v1,v2,v3,v4]) hT hr rfl (fun i h _=>by
  match i,h with
  |0,_=>exact h1
  |1,_=>exact h2
  |2,_=>exact h3
  |3,_=>exact h4
  |i+4,h=>exact absurd h (by show¬i+4<4;omega)) x (by simpa using hv) hx hnb
end
def RJ (a:List UInt8):Value:= .tuple #[.bool (hasPrefix a [45]),str (cut (trimPrefix a [45]) [47]).1,str (cut (trimPrefix a [45]) [47]).2.1, .bool (cut (trimPrefix a [45]) [47]).2.2]
theorem Gf (a:List UInt8) (ha:a.length<4611686018427387904):AX Tryz.prog 106 [str a] (RJ a):=by
 intro W
 refine Ab Tryz.func106 I I I (zA (zB (wP I (wP I (wP I (wP I (Aa (zE (zA (zB (wP I (wP I (Aa (A6 (Av (AA (X:=Unit) (fun _=>[(6,str a),(7, .bool (hasPrefix a [45]))]) (fun _=>[]) (fun _=>True) ?_ ?_))))))))))))))))
 ·refine zB (wP I (wP I (Al 11 (.int .i64 (a.length:Nat)) I (congrArg (fun n:Nat=>Value.int .i64 (n:Int)) (A3 a)) (wP I ?_))))
  cases ea:a with
  |nil=>
   refine Al 12 (.bool false) I I (wP I ?_)
   iterate 3 refine Ae I I ?_
   exact wP I (wP I (Aa (An () tO ⟨I,I,tO⟩ [] I)))
  |cons b t=>
   exact wU 12 true I (dT (by show(((b::t).length:Nat):Int)>0;rw[List.length_cons];omega)) (wP I (wP I (AZ 0 tH I I I I I I I I (show(b::t)[0]? =some b from I) (wP I (wU 16 (hasPrefix (b::t) [45]) I ((Em b 45).trans (by rw[Bf];exact decide_eq_decide.2 (by simp))) (wP I (wP I (Aa (An () tO ⟨I,I,tO⟩ [] I)))))))))
 intro _ _
 refine zA (zA (zB (wP I (Aa (A6 ?_)))))
 try refine Av ?_
 obtain⟨b,hb⟩: ∃b,b=trimPrefix a [45]:=⟨_,rfl⟩
 have hbl:b.length<=a.length:=by rw[hb,AR];split<;>simp
 refine AA (X:=Unit) (fun _=>[(6,str b),(7, .bool (hasPrefix a [45]))]) (fun _=>[]) (fun _=>True) ?_ ?_
 ·refine Ah I (fun hm=> ?_) (fun hm=> ?_)
  ·have hm:a[0]? =some 45:=by rw[Bf] at hm;exact of_decide_eq_true hm
   have h1:1<=a.length:=(List.getElem?_eq_some_iff.1 hm).1
   refine zB (wP I (Gj 1 tH I I I I I I I I h1 ?_))
   exact wP I (Aa (An () tO ⟨by rw[hb,AR,if_pos hm];rfl,I,tO⟩ [] I))
  ·have hm: ¬a[0]? =some 45:=by rw[Bf] at hm;exact of_decide_eq_false hm
   exact zI (An () tO ⟨by rw[hb,AR,if_neg hm];rfl,I,tO⟩ [] I)
 intro _ _
 refine zA (zA (zB (wP I (Aa (zE (zH (Ar (X:=Nat) (fun i=>[(6,str b),(7, .bool (hasPrefix a [45])),(8, .int .i64 (i:Nat))]) (fun _=>[]) (fun i=>i<=b.length/\47∉b.take i) (fun i=>b.length-i) 0 ⟨Nat.zero_le _,by simp⟩ ⟨I,I,I,tO⟩ [] I ?_)))))))
 rintro i ⟨hi,hno⟩
 have hi:i<=b.length:=hi
 have hno:47∉b.take i:=hno
 refine zA (zA (zB (wP I (wP I (wP I (Al 23 (.int .i64 (b.length:Nat)) I (congrArg (fun n:Nat=>Value.int .i64 (n:Int)) (A3 b)) (wP I ?_)))))))
 by_cases hlt:i<b.length
 ·refine wU 24 true I (dT (by omega)) (Aa (zE (zR I (zI (zE (zA (zH (zA (zB ?_)))))))))
  obtain⟨c,hc⟩: ∃c,b[i]? =some c:=⟨b[i],List.getElem?_eq_getElem hlt⟩
  refine wP I (wP I (AZ i tH I I I I I I I I hc (wP I (wU 30 (decide (c=47)) I (Em c 47) (Aa (zE (Ah I (fun h47=> ?_) (fun h47=> ?_))))))))
  ·have h47:c=47:=of_decide_eq_true h47
   have eb:b=b.take i++47::b.drop (i+1):=by
    conv=>lhs;rw[<-List.take_append_drop i b]
    rw[List.drop_eq_getElem_cons hlt]
    have:b[i]=47:=by rw[List.getElem?_eq_getElem hlt] at hc;rw[Option.some.inj hc];exact h47
    rw[this]
   have ec:=Gx (b.drop (i+1)) hno
   rw[<-eb,hb] at ec
   refine zA (zU (qP I (qP I (qP I (Yz i tH I I I I I I I I (by omega) ?_)))))
   refine qP I (qP I (qP I (qV 37 ((i+1:Nat):Int) I (Aw (by omega)) (QM (i+1) tH I I I I I I I I (by omega) ?_))))
   exact qP I (qP I (qP I (qP I (A8 (Aa (zE (zO (zQ (zP (zP (zQ (zP (UL tH I (.tmp I) (.tmp I) (.tmp I) (.tmp I) () (by rw[RJ,ec,hb]) tO fun W _=>As.nil _ _)))))))))))))
  ·have h47: ¬c=47:=of_decide_eq_false h47
   refine zI (zN (zE (zB (wP I (wP I (wV 26 ((i+1:Nat):Int) I (Aw (by omega)) (wP I (Aa ?_))))))))
   refine Aj (i+1) ⟨hlt,fun h=> ?_⟩ (by show b.length-(i+1)<b.length-i;omega) ⟨I,I,I,tO⟩ [] I
   rw[List.take_add_one,hc,List.mem_append] at h
   rcases h with h|h
   ·exact hno h
   ·exact h47 (by simpa using h:(47:UInt8)=c).symm
 ·refine wU 24 false I (dF (by omega)) (Aa (zE (zS I (zJ (zK (zK (zL (zE (zA (zB ?_))))))))))
  rw[List.take_of_length_le (by omega)] at hno
  have ec:=ES hno
  rw[hb] at ec
  exact wP I (wP I (wP I (wP I (wP I (wP I (Aa (zE (zO (UL tH I (.tmp I) (.tmp I) (.tmp I) (.tmp I) () (by rw[RJ,ec,hb]) tO fun W _=>As.nil _ _)))))))))
theorem Qa {z:Int} {d:Nat} (_hd:1<=d):hasPrefix (Gt z d) [45]=decide (z<0)/\cut (trimPrefix (Gt z d) [45]) [47]=(decDigits z.natAbs,if d=1 then[] else decDigits d,decide (d≠1)):=by
 have hn47:(47:UInt8)∉decDigits z.natAbs:=fun h=>by have:=F6 _ _ h;exact absurd this.1 (by decide)
 have hp: ∀r,hasPrefix (itoa z++r) [45]=decide (z<0):=fun r=>by
  rw[Bf]
  unfold itoa
  split
  ·rename_i h;rw[dT h];rfl
  ·rename_i h
   rw[dF h]
   obtain⟨b,t,hb,h3,_⟩:=CM z.toNat
   rw[hb]
   refine dF fun e=> ?_
   have e:b=45:=by simpa using e
   rw[e] at h3;exact absurd h3 (by decide)
 have ht: ∀r,trimPrefix (itoa z++r) [45]=decDigits z.natAbs++r:=fun r=>by
  have h1:=hp r
  rw[AR]
  rw[Bf] at h1
  by_cases hz:z<0
  ·rw[dT hz] at h1
   rw[if_pos (of_decide_eq_true h1)]
   unfold itoa
   rw[if_pos hz];rfl
  ·rw[dF hz] at h1
   rw[if_neg (of_decide_eq_false h1)]
   unfold itoa
   rw[if_neg hz,show z.toNat=z.natAbs by omega]
 unfold Gt
 by_cases h1:d=1
 ·rw[if_pos h1]
  have e1:=hp []
  have e2:=ht []
  rw[List.append_nil] at e1 e2
  rw[List.append_nil] at e2
  exact⟨e1,by rw[e2,ES hn47,if_pos h1,h1];rfl⟩
 ·rw[if_neg h1]
  exact⟨hp _,by rw[ht,Gx _ hn47,if_neg h1,dT (show d≠1 from h1)]⟩
theorem QP (q:Rat):RJ (Ac q)= .tuple #[.bool (decide (q.num<0)),str (decDigits q.num.natAbs),str (if q.den=1 then[] else decDigits q.den), .bool (decide (q.den≠1))]:=by
 obtain⟨h1,h2⟩:=Qa (z:=q.num) q.den_pos
 unfold RJ Ac
 rw[h1,h2]
def Ff (q:Rat):Bool:=decide ((decDigits q.num.natAbs).length<=9)&&(decide (q.den=1)||decide ((decDigits q.den).length<=9))
theorem Mq {n:Nat} (h:(decDigits n).length<=9):n<1000000000:=Nat.lt_of_lt_of_le (EP n) (Nat.pow_le_pow_right (by decide) h)
theorem Li {q:Rat} (h:Ff q=true):q.num.natAbs<1000000000/\q.den<1000000000:=by
 unfold Ff at h
 simp only[Bool.and_eq_true,Bool.or_eq_true,decide_eq_true_eq] at h
 refine⟨Mq h.1, ?_⟩
 rcases h.2 with e|e
 ·rw[e];decide
 ·exact Mq e
theorem TC (q:Rat) (hl:(Ac q).length<4611686018427387904):AX Tryz.prog 40 [str (Ac q)] (if Ff q=true then .tuple #[.int .i64 q.num, .int .i64 (q.den:Nat), .bool true] else .tuple #[.int .i64 0, .int .i64 0, .bool false]):=by
 intro W
 obtain⟨n,hn⟩: ∃n,n=decDigits q.num.natAbs:=⟨_,rfl⟩
 obtain⟨e,he⟩: ∃e,e=(if q.den=1 then[] else decDigits q.den):=⟨_,rfl⟩
 have hsp:Ad Tryz.prog 106 #[str (Ac q)] W (fun _:Unit=> .tuple #[.bool (decide (q.num<0)),str n,str e, .bool (decide (q.den≠1))]) (fun _=>True) (fun _=>[]):=(Gf (Ac q) hl W).cast (by rw[QP,hn,he])
 have hsh:Ff q=(decide (n.length<=9)&&decide (e.length<=9)):=by
  unfold Ff
  rw[hn,he]
  by_cases h1:q.den=1
  ·rw[if_pos h1,dT h1];rfl
  ·rw[if_neg h1,dF h1,Bool.false_or]
 have hnd: ∀b∈n,El b=true:=by rw[hn];exact(FN _).all
 refine Ab Tryz.func40 I I I (zA (zB (wP I (wP I (wP I (Aa (zE (zA (zB (wP I (wC I I (fun W1 hp=>(Gf (Ac q) hl W1).cast (v':= .tuple #[.bool (decide (q.num<0)),str n,str e, .bool (decide (q.den≠1))]) (by rw[QP,hn,he])) ?_)))))))))))
 iterate 9 refine wP I ?_
 refine Aa ?_
 by_cases hs:Ff q=true
 ·rw[if_pos hs]
  have hs2:=hs
  rw[hsh,Bool.and_eq_true,decide_eq_true_eq,decide_eq_true_eq] at hs2
  obtain⟨hs2,hs3⟩:=hs2
  obtain⟨l1,l2⟩:=Li hs
  refine zE (zA (zA (zB (wP I (wP I (Al 19 (.int .i64 (n.length:Nat)) I (congrArg (fun n:Nat=>Value.int .i64 (n:Int)) (A3 n)) (wP I (wU 20 false I (dF (by omega)) (wP I (wP I (wP I (Al 23 (.int .i64 (e.length:Nat)) I (congrArg (fun n:Nat=>Value.int .i64 (n:Int)) (A3 e)) (wP I (wU 24 false I (dF (by omega)) (wP I (Aa (zE (zS I (zI (zE (zA (zB (wP I ?_)))))))))))))))))))))))
  refine wC I I (fun W1 hp=>(Cj n (by omega) hnd W1).cast (v':= .int .i64 (q.num.natAbs:Nat)) (by rw[hn,BO])) (wP I (wP I (Aa (zE (zA (zA (zB (wP I (Aa (A6 ?_))))))))))
  try refine Av ?_
  refine AA (X:=Unit) (fun _=>[(5, .bool (decide (q.num<0))),(9, .int .i64 (q.num.natAbs:Nat)),(10, .int .i64 (q.den:Nat))]) (fun _=>[]) (fun _=>True) ?_ ?_
  ·refine Ah I (fun h1=> ?_) (fun h1=> ?_)
   ·have h1:q.den≠1:=of_decide_eq_true h1
    have e1:e=decDigits q.den:=by rw[he,if_neg h1]
    exact zB (wP I (wC I I (fun W1 hp=>(Cj e (by omega) (by rw[e1];exact(FN _).all) W1).cast (v':= .int .i64 (q.den:Nat)) (by rw[e1,BO])) (wP I (Aa (An () tO ⟨I,I,I,tO⟩ [] I)))))
   ·have h1:q.den=1:=Decidable.byContradiction fun h=>absurd h1 (by rw[dT h];decide)
    exact zI (An () tO ⟨I,I,by rw[h1];rfl,tO⟩ [] I)
  intro _ _
  refine zA (zA (zB (wP I (Aa (A6 ?_)))))
  try refine Av ?_
  refine AA (X:=Unit) (fun _=>[(9, .int .i64 q.num),(10, .int .i64 (q.den:Nat))]) (fun _=>[]) (fun _=>True) ?_ ?_
  ·refine Ah I (fun h1=> ?_) (fun h1=> ?_)
   ·have h1:q.num<0:=of_decide_eq_true h1
    exact zB (wP I (wP I (wV 33 q.num I (by show w64 (0-((q.num.natAbs:Nat):Int))=_;rw[Ak (by omega) (by omega)];omega) (wP I (Aa (An () tO ⟨I,I,tO⟩ [] I))))))
   ·have h1: ¬q.num<0:=of_decide_eq_false h1
    exact zI (An () tO ⟨congrArg (fun z=>some (Value.int .i64 z)) (by omega),I,tO⟩ [] I)
  intro _ _
  exact zA (zB (wP I (wP I (wP I (wP I (wP I (Aa (zE (zO (wR3 I I I))))))))))
 ·rw[if_neg hs]
  have hs2: ¬(n.length<=9/\e.length<=9):=fun h=>hs (by rw[hsh,dT h.1,dT h.2];rfl)
  refine A6 (Av (Av (AA (X:=Unit) (fun _=>[(25, .bool true)]) (fun _=>[]) (fun _=>True) ?_ ?_)))
  ·refine zB (wP I (wP I (Al 19 (.int .i64 (n.length:Nat)) I (congrArg (fun n:Nat=>Value.int .i64 (n:Int)) (A3 n)) (wP I ?_))))
   by_cases h1:n.length<=9
   ·exact wU 20 false I (dF (by omega)) (wP I (wP I (wP I (Al 23 (.int .i64 (e.length:Nat)) I (congrArg (fun n:Nat=>Value.int .i64 (n:Int)) (A3 e)) (wP I (wU 24 true I (dT (by omega)) (wP I (Aa (An () tO ⟨I,tO⟩ [] I)))))))))
   ·refine wU 20 true I (dT (by omega)) (wP I ?_)
    iterate 3 refine Ae I I ?_
    exact wP I (Aa (An () tO ⟨I,tO⟩ [] I))
  intro _ _
  exact zR I (zA (zB (wP I (wP I (wP I (Aa (zE (zO (zP (wR3 I I I))))))))))
theorem Sq (q:Rat) (hl:(Ac q).length<=1000):AX Tryz.prog 41 [str (Ac q)] (.tuple #[str (itoa q.num),str (decDigits q.den)]):=by
 intro W
 have hlen:(decDigits q.num.natAbs).length<=1000:=by
  have:=U8 (a:=Ac q) (FG q.num q.den_pos)
  omega
 refine Ab Tryz.func41 I I I (zA (zB (wP I (wP I (Aa (zE (zA (zB (wP I (wC I I (fun W1 hp=>(Gf (Ac q) (by omega) W1).cast (QP q)) ?_))))))))))
 iterate 9 refine wP I ?_
 refine Aa (zE (zA (zA (zB (wP I (Aa (A6 ?_)))))))
 try refine Av ?_
 refine AA (X:=Unit) (fun _=>[(5,str (itoa q.num)),(6,str (if q.den=1 then[] else decDigits q.den)),(7, .bool (decide (q.den≠1)))]) (fun _=>[]) (fun _=>True) ?_ ?_
 ·refine Ah I (fun h1=> ?_) (fun h1=> ?_)
  ·have h1:q.num<0:=of_decide_eq_true h1
   refine zB (wP I (Cm I I I I I (a:=[45]) (b:=decDigits q.num.natAbs) (by decide) (by omega) ?_))
   exact wP I (Aa (An () tO ⟨by unfold itoa;rw[if_pos h1];rfl,I,I,tO⟩ [] I))
  ·have h1: ¬q.num<0:=of_decide_eq_false h1
   exact zI (An () tO ⟨by unfold itoa;rw[if_neg h1,show q.num.toNat=q.num.natAbs by omega];rfl,I,I,tO⟩ [] I)
 intro _ _
 refine zA (zA (zB (wP I (wP I (Aa (A6 ?_))))))
 try refine Av ?_
 refine AA (X:=Unit) (fun _=>[(5,str (itoa q.num)),(6,str (decDigits q.den))]) (fun _=>[]) (fun _=>True) ?_ ?_
 ·refine Ah I (fun h1=> ?_) (fun h1=> ?_)
  ·have h1:q.den=1:=Decidable.byContradiction fun h=>absurd h1 (by rw[dT h];decide)
   exact zB (wP I (Aa (An () tO ⟨I,by rw[h1,FQ];rfl,tO⟩ [] I)))
  ·have h1:q.den≠1:=Decidable.byContradiction fun h=>absurd h1 (by rw[dF h];decide)
   exact zI (An () tO ⟨I,by rw[if_neg h1];rfl,tO⟩ [] I)
 intro _ _
 exact zA (zB (wP I (wP I (wP I (wP I (Aa (zE (zO (wR2 I I I)))))))))
def byV (l:List UInt8):List Value:=l.map fun b=> .int .u8 (b.toNat:Int)
def zrV (k:Nat):List Value:=BR [.int .u8 0] k
theorem JI (k:Nat):(zrV k).length=k:=by unfold zrV;rw[EW];simp
theorem WZ (k:Nat):zrV (k+1)=zrV k++[.int .u8 0]:=by
 induction k with
 |zero=>rfl
 |succ k ih=>
  have e: ∀j,zrV (j+1)=[.int .u8 0]++zrV j:=fun j=>rfl
  rw[e,ih, <-List.append_assoc, <-e,ih]
theorem Uf {k:Nat} {c:UInt8} {suf:List UInt8}:B7 (zrV (k+1)++byV suf) (0+k*1) [.int .u8 (c.toNat:Int)]=zrV k++byV (c::suf):=by
 rw[WZ,show 0+k*1=(zrV k).length+0 by rw[JI];omega,List.append_assoc,Er]
 rfl
theorem UJ {k:Nat} {l:List UInt8} {j:Nat} (hj:j<l.length):(zrV k++byV l)[k+j]? =some (.int .u8 (l[j].toNat:Int)):=by
 rw[List.getElem?_append_right (by rw[JI];omega),JI,Nat.add_sub_cancel_left]
 unfold byV
 rw[List.getElem?_map,List.getElem?_eq_getElem hj];rfl
theorem X7 (u:Nat):IntKind.u8.wrap ((48+u%10:Nat):Int)=((UInt8.ofNat (48+u%10)).toNat:Int):=by
 rw[RP (by omega) (by omega),Dz (Nat.mod_lt _ (by omega))]
theorem HV (m:Nat) (hm:m<9223372036854775808):AX Tryz.prog 267 [.int .i64 (m:Nat)] (str (decDigits m)):=by
 intro W
 have hlen:(decDigits m).length<=19:=Cp 19 m (by omega) (by omega)
 refine Ab Tryz.func267 I I I (zA (zB (wP I (Aa (zE (zA (zB (Cf Tryz.vec284 20 I I I I I I I (by decide) (by decide) ?_))))))))
 intro b
 refine wP I (Aa (zE (zA (zB (wP I (wP I (wP I (Aa (zE (zH ?_))))))))))
 refine Ar (X:=Nat×List UInt8) (fun x=>[(0, .int .i64 (x.1:Nat)),(3, .slice (some ⟨b,0,none⟩) 20 20),(4, .int .i64 ((20-x.2.length:Nat):Int))]) (fun x=>[⟨b,5,zrV (20-x.2.length)++byV x.2,true,none⟩])
  (fun x=>x.1<9223372036854775808/\decDigits m=decDigits x.1++x.2) (fun x=>x.1) (m,[]) ⟨hm,by simp⟩ ⟨rfl,rfl,rfl,trivial⟩ [] rfl ?_
 rintro⟨u,suf⟩ ⟨hu0,hd0⟩
 have hu:u<9223372036854775808:=hu0
 have hd:decDigits m=decDigits u++suf:=hd0
 have hs:suf.length<=18:=by
  have h1:=congrArg List.length hd
  rw[List.length_append] at h1
  have h2:(decDigits u).length≠0:=fun e=>FT u (List.length_eq_zero_iff.1 e)
  omega
 refine zH (zA (zB (wP I (wP I (wV 9 ((19-suf.length:Nat):Int) I (show w64 (((20-suf.length:Nat):Int)-1)=_ by rw[Ak (by omega) (by omega)];omega) (wP I (Aa (zE (zA (zB (wP I (wP I (wP I (FB I I I I I (by decide) ?_))))))))))))))
 refine wV 13 ((u%10:Nat):Int) I (show Int.tmod (u:Nat) ((10:Nat):Int)=_ from(Int.ofNat_tmod _ _).symm) (wP I (wV 14 ((48+u%10:Nat):Int) I (show w64 (48+((u%10:Nat):Int))=_ by rw[Ak (by omega) (by omega)];omega) (W9 Tryz.underlying3 Tryz.underlying5 I I I I ?_)))
 refine Al 15 (.int .u8 ((UInt8.ofNat (48+u%10)).toNat:Int)) I (congrArg (Value.int .u8) (X7 u)) (wJ ?_)
 refine AC 0 (zrV (20-(UInt8.ofNat (48+u%10)::suf).length)++byV (UInt8.ofNat (48+u%10)::suf)) tH I I I I I I I I I I (by show 0+(19-suf.length)*1+1<=(zrV (20-suf.length)++byV suf).length;rw[List.length_append,JI];omega) (by
  rw[List.length_cons,show 20-(suf.length+1)=19-suf.length by omega]
  show B7 (zrV (20-suf.length)++byV suf) _ _=_
  rw[show 20-suf.length=19-suf.length+1 by omega]
  exact Uf) ?_
 refine Aa (zE (zA (zB (wP I (Ep I I I I I (by decide) ?_)))))
 refine wV 18 ((u/10:Nat):Int) I (show w64 (Int.tdiv (u:Nat) ((10:Nat):Int))=_ by rw[<-Int.ofNat_tdiv,Ak (by omega) (by omega)]) (wP I (Aa (zE (zA (zB (wP I (wP I (Aa (zE ?_)))))))))
 generalize hc:UInt8.ofNat (48+u%10)=c at*
 refine Ah I (fun h=> ?_) (fun h=> ?_)
 ·have h0:u<10:=by have h':(((u/10:Nat):Int)==0)=true:=h;rw[beq_iff_eq] at h';omega
  have he:decDigits m=c::suf:=by rw[hd,decDigits_one h0, <-hc,Nat.mod_eq_of_lt h0];rfl
  refine zA (zB (wP I (wP I (Du (19-suf.length) tH I I I I I I I I (by omega) (by omega) ?_))))
  refine Al 23 (.slice (some ⟨b,19-suf.length,none⟩) (c::suf).length (20-(19-suf.length))) I (by
   rw[if_neg (by omega),List.length_cons,show 20-(19-suf.length)=suf.length+1 by omega,show 0+(19-suf.length)*1=19-suf.length by omega]) ?_
  refine I2 0 (c::suf) (e:=5) (by kernel_rfl) Tryz.underlying5 (by kernel_rfl) I I I I I I I (fun j hj=>by
   show(zrV (20-(c::suf).length)++byV (c::suf))[19-suf.length+j]? =_
   rw[show 20-(c::suf).length=19-suf.length by rw[List.length_cons];omega]
   exact UJ hj) ?_
  exact wP I (Aa (zE (zO (zQ (zP (zQ (wR1 I I (by rw[he]))))))))
 ·have h0: ¬u<10:=by have h':(((u/10:Nat):Int)==0)=false:=h;rw[beq_eq_false_iff_ne] at h';omega
  refine zI (zN ?_)
  refine Aj (u/10,c::suf) ⟨by show u/10<9223372036854775808;omega, ?_⟩ (by show u/10<u;omega) ⟨I,I,congrArg (fun z=>some (Value.int .i64 z)) (by rw[List.length_cons,show 20-(suf.length+1)=19-suf.length by omega]),tO⟩ [] I
  show decDigits m=decDigits (u/10)++c::suf
  rw[hd,decDigits,dif_neg h0,hc,List.append_assoc];rfl
theorem Wp {z:Int} {g:Nat} (hg:0<g) (h:g∣z.natAbs):itoa (z/(g:Int))=(if z<0 then[45] else[])++decDigits (z.natAbs/g):=by
 obtain⟨k,hk⟩:=h
 by_cases hz:z<0
 ·have e:z= -((g*k:Nat):Int):=by omega
  have hk0:k≠0:=fun e=>by rw[e] at hk;omega
  have e2:z/(g:Int)= -(k:Int):=by
   rw[e,Int.natCast_mul, <-Int.mul_neg]
   exact Int.mul_ediv_cancel_left _ (by omega)
  rw[if_pos hz,e2,N1 hk0,hk,Nat.mul_div_cancel_left _ hg];rfl
 ·have e:z=((g*k:Nat):Int):=by omega
  have e2:z/(g:Int)=(k:Int):=by
   rw[e,Int.natCast_mul]
   exact Int.mul_ediv_cancel_left _ (by omega)
  rw[if_neg hz,e2,hk,Nat.mul_div_cancel_left _ hg]
  unfold itoa
  rw[if_neg (by omega)];rfl
theorem Fu (z:Int) (d:Nat) (hz:z.natAbs<9223372036854775808) (hd0:0<d) (hd:d<9223372036854775808):AX Tryz.prog 225 [.int .i64 z, .int .i64 (d:Nat)] (str (Ac (mkRat z d))):=by
 intro W
 obtain⟨n,hn⟩: ∃n,z.natAbs=n:=⟨_,rfl⟩
 obtain⟨g,hg⟩: ∃g,Nat.gcd n d=g:=⟨_,rfl⟩
 have hg0:0<g:=by rw[<-hg];exact Nat.gcd_pos_of_pos_right _ hd0
 have hgn:g∣n:=by rw[<-hg];exact Nat.gcd_dvd_left ..
 have hgd:g∣d:=by rw[<-hg];exact Nat.gcd_dvd_right ..
 have hgle:g<=d:=Nat.le_of_dvd hd0 hgd
 rw[hn] at hz
 have hnq:n/g<=n:=Nat.div_le_self ..
 have hdq:d/g<=d:=Nat.div_le_self ..
 have hnl:(decDigits (n/g)).length<=19:=Cp 19 _ (by decide) (by omega)
 have hdl:(decDigits (d/g)).length<=19:=Cp 19 _ (by decide) (by omega)
 obtain⟨s,hs⟩: ∃s:List UInt8,s=if z<0 then[45] else[]:=⟨_,rfl⟩
 have hsl:s.length<=1:=by rw[hs];split<;>decide
 have hq:itoa (z/(g:Int))=s++decDigits (n/g):=by rw[hs, <-hn];exact Wp hg0 (by rw[hn];exact hgn)
 refine Ab Tryz.func225 I I I (zA (zB (wP I (Aa (zE (zA (zB (wP I (Aa (zE (zA (zA (zB (wP I (wP I (Aa (A6 ?_)))))))))))))))))
 try refine Av ?_
 refine AA (X:=Unit) (fun _=>[(0, .int .i64 (n:Nat)),(1, .int .i64 (d:Nat)),(5,str s)]) (fun _=>[]) (fun _=>True) ?_ ?_
 ·refine Ah I (fun h=> ?_) (fun h=> ?_)
  ·have h:z<0:=by simpa using h
   exact zB (wP I (wP I (wV 10 (n:Nat) I (show w64 (0-z)=_ by rw[Ak (by omega) (by omega)];omega) (wP I (wP I (Aa (An () tO ⟨I,I,by rw[hs,if_pos h];rfl,tO⟩ [] I)))))))
  ·have h: ¬z<0:=by simpa using h
   exact zI (An () tO ⟨congrArg (fun z=>some (Value.int .i64 z)) (by omega),I,by rw[hs,if_neg h];rfl,tO⟩ [] I)
 intro _ _
 refine zA (zB (wP I (wP I (wC I I (fun W hp=>(Ly n d hz hd W).cast (v':= .int .i64 (g:Nat)) (by rw[hg])) (wP I (Aa (zE (zA (zB (wP I (wP I (wP I (Ep I I I I I (by omega) ?_)))))))))))))
 refine wV 17 ((n/g:Nat):Int) I (by rw[DC];exact BE (by omega)) (wC I I (fun W hp=>HV (n/g) (by omega) W) (Cm I I I I I (a:=s) (b:=decDigits (n/g)) (by omega) (by omega) ?_))
 refine Al 19 (str (itoa (z/(g:Int)))) I (by rw[hq]) (wP I (Aa (zE (zA (zA (zB (wP I (wP I (Ep I I I I I (by omega) ?_)))))))))
 refine wV 22 ((d/g:Nat):Int) I (by rw[DC];exact BE (by omega)) (wP I ?_)
 have hql:(itoa (z/(g:Int))).length<=20:=by rw[hq,List.length_append];omega
 by_cases h1:d/g=1
 ·exact wU 23 true I (by rw[beq_iff_eq];omega) (Aa (zE (zR I (zA (zB (wP I (wP I (Aa (zE (zO (zP (wR1 I I (by rw[HG (by omega) (by rw[hn,hg];exact h1),hn,hg])))))))))))))
 ·refine wU 23 false I (by rw[beq_eq_false_iff_ne];omega) (Aa (zE (zS I (zI (zE (zA (zB (wP I (Cm I I I I I (a:=itoa (z/(g:Int))) (b:=[47]) (by omega) (by decide) ?_)))))))))
  refine wP I (wP I (Ep I I I I I (by omega) ?_))
  refine wV 29 ((d/g:Nat):Int) I (by rw[DC];exact BE (by omega)) (wC I I (fun W hp=>HV (d/g) (by omega) W) ?_)
  refine Cm I I I I I (by rw[List.length_append];show _+1<=_;omega) (by omega) ?_
  exact wP I (Aa (zE (zO (wR1 I I (by rw[Kl (by omega) (by rw[hn,hg];exact h1),hn,hg,BQ])))))
theorem Vc (z:Int) (hz:z.natAbs<4611686018427387904):AX Tryz.prog 157 [.int .i64 z, .int .i64 1] (.tuple #[str (Ac (z:Rat)), .int .i64 0]):=by
 intro W
 refine Ab Tryz.func157 I I I (zA (zB (wP I (wP I (Aa (zE (zA (zA (zB (wP I (wP I (Aa (zE (zS I (zI (zE (zA (zA (zB (wP I (wP I (wU 9 true I (by show decide (z> -4611686018427387904)=true;rw[decide_eq_true_iff];omega) (wP I (wP I (wP I ?_)))))))))))))))))))))))))
 refine wU 12 true I (by show decide (z<4611686018427387904)=true;rw[decide_eq_true_iff];omega) ?_
 iterate 9 refine wP I ?_
 exact Aa (zE (zR I (zA (zB (wP I (wP I (wC I I (fun W hp=>(Fu z 1 (by omega) (by decide) (by decide) W).cast (v':=str (Ac (z:Rat))) (by rw[<-Xs];rfl)) (wP I (wP I (Aa (zE (zO (zP (wR2 I I I))))))))))))))
theorem Oq (s a b:Int) (x:List UInt8) (h e:Rat) (ha:1<=a/\a<=48) (hb:1<=b/\b<=48) (zh:szQ h 12) (ze:szQ e 12) (W:World) (hv:AE W) (ht:A7 W):
  Ad Tryz.prog 54 #[dmS s x (Ac h) (Ac e) a b] W (fun _:Unit=> .tuple #[str (Ac (e+h*nrm a b)), .int .i64 0]) (fun _=>True) (fun _=>[]):=by
 have z1:=F8 ha hb
 have z2:=zh.mul z1
 refine Ab (args:=[dmS s x (Ac h) (Ac e) a b]) Tryz.func54 I I I (zA (zB (wF I I fun _=>(wP I (wP I (Aa (zE (zA (zB (wP I (wB 0 I I I (wP I (wB 0 I I I (wC I I (fun W hp=>(EF a b (by omega) (by omega) W (ht.hp hp)).cast (by rw[ofR,if_neg (by omega)])) (wP I (wP I (wP I (wP I (wP I (Aa (zE (zA (zA ?_)))))))))))))))))))))))
 refine zB (wP I (wP I (Aa (zE (zS I (zI (zE (zA (zB (wP I (wB 0 I I I (wP I (wC I I (fun W hp=>Cq h (nrm a b) (sz2 zh z1 (by decide)) W (hv.hp hp) (ht.hp hp)) (wP I (wP I (wP I (wP I (wP I (Aa (zE (zA (zA (zB ?_)))))))))))))))))))))))
 exact wP I (wP I (Aa (zE (zS I (zI (zE (zA (zB (wP I (wB 0 I I I (wP I (wC I I (fun W hp=>Ca e (h*nrm a b) (sz2 ze z2 (by decide)) W (hv.hp hp) (ht.hp hp)) (wP I (wP I (wP I (wP I (Aa (zE (zO (wR2 I I I))))))))))))))))))))
theorem Qq (f:FrP) (z:Rat) (zs:szQ f.sp 2) (zt:szQ f.st 5) (zz:szQ z 27) (W:World) (hv:AE W) (ht:A7 W):
  Ad Tryz.prog 81 #[frV f,str (Ac z)] W (fun _:Unit=> .tuple #[str (Ac ((z-f.st)*f.sp)), .int .i64 0]) (fun _=>True) (fun _=>[]):=by
 have z2:=zz.sub zt
 refine Ab (args:=[frV f,str (Ac z)]) Tryz.func81 I I I (zA (zB (wF I I fun _=>(wP I (wP I (Aa (zE (zA (zB (wP I (wP I (wB 0 I I I (wC I I (fun W hp=>BM z f.st (sz2 zz zt (by decide)) W (hv.hp hp) (ht.hp hp)) (wP I (wP I (wP I (wP I (wP I (Aa (zE (zA (zA (zB ?_)))))))))))))))))))))))
 exact wP I (wP I (Aa (zE (zS I (zI (zE (zA (zB (wP I (wP I (wB 0 I I I (wC I I (fun W hp=>Cq (z-f.st) f.sp (sz2 z2 zs (by decide)) W (hv.hp hp) (ht.hp hp)) (wP I (wP I (wP I (wP I (Aa (zE (zO (wR2 I I I))))))))))))))))))))
theorem MY (s a b:Int) (e:List UInt8) (x h:Rat) (zx:szQ x 12) (zh:szQ h 12) (W:World) (hv:AE W) (ht:A7 W):
  Ad Tryz.prog 52 #[dmS s (Ac x) (Ac h) e a b] W (fun _:Unit=> .tuple #[str (Ac (x-h)),str (Ac (x+h)), .int .i64 0]) (fun _=>True) (fun _=>[]):=by
 have z1:=sz2 zx zh (by decide)
 refine Ab (args:=[dmS s (Ac x) (Ac h) e a b]) Tryz.func52 I I I (zA (zB (wF I I fun _=>(wP I (wP I (wP I (Aa (zE (zA (zB (wP I (wB 0 I I I (wP I (wB 0 I I I (wC I I (fun W hp=>BM x h z1 W (hv.hp hp) (ht.hp hp)) (wP I (wP I (wP I (wP I (wP I (Aa (zE (zA (zA ?_))))))))))))))))))))))))
 refine zB (wP I (wP I (Aa (zE (zS I (zI (zE (zA (zB (wP I (wB 0 I I I (wP I (wB 0 I I I (wC I I (fun W hp=>Ca x h z1 W (hv.hp hp) (ht.hp hp)) (wP I (wP I (wP I (wP I (wP I (Aa (zE (zA (zB ?_)))))))))))))))))))))))
 exact wP I (wP I (wP I (wP I (wP I (wP I (Aa (zE (zO (wR3 I I I)))))))))
structure DmX (rs:List (List Sd)) (s:Int) (x h e:List UInt8) (a b:Int) (f:FrP) (x' h' e':Rat):Prop where
 s0:0<=s
 s1:s<tot rs
 hf:f=frs rs s.toNat
 hx:x=Ac x'
 hh:h=Ac h'
 he:e=Ac e'
 zx:szQ x' 12
 zh:szQ h' 12
 ze:szQ e' 12
 go:f.Go
 h0:0<h'
 e0:f.st<=e'
 ha:1<=a/\a<=48
 hb:1<=b/\b<=48
 v:boV rs s x h e a b=frV f
theorem ZX {rs:List (List Sd)} {s a b:Int} {x h e:List UInt8} (hx:x.length<=8) (hh:h.length<=8) (he:e.length<=8):boE rs s x h e a b=bsE rs s x h e a b:=by
 have hN:nrs [x,h,e]=ner [x,h,e]:=by
  unfold nrs
  by_cases h1:ner [x,h,e]=0
  ·rw[if_neg (fun h=>h h1)]
   have hb:([x,h,e]:List (List UInt8)).any HO=false:=by
    rw[List.any_eq_false]
    intro y hy
    obtain⟨q,_,rfl⟩:=DF (FU h1 y hy)
    have hl:(Ac q).length<=8:=by
     simp only[List.mem_cons,List.not_mem_nil,or_false] at hy
     rcases hy with hy|hy|hy<;>rw[hy]<;>assumption
    unfold HO
    rw[DH,S1 ((DL hl (by decide)).mono (by decide))]
    decide
   rw[hb,h1];rfl
  ·rw[if_pos h1]
 unfold boE bsE
 rw[hN]
theorem Up (rs:List (List Sd)) (s a b:Int) (x h e:List UInt8): ∃f:Value,boV rs s x h e a b=f/\ ∃c1 c2 c3 c4 c5,f= .agg #[.bool c1, .int .i64 c2, .int .i64 c3,str c4,str c5]:=by
 unfold boV
 split
 ·exact⟨_,I,_,_,_,_,_,I⟩
 ·exact⟨_,I,_,_,_,_,_,I⟩
theorem WW (w:Rat): ∃c,(Ac w)[0]? =some c/\decide (c=45)=decide (w<0):=by
 have hpre:=(Qa (z:=w.num) w.den_pos).1
 rw[Bf] at hpre
 obtain⟨c,hc⟩: ∃c,(Ac w)[0]? =some c:=by
  cases e:Ac w with
  |nil=>
   have:=congrArg List.length e
   unfold Ac Gt at this
   have h2:itoa w.num≠[]:=by unfold itoa;split;simp;exact FT _
   split at this
   ·exact absurd (List.length_eq_zero_iff.1 this) h2
   ·rw[List.length_append] at this;simp at this
  |cons c t=>exact⟨c,rfl⟩
 refine⟨c,hc, ?_⟩
 have h1:0<=w.num↔0<=w:=Rat.num_nonneg
 have h2:decide (c=45)=decide (w.num<0):=by
  rw[<-hpre]
  show _=decide ((Ac w)[0]? =some 45)
  exact decide_eq_decide.2 (by rw[hc];simp)
 rw[h2]
 refine decide_eq_decide.2 ?_
 rw[<-Rat.not_le, <-h1]
 omega
def Vq (f:FrP) (e q:Rat):Rat:=e-(f.st+q/f.sp)
theorem MU (W:World) (p:Option Addr) (cap:Nat) (rs:List (List Sd)) (hn:rs.length<4611686018427387904) (hR:Bd W p rs) (hc:chk rs=0) (hd:Fk W) (hv:AE W) (ht:A7 W)
  (s a b:Int) (x h e y:List UInt8) (hx:x.length<=4000000) (hh:h.length<=4000000) (he:e.length<=4000000) (hy:y.length<=4000000) (hE:bmE rs s x h e a b [y]≠0):
  Ad Tryz.prog 24 #[BW p rs.length cap,dmS s x h e a b,str y] W (fun _:Unit=> .tuple #[str [], .int .i64 (bmE rs s x h e a b [y])]) (fun _=>True) (fun _=>[]):=by
 obtain⟨fv,hV,c1,c2,c3,c4,c5,rfl⟩:=Up rs s a b x h e
 refine Ab (args:=[BW p rs.length cap,dmS s x h e a b,str y]) Tryz.func24 I I I (zA (zB (wF I I fun _=>(wF I I fun _=>(wP I (wP I (Aa (zE (zA (zB (wB 0 I I I (wB 1 I I I (wP I (Ao Tryz.hZ tH I I I I I I I I I I I fun bS=> ?_))))))))))))))
 refine wC I I (fun W1 hp=>(Fm W1 p cap rs hn (hR.hp hp) hc (hd.hp hp) (hv.hp hp) (ht.hp hp) s a b x h e hx hh he [y] (some ⟨bS,0,none⟩) 1 (.inr ⟨bS,0,I,Ai.of_bx hp 2 I I⟩) (by show 1<=100000;decide) (fun z hz=>by rw[List.mem_singleton.1 hz];exact hy)).cast (by rw[hV])) (wP I (wP I (wP I (wG I I fun _=>(wS 3 I I I (wP I (Aa (zE (zA (zA (zB (wP I (wP I (wU 22 true I (bne_iff_ne.2 hE) (Aa (zE (zR I (zA (zB (wP I (wP I (wP I (Aa ?_)))))))))))))))))))))))
 exact zE (zO (zP (wR2 I I I)))
theorem MZ (W:World) (p:Option Addr) (cap:Nat) (rs:List (List Sd)) (hn:rs.length<4611686018427387904) (hR:Bd W p rs) (hc:chk rs=0) (hd:Fk W) (hv:AE W) (ht:A7 W)
  (s a b:Int) (x h e:List UInt8) (hx:x.length<=4000000) (hh:h.length<=4000000) (he:e.length<=4000000) (q:Rat) (zq:szQ q 12) (hy:(Ac q).length<=4000000) (hE:bmE rs s x h e a b [Ac q]=0) (f:FrP) (x' h' e':Rat) (ho:DmX rs s x h e a b f x' h' e'):
  Ad Tryz.prog 24 #[BW p rs.length cap,dmS s x h e a b,str (Ac q)] W (fun _:Unit=>if Vq f e' q<0 then .tuple #[str [], .int .i64 2] else .tuple #[str (Ac (Vq f e' q)), .int .i64 0]) (fun _=>True) (fun _=>[]):=by
 have hV:=ho.v
 obtain⟨_,_,_,rfl,rfl,rfl,zx,zh,ze,hgo,_,_,ha,hb,_⟩:=ho
 have z1:szQ (q/f.sp) 14:=zq.div hgo.sp (NQ hgo.h0)
 have z2:=hgo.st.add z1
 refine Ab (args:=[BW p rs.length cap,dmS s (Ac x') (Ac h') (Ac e') a b,str (Ac q)]) Tryz.func24 I I I (zA (zB (wF I I fun _=>(wF I I fun _=>(wP I (wP I (Aa (zE (zA (zB (wB 0 I I I (wB 1 I I I (wP I (Ao Tryz.hZ tH I I I I I I I I I I I fun bS=> ?_))))))))))))))
 refine wC I I (fun W1 hp=>(Fm W1 p cap rs hn (hR.hp hp) hc (hd.hp hp) (hv.hp hp) (ht.hp hp) s a b (Ac x') (Ac h') (Ac e') hx hh he [Ac q] (some ⟨bS,0,none⟩) 1 (.inr ⟨bS,0,I,Ai.of_bx hp 2 I I⟩) (by show 1<=100000;decide) (fun z hz=>by rw[List.mem_singleton.1 hz];exact hy)).cast (v':= .tuple #[frV f, .int .i64 0]) (by rw[hV,hE])) (wP I (wP I (wP I (wG I I fun _=>(wS 3 I I I (wP I (Aa (zE (zA (zA (zB (wP I (wP I (Aa (zE (zS I (zI (zE (zA (zB (wP I (wP I (wB 3 I I I ?_)))))))))))))))))))))))
 refine wC I I (fun W1 hp=>(Hn q f.sp (sz2 zq hgo.sp (by decide)) W1 (hv.hp hp) (ht.hp hp)).cast (v':= .tuple #[str (Ac (q/f.sp)), .int .i64 0]) (by rw[KE,if_neg (NQ hgo.h0)])) (wP I (wP I (wP I (wP I (wP I (Aa (zE (zA (zA (zB (wP I (wP I (Aa (zE (zS I (zI (zE (zA (zB (wP I (wB 3 I I I (wP I (wC I I (fun W1 hp=>Ca f.st (q/f.sp) (sz2 hgo.st z1 (by decide)) W1 (hv.hp hp) (ht.hp hp)) ?_)))))))))))))))))))))))
 refine wP I (wP I (wP I (wP I (wP I (Aa (zE (zA (zA (zB (wP I (wP I (Aa (zE (zS I (zI (zE (zA (zB (wP I (wB 1 I I I (wP I (wC I I (fun W1 hp=>BM e' (f.st+q/f.sp) (sz2 ze z2 (by decide)) W1 (hv.hp hp) (ht.hp hp)) (wP I (wP I (wP I (wP I (wP I ?_)))))))))))))))))))))))))))
 refine Aa (zE (zA (zA (zB (wP I (wP I (Aa (zE (zS I (zI (zE (zA (zA (zB ?_))))))))))))))
 obtain⟨w,hw⟩: ∃w,w=Vq f e' q:=⟨_,rfl⟩
 obtain⟨c,hc,hc45⟩:=WW w
 have hw':e'-(f.st+q/f.sp)=w:=hw.symm
 rw[<-hw,hw']
 refine wP I (AZ 0 tH I I I I I I I I hc (wP I (wU 56 (decide (w<0)) I ((Em c 45).trans hc45) (Aa (zE (Ah I (fun hneg=> ?_) (fun hneg=> ?_)))))))
 ·have hneg:w<0:=of_decide_eq_true hneg
  exact zA (zB (wP I (wP I (Aa (zE (zO (zP (wR2 I I (by rw[if_pos hneg])))))))))
 ·have hneg: ¬w<0:=of_decide_eq_false hneg
  exact zI (zE (zA (zB (wP I (wP I (wP I (Aa (zE (zO (wR2 I I (by rw[if_neg hneg])))))))))))
def cR (s:Int) (l r lo hi:Rat):Value:=GC s (Ac l) (Ac r) (Ac lo) (Ac hi)
abbrev opZ:Value:=GC 0 [] [] [] []
theorem HH (W:World) (p:Option Addr) (cap:Nat) (rs:List (List Sd)) (hn:rs.length<4611686018427387904) (hR:Bd W p rs) (hc:chk rs=0) (hd:Fk W) (hv:AE W) (ht:A7 W)
  (s a b:Int) (x h e y:List UInt8) (hx:x.length<=4000000) (hh:h.length<=4000000) (he:e.length<=4000000) (hy:y.length<=4000000) (hE:bmE rs s x h e a b [y]≠0):
  Ad Tryz.prog 25 #[BW p rs.length cap,dmS s x h e a b,str y] W (fun _:Unit=> .tuple #[opZ, .int .i64 (bmE rs s x h e a b [y])]) (fun _=>True) (fun _=>[]):=by
 obtain⟨fv,hV,c1,c2,c3,c4,c5,rfl⟩:=Up rs s a b x h e
 refine Ab (args:=[BW p rs.length cap,dmS s x h e a b,str y]) Tryz.func25 I I I (zA (zB (wF I I fun _=>(wF I I fun _=>(wG I I fun _=>(wP I (Aa (zE (zA (zB (wB 0 I I I (wB 1 I I I (wP I (Ao Tryz.hZ tH I I I I I I I I I I I fun bS=> ?_))))))))))))))
 refine wC I I (fun W1 hp=>(Fm W1 p cap rs hn (hR.hp hp) hc (hd.hp hp) (hv.hp hp) (ht.hp hp) s a b x h e hx hh he [y] (some ⟨bS,0,none⟩) 1 (.inr ⟨bS,0,I,Ai.of_bx hp 3 I I⟩) (by show 1<=100000;decide) (fun z hz=>by rw[List.mem_singleton.1 hz];exact hy)).cast (by rw[hV])) (wP I (wP I (wP I (wG I I fun _=>(wS 4 I I I (wP I (Aa (zE (zA (zA (zB (wP I (wP I (wU 23 true I (bne_iff_ne.2 hE) (Aa (zE (zR I (zA (zB (Ap Tryz.hZ tH I I I I I I I I ?_))))))))))))))))))))
 exact wP I (wS 2 I I I (wP I (Aa (zE (zO (zP (A0 tH I (.cell 2 I I I I I) (.tmp I) () I tO fun W _=>As.nil _ _)))))))
theorem Iv (W:World) (p:Option Addr) (cap:Nat) (rs:List (List Sd)) (hn:rs.length<4611686018427387904) (hR:Bd W p rs) (hc:chk rs=0) (hd:Fk W) (hv:AE W) (ht:A7 W)
  (s a b:Int) (x h e:List UInt8) (hx:x.length<=4000000) (hh:h.length<=4000000) (he:e.length<=4000000) (q:Rat) (zq:szQ q 12) (hy:(Ac q).length<=4000000) (hE:bmE rs s x h e a b [Ac q]=0) (f:FrP) (x' h' e':Rat) (ho:DmX rs s x h e a b f x' h' e'):
  Ad Tryz.prog 25 #[BW p rs.length cap,dmS s x h e a b,str (Ac q)] W (fun _:Unit=>if (Mx h' e' a b-f.st)*f.sp<=q then .tuple #[opZ, .int .i64 10] else .tuple #[cR s (x'-h') (x'+h') q ((Mx h' e' a b-f.st)*f.sp), .int .i64 0]) (fun _=>True) (fun _=>[]):=by
 have hV:=ho.v
 obtain⟨_,_,_,rfl,rfl,rfl,zx,zh,ze,hgo,_,_,ha,hb,_⟩:=ho
 obtain⟨z,hz⟩: ∃z,z=Mx h' e' a b:=⟨_,rfl⟩
 have zz:szQ z 27:=by rw[hz];exact ze.add (zh.mul (F8 ha hb))
 have zd:=(zz.sub hgo.st).mul hgo.sp
 rw[<-hz]
 obtain⟨d,hdd⟩: ∃d,d=(z-f.st)*f.sp:=⟨_,rfl⟩
 rw[<-hdd] at zd⊢
 refine Ab (args:=[BW p rs.length cap,dmS s (Ac x') (Ac h') (Ac e') a b,str (Ac q)]) Tryz.func25 I I I (zA (zB (wF I I fun _=>(wF I I fun _=>(wG I I fun _=>(wP I (Aa (zE (zA (zB (wB 0 I I I (wB 1 I I I (wP I (Ao Tryz.hZ tH I I I I I I I I I I I fun bS=> ?_))))))))))))))
 refine wC I I (fun W1 hp=>(Fm W1 p cap rs hn (hR.hp hp) hc (hd.hp hp) (hv.hp hp) (ht.hp hp) s a b (Ac x') (Ac h') (Ac e') hx hh he [Ac q] (some ⟨bS,0,none⟩) 1 (.inr ⟨bS,0,I,Ai.of_bx hp 3 I I⟩) (by show 1<=100000;decide) (fun z hz=>by rw[List.mem_singleton.1 hz];exact hy)).cast (v':= .tuple #[frV f, .int .i64 0]) (by rw[hV,hE])) (wP I (wP I (wP I (wG I I fun _=>(wS 4 I I I (wP I (Aa (zE (zA (zA (zB (wP I (wP I (Aa (zE (zS I (zI (zE (zA (zB (wB 1 I I I (wC I I (fun W1 hp=>(Oq s a b (Ac x') h' e' ha hb zh ze W1 (hv.hp hp) (ht.hp hp)).cast (v':= .tuple #[str (Ac z), .int .i64 0]) (by rw[hz];rfl)) (wP I (wP I (wP I (wP I (wP I ?_)))))))))))))))))))))))))))
 refine Aa (zE (zA (zA (zB (wP I (wP I (Aa (zE (zS I (zI (zE (zA (zB (wB 4 I I I (wP I (wC I I (fun W1 hp=>(Qq f z hgo.sp hgo.st zz W1 (hv.hp hp) (ht.hp hp)).cast (v':= .tuple #[str (Ac d), .int .i64 0]) (by rw[hdd])) (wP I (wP I (wP I (wP I (wP I (Aa (zE ?_)))))))))))))))))))))))
 refine zA (zA (zB (wP I (wP I (Aa (zE (zS I (zI (zE (zA (zB (wB 1 I I I (wC I I (fun W1 hp=>MY s a b (Ac e') x' h' zx zh W1 (hv.hp hp) (ht.hp hp)) (wP I (wP I (wP I (wP I (wP I (wP I (wP I (Aa (zE (zA (zA ?_))))))))))))))))))))))))
 refine zB (wP I (wP I (Aa (zE (zS I (zI (zE (zA (zA (zB (wP I (wP I (wC I I (fun W1 hp=>BF q d (sz2 zq zd (by decide)) W1 (hv.hp hp) (ht.hp hp)) (wP I (wU 58 (decide (d<=q)) I (NU _ _) (Aa (zE (Ah I (fun hle=> ?_) (fun hle=> ?_)))))))))))))))))))
 ·have hle:d<=q:=of_decide_eq_true hle
  refine zA (zB (Ap Tryz.hZ tH I I I I I I I I ?_))
  exact wS 2 I I I (wP I (Aa (zE (zO (zP (A0 tH I (.cell 2 I I I I I) (.tmp I) () (by rw[if_pos hle];rfl) tO fun W _=>As.nil _ _))))))
 ·have hle: ¬d<=q:=of_decide_eq_false hle
  refine zI (zE (zA (zB (wP I (wB 1 I I I (wP I (wP I (wP I (wP I (Ap Tryz.hZ tH I I I I I I I I ?_))))))))))
  exact wS 2 I I I (wP I (Aa (zE (zO (A0 tH I (.cell 2 I I I I I) (.tmp I) () (by rw[if_neg hle];rfl) tO fun W _=>As.nil _ _)))))
def sqS (x y:Int):Sd:=⟨x,y,1,1,false,0,0⟩
def sqL:List Sd:=[sqS 0 0,sqS 10 0,sqS 10 10,sqS 0 10]
def stL:List Value:=[.int .i64 0,str (Ac 0),str (Ac 5),str (Ac 0),str (Ac 10),str (Ac 5),str (Ac 5)]
abbrev Gm (r t:Nat):Value:= .agg #[slv (some ⟨r,0,none⟩) 1 1,slv (some ⟨t,0,none⟩) 1 1, .slice none 0 0, .slice none 0 0]
theorem Gq (x y:Int) (W:World):Ad Tryz.prog 99 #[.int .i64 x, .int .i64 y] W (fun _:Unit=>(sqS x y).val) (fun _=>True) (fun _=>[]):=by
 refine Ab (args:=[.int .i64 x, .int .i64 y]) Tryz.func99 I I I (zA (zB (wG I I fun _=>(Aa (zE (zA (zB (wP I (wP I (Ap Tryz.hZ tH I I I I I I I I ?_))))))))))
 exact wS 0 I I I (Aa (zE (zO (Ax tH I (.cell 0 I I I I I) () I tO fun W _=>As.nil _ _))))
theorem aM:stL=[.int .i64 0,str [48],str [53],str [48],str [49,48],str [53],str [53]]:=by
 have h0:Ac 0=[48]:=by decide+kernel
 have h5:Ac 5=[53]:=by decide+kernel
 have h10:Ac 10=[49,48]:=by decide+kernel
 unfold stL
 rw[h0,h5,h10]
theorem F0 (W:World):Ad Tryz.prog 37 #[] W (fun x:Nat×Nat×Nat=>Gm x.2.1 x.2.2) (fun _=>True)
  (fun x=>[⟨x.1,97,cellsOf sqL,true,none⟩,⟨x.2.1,94,[slv (some ⟨x.1,0,none⟩) 4 4],true,none⟩,⟨x.2.2,145,stL,true,none⟩]):=by
 refine Ab (args:=[]) Tryz.func37 I I I (zA (zB (wG I I fun _=>(Aa (zE (zA (zB (wP I (Aa (zE (zA (zB (wP I (Bp (capt:=[]) I I I I I I (by kernel_rfl) (fun W _=>Gq 0 0 W) (wP I (Bp (capt:=[]) I I I I I I (by kernel_rfl) (fun W _=>Gq 10 0 W) (wP I (Bp (capt:=[]) I I I I I I (by kernel_rfl) (fun W _=>Gq 10 10 W) (wP I (Bp (capt:=[]) I I I I I I (by kernel_rfl) (fun W _=>Gq 0 10 W) (Ao Tryz.hZ tH I I I I I I I I I I I fun bS=> ?_)))))))))))))))))))))
 refine Ao Tryz.hZ tH I I I I I I I I I I I fun bR=> ?_
 iterate 2 refine Ap Tryz.hZ tH I I I I I I I I ?_
 refine Ao Tryz.hZ tH I I I I I I I I I I I fun bT=> ?_
 refine Ap Tryz.hZ tH I I I I I I I I ?_
 refine wS 0 I I I (Aa (zE (zO (Ax tH I (.cell 0 I I I I I) (bS,bR,bT) I tO fun W1 hp=> ?_))))
 exact As.of_hp (hp.pick (l:=[⟨bS,97,cellsOf sqL,true,none⟩,⟨bR,94,[slv (some ⟨bS,0,none⟩) 4 4],true,none⟩,⟨bT,145,stL,true,none⟩]) [1,2,3] (by decide) (by rw[aM];rfl))
theorem Dy {W0 W:World} {bxs:List Bx} (hp:Hp W0 bxs W) (i k:Nat) {bS bR:Nat} (h1:nth bxs i=some ⟨bS,97,cellsOf sqL,true,none⟩) (h2:nth bxs k=some ⟨bR,94,[slv (some ⟨bS,0,none⟩) 4 4],true,none⟩):
  Bd W (some ⟨bR,0,none⟩) [sqL]:=by
 have r1:=Ai.of_bx hp i h1 rfl
 have r2:=Ai.of_bx hp k h2 rfl
 refine .inr ⟨bR,0,I,⟨fun j l hl=> ?_⟩⟩
 have hj:j=0:=by have:=(List.getElem?_eq_some_iff.1 hl).1;simpa using this
 subst hj
 obtain rfl:sqL=l:=by simpa using hl
 exact⟨some ⟨bS,0,none⟩,4,r2, .inr ⟨bS,0,I,G4.of_cells r1.lt fun j u hj=>r1.get j u hj⟩⟩
theorem Jo:chk [sqL]=0:=by decide+kernel
theorem Dc (p q:Rat) (h:Sz2 p q) (W:World) (hv:AE W) (ht:A7 W):
  Ad Tryz.prog 238 #[str (Ac p),str (Ac q)] W (fun _:Unit=> .int .i64 (CU p q)) (fun _=>True) (fun _=>[]):=by
 refine Ab (args:=[str (Ac p),str (Ac q)]) Tryz.func238 I I I (zA (zB (wP I (Aa (zE (zA (zA (zB (wP I (wP I ?_))))))))))
 by_cases e:p=q
 ·subst e
  exact wP I (wU 9 true I (ZU _ _ I) (Aa (zE (zR I (zA (zB (wP I (Aa (zE (zO (zP (wR1 I I (by rw[show CU p p=0 by unfold CU;rw[if_neg (Rat.lt_irrefl),if_pos I]])))))))))))))
 refine wP I (wU 9 false I ((AS _ _).trans (dF fun h=>e (JJ.1 h))) (Aa (zE (zS I (zI (zE (zA (zB (wP I (wP I (wC I I (fun W hp=>(E6 p q h W (hv.hp hp) (ht.hp hp)).cast (by rw[Mp])) (wP I (wP I (wP I (wP I (wP I (Aa (zE (zA (zB (wP I (wP I (Aa ?_)))))))))))))))))))))))
 exact zE (zO (wR1 I I I))
theorem PE (q:Rat) (h:szQ q 36) (W:World) (hv:AE W) (ht:A7 W):
  Ad Tryz.prog 336 #[str (Ac q)] W (fun _:Unit=> .bool false) (fun _=>True) (fun _=>[]):=by
 have hk:=h.ok (by decide)
 have l1:=Cp 36 q.num.natAbs (by decide) h.1
 have l2:=Cp 36 q.den (by decide) h.2
 refine Ab (args:=[str (Ac q)]) Tryz.func336 I I I (zA (zB (wP I (Aa (zE (zA (zB (wP I (wC I I (fun W hp=>Et q hk W (hv.hp hp) (ht.hp hp)) (wP I (wP I (wP I (wP I (wP I (wP I (wP I (Aa (zE (zA (zB (wP I (wC I I (fun W _=>(BA (itoa q.num) [45] W).cast (by rw[AV])) (wP I ?_)))))))))))))))))))))))
 refine Al 14 (.int .i64 ((decDigits q.num.natAbs).length:Nat)) I (congrArg (fun n:Nat=>Value.int .i64 (n:Int)) (A3 _)) (wP I (wP I (Al 16 (.int .i64 ((decDigits q.den).length:Nat)) I (congrArg (fun n:Nat=>Value.int .i64 (n:Int)) ((A3 _).trans (by rw[Fh]))) (wP I (wP I ?_)))))
 refine Al 18 (.bool false) I (congrArg Value.bool (dF (by
  show¬((if _>_ then _ else _)>_)
  split<;>omega))) ?_
 exact wP I (Aa (zE (zO (wR1 I I I))))
theorem NX (q:Rat) (h:szQ q 36) (W:World) (hv:AE W) (ht:A7 W):
  Ad Tryz.prog 290 #[str (Ac q)] W (fun _:Unit=> .int .i64 0) (fun _=>True) (fun _=>[]):=by
 have hk:=h.ok (by decide)
 have hl:=AP hk
 refine Ab (args:=[str (Ac q)]) Tryz.func290 I I I (zA (zB (wP I (Aa (zE (zA (zA (zB (wP I (wC I I (fun W hp=>(Bz (Ac q) (by omega) W (hv.hp hp) (ht.hp hp)).cast (by rw[CV hk])) (wP I (Aa (zE (zA (zB (wP I (wP I (Aa (zE (zS I (zI (zE (zA (zA ?_))))))))))))))))))))))))
 exact zB (wP I (wC I I (fun W hp=>PE q h W (hv.hp hp) (ht.hp hp)) (Aa (zE (zS I (zI (zE (zA (zB (wP I (Aa (zE (zO (wR1 I I I))))))))))))))
structure StR where
 z0:Rat
 z1:Rat
 a:Rat
 b:Rat
 c:Rat
 d:Rat
abbrev StR.nums (S:StR):List Rat:=[S.z0,S.z1,S.a,S.b,S.c,S.d]
abbrev stV (s:Int) (S:StR):Value:= .agg #[.int .i64 s,str (Ac S.z0),str (Ac S.z1),str (Ac S.a),str (Ac S.b),str (Ac S.c),str (Ac S.d)]
structure StR.OK (S:StR):Prop where
 z: ∀q∈S.nums,szQ q 8
 h1:S.z0<S.z1
 h2:S.a<S.b
 h3:S.c<=S.d
theorem OC (s:Int) (S:StR) (h:S.OK) (W:World) (hv:AE W) (ht:A7 W):
  Ad Tryz.prog 237 #[stV s S] W (fun _:Unit=> .bool true) (fun _=>True) (fun _=>[]):=by
 obtain⟨hz,h1,h2,h3⟩:=h
 have z0:=hz S.z0 (by simp)
 have z1:=hz S.z1 (by simp)
 have za:=hz S.a (by simp)
 have zb:=hz S.b (by simp)
 have zc:=hz S.c (by simp)
 have zd:=hz S.d (by simp)
 refine Ab (args:=[stV s S]) Tryz.func237 I I I (zA (zB (wF I I fun _=>(wP I (Aa ?_)))))
 rename_i b1
 refine zE (zA (zA (zB (wP I (wB 0 I I I (wP I (wB 0 I I I (wP I (wB 0 I I I (wP I (wB 0 I I I (wP I (wB 0 I I I (wP I (wB 0 I I I (Ao Tryz.hZ tH I I I I I I I I I I I fun bS=> ?_))))))))))))))))
 refine wP I (wP I (Aa (zE (zH (Ar (X:=Nat) (fun i=>[(1,Af b1),(2, .bool false),(17, .slice (some ⟨bS,0,none⟩) 6 6),(18, .int .i64 6),(19, .int .i64 (i:Nat))]) (fun _=>[⟨b1,145,(stV s S).cells.toList,true,none⟩,⟨bS,25,S.nums.map fun q=>str (Ac q),true,none⟩]) (fun i=>i<=6) (fun i=>6-i) 0 (Nat.zero_le _) ⟨I,I,I,I,I,tO⟩ [] I ?_)))))
 intro i hi
 have hi:i<=6:=hi
 refine zA (zB (wP I ?_))
 by_cases hlt:i<6
 ·refine wU 20 true I (dT (by omega)) (Aa (zE (zA (zR I (zI (zE (zA (zH (zA (zB ?_))))))))))
  have hl:i<S.nums.length:=hlt
  have hq:=hz S.nums[i] (List.getElem_mem hl)
  obtain⟨q,hqe⟩: ∃q,q=S.nums[i]:=⟨_,rfl⟩
  rw[<-hqe] at hq
  have hrow: ∀ {W0 W:World} {bxs:List Bx},Hp W0 bxs W->nth bxs 1=some ⟨bS,25,S.nums.map fun q=>str (Ac q),true,none⟩->Ai W bS (0+i*1) [str (Ac q)]:=fun hp h1=>by
   have r:=Ai.of_bx hp 1 h1 rfl
   refine⟨r.lt,fun j u hu=> ?_⟩
   have hj:j=0:=by have:=(List.getElem?_eq_some_iff.1 hu).1;simpa using this
   subst hj
   have h2:=r.get i (str (Ac q)) (by show(S.nums.map fun q=>str (Ac q))[i]? =_;rw[List.getElem?_map,List.getElem?_eq_getElem hl,hqe];rfl)
   rw[Nat.mul_one,Nat.add_zero,h2]
   simpa using hu
  refine wJ ?_
  exact wL 0 I I (fun W1 hp=>hrow hp I) I (wP I (Aa (zE (zA (zB (wP I (wC I I (fun W1 hp=>NX q (hq.mono (by decide)) W1 (hv.hp hp) (ht.hp hp)) (wP I (Aa (zE (zS I (zI (zN (zE (zB (wP I (wV 26 ((i+1:Nat):Int) I (Aw (by omega)) (wP I (Aa (Aj (i+1) hlt (by show 6-(i+1)<6-i;omega) ⟨I,I,I,I,I,tO⟩ [] I))))))))))))))))))))
 refine wU 20 false I (dF (by omega)) (Aa (zE (zA (zS I (zJ (zK (zK (zL (zE (zA (zB (wP I (wB 0 I I I (wP I (wB 0 I I I (wC I I (fun W1 hp=>Dc S.z0 S.z1 (sz2 z0 z1 (by decide)) W1 (hv.hp hp) (ht.hp hp)) (wP I (wU 32 true I ((BP _ _).trans (dT h1)) (wP I (wP I (wB 0 I I I (wP I (wB 0 I I I ?_)))))))))))))))))))))))
 exact wC I I (fun W1 hp=>Dc S.a S.b (sz2 za zb (by decide)) W1 (hv.hp hp) (ht.hp hp)) (wP I (wU 39 true I ((BP _ _).trans (dT h2)) (wP I (wP I (wP I (wB 0 I I I (wP I (wB 0 I I I (wC I I (fun W1 hp=>Dc S.c S.d (sz2 zc zd (by decide)) W1 (hv.hp hp) (ht.hp hp)) (wP I (wU 47 true I ((GK _ _).trans (dT h3)) (wP I (wP I (Aa (zE (zO (wR1 I I I)))))))))))))))))
theorem IW (f:FrP) (hf:f.Go) (s:Int) (S:StR) (h:S.OK) (hs:f.st<=S.z0) (W:World) (hv:AE W) (ht:A7 W):
  Ad Tryz.prog 171 #[frV f,stV s S] W (fun _:Unit=> .int .i64 0) (fun _=>True) (fun _=>[]):=by
 have z0:=h.z S.z0 (by simp)
 refine Ab (args:=[frV f,stV s S]) Tryz.func171 I I I (zA (zB (wF I I fun _=>(wF I I fun _=>(wP I (Aa (zE (zA (zA (zB (wB 0 I I I (wC I I (fun W1 hp=>Fl f hf.ok W1 (hv.hp hp) (ht.hp hp)) (wP I (wP I (wB 1 I I I (wC I I (fun W1 hp=>OC s S h W1 (hv.hp hp) (ht.hp hp)) (wP I (wP I (Aa (zE (zS I (zI (zE ?_)))))))))))))))))))))))
 refine zA (zA (zB (wP I (wB 0 I I I (wP I (wU 15 false I ((AS _ _).trans ((Ry f.sp).trans (dF hf.h0))) (wP I (wP I (wB 0 I I I (wP I (wB 1 I I I (wC I I (fun W1 hp=>Dc f.st S.z0 (sz2 hf.st z0 (by decide)) W1 (hv.hp hp) (ht.hp hp)) (wP I (wU 22 false I ((Nv _ _).trans (dF (Rat.not_lt.2 hs))) (wP I (Aa (zE (zS I (zI (zE (zA (zB (wP I ?_)))))))))))))))))))))))
 exact Aa (zE (zO (wR1 I I I)))
theorem Sh (p q:Rat) (h:Sz2 p q) (W:World) (hv:AE W) (ht:A7 W):
  Ad Tryz.prog 174 #[str (Ac p),str (Ac q)] W (fun _:Unit=>str (Ac (p+q))) (fun _=>True) (fun _=>[]):=by
 refine Ab (args:=[str (Ac p),str (Ac q)]) Tryz.func174 I I I (zA (zB (wP I (Aa (zE (zA (zB (wP I (wP I (wC I I (fun W hp=>Ca p q h W (hv.hp hp) (ht.hp hp)) (wP I (wP I (wP I (wP I (wP I (Aa (zE (zA (zB (wP I (wP I (Aa (zE ?_)))))))))))))))))))))))
 exact zO (wR1 I I I)
theorem HS (p q:Rat) (h:Sz2 p q) (W:World) (hv:AE W) (ht:A7 W):
  Ad Tryz.prog 173 #[str (Ac p),str (Ac q)] W (fun _:Unit=>str (Ac (p-q))) (fun _=>True) (fun _=>[]):=by
 refine Ab (args:=[str (Ac p),str (Ac q)]) Tryz.func173 I I I (zA (zB (wP I (Aa (zE (zA (zB (wP I (wP I (wC I I (fun W hp=>BM p q h W (hv.hp hp) (ht.hp hp)) (wP I (wP I (wP I (wP I (wP I (Aa (zE (zA (zB (wP I (wP I (Aa (zE ?_)))))))))))))))))))))))
 exact zO (wR1 I I I)
theorem R6 (p q:Rat) (h:Sz2 p q) (W:World) (hv:AE W) (ht:A7 W):
  Ad Tryz.prog 172 #[str (Ac p),str (Ac q)] W (fun _:Unit=>str (Ac (p*q))) (fun _=>True) (fun _=>[]):=by
 refine Ab (args:=[str (Ac p),str (Ac q)]) Tryz.func172 I I I (zA (zB (wP I (Aa (zE (zA (zB (wP I (wP I (wC I I (fun W hp=>Cq p q h W (hv.hp hp) (ht.hp hp)) (wP I (wP I (wP I (wP I (wP I (Aa (zE (zA (zB (wP I (wP I (Aa (zE ?_)))))))))))))))))))))))
 exact zO (wR1 I I I)
def StR.area (S:StR) (f:FrP):Rat:=(S.b-S.a+(S.d-S.c))*(f.sp*(S.z1-S.z0))*(1/2)
theorem Vt:Ac (1/2)=[49,47,50]:=by decide+kernel
theorem Q0 (f:FrP) (hf:f.Go) (s:Int) (S:StR) (h:S.OK) (hs:f.st<=S.z0) (W:World) (hv:AE W) (ht:A7 W):
  Ad Tryz.prog 103 #[frV f,stV s S] W (fun _:Unit=> .tuple #[str (Ac (S.area f)), .int .i64 0]) (fun _=>True) (fun _=>[]):=by
 have z0:=h.z S.z0 (by simp)
 have z1:=h.z S.z1 (by simp)
 have za:=h.z S.a (by simp)
 have zb:=h.z S.b (by simp)
 have zc:=h.z S.c (by simp)
 have zd:=h.z S.d (by simp)
 have zw:=z1.sub z0
 have zm:=hf.sp.mul zw
 have zs:=(zb.sub za).add (zd.sub zc)
 have zn:=zs.mul zm
 have zh:szQ (1/2:Rat) 1:=by unfold szQ;decide+kernel
 refine Ab (args:=[frV f,stV s S]) Tryz.func103 I I I (zA (zB (wF I I fun _=>(wF I I fun _=>(wP I (wP I (Aa (zE (zA (zA (zB (wB 0 I I I (wB 1 I I I (wC I I (fun W1 hp=>IW f hf s S h hs W1 (hv.hp hp) (ht.hp hp)) (wP I (Aa (zE (zA (zB (wP I (wP I (Aa (zE ?_)))))))))))))))))))))))
 refine zS I (zI (zE (zA (zU (qP I (qB 0 I I I (qP I (qB 1 I I I (qP I (qB 1 I I I (qC I I (fun W1 hp=>HS S.z1 S.z0 (sz2 z1 z0 (by decide)) W1 (hv.hp hp) (ht.hp hp)) (qC I I (fun W1 hp=>R6 f.sp (S.z1-S.z0) (sz2 hf.sp zw (by decide)) W1 (hv.hp hp) (ht.hp hp)) (qP I (A8 (Aa (zE (zA (zU (qP I (qB 1 I I I (qP I (qB 1 I I I (qC I I (fun W1 hp=>HS S.b S.a (sz2 zb za (by decide)) W1 (hv.hp hp) (ht.hp hp)) ?_)))))))))))))))))))))))
 refine qP I (qB 1 I I I (qP I (qB 1 I I I (qC I I (fun W1 hp=>HS S.d S.c (sz2 zd zc (by decide)) W1 (hv.hp hp) (ht.hp hp)) (qC I I (fun W1 hp=>Sh (S.b-S.a) (S.d-S.c) (sz2 (zb.sub za) (zd.sub zc) (by decide)) W1 (hv.hp hp) (ht.hp hp)) (qP I (qC I I (fun W1 hp=>Cq (S.b-S.a+(S.d-S.c)) (f.sp*(S.z1-S.z0)) (sz2 zs zm (by decide)) W1 (hv.hp hp) (ht.hp hp)) (qP I (qP I (qP I (qP I (qP I (A8 (Aa (zE (zA (zA (zB (wP I (wP I (Aa (zE (zS I ?_)))))))))))))))))))))))
 refine zI (zE (zA (zB (wP I ?_))))
 refine wC I I (fun W1 hp=>(show Ad Tryz.prog 18 #[str (Ac ((S.b-S.a+(S.d-S.c))*(f.sp*(S.z1-S.z0)))),str [49,47,50]] W1 (fun _:Unit=> .tuple #[str (Ac (S.area f)), .int .i64 0]) (fun _=>True) (fun _=>[]) by
  have h2:=Cq ((S.b-S.a+(S.d-S.c))*(f.sp*(S.z1-S.z0))) (1/2) (sz2 zn zh (by decide)) W1 (hv.hp hp) (ht.hp hp)
  rw[Vt] at h2
  exact h2)) ?_
 exact wP I (wP I (wP I (wP I (Aa (zE (zO (wR2 I I I)))))))
end
section
theorem Fe (a b:Rat):a<b\/b<=a:=by grind
abbrev At:=Rat×Rat
def EX (p q r:At):Rat:=(q.1-p.1)*(r.2-p.2)-(q.2-p.2)*(r.1-p.1)
def TJ (t:Rat) (p q:At):At:=(p.1+t*(q.1-p.1),p.2+t*(q.2-p.2))
structure Eu where
 a:Rat
 b:Rat
 c:Rat
def Eu.at (f:Eu) (p:At):Rat:=f.a*p.1+f.b*p.2-f.c
theorem M8 (p q r:At):EX p q r=EX q r p:=by unfold EX;grind
theorem YT (p q:At):EX p p q=0:=by unfold EX;grind
theorem Y5 (p q:At):EX p q q=0:=by unfold EX;grind
theorem YC (p q:At):EX p q p=0:=by unfold EX;grind
theorem ZE (p q:At):TJ 0 p q=p:=by unfold TJ;ext<;>grind
theorem Kx {a b:Rat} (ha:0<a) (h:0<a*b):0<b:=by
 rcases Fe 0 b with h1|h1
 ·exact h1
 ·have:=Rat.mul_le_mul_of_nonneg_left h1 (Rat.le_of_lt ha)
  grind
structure FX (P:Nat->At) (n:Nat):Prop where
 n3:3<=n
 cl:P n=P 0
 tri: ∀i j k,i<j->j<k->k<n->0<EX (P i) (P j) (P k)
theorem FX.str {P:Nat->At} {n:Nat} (h:FX P n) {i j k:Nat} (h1:i<j) (h2:j<k) (h3:k<=n) (h4: ¬(i=0/\k=n)):0<EX (P i) (P j) (P k):=by
 by_cases e:k=n
 ·subst e
  rw[h.cl, <-M8]
  exact h.tri 0 i j (by omega) h1 h2
 ·exact h.tri i j k h1 h2 (by omega)
theorem FX.nn {P:Nat->At} {n:Nat} (h:FX P n) {i j k:Nat} (h1:i<=j) (h2:j<=k) (h3:k<=n):0<=EX (P i) (P j) (P k):=by
 by_cases a:i=j
 ·subst a;rw[YT];grind
 by_cases b:j=k
 ·subst b;rw[Y5];grind
 by_cases c:i=0/\k=n
 ·obtain⟨rfl,rfl⟩:=c;rw[h.cl,YC];grind
 exact Rat.le_of_lt (h.str (by omega) (by omega) h3 c)
theorem FX.side {P:Nat->At} {n:Nat} (h:FX P n) {i k:Nat} (hi:i<n) (hk:k<=n):0<=EX (P i) (P (i+1)) (P k):=by
 rcases Nat.lt_or_ge i k with a|a
 ·exact h.nn (by omega) (by omega) hk
 ·rw[<-M8];exact h.nn a (by omega) (by omega)
theorem FX.sideS {P:Nat->At} {n:Nat} (h:FX P n) {i k:Nat} (hi:i<n) (hk:k<n) (h1:k≠i) (h2:k≠i+1) (h3: ¬(k=0/\i+1=n)):0<EX (P i) (P (i+1)) (P k):=by
 rcases Nat.lt_or_ge i k with a|a
 ·exact h.str (by omega) (by omega) (by omega) (by omega)
 ·rw[<-M8];exact h.str (by omega) (by omega) (by omega) (by omega)
abbrev Yb:=Nat×Rat
def VF (P:Nat->At) (k:Yb):At:=TJ k.2 (P k.1) (P (k.1+1))
def Vh (P:Nat->At) (n:Nat) (f:Eu) (k:Yb):Prop:=k.1<n/\(k.2=0/\f.at (P k.1)<=0\/f.at (P k.1)*f.at (P (k.1+1))<0/\k.2=f.at (P k.1)/(f.at (P k.1)-f.at (P (k.1+1))))
theorem Vh.cut {P:Nat->At} {n i:Nat} {f:Eu} (hi:i<n) (h:f.at (P i)*f.at (P (i+1))<0):Vh P n f (i,f.at (P i)/(f.at (P i)-f.at (P (i+1)))):=⟨hi,Or.inr ⟨h,rfl⟩⟩
theorem VG {u v:Rat} (h:u*v<0):0<u/(u-v)/\u/(u-v)<1/\(1-u/(u-v))*u+u/(u-v)*v=0:=by
 have hd:u-v≠0:=by
  intro e
  have e2:u=v:=by grind
  subst e2
  have:0<=u*u:=by
   rcases Fe u 0 with a|a
   ·have:=Rat.mul_pos (show 0< -u by grind) (show 0< -u by grind)
    grind
   ·exact Rat.mul_nonneg a a
  grind
 have e:u/(u-v)*(u-v)=u:=Rat.div_mul_cancel hd
 have key:0<u/(u-v)/\u/(u-v)<1:=by
  rcases Fe 0 (u-v) with a|a
  ·have u0:0<u:=by
    rcases Fe 0 u with b|b
    ·exact b
    ·exfalso
     have:=Rat.mul_nonneg (show 0<= -u by grind) (show 0<= -v by grind)
     grind
   have v0:v<0:=by
    rcases Fe v 0 with b|b
    ·exact b
    ·exfalso
     have:=Rat.mul_nonneg (Rat.le_of_lt u0) b
     grind
   constructor
   ·exact Kx a (by grind)
   ·have:0<1-u/(u-v):=Kx a (by grind)
    grind
  ·have b:u-v<0:=by grind
   have u0:u<0:=by
    rcases Fe u 0 with b|b
    ·exact b
    ·exfalso
     have:=Rat.mul_nonneg b (show 0<=v by grind)
     grind
   have v0:0<v:=by
    rcases Fe 0 v with b|b
    ·exact b
    ·exfalso
     have:=Rat.mul_nonneg (show 0<= -u by grind) (show 0<= -v by grind)
     grind
   constructor
   ·exact Kx (show 0< -(u-v) by grind) (by grind)
   ·have:0<1-u/(u-v):=Kx (show 0< -(u-v) by grind) (by grind)
    grind
 refine⟨key.1,key.2,by grind⟩
end
section
def Au (l:List At) (i:Nat):At:=(l[i%l.length]?).getD (0,0)
theorem Dk {l:List At} {i:Nat} (h:i<l.length):Au l i=l[i]:=by
 unfold Au;rw[Nat.mod_eq_of_lt h,List.getElem?_eq_getElem h];rfl
theorem KG (l:List At) (i:Nat):Au l (i%l.length)=Au l i:=by
 unfold Au;simp
def ID (l:List At):Prop:=FX (Au l) l.length
def DO (P:Nat->At) (n:Nat) (f:Eu):List Yb:=(List.range n).flatMap fun i=>
 (if f.at (P i)<=0 then[(i,0)] else[])++(if f.at (P i)*f.at (P (i+1))<0 then[(i,f.at (P i)/(f.at (P i)-f.at (P (i+1))))] else[])
theorem DY {P:Nat->At} {n:Nat} {f:Eu} (k:Yb):k∈DO P n f↔Vh P n f k:=by
 unfold DO Vh
 rw[List.mem_flatMap]
 constructor
 ·rintro⟨i,hi,hk⟩
  rw[List.mem_range] at hi
  rw[List.mem_append] at hk
  rcases hk with hk|hk
  ·split at hk
   ·rename_i c
    rw[List.mem_singleton] at hk;subst hk
    exact⟨hi,Or.inl ⟨I,c⟩⟩
   ·exact absurd hk (by simp)
  ·split at hk
   ·rename_i c
    rw[List.mem_singleton] at hk;subst hk
    exact⟨hi,Or.inr ⟨c,I⟩⟩
   ·exact absurd hk (by simp)
 ·obtain⟨i,t⟩:=k
  rintro⟨hi,hk⟩
  refine⟨i,List.mem_range.2 hi, ?_⟩
  rw[List.mem_append]
  rcases hk with⟨a,b⟩|⟨a,b⟩
  ·left;simp only at a b;rw[if_pos b,a];simp
  ·right;simp only at a b;rw[if_pos a,b];simp
def C9 (f:Eu) (l:List At):List At:=(DO (Au l) l.length f).map (VF (Au l))
theorem aF {α:Type} {l:List α} {a b c:α} (ha:a∈l) (hb:b∈l) (hc:c∈l) (h1:a≠b) (h2:a≠c) (h3:b≠c):3<=l.length:=by
 match l,ha,hb,hc with
 |[x],ha,hb,_=>simp at ha hb;exact absurd (ha.trans hb.symm) h1
 |[x,y],ha,hb,hc=>
  simp at ha hb hc
  rcases ha with rfl|rfl<;>rcases hb with rfl|rfl<;>rcases hc with rfl|rfl<;>simp_all
 |_::_::_::l,_,_,_=>simp
theorem YD {P:Nat->At} {n:Nat} {f:Eu} (h:FX P n) {i:Nat} (hi:i<n) (hf:f.at (P i)<0):3<=(DO P n f).length:=by
 have n3:=h.n3
 have k1:(i,(0:Rat))∈DO P n f:=(DY _).2 ⟨hi,Or.inl ⟨rfl,Rat.le_of_lt hf⟩⟩
 have nx: ∃k∈DO P n f,(k.1=i/\0<k.2)\/(k.2=0/\(k.1=i+1\/k.1=0/\i+1=n)):=by
  rcases Fe 0 (f.at (P (i+1))) with c|c
  ·have pr:f.at (P i)*f.at (P (i+1))<0:=by
    have:=Rat.mul_pos (show 0< -f.at (P i) by grind) c;grind
   exact⟨_,(DY _).2 (Vh.cut hi pr),Or.inl ⟨I,(VG pr).1⟩⟩
  ·by_cases e:i+1=n
   ·exact⟨(0,0),(DY _).2 ⟨show 0<n by omega,Or.inl ⟨I,by rw[e,h.cl] at c;exact c⟩⟩,Or.inr ⟨I,Or.inr ⟨I,e⟩⟩⟩
   ·exact⟨(i+1,0),(DY _).2 ⟨show i+1<n by omega,Or.inl ⟨I,c⟩⟩,Or.inr ⟨I,Or.inl I⟩⟩
 have pv: ∃k∈DO P n f,(k.1+1=i\/k.1+1=n/\i=0):=by
  obtain⟨j,hj,e1,e2⟩: ∃j,j<n/\(j+1=i\/j+1=n/\i=0)/\P (j+1)=P i:=by
   rcases Nat.eq_zero_or_pos i with rfl|c
   ·exact⟨n-1,by omega,Or.inr ⟨by omega,I⟩,by rw[show n-1+1=n by omega];exact h.cl⟩
   ·exact⟨i-1,by omega,Or.inl (by omega),by rw[show i-1+1=i by omega]⟩
  rcases Fe 0 (f.at (P j)) with c|c
  ·have pr:f.at (P j)*f.at (P (j+1))<0:=by
    rw[e2]
    have:=Rat.mul_pos c (show 0< -f.at (P i) by grind);grind
   exact⟨_,(DY _).2 (Vh.cut hj pr),e1⟩
  ·exact⟨(j,0),(DY _).2 ⟨hj,Or.inl ⟨I,c⟩⟩,e1⟩
 obtain⟨k2,m2,h2⟩:=nx
 obtain⟨k3,m3,h3⟩:=pv
 refine aF k1 m2 m3 ?_ ?_ ?_
 ·rintro rfl
  rcases h2 with⟨_,b⟩|⟨_,b|b⟩
  ·simp only at b;grind
  ·simp only at b;omega
  ·simp only at b;omega
 ·rintro rfl
  simp only at h3;omega
 ·rintro rfl
  rcases h2 with⟨b,_⟩|⟨_,b|b⟩<;>omega
theorem Rh (f:Eu) (l:List At):(C9 f l).length=(DO (Au l) l.length f).length:=by unfold C9;rw[List.length_map]
end
section
def TF (k:Nat) (l:List At):List At:=l.drop k++l.take k
theorem TR {k:Nat} {l:List At} (hk:k<=l.length):(TF k l).length=l.length:=by
 unfold TF;rw[List.length_append,List.length_drop,List.length_take];omega
def Cr (p q:At):Prop:=p.1<q.1\/p.1=q.1/\p.2<q.2
theorem KU (p q:At):Cr p q\/p=q\/Cr q p:=by
 unfold Cr
 rcases Fe p.1 q.1 with a|a
 ·exact Or.inl (Or.inl a)
 rcases Fe q.1 p.1 with b|b
 ·exact Or.inr (Or.inr (Or.inl b))
 have e:p.1=q.1:=by grind
 rcases Fe p.2 q.2 with c|c
 ·exact Or.inl (Or.inr ⟨e,c⟩)
 rcases Fe q.2 p.2 with d|d
 ·exact Or.inr (Or.inr (Or.inr ⟨e.symm,d⟩))
 ·refine Or.inr (Or.inl ?_)
  ext
  ·exact e
  ·grind
theorem Ji {p q:At} (h:Cr p q): ¬Cr q p:=by
 unfold Cr at*
 rintro(c|⟨c,d⟩)<;>rcases h with a|⟨a,b⟩<;>grind
theorem VI (p:At): ¬Cr p p:=fun h=>Ji h h
theorem IF {l:List At} (h:0<l.length) (i:Nat):Au l i∈l:=by
 rw[<-KG,Dk (Nat.mod_lt i h)]
 exact List.getElem_mem _
theorem F7 {l:List At} {x:At} (h:x∈l): ∃i,i<l.length/\Au l i=x:=by
 obtain⟨i,hi,rfl⟩:=List.getElem_of_mem h
 exact⟨i,hi,Dk hi⟩
end
section
def Fj (p q:At):Bool:=decide (p.1<q.1)||(decide (p.1=q.1)&&decide (p.2<q.2))
theorem Dl {p q:At}:Fj p q=true↔Cr p q:=by unfold Fj Cr;simp
def CG (l:List At):Nat->Nat
 |0=>0
 |k+1=>if Fj (Au l k) (Au l (CG l k)) then k else CG l k
theorem Ll (l:List At): ∀k,(CG l k=0\/CG l k<k)/\ ∀i,i<k-> ¬Cr (Au l i) (Au l (CG l k)):=by
 intro k
 induction k with
 |zero=>exact⟨Or.inl rfl,fun i h=>by omega⟩
 |succ k ih=>
  unfold CG
  split
  ·rename_i c
   refine⟨Or.inr (by omega),fun i hi=> ?_⟩
   rcases Nat.eq_or_lt_of_le (show i<=k by omega) with rfl|q
   ·exact VI _
   ·intro hp
    have hc:=Dl.1 c
    have a:=ih.2 i q
    apply a
    unfold Cr at*
    rcases hp with hp|⟨hp,hp2⟩<;>rcases hc with hc|⟨hc,hc2⟩<;>grind
  ·rename_i c
   refine⟨by rcases ih.1 with a|a<;>omega,fun i hi=> ?_⟩
   rcases Nat.eq_or_lt_of_le (show i<=k by omega) with rfl|q
   ·intro hp;exact c (Dl.2 hp)
   ·exact ih.2 i q
def Dv (l:List At):List At:=TF (CG l l.length) l
theorem VE (l:List At):CG l l.length<=l.length:=by
 rcases(Ll l l.length).1 with a|a<;>omega
def Lh (f:Eu) (l:List At):Bool:=l.any fun p=>decide (f.at p<0)
theorem T0 {f:Eu} {l:List At}:Lh f l=true↔ ∃p∈l,f.at p<0:=by unfold Lh;simp
def Gs (f:Eu) (l:List At):List At:=if Lh f l then Dv (C9 f l) else[]
end
section
def TN (F:Nat->Rat):Nat->Rat
 |0=>0
 |n+1=>TN F n+F n
def V3 (p q:At):Rat:=p.1*q.2-q.1*p.2
def Q2 (l:List At):Rat:=TN (fun i=>V3 (Au l i) (Au l (i+1))) l.length
theorem OF {u v:Rat}:u*v<0↔(u<0/\0<v)\/(0<u/\v<0):=by
 constructor
 ·intro h
  rcases Fe u 0 with a|a
  ·rcases Fe 0 v with b|b
   ·exact Or.inl ⟨a,b⟩
   ·have:=Rat.mul_nonneg (show 0<= -u by grind) (show 0<= -v by grind);grind
  ·rcases Fe v 0 with b|b
   ·refine Or.inr ⟨?_,b⟩
    rcases Fe 0 u with c|c
    ·exact c
    ·have e:u=0:=by grind
     rw[e] at h;grind
   ·have:=Rat.mul_nonneg a b;grind
 ·rintro(⟨a,b⟩|⟨a,b⟩)
  ·have:=Rat.mul_pos (show 0< -u by grind) b;grind
  ·have:=Rat.mul_pos a (show 0< -v by grind);grind
def Qu (f:Eu) (p q:At):List At:=(if f.at p<=0 then[p] else[])++(if f.at p*f.at q<0 then[TJ (f.at p/(f.at p-f.at q)) p q] else[])
theorem Qo (P:Nat->At) (n:Nat) (f:Eu):(DO P (n+1) f).map (VF P)=(DO P n f).map (VF P)++Qu f (P n) (P (n+1)):=by
 unfold DO Qu
 rw[List.range_succ,List.flatMap_append,List.map_append]
 congr 1
 rw[List.flatMap_cons,List.flatMap_nil,List.append_nil,List.map_append]
 congr 1
 ·split
  ·show[VF P (n,0)]=_
   unfold VF;rw[ZE]
  ·rfl
 ·split<;>rfl
end
section
theorem SF {p q r:At} (h1:Cr p q) (h2:Cr q r):Cr p r:=by
 unfold Cr at*
 rcases h1 with h1|⟨h1,h3⟩<;>rcases h2 with h2|⟨h2,h4⟩<;>grind
def CC (p:At):List At->List At
 |b::a::t=>if EX a b p<=0 then CC p (a::t) else b::a::t
 |l=>l
def Ey (l:List At):List At:=l.foldl (fun r p=>p::CC p r) []
end
section
def U7 (S:List At):List At:=(Ey S).tail.reverse++(Ey S.reverse).tail.reverse
end
end Go.Proofs.YtndkgionklmdfaaGreatDoor
