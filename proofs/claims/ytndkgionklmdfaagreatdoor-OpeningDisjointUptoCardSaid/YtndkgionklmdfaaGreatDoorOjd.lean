/-
  Lemmas that the theorem openingDisjoint_upto_card needs (part 4 of 8).
-/
import Derived.Test.YtndkgionklmdfaaGreatDoorOjc
import Derived.Shelf.Lays
import Derived.Shelf.SlLaysN
import Derived.Shelf.Small.Bits
import Derived.Laws.StructEq
set_option maxHeartbeats 64000000
namespace Go.Proofs.YtndkgionklmdfaaGreatDoor
section
open Go Go.RowKit Go.Am Go.Lib
set_option maxRecDepth 10000
theorem Xv (z:Int):nrm z 1=(z:Rat):=by
 show mkRat z 1=_
 exact Rat.mkRat_one z
theorem Pa (z:Int):ofR z 1=(Ac (z:Rat),0):=by
 rw[ofR,if_neg (by decide),Xv]
theorem VE (p q:Rat):p.num*(q.den:Nat)<q.num*(p.den:Nat)↔p<q:=(Rat.lt_iff p q).symm
def Cw (p q:Rat):Int:=if p<q then -1 else if p=q then 0 else 1
theorem JP (p q:Rat):FN (p.num*(q.den:Nat)) (q.num*(p.den:Nat))=Cw p q:=by
 unfold FN Cw
 have h1:=VE p q
 have h2:p.num*(q.den:Nat)=q.num*(p.den:Nat)↔p=q:=by
  constructor
  ·intro h
   have a:=Rat.num_divInt_den p
   have b:=Rat.num_divInt_den q
   rw[←a, ←b]
   exact(Rat.divInt_eq_divInt_iff (by have:=p.den_nz;omega) (by have:=q.den_nz;omega)).2 h
  ·rintro rfl;rfl
 by_cases h:p<q
 ·rw[if_pos h,if_pos (h1.2 h)]
 ·rw[if_neg h,if_neg (fun e=>h (h1.1 e))]
  by_cases e:p=q
  ·rw[if_pos e,if_pos (h2.2 e)]
  ·rw[if_neg e,if_neg (fun h=>e (h2.1 h))]
theorem IN {z:Int} {k:Nat} (h:z.natAbs<10^k) (hk:1<10^k):szQ (z:Rat) k:=⟨by rw[Rat.num_intCast];exact h,by rw[Rat.den_intCast];exact hk⟩
theorem NQ (p q:Rat):(decide (Cw p q≤0))=decide (p≤q):=by
 unfold Cw
 refine decide_eq_decide.2 ?_
 by_cases h:p<q
 ·rw[if_pos h];exact⟨fun _=>Rat.le_of_lt h,fun _=>by decide⟩
 ·rw[if_neg h]
  by_cases e:p=q
  ·rw[if_pos e];exact⟨fun _=>by rw[e];exact Rat.le_refl,fun _=>by decide⟩
  ·rw[if_neg e]
   exact⟨fun h=>absurd h (by decide),fun h2=>absurd (Rat.lt_of_le_of_ne h2 e) h⟩
theorem Cs:Ac 0=[48]:=Iv.2 rfl
theorem BQ (p q:Rat):(decide (Cw p q<0))=decide (p<q):=by
 unfold Cw
 refine decide_eq_decide.2 ?_
 by_cases h:p<q
 ·rw[if_pos h];exact⟨fun _=>h,fun _=>by decide⟩
 ·rw[if_neg h]
  by_cases e:p=q
  ·rw[if_pos e];exact⟨fun h2=>absurd h2 (by decide),fun h2=>absurd h2 h⟩
  ·rw[if_neg e]
   exact⟨fun h=>absurd h (by decide),fun h2=>absurd h2 h⟩
theorem II {p q:Rat}:Ac p=Ac q↔p=q:=by
 refine⟨fun h=> ?_,fun h=>by rw[h]⟩
 have h1:=Fg p.num p.den_pos
 have h2:=Fg q.num q.den_pos
 have h:Gg p.num p.den=Gg q.num q.den:=h
 rw[h,h2] at h1
 injection h1 with h1
 injection h1 with a b
 exact Rat.ext a.symm b.symm
theorem Q9 (q:Rat):decide (Ac q=[48])=decide (q=0):=decide_eq_decide.2 (by rw[←Cs,II])
theorem TS {q:Rat} (h:q≠0):q.num≠0:=by rwa [ne_eq,Rat.num_eq_zero]
theorem C9 (p q:Rat):(decide (Cw p q≤0))=decide (p≤q):=NQ p q
theorem LQ (p q:Rat):(decide (Cw p q>0))=decide (q<p):=by
 have h:=C9 p q
 rw[decide_eq_decide] at h⊢
 constructor
 ·intro h1
  exact Rat.not_le.1 fun h2=>by have:=h.2 h2;omega
 ·intro h1
  have: ¬Cw p q≤0:=fun h2=>Rat.not_le.2 h1 (h.1 h2)
  omega
theorem Gh (p q:Rat):(decide (Cw p q≥0))=decide (q≤p):=by
 have h:=BQ p q
 rw[decide_eq_decide] at h⊢
 constructor
 ·intro h1
  exact Rat.not_lt.1 fun h2=>by have:=h.2 h2;omega
 ·intro h1
  have: ¬Cw p q<0:=fun h2=>Rat.not_lt.2 h1 (h.1 h2)
  omega
section
variable {r:Option Nat} {n:Nat} {P:Program} {W0:World} {N:Nat} {D:List Deferred} {ops:List Oper} {Q:Exit→Act→World→Prop} {o:Oper} {rest:List Oper} {env:Env} {bxs:List Bx} {A:World→Prop}
theorem AK {d:Nat} {x:Operand} {a:Addr} (hg:A0 ops N env o=some true) (hd:o.dst=some d) (ho:o.op= .nilCheck x) (hx:evO N env x=some (.pointer (some a)))
  (h:WL r n P N D ops Q rest ((d, .pointer (some a))::env) A):WL r n P N D ops Q (o::rest) env A:=
 Cu hg hd (fun c e=>by rw[ho] at e;cases e) (fun _ W hρ _=>by simp[execOp,ho,hρ _ _ hx]) h
theorem G3 {T:Tbl} {i:TI} {t ty:TypeId} {x y:Operand} {b off:Nat} {c:List Value} {v:Value} (hT:Go.Am.okB P T=true) (hg:A0 ops N env o=some true) (hd:o.dst=none) (ho:o.op= .store t x y) (ht:BO T t=some i)
  (hx:evO N env x=some (.pointer (some ⟨b,off,none⟩))) (hy:evO N env y=some v) (hs:Nat.beq v.cells.toList.length i.size=true) (h1:CE v.cells.toList=true) (hl:Nat.ble (off+i.size) c.length=true) (hys:Bw c off v.cells.toList=c)
  (hc: ∀W,Hp W0 bxs W→W.heap[b]? =some (.cells c.toArray ty (0,0)))
  (h:WL r n P N D ops Q rest env (Hp W0 bxs)):WL r n P N D ops Q (o::rest) env (Hp W0 bxs):= .mk fun a W ha hd' hp=>by
 refine By hg ha (fun c e=>by rw[ho] at e;cases e) ?_
 have h3:=hc W hp
 obtain⟨W',hr,hu⟩:=EE (P:=P) (Bo hT ht) h3 (Nat.eq_of_beq_eq_true hs) (Nat.le_of_ble_eq_true hl) h1
 rw[hys] at hu
 have:(execOp (ov env a).eval o).run P W= .ok .skip W':=by
  simp[execOp,ho,Instr.storeAt,Instr.sureAddr,A7 ha _ _ hx,A7 ha _ _ hy,hr]
 rw[this]
 simp only[Oper.uponIn,hd]
 refine h.out a W' ha hd' (hp.grow ⟨hu.os,hu.tape,hu.output, ?_, ?_⟩)
 ·rw[hu.heap,Array.size_setIfInBounds];exact Nat.le_refl _
 ·intro k hk
  rw[hu.heap,Array.getElem?_setIfInBounds]
  by_cases e:b=k
  ·subst e;rw[if_pos rfl,if_pos hk];exact h3.symm
  ·rw[if_neg e]
end
-- BOXES 4
theorem DQ (z:Int) (hz: -9223372036854775808≤z∧z≤9223372036854775807) (W:World) (ht:AA W):
  Ad Tryz.prog 59 #[.int .i64 z] W (fun _:Unit=>str (Ac (z:Rat))) (fun _=>True) (fun _=>[]):=by
 refine Ab (args:=[.int .i64 z]) Tryz.func59 I I I ?_
 refine zA (zB (wP I (Aa (zE (zA (zB (wP I (wC I I (fun W hp=>(FV z 1 hz (by decide) W (ht.hp hp)).cast (by rw[Pa])) ?_))))))))
 iterate 5 refine wP I ?_
 exact Aa (zE (zA (zB (wP I (wP I (Aa (zE (zO (wR1 I I I)))))))))
theorem RL (p q:Rat) (h:Sz2 p q) (W:World) (hv:AL W) (ht:AA W):
  Ad Tryz.prog 352 #[str (Ac p),str (Ac q)] W (fun _:Unit=>str (Ac (p+q))) (fun _=>True) (fun _=>[]):=by
 refine Ab (args:=[str (Ac p),str (Ac q)]) Tryz.func352 I I I ?_
 refine zA (zB (wP I (Aa (zE (zA (zB (wP I (wP I (wC I I (fun W hp=>CN p q h W (hv.hp hp) (ht.hp hp)) ?_)))))))))
 iterate 5 refine wP I ?_
 exact Aa (zE (zA (zB (wP I (wP I (Aa (zE (zO (wR1 I I I)))))))))
theorem LP (p q:Rat) (h:Sz2 p q) (W:World) (hv:AL W) (ht:AA W):
  Ad Tryz.prog 60 #[str (Ac p),str (Ac q)] W (fun _:Unit=>str (Ac (p-q))) (fun _=>True) (fun _=>[]):=by
 refine Ab (args:=[str (Ac p),str (Ac q)]) Tryz.func60 I I I ?_
 refine zA (zB (wP I (Aa (zE (zA (zB (wP I (wP I (wC I I (fun W hp=>CO p q h W (hv.hp hp) (ht.hp hp)) ?_)))))))))
 iterate 5 refine wP I ?_
 exact Aa (zE (zA (zB (wP I (wP I (Aa (zE (zO (wR1 I I I)))))))))
theorem Iq (p q:Rat) (h:Sz2 p q) (W:World) (hv:AL W) (ht:AA W):
  Ad Tryz.prog 61 #[str (Ac p),str (Ac q)] W (fun _:Unit=>str (Ac (p*q))) (fun _=>True) (fun _=>[]):=by
 refine Ab (args:=[str (Ac p),str (Ac q)]) Tryz.func61 I I I ?_
 refine zA (zB (wP I (Aa (zE (zA (zB (wP I (wP I (wC I I (fun W hp=>C2 p q h W (hv.hp hp) (ht.hp hp)) ?_)))))))))
 iterate 5 refine wP I ?_
 exact Aa (zE (zA (zB (wP I (wP I (Aa (zE (zO (wR1 I I I)))))))))
theorem Rf (p q:Rat) (h:Sz2 p q) (h0:q.num≠0) (W:World) (hv:AL W) (ht:AA W):
  Ad Tryz.prog 58 #[str (Ac p),str (Ac q)] W (fun _:Unit=>str (Ac (p/q))) (fun _=>True) (fun _=>[]):=by
 refine Ab (args:=[str (Ac p),str (Ac q)]) Tryz.func58 I I I ?_
 refine zA (zB (wP I (Aa (zE (zA (zB (wP I (wP I (wC I I (fun W hp=>(KY p q h W (hv.hp hp) (ht.hp hp)).cast (by rw[Ly,if_neg h0])) ?_)))))))))
 iterate 5 refine wP I ?_
 exact Aa (zE (zA (zB (wP I (wP I (Aa (zE (zO (wR1 I I I)))))))))
theorem KU (p q:Rat) (h:Sz2 p q) (W:World) (hv:AL W) (ht:AA W):
  Ad Tryz.prog 351 #[str (Ac p),str (Ac q)] W (fun _:Unit=> .int .i64 (Cw p q)) (fun _=>True) (fun _=>[]):=by
 refine Ab (args:=[str (Ac p),str (Ac q)]) Tryz.func351 I I I ?_
 refine zA (zB (wP I (Aa (zE (zA (zB (wP I (wP I (wC I I (fun W hp=>(DM p q h W (hv.hp hp) (ht.hp hp)).cast (by rw[JP])) ?_)))))))))
 iterate 5 refine wP I ?_
 exact Aa (zE (zA (zB (wP I (wP I (Aa (zE (zO (wR1 I I I)))))))))
-- BOXES 4
theorem E9 (q:Rat) (h:okQ q) (W:World) (hv:AL W) (ht:AA W):
  Ad Tryz.prog 202 #[str (Ac q)] W (fun _:Unit=> .tuple #[str (itoa q.num),str (itoa (q.den:Nat)), .int .i64 0]) (fun _=>True) (fun _=>[]):=by
 have hl:=AQ h
 refine Ab (args:=[str (Ac q)]) Tryz.func202 I I I ?_
 refine zA (zB (wP I (wP I (wP I (Aa (zE (zA (zB (wP I (wC I I (fun W hp=>(BL (Ac q) (by omega) W (hv.hp hp) (ht.hp hp)).cast (Gz h)) (wP I (wP I (wP I ?_)))))))))))))
 (refine Ae Tryz.hZ rfl rfl rfl rfl ?_;intro)
 refine wS 0 I I I (wP I (Aa (zE (zA (zU (qP I (qB 0 I I I (qP I (qB 0 I I I (qP I (qP I (qP I (qP I ?_)))))))))))))
 exact AB (Aa (zE (zO (wR3 I I I))))
def E8 (W:World) (p:Option Addr) (l:List (List UInt8)):Prop:=l=[]∨ ∃b off,p=some ⟨b,off,none⟩∧Ai W b off (l.map str)
theorem E8.below {W W':World} {p:Option Addr} {l:List (List UInt8)} {n:Nat} (h:E8 W p l) (hn:W.heap.size≤n) (hb:Below n W W'):E8 W' p l:=by
 rcases h with h|⟨b,off,h1,h2⟩
 ·exact .inl h
 ·exact .inr ⟨b,off,h1,h2.below hn hb⟩
theorem E8.hp {W0 W:World} {bxs:List Bx} {p:Option Addr} {l:List (List UInt8)} (h:E8 W0 p l) (hp:Hp W0 bxs W):E8 W p l:=h.below (Nat.le_refl _) hp.below
theorem E8.row {W:World} {p:Option Addr} {l:List (List UInt8)} (h:E8 W p l) {i:Nat} (hi:i<l.length): ∃b off,p=some ⟨b,off,none⟩∧ ∀k (hk:k<l.length),Ai W b (off+k*1) [str l[k]]:=by
 rcases h with rfl|⟨b,off,h1,h2⟩
 ·exact absurd hi (Nat.not_lt_zero _)
 ·refine⟨b,off,h1,fun k hk=>⟨h2.lt,fun j u hu=> ?_⟩⟩
  have hj:j=0:=by have:=(List.getElem?_eq_some_iff.1 hu).1;simpa using this
  subst hj
  have:=h2.get k (str l[k]) (by rw[List.getElem?_map,List.getElem?_eq_getElem hk];rfl)
  rw[Nat.mul_one,Nat.add_zero,this]
  simpa using hu
theorem GZ (n:Nat):itoa (n:Int)=decDigits n:=by
 unfold itoa;rw[if_neg (by omega)];rfl
abbrev q2 (n:Int) (d:Nat) (h:d≠0:=by decide) (hc:n.natAbs.Coprime d:=by decide):Rat:=⟨n,d,h,hc⟩
theorem dd1 (n:Nat) (h:n<10):decDigits n=[UInt8.ofNat (48+n)]:=by rw[decDigits,dif_pos h]
theorem ns2:Ac (q2 2 1)=[50]:=by rw[Ac,Gg,if_pos rfl];exact(GZ 2).trans (dd1 2 (by decide))
-- BOXES 4
theorem HR (z:Int):AY Tryz.prog 203 [str (itoa z)] (.int .i64 ((decDigits z.natAbs).length:Nat)):=by
 intro W
 refine Ab Tryz.func203 I I I ?_
 refine zA (zB (wP I (Aa (zE (zA (zB (wP I (wC I I (fun W _=>(B8 (itoa z) [45] W).cast (by rw[AU])) (wP I ?_)))))))))
 refine Ao 5 (.int .i64 ((decDigits z.natAbs).length:Nat)) I (congrArg (fun n:Nat=>Value.int .i64 (n:Int)) (A5 _)) ?_
 exact wP I (Aa (zE (zO (wR1 I I I))))
theorem F8 (q:Rat) (h:szQ q 36) (W:World) (hv:AL W) (ht:AA W):
  Ad Tryz.prog 136 #[str (Ac q)] W (fun _:Unit=> .int .i64 0) (fun _=>True) (fun _=>[]):=by
 have hk:=h.ok (by decide)
 have hl:=AQ hk
 have l1:=CM 36 q.num.natAbs (by decide) h.1
 have l2:=CM 36 ((q.den:Nat):Int).natAbs (by decide) (by rw[Int.natAbs_natCast];exact h.2)
 refine Ab (args:=[str (Ac q)]) Tryz.func136 I I I ?_
 refine zA (zB (wP I (Aa (zE (zA (zA (zB (wP I (wC I I (fun W hp=>(B0 (Ac q) (by omega) W (hv.hp hp) (ht.hp hp)).cast (by rw[C3 hk])) (wP I (Aa (zE (zA ?_)))))))))))))
 refine zB (wP I (wP I (Aa (zE (zS I (zI (zE (zA (zA (zB (wP I (wC I I (fun W hp=>E9 q hk W (hv.hp hp) (ht.hp hp)) ?_))))))))))))
 iterate 7 refine wP I ?_
 refine Aa (zE (zA (zB (wP I (wC I I (fun W _=>HR q.num W) (wP I (wC I I (fun W _=>HR (q.den:Nat) W) (wP I (wP I ?_)))))))))
 refine Ao 23 (.bool false) I (congrArg Value.bool (dF (by
  show¬((if _>_ then _ else _)>_)
  split<;>omega))) ?_
 exact Aa (zE (zS I (zI (zE (zA (zB (wP I (Aa (zE (zO (wR1 I I I)))))))))))
theorem Mw (q:Rat):hasPrefix (Ac q) [45]=decide (q.num<0):=by
 have h:=DZ q.num
 unfold Ac Gg
 split
 ·exact h
 ·rw[Bj] at h⊢
  rw[←h]
  have hne:(itoa q.num)≠[]:=by
   unfold itoa
   split
   ·intro h;cases h
   ·exact Gj _
  rw[List.getElem?_append_left (List.length_pos_iff.2 hne)]
structure FrP where
 ax:Bool
 pos:Int
 hd:Int
 sp:Rat
 st:Rat
abbrev frV (f:FrP):Value:= .agg #[.bool f.ax, .int .i64 f.pos, .int .i64 f.hd,str (Ac f.sp),str (Ac f.st)]
structure FrP.OK (f:FrP):Prop where
 p0:0≤f.pos
 p1:f.pos≤65536
 hd:f.hd=1∨f.hd= -1
 sp:szQ f.sp 36
 st:szQ f.st 36
 sp0:0≤f.sp.num
theorem Gy (f:FrP) (h:f.OK) (W:World) (hv:AL W) (ht:AA W):
  Ad Tryz.prog 57 #[frV f] W (fun _:Unit=> .int .i64 0) (fun _=>True) (fun _=>[]):=by
 obtain⟨p0,p1,hhd,hsp,hst,hsp0⟩:=h
 have l1:=AQ (hsp.ok (by decide))
 have l2:=AQ (hst.ok (by decide))
 refine Ab (args:=[frV f]) Tryz.func57 I I I ?_
 refine zA (zB ?_)
 (refine Ak rfl rfl rfl rfl ?_;intro)
 refine wP I (Aa ?_)
 rename_i b1
 refine A8 (Az (Az ?_))
 refine AC (X:=Unit) (fun _=>[(1,Af b1),(2, .int .i64 0),(26, .bool false)]) (fun _=>[⟨b1,56,[.bool f.ax, .int .i64 f.pos, .int .i64 f.hd,str (Ac f.sp),str (Ac f.st)],true,none⟩]) (fun _=>True) ?_ ?_
 ·refine zB (wP I (wB 0 I I I (wP I (wU 11 false I (dF (by omega)) (wP I (wP I (wB 0 I I I (wP I (wU 15 false I (dF (by omega)) (wP I (wP I (wP I (wB 0 I I I ?_)))))))))))))
  refine wP I ?_
  rcases hhd with e|e
  ·refine wU 20 false I (by rw[e];rfl) (wP I ?_)
   iterate 3 refine Ah I I ?_
   exact wP I (wP I (Aa (An () tO ⟨I,I,I,tO⟩ [] I)))
  ·exact wU 20 true I (by rw[e];rfl) (wP I (wP I (wB 0 I I I (wP I (wU 24 false I (by rw[e];rfl) (wP I (wP I (Aa (An () tO ⟨I,I,I,tO⟩ [] I)))))))))
 ·intro _ _
  refine zS I (zI (zE (zA (zA (zB (wP I (wB 0 I I I (wP I (wB 0 I I I ?_)))))))))
  refine At Tryz.hZ tH I I I I I I I I I I I fun bS=> ?_
  refine wP I (wP I (Aa (A8 ?_)))
  refine AC (X:=Unit) (fun _=>[(1,Af b1),(2, .int .i64 0)]) (fun _=>[⟨b1,56,[.bool f.ax, .int .i64 f.pos, .int .i64 f.hd,str (Ac f.sp),str (Ac f.st)],true,none⟩]) (fun _=>True) ?_ ?_
  ·refine B6 ?_
   refine Aw (X:=Nat) (fun i=>[(1,Af b1),(2, .int .i64 0),(31, .slice (some ⟨bS,0,none⟩) 2 2),(32, .int .i64 2),(33, .int .i64 (i:Nat))]) (fun _=>[⟨b1,56,[.bool f.ax, .int .i64 f.pos, .int .i64 f.hd,str (Ac f.sp),str (Ac f.st)],true,none⟩,⟨bS,25,[str (Ac f.sp),str (Ac f.st)],true,none⟩]) (fun i=>i≤2) (fun i=>2-i) 0 (Nat.zero_le _) ⟨I,I,I,I,I,tO⟩ [] I ?_
   intro i hi
   have hi:i=0∨i=1∨i=2:=by have:i≤2:=hi;omega
   rcases hi with rfl|rfl|rfl
   ·refine zA (zB (wP I (Aa (zE (zA (zR I (zI (zE (zA (zH (zA (zB ?_))))))))))))
    refine wJ ?_
    refine wB 1 I I I (wP I (Aa (zE (zA (zB (wP I (wC I I (fun W hp=>(B0 (Ac f.sp) (by omega) W (hv.hp hp) (ht.hp hp)).cast (by rw[C3 (hsp.ok (by decide))])) (wP I (Aa (zE (zA (zB (wP I (wP I ?_))))))))))))))
    exact Aa (zE (zS I (zI (zN (zE (zB (wP I (wP I (Aa (Al 1 (by decide) (by decide) ⟨I,I,I,I,I,tO⟩ [] I))))))))))
   ·refine zA (zB (wP I (Aa (zE (zA (zR I (zI (zE (zA (zH (zA (zB ?_))))))))))))
    refine wJ ?_
    refine wB 1 I I I (wP I (Aa (zE (zA (zB (wP I (wC I I (fun W hp=>(B0 (Ac f.st) (by omega) W (hv.hp hp) (ht.hp hp)).cast (by rw[C3 (hst.ok (by decide))])) (wP I (Aa (zE (zA (zB (wP I (wP I ?_))))))))))))))
    exact Aa (zE (zS I (zI (zN (zE (zB (wP I (wP I (Aa (Al 2 (by decide) (by decide) ⟨I,I,I,I,I,tO⟩ [] I))))))))))
   ·exact zA (zB (wP I (Aa (zE (zA (zS I (zJ (zK (zK (zL (An () tO ⟨I,I,tO⟩ _ I)))))))))))
  ·intro _ _
   refine Az (zA (zB (wP I (wB 0 I I I (wP I (wB 0 I I I ?_))))))
   refine At Tryz.hZ tH I I I I I I I I I I I fun bT=> ?_
   refine wP I (wP I (Aa (A8 ?_)))
   refine AC (X:=Unit) (fun _=>[(1,Af b1),(2, .int .i64 0)]) (fun _=>[⟨b1,56,[.bool f.ax, .int .i64 f.pos, .int .i64 f.hd,str (Ac f.sp),str (Ac f.st)],true,none⟩]) (fun _=>True) ?_ ?_
   ·refine B6 ?_
    refine Aw (X:=Nat) (fun i=>[(1,Af b1),(2, .int .i64 0),(47, .slice (some ⟨bT,0,none⟩) 2 2),(48, .int .i64 2),(49, .int .i64 (i:Nat))]) (fun _=>[⟨b1,56,[.bool f.ax, .int .i64 f.pos, .int .i64 f.hd,str (Ac f.sp),str (Ac f.st)],true,none⟩,⟨bT,25,[str (Ac f.sp),str (Ac f.st)],true,none⟩]) (fun i=>i≤2) (fun i=>2-i) 0 (Nat.zero_le _) ⟨I,I,I,I,I,tO⟩ [] I ?_
    intro i hi
    have hi:i=0∨i=1∨i=2:=by have:i≤2:=hi;omega
    rcases hi with rfl|rfl|rfl
    ·refine zA (zB (wP I (Aa (zE (zA (zR I (zI (zE (zA (zH (zA (zB ?_))))))))))))
     refine wJ ?_
     refine wB 1 I I I (wP I (Aa (zE (zA (zB (wP I (wC I I (fun W hp=>F8 f.sp hsp W (hv.hp hp) (ht.hp hp)) (wP I (Aa (zE (zA (zB (wP I (wP I ?_))))))))))))))
     exact Aa (zE (zS I (zI (zN (zE (zB (wP I (wP I (Aa (Al 1 (by decide) (by decide) ⟨I,I,I,I,I,tO⟩ [] I))))))))))
    ·refine zA (zB (wP I (Aa (zE (zA (zR I (zI (zE (zA (zH (zA (zB ?_))))))))))))
     refine wJ ?_
     refine wB 1 I I I (wP I (Aa (zE (zA (zB (wP I (wC I I (fun W hp=>F8 f.st hst W (hv.hp hp) (ht.hp hp)) (wP I (Aa (zE (zA (zB (wP I (wP I ?_))))))))))))))
     exact Aa (zE (zS I (zI (zN (zE (zB (wP I (wP I (Aa (Al 2 (by decide) (by decide) ⟨I,I,I,I,I,tO⟩ [] I))))))))))
    ·exact zA (zB (wP I (Aa (zE (zA (zS I (zJ (zK (zK (zL (An () tO ⟨I,I,tO⟩ _ I)))))))))))
   ·intro _ _
    refine Az (zA (zB (wP I (wB 0 I I I (wC I I (fun W _=>(IK (Ac f.sp) [45] W).cast (by rw[Mw,dF (by omega)])) (Aa (zE (zS I (zI (zE (zA (zB (wP I ?_)))))))))))))
    exact Aa (zE (zO (wR1 I I I)))
-- BOXES 4
theorem Oz (f:FrP) (h:f.OK) (q:Rat) (hq:szQ q 36) (b:Nat) (W:World) (hv:AL W) (ht:AA W) (hrow:Ai W b 0 [str (Ac q)]):
  Ad Tryz.prog 80 #[frV f, .slice (some ⟨b,0,none⟩) 1 1] W (fun _:Unit=> .int .i64 0) (fun _=>True) (fun _=>[]):=by
 refine Ab (args:=[frV f, .slice (some ⟨b,0,none⟩) 1 1]) Tryz.func80 I I I ?_
 refine zA (zB ?_)
 (refine Ak rfl rfl rfl rfl ?_;intro)
 refine wP I (Aa ?_)
 rename_i b2
 refine zE (zA (zA (zB (wB 0 I I I (wC I I (fun W hp=>Gy f h W (hv.hp hp) (ht.hp hp)) (wP I (Aa (zE (zS I (zI (zE (zA (zA ?_)))))))))))))
 refine zB (wP I (wP I (wP I (Aa (A8 ?_)))))
 refine AC (X:=Unit) (fun _=>[(4, .int .i64 0)]) (fun _=>[]) (fun _=>True) ?_ ?_
 ·refine B6 ?_
  refine Aw (X:=Nat) (fun i=>[(4, .int .i64 0),(11, .slice (some ⟨b,0,none⟩) 1 1),(12, .int .i64 1),(13, .int .i64 (i:Nat))]) (fun _=>[]) (fun i=>i≤1) (fun i=>1-i) 0 (Nat.zero_le _) ⟨I,I,I,I,tO⟩ _ I ?_
  intro i hi
  have hi:i=0∨i=1:=by have:i≤1:=hi;omega
  rcases hi with rfl|rfl
  ·refine zA (zB (wP I (Aa (zE (zA (zR I (zI (zE (zA (zH (zA (zB ?_))))))))))))
   refine wJ ?_
   refine wL 0 I I (fun W hp=>hrow.hp hp) I (wP I (Aa (zE (zA (zB (wP I (wC I I (fun W hp=>F8 q hq W (hv.hp hp) (ht.hp hp)) (wP I (Aa (zE (zA (zB (wP I (wP I ?_))))))))))))))
   exact Aa (zE (zS I (zI (zN (zE (zB (wP I (wP I (Aa (Al 1 (by decide) (by decide) ⟨I,I,I,I,tO⟩ [] I))))))))))
  ·exact zA (zB (wP I (Aa (zE (zA (zS I (zJ (zK (zK (zL (An () tO ⟨I,tO⟩ _ I)))))))))))
 ·intro _ _
  exact zA (zB (wP I (Aa (zE (zO (wR1 I I I))))))
def FrP.vel (f:FrP):Rat:=(f.hd:Rat)*f.sp
def FrP.at (f:FrP) (t:Rat):Rat:=if t≤f.st then(f.pos:Rat) else(f.pos:Rat)+f.vel*(t-f.st)
theorem FrP.OK.hdz {f:FrP} (h:f.OK):szQ (f.hd:Rat) 1:=IN (by rcases h.hd with e|e<;>rw[e]<;>decide) (by decide)
theorem FrP.OK.posz {f:FrP} (h:f.OK):szQ (f.pos:Rat) 5:=IN (by have:=h.p0;have:=h.p1;show f.pos.natAbs<100000;omega) (by decide)
theorem FrP.OK.pos64 {f:FrP} (h:f.OK): -9223372036854775808≤f.pos∧f.pos≤9223372036854775807:=by have:=h.p0;have:=h.p1;omega
theorem FrP.OK.hd64 {f:FrP} (h:f.OK): -9223372036854775808≤f.hd∧f.hd≤9223372036854775807:=by rcases h.hd with e|e<;>omega
theorem K5 (f:FrP) (h:f.OK) (W:World) (hv:AL W) (ht:AA W):
  Ad Tryz.prog 353 #[frV f] W (fun _:Unit=>str (Ac f.vel)) (fun _=>True) (fun _=>[]):=by
 have hz:=sz2 h.hdz h.sp (by decide)
 refine Ab (args:=[frV f]) Tryz.func353 I I I ?_
 refine zA (zB ?_)
 (refine Ak rfl rfl rfl rfl ?_;intro)
 refine wP I (Aa ?_)
 rename_i b1
 exact zE (zA (zU (qP I (qB 0 I I I (qC I I (fun W hp=>DQ f.hd h.hd64 W (ht.hp hp)) (qP I (qB 0 I I I (qC I I (fun W hp=>Iq (f.hd:Rat) f.sp hz W (hv.hp hp) (ht.hp hp)) (qP I (AB (Aa (zE (zO (wR1 I I I))))))))))))))
theorem JA (f:FrP) (h:f.OK) (t:Rat) (a b k:Nat) (hs:szQ f.sp a) (hb:szQ f.st b) (hz:szQ t k) (hk:a+b+k+9≤300) (W:World) (hv:AL W) (ht:AA W):
  Ad Tryz.prog 316 #[frV f,str (Ac t)] W (fun _:Unit=>str (Ac (f.at t))) (fun _=>True) (fun _=>[]):=by
 have z1:=sz2 hz hb (by omega)
 have z2:=hz.sub hb
 have zv:szQ f.vel (1+a):=h.hdz.mul hs
 have z3:=sz2 zv z2 (by omega)
 have z4:=zv.mul z2
 have z5:=sz2 h.posz z4 (by omega)
 refine Ab (args:=[frV f,str (Ac t)]) Tryz.func316 I I I ?_
 refine zA (zB ?_)
 (refine Ak rfl rfl rfl rfl ?_;intro)
 refine wP I (Aa ?_)
 rename_i b2
 refine zE (zA (zA (zB (wP I (wP I (wB 0 I I I (wC I I (fun W hp=>KU t f.st z1 W (hv.hp hp) (ht.hp hp)) (wP I (wU 9 (decide (t≤f.st)) I (NQ t f.st) (Aa (zE ?_)))))))))))
 refine Aj I (fun hc=> ?_) (fun hc=> ?_)
 ·have hc:=of_decide_eq_true hc
  exact zA (zB (wP I (wB 0 I I I (wC I I (fun W hp=>DQ f.pos h.pos64 W (ht.hp hp)) (wP I (Aa (zE (zO (zP (wR1 I I (by rw[FrP.at,if_pos hc])))))))))))
 ·have hc:=of_decide_eq_false hc
  refine zI (zE (zA (zU (qP I (qB 0 I I I (qC I I (fun W hp=>DQ f.pos h.pos64 W (ht.hp hp)) (qB 0 I I I (qC I I (fun W hp=>K5 f h W (hv.hp hp) (ht.hp hp)) (qP I (qP I (qB 0 I I I (qC I I (fun W hp=>LP t f.st z1 W (hv.hp hp) (ht.hp hp)) (qC I I (fun W hp=>Iq f.vel (t-f.st) z3 W (hv.hp hp) (ht.hp hp)) ?_)))))))))))))
  exact qC I I (fun W hp=>RL (f.pos:Rat) (f.vel*(t-f.st)) z5 W (hv.hp hp) (ht.hp hp)) (qP I (AB (Aa (zE (zO (wR1 I I (by rw[FrP.at,if_neg hc])))))))
theorem K7 (f:FrP) (h:f.OK) (t:Rat) (hz:szQ t 36) (W:World) (hv:AL W) (ht:AA W):
  Ad Tryz.prog 316 #[frV f,str (Ac t)] W (fun _:Unit=>str (Ac (f.at t))) (fun _=>True) (fun _=>[]):=JA f h t 36 36 36 h.sp h.st hz (by decide) W hv ht
-- BOXES 4
theorem Mi (f:FrP) (h:f.OK) (t:Rat) (hz:szQ t 36) (W:World) (hv:AL W) (ht:AA W):
  Ad Tryz.prog 270 #[frV f,str (Ac t)] W (fun _:Unit=> .tuple #[str (Ac (f.at t)), .int .i64 0]) (fun _=>True) (fun _=>[]):=by
 refine Ab (args:=[frV f,str (Ac t)]) Tryz.func270 I I I ?_
 repeat (first|refine zA ?_|refine zB ?_|refine zC ?_|refine zD ?_|refine zE ?_|refine zF ?_|refine zG ?_|refine zH ?_|refine zI ?_|refine zJ ?_|refine zK ?_|refine zL ?_|refine zM rfl ?_|refine zN ?_|refine zO ?_|refine zP ?_|refine zQ ?_|refine zR rfl ?_|refine zS rfl ?_|refine zU ?_)
 (refine Ak rfl rfl rfl rfl ?_;intro)
 refine wP I (wP I (Aa ?_))
 rename_i b2
 repeat (first|refine zA ?_|refine zB ?_|refine zC ?_|refine zD ?_|refine zE ?_|refine zF ?_|refine zG ?_|refine zH ?_|refine zI ?_|refine zJ ?_|refine zK ?_|refine zL ?_|refine zM rfl ?_|refine zN ?_|refine zO ?_|refine zP ?_|refine zQ ?_|refine zR rfl ?_|refine zS rfl ?_|refine zU ?_)
 (first|refine wB 0 rfl rfl rfl ?_|refine wB 1 rfl rfl rfl ?_|refine wB 2 rfl rfl rfl ?_|refine wB 3 rfl rfl rfl ?_)
 refine wP I ?_
 refine At Tryz.hZ tH I I I I I I I I I I I fun bS=> ?_
 refine wC I I (fun W hp=>Oz f h t hz bS W (hv.hp hp) (ht.hp hp) (Ai.of_bx hp 1 I I)) (wP I (Aa ?_))
 repeat (first|refine zA ?_|refine zB ?_|refine zC ?_|refine zD ?_|refine zE ?_|refine zF ?_|refine zG ?_|refine zH ?_|refine zI ?_|refine zJ ?_|refine zK ?_|refine zL ?_|refine zM rfl ?_|refine zN ?_|refine zO ?_|refine zP ?_|refine zQ ?_|refine zR rfl ?_|refine zS rfl ?_|refine zU ?_)
 refine wP I (wP I (Aa ?_))
 repeat (first|refine zA ?_|refine zB ?_|refine zC ?_|refine zD ?_|refine zE ?_|refine zF ?_|refine zG ?_|refine zH ?_|refine zI ?_|refine zJ ?_|refine zK ?_|refine zL ?_|refine zM rfl ?_|refine zN ?_|refine zO ?_|refine zP ?_|refine zQ ?_|refine zR rfl ?_|refine zS rfl ?_|refine zU ?_)
 (first|refine wB 0 rfl rfl rfl ?_|refine wB 1 rfl rfl rfl ?_|refine wB 2 rfl rfl rfl ?_|refine wB 3 rfl rfl rfl ?_)
 refine wP I (wC I I (fun W hp=>K7 f h t hz W (hv.hp hp) (ht.hp hp)) (wP I (wP I (Aa ?_))))
 repeat (first|refine zA ?_|refine zB ?_|refine zC ?_|refine zD ?_|refine zE ?_|refine zF ?_|refine zG ?_|refine zH ?_|refine zI ?_|refine zJ ?_|refine zK ?_|refine zL ?_|refine zM rfl ?_|refine zN ?_|refine zO ?_|refine zP ?_|refine zQ ?_|refine zR rfl ?_|refine zS rfl ?_|refine zU ?_)
 exact wR2 I I I
def FrP.slope (f:FrP):Rat:=(f.hd:Rat)/f.sp
def FrP.base (f:FrP):Rat:=f.st-f.slope*(f.pos:Rat)
def FrP.plane (f:FrP):Value:=if f.sp.num=0 then .tuple #[.agg #[str [],str [],str []], .int .i64 8] else
 .tuple #[if f.ax then .agg #[str (Ac f.slope),str [48],str (Ac f.base)] else .agg #[str [48],str (Ac f.slope),str (Ac f.base)], .int .i64 0]
theorem OF (f:FrP) (h:f.OK) (W:World) (hv:AL W) (ht:AA W):
  Ad Tryz.prog 16 #[frV f] W (fun _:Unit=>f.plane) (fun _=>True) (fun _=>[]):=by
 have z1:=sz2 h.hdz h.sp (by decide)
 refine Ab (args:=[frV f]) Tryz.func16 I I I ?_
 repeat (first|refine zA ?_|refine zB ?_|refine zC ?_|refine zD ?_|refine zE ?_|refine zF ?_|refine zG ?_|refine zH ?_|refine zI ?_|refine zJ ?_|refine zK ?_|refine zL ?_|refine zM rfl ?_|refine zN ?_|refine zO ?_|refine zP ?_|refine zQ ?_|refine zR rfl ?_|refine zS rfl ?_|refine zU ?_)
 (refine Ak rfl rfl rfl rfl ?_;intro)
 (refine Ae Tryz.hZ rfl rfl rfl rfl ?_;intro)
 refine wP I (Aa ?_)
 rename_i b1 b2
 repeat (first|refine zA ?_|refine zB ?_|refine zC ?_|refine zD ?_|refine zE ?_|refine zF ?_|refine zG ?_|refine zH ?_|refine zI ?_|refine zJ ?_|refine zK ?_|refine zL ?_|refine zM rfl ?_|refine zN ?_|refine zO ?_|refine zP ?_|refine zQ ?_|refine zR rfl ?_|refine zS rfl ?_|refine zU ?_)
 (first|refine wB 0 rfl rfl rfl ?_|refine wB 1 rfl rfl rfl ?_|refine wB 2 rfl rfl rfl ?_|refine wB 3 rfl rfl rfl ?_)
 refine wC I I (fun W hp=>Gy f h W (hv.hp hp) (ht.hp hp)) (wP I (Aa ?_))
 repeat (first|refine zA ?_|refine zB ?_|refine zC ?_|refine zD ?_|refine zE ?_|refine zF ?_|refine zG ?_|refine zH ?_|refine zI ?_|refine zJ ?_|refine zK ?_|refine zL ?_|refine zM rfl ?_|refine zN ?_|refine zO ?_|refine zP ?_|refine zQ ?_|refine zR rfl ?_|refine zS rfl ?_|refine zU ?_)
 refine wP I ?_
 (first|refine wB 0 rfl rfl rfl ?_|refine wB 1 rfl rfl rfl ?_|refine wB 2 rfl rfl rfl ?_|refine wB 3 rfl rfl rfl ?_)
 refine wP I ?_
 by_cases h0:f.sp.num=0
 ·refine wU 12 true I ((Bd _ [48]).trans (dT (Iv.2 h0))) (Aa ?_)
  repeat (first|refine zA ?_|refine zB ?_|refine zC ?_|refine zD ?_|refine zE ?_|refine zF ?_|refine zG ?_|refine zH ?_|refine zI ?_|refine zJ ?_|refine zK ?_|refine zL ?_|refine zM rfl ?_|refine zN ?_|refine zO ?_|refine zP ?_|refine zQ ?_|refine zR rfl ?_|refine zS rfl ?_|refine zU ?_)
  refine Au Tryz.hZ tH I I I I I I I I ?_
  (first|refine wS 0 rfl rfl rfl ?_|refine wS 1 rfl rfl rfl ?_|refine wS 2 rfl rfl rfl ?_|refine wS 3 rfl rfl rfl ?_)
  refine wP I (Aa ?_)
  repeat (first|refine zA ?_|refine zB ?_|refine zC ?_|refine zD ?_|refine zE ?_|refine zF ?_|refine zG ?_|refine zH ?_|refine zI ?_|refine zJ ?_|refine zK ?_|refine zL ?_|refine zM rfl ?_|refine zN ?_|refine zO ?_|refine zP ?_|refine zQ ?_|refine zR rfl ?_|refine zS rfl ?_|refine zU ?_)
  exact A9 tH I (.cell 1 I I I I I) (.tmp I) () (by rw[FrP.plane,if_pos h0];rfl) tO fun W _=>As.nil _ _
 ·have z2:=h.hdz.div h.sp h0
  have z3:=sz2 z2 h.posz (by decide)
  have z4:=z2.mul h.posz
  have z5:=sz2 h.st z4 (by decide)
  have hval:f.plane= .tuple #[if f.ax then .agg #[str (Ac f.slope),str [48],str (Ac f.base)] else .agg #[str [48],str (Ac f.slope),str (Ac f.base)], .int .i64 0]:=if_neg h0
  refine wU 12 false I ((Bd _ [48]).trans (dF fun e=>h0 (Iv.1 e))) (Aa ?_)
  repeat (first|refine zA ?_|refine zB ?_|refine zC ?_|refine zD ?_|refine zE ?_|refine zF ?_|refine zG ?_|refine zH ?_|refine zI ?_|refine zJ ?_|refine zK ?_|refine zL ?_|refine zM rfl ?_|refine zN ?_|refine zO ?_|refine zP ?_|refine zQ ?_|refine zR rfl ?_|refine zS rfl ?_|refine zU ?_)
  refine qP I ?_
  (first|refine qB 0 rfl rfl rfl ?_|refine qB 1 rfl rfl rfl ?_|refine qB 2 rfl rfl rfl ?_|refine qB 3 rfl rfl rfl ?_)
  refine qC I I (fun W hp=>DQ f.hd h.hd64 W (ht.hp hp)) (qP I ?_)
  (first|refine qB 0 rfl rfl rfl ?_|refine qB 1 rfl rfl rfl ?_|refine qB 2 rfl rfl rfl ?_|refine qB 3 rfl rfl rfl ?_)
  refine qC I I (fun W hp=>Rf (f.hd:Rat) f.sp z1 h0 W (hv.hp hp) (ht.hp hp)) (qP I (AB (Aa ?_)))
  repeat (first|refine zC ?_|refine zD ?_|refine zE ?_|refine zF ?_|refine zG ?_|refine zH ?_|refine zI ?_|refine zJ ?_|refine zK ?_|refine zL ?_|refine zM rfl ?_|refine zN ?_|refine zO ?_|refine zP ?_|refine zQ ?_|refine zR rfl ?_|refine zS rfl ?_)
  refine Az ?_
  refine AV (X:=Nat) [true,true,true,true,true,true,true,true,true,true,false,false] (fun b=>[(1,Af b1),(2,Af b2),(3, .int .i64 0),(5,Af b)]) (fun b=>[⟨b1,56,[.bool f.ax, .int .i64 f.pos, .int .i64 f.hd,str (Ac f.sp),str (Ac f.st)],true,none⟩,⟨b2,52,[str [],str [],str []],true,none⟩,⟨b,52,[str [48],str (Ac f.slope),str (Ac f.base)],true,none⟩])
   2 [⟨b1,56,[.bool f.ax, .int .i64 f.pos, .int .i64 f.hd,str (Ac f.sp),str (Ac f.st)],true,none⟩,⟨b2,52,[str [],str [],str []],true,none⟩] Tryz.mixed (by kernel_rfl) ?_ ?_
  ·refine qP I (qP I ?_)
   (first|refine qB 0 rfl rfl rfl ?_|refine qB 1 rfl rfl rfl ?_|refine qB 2 rfl rfl rfl ?_|refine qB 3 rfl rfl rfl ?_)
   refine qP I (qP I ?_)
   (first|refine qB 0 rfl rfl rfl ?_|refine qB 1 rfl rfl rfl ?_|refine qB 2 rfl rfl rfl ?_|refine qB 3 rfl rfl rfl ?_)
   refine qC I I (fun W hp=>DQ f.pos h.pos64 W (ht.hp hp)) (qC I I (fun W hp=>Iq f.slope (f.pos:Rat) z3 W (hv.hp hp) (ht.hp hp)) (qC I I (fun W hp=>LP f.st (f.slope*(f.pos:Rat)) z5 W (hv.hp hp) (ht.hp hp)) ?_))
   refine JT Tryz.hZ tH I I I I I I I I ?_
   refine BU ?_
   first|refine wX ?_|refine wY ?_
   refine wZ ?_
   refine Ae Tryz.hZ rfl rfl rfl rfl ?_;intro b
   refine Aa (Ag ?_)
   first|refine wX ?_|refine wY ?_
   refine wZ (wS 2 I I I (Aa (Ag ?_)))
   first|refine AG rfl (by((repeat (first|refine AI.same ?_|refine AI.off rfl ?_));exact trivial)) ?_|refine AP rfl (by kernel_rfl) ?_
   exact A6 b ⟨I,I,I,I,tO⟩ [0,1,2] (by decide) I
  intro b5
  repeat (first|refine zA ?_|refine zB ?_|refine zC ?_|refine zD ?_|refine zE ?_|refine zF ?_|refine zG ?_|refine zH ?_|refine zI ?_|refine zJ ?_|refine zK ?_|refine zL ?_|refine zM rfl ?_|refine zN ?_|refine zO ?_|refine zP ?_|refine zQ ?_|refine zR rfl ?_|refine zS rfl ?_|refine zU ?_)
  refine wP I ?_
  (first|refine wB 0 rfl rfl rfl ?_|refine wB 1 rfl rfl rfl ?_|refine wB 2 rfl rfl rfl ?_|refine wB 3 rfl rfl rfl ?_)
  refine Aa ?_
  repeat (first|refine zA ?_|refine zB ?_|refine zC ?_|refine zD ?_|refine zE ?_|refine zF ?_|refine zG ?_|refine zH ?_|refine zI ?_|refine zJ ?_|refine zK ?_|refine zL ?_|refine zM rfl ?_|refine zN ?_|refine zO ?_|refine zP ?_|refine zQ ?_|refine zR rfl ?_|refine zS rfl ?_|refine zU ?_)
  refine Aj I (fun hax=> ?_) (fun hax=> ?_)
  ·rw[if_pos hax] at hval
   repeat (first|refine zA ?_|refine zB ?_|refine zC ?_|refine zD ?_|refine zE ?_|refine zF ?_|refine zG ?_|refine zH ?_|refine zI ?_|refine zJ ?_|refine zK ?_|refine zL ?_|refine zM rfl ?_|refine zN ?_|refine zO ?_|refine zP ?_|refine zQ ?_|refine zR rfl ?_|refine zS rfl ?_|refine zU ?_)
   refine wP I ?_
   (first|refine wB 0 rfl rfl rfl ?_|refine wB 1 rfl rfl rfl ?_|refine wB 2 rfl rfl rfl ?_|refine wB 3 rfl rfl rfl ?_)
   refine wP I ?_
   (first|refine wB 0 rfl rfl rfl ?_|refine wB 1 rfl rfl rfl ?_|refine wB 2 rfl rfl rfl ?_|refine wB 3 rfl rfl rfl ?_)
   refine wP I ?_
   (first|refine wS 0 rfl rfl rfl ?_|refine wS 1 rfl rfl rfl ?_|refine wS 2 rfl rfl rfl ?_|refine wS 3 rfl rfl rfl ?_)
   refine wP I ?_
   (first|refine wS 0 rfl rfl rfl ?_|refine wS 1 rfl rfl rfl ?_|refine wS 2 rfl rfl rfl ?_|refine wS 3 rfl rfl rfl ?_)
   refine Aa ?_
   repeat (first|refine zA ?_|refine zB ?_|refine zC ?_|refine zD ?_|refine zE ?_|refine zF ?_|refine zG ?_|refine zH ?_|refine zI ?_|refine zJ ?_|refine zK ?_|refine zL ?_|refine zM rfl ?_|refine zN ?_|refine zO ?_|refine zP ?_|refine zQ ?_|refine zR rfl ?_|refine zS rfl ?_|refine zU ?_)
   (first|refine wB 0 rfl rfl rfl ?_|refine wB 1 rfl rfl rfl ?_|refine wB 2 rfl rfl rfl ?_|refine wB 3 rfl rfl rfl ?_)
   (first|refine wS 0 rfl rfl rfl ?_|refine wS 1 rfl rfl rfl ?_|refine wS 2 rfl rfl rfl ?_|refine wS 3 rfl rfl rfl ?_)
   refine wP I (Aa ?_)
   repeat (first|refine zA ?_|refine zB ?_|refine zC ?_|refine zD ?_|refine zE ?_|refine zF ?_|refine zG ?_|refine zH ?_|refine zI ?_|refine zJ ?_|refine zK ?_|refine zL ?_|refine zM rfl ?_|refine zN ?_|refine zO ?_|refine zP ?_|refine zQ ?_|refine zR rfl ?_|refine zS rfl ?_|refine zU ?_)
   exact A9 tH I (.cell 1 I I I I I) (.tmp I) () hval.symm tO fun W _=>As.nil _ _
  ·rw[if_neg (by rw[hax];decide)] at hval
   repeat (first|refine zA ?_|refine zB ?_|refine zC ?_|refine zD ?_|refine zE ?_|refine zF ?_|refine zG ?_|refine zH ?_|refine zI ?_|refine zJ ?_|refine zK ?_|refine zL ?_|refine zM rfl ?_|refine zN ?_|refine zO ?_|refine zP ?_|refine zQ ?_|refine zR rfl ?_|refine zS rfl ?_|refine zU ?_)
   (first|refine wB 0 rfl rfl rfl ?_|refine wB 1 rfl rfl rfl ?_|refine wB 2 rfl rfl rfl ?_|refine wB 3 rfl rfl rfl ?_)
   (first|refine wS 0 rfl rfl rfl ?_|refine wS 1 rfl rfl rfl ?_|refine wS 2 rfl rfl rfl ?_|refine wS 3 rfl rfl rfl ?_)
   refine wP I (Aa ?_)
   repeat (first|refine zA ?_|refine zB ?_|refine zC ?_|refine zD ?_|refine zE ?_|refine zF ?_|refine zG ?_|refine zH ?_|refine zI ?_|refine zJ ?_|refine zK ?_|refine zL ?_|refine zM rfl ?_|refine zN ?_|refine zO ?_|refine zP ?_|refine zQ ?_|refine zR rfl ?_|refine zS rfl ?_|refine zU ?_)
   exact A9 tH I (.cell 1 I I I I I) (.tmp I) () hval.symm tO fun W _=>As.nil _ _
end
section
theorem FrP.OK.hd2 {f:FrP} (h:f.OK):(f.hd:Rat)=1∨(f.hd:Rat)= -1:=by
 rcases h.hd with e|e
 ·exact .inl (by rw[e];rfl)
 ·exact .inr (by rw[e];rfl)
end
section
open Go Go.RowKit Go.Am Go.Lib
set_option maxRecDepth 10000
-- BOXES 5
abbrev ptV (x y:Rat):Value:= .agg #[str (Ac x),str (Ac y)]
end
end Go.Proofs.YtndkgionklmdfaaGreatDoor
namespace Go.Proofs
open Go.Shelf
def Tryz.lays125_ren:Go.Shelf.Ren:=⟨fun|125=>358|128=>381|129=>293|n=>n,fun|3=>3|4=>4|5=>5|9=>9|46=>329|51=>327|53=>281|n=>n,fun n=>n⟩
theorem Tryz.lays125:Go.Proofs.Lays.n125 Tryz.prog Tryz.lays125_ren:= {
 mixed:=by kernel_rfl
 f125:=Tryz.func358.trans (congrArg some (by kernel_rfl))
 f128:=Tryz.func381.trans (congrArg some (by kernel_rfl))
 f129:=Tryz.func293.trans (congrArg some (by kernel_rfl))
 t3:=Tryz.underlying3
 a3:=Tryz.isAgg3
 z3:=Tryz.sizeOf3
 v3:=Tryz.zeroValue3
 t4:=Tryz.underlying4
 a4:=Tryz.isAgg4
 z4:=Tryz.sizeOf4
 v4:=Tryz.zeroValue4
 t5:=Tryz.underlying5
 a5:=Tryz.isAgg5
 z5:=Tryz.sizeOf5
 v5:=Tryz.zeroValue5
 t9:=Tryz.underlying9
 a9:=Tryz.isAgg9
 z9:=Tryz.sizeOf9
 v9:=Tryz.zeroValue9
 t46:=Tryz.underlying329
 a46:=Tryz.isAgg329
 z46:=Tryz.sizeOf329
 v46:=Tryz.zeroValue329
 t51:=Tryz.underlying327
 a51:=Tryz.isAgg327
 z51:=Tryz.sizeOf327
 v51:=Tryz.zeroValue327
 t53:=Tryz.underlying281
 a53:=Tryz.isAgg281
 z53:=Tryz.sizeOf281
 v53:=Tryz.zeroValue281 }
end Go.Proofs
namespace Go.Proofs.YtndkgionklmdfaaGreatDoor
section
open Go Go.RowKit Go.Am Go.Lib
set_option maxRecDepth 10000
-- BOXES 3
structure GL (W W':World) (g:Nat):Prop where
 os:W'.os=W.os
 tape:W'.tape=W.tape
 output:W'.output=W.output
 size:W.heap.size≤W'.heap.size
 at_: ∀x,x≠g→x<W.heap.size→W'.heap[x]? =W.heap[x]?
theorem IW {W W':World} {g:Nat} {B:Bx} {o:Obj} (hg:W.heap[g]? =some o) (hB: ∃o',(g,o')∈B.blk) (hp:Hp (Ba W) [AS (A3 W g),B] W'):GL W W' g:=by
 have c0: ∀p∈A3 W g,W'.heap[p.1]? =some p.2:=fun p hq=>(hp.own.cell 0 _ rfl p hq).1
 have old: ∀x,x≠g→x<W.heap.size→W'.heap[x]? =W.heap[x]? :=fun x hx hlt=>by
  have h1:W.heap[x]? =some W.heap[x]:=Array.getElem?_eq_getElem hlt
  rw[h1]
  exact c0 (x,W.heap[x]) (D0.2 ⟨hx,h1⟩)
 refine⟨hp.below.os,hp.below.tape,hp.below.output, ?_,old⟩
 have hlt:=(Array.getElem?_eq_some_iff.1 hg).1
 by_cases e:W.heap.size-1=g
 ·obtain⟨o',ho⟩:=hB
  have:=(Array.getElem?_eq_some_iff.1 (hp.own.cell 1 B rfl _ ho).1).1
  have h2:g<W'.heap.size:=this
  omega
 ·have h1:=old (W.heap.size-1) e (by omega)
  rw[Array.getElem?_eq_getElem (show W.heap.size-1<W.heap.size by omega)] at h1
  have:=(Array.getElem?_eq_some_iff.1 h1).1
  omega
theorem GL.trans {W W1 W2:World} {g:Nat} (h:GL W W1 g) (h':GL W1 W2 g):GL W W2 g:=
 ⟨h'.os.trans h.os,h'.tape.trans h.tape,h'.output.trans h.output,Nat.le_trans h.size h'.size,fun x hx hlt=>(h'.at_ x hx (Nat.lt_of_lt_of_le hlt h.size)).trans (h.at_ x hx hlt)⟩
theorem GL.below {W0 W W':World} {g:Nat} (hk:GL W W' g) (hb:Below W0.heap.size W0 W) (hg:W0.heap.size≤g):Below W0.heap.size W0 W':=
 ⟨hk.os.trans hb.os,hk.tape.trans hb.tape,hk.output.trans hb.output,Nat.le_trans hb.size hk.size,fun i hi=>(hk.at_ i (by omega) (Nat.lt_of_lt_of_le hi hb.size)).trans (hb.block i hi)⟩
theorem G6 {W0 W:World} {bxs:List Bx} (hp:Hp W0 bxs W) (k:Nat) {g:Nat} {e:TypeId} {xs A B C:List Value} {off:Nat} (hk:nth bxs k=some ⟨g,e,xs,true,none⟩) (hxs:xs=A++(B++C)) (hoff:off=A.length):Ai W g off B:=by
 have h:=Ai.of_bx hp k hk rfl
 refine⟨h.lt,fun m u hu=> ?_⟩
 have:=h.get (A.length+m) u (by
  show xs[A.length+m]? =some u
  rw[hxs,List.getElem?_append_right (by omega),Nat.add_sub_cancel_left,List.getElem?_append_left (List.getElem?_eq_some_iff.1 hu).1]
  exact hu)
 rw[Nat.zero_add, ←hoff] at this
 exact this
theorem Ya {r:Option Nat} {n:Nat} {P:Program} {W0:World} {N:Nat} {D:List Deferred} {c:Code} {Q:Exit→Act→World→Prop} {env:Env} {bxs bxs':List Bx} (e:bxs=bxs') (h:WC r n P N D c Q env (Hp W0 bxs')):WC r n P N D c Q env (Hp W0 bxs):=e▸h
-- BOXES 4
theorem X6 (a b:List UInt8) (h:a=b):(((⟨a.toArray⟩:ByteArray).toList==(⟨b.toArray⟩:ByteArray).toList))=true:=(Bd a b).trans (dT h)
section
variable {r:Option Nat} {n:Nat} {N:Nat} {D:List Deferred} {ops:List Oper} {Q:Exit→Act→World→Prop} {o:Oper} {rest:List Oper} {env:Env} {A:World→Prop}
end
-- BOXES 4
def Uj (g:Nat) (capt:List Value) (f:Rat→Bool) (l:List Rat) (W:World):Prop:= ∀t∈l, ∀W',Below W.heap.size W W'→Ad Tryz.prog g ([str (Ac t)]++capt).toArray W' (fun _:Unit=> .bool (f t)) (fun _=>True) (fun _=>[])
theorem Uj.below {g:Nat} {capt:List Value} {f:Rat→Bool} {l:List Rat} {W W':World} (h:Uj g capt f l W) (hb:Below W.heap.size W W'):Uj g capt f l W':=
 fun t ht W2 hb2=>h t ht W2 (hb.trans ⟨hb2.os,hb2.tape,hb2.output,hb2.size,fun i hi=>hb2.block i (Nat.lt_of_lt_of_le hi hb.size)⟩)
theorem OH (g:Nat) (capt:List Value) (hE:AN Tryz.prog g=true) (f:Rat→Bool) (l:List Rat) (W:World) (p:Option Addr) (cap:Nat) (hn:l.length<4611686018427387904) (hS:E8 W p (l.map Ac)) (hF:Uj g capt f l W):
  Ad Tryz.prog 222 #[slv p l.length cap, .func (.func g) #[] capt.toArray] W (fun k:Int=> .int .i64 k) (fun k=>(0≤k↔l.any f=true)) (fun _=>[]):=by
 refine Ab (args:=[slv p l.length cap, .func (.func g) #[] capt.toArray]) Tryz.func222 I I I ?_
 repeat (first|refine zA ?_|refine zB ?_|refine zC ?_|refine zD ?_|refine zE ?_|refine zF ?_|refine zG ?_|refine zH ?_|refine zI ?_|refine zJ ?_|refine zK ?_|refine zL ?_|refine zM rfl ?_|refine zN ?_|refine zO ?_|refine zP ?_|refine zQ ?_|refine zR rfl ?_|refine zS rfl ?_|refine zU ?_)
 refine wP I (Aa ?_)
 repeat (first|refine zA ?_|refine zB ?_|refine zC ?_|refine zD ?_|refine zE ?_|refine zF ?_|refine zG ?_|refine zH ?_|refine zI ?_|refine zJ ?_|refine zK ?_|refine zL ?_|refine zM rfl ?_|refine zN ?_|refine zO ?_|refine zP ?_|refine zQ ?_|refine zR rfl ?_|refine zS rfl ?_|refine zU ?_)
 refine wP I (wP I (wP I (Aa ?_)))
 repeat (first|refine zA ?_|refine zB ?_|refine zC ?_|refine zD ?_|refine zE ?_|refine zF ?_|refine zG ?_|refine zH ?_|refine zI ?_|refine zJ ?_|refine zK ?_|refine zL ?_|refine zM rfl ?_|refine zN ?_|refine zO ?_|refine zP ?_|refine zQ ?_|refine zR rfl ?_|refine zS rfl ?_|refine zU ?_)
 refine Aw (X:=Nat) (fun i=>[(0,slv p l.length cap),(1, .func (.func g) #[] capt.toArray),(7, .int .i64 (l.length:Nat)),(8, .int .i64 (i:Nat))]) (fun _=>[]) (fun i=>i≤l.length∧ ∀k (hk:k<l.length),k<i→f l[k]=false) (fun i=>l.length-i) 0 ⟨Nat.zero_le _,fun k _ h=>absurd h (Nat.not_lt_zero _)⟩ ⟨I,I,I,I,tO⟩ [] I ?_
 rintro i ⟨hi,hno⟩
 have hi:i≤l.length:=hi
 repeat (first|refine zA ?_|refine zB ?_|refine zC ?_|refine zD ?_|refine zE ?_|refine zF ?_|refine zG ?_|refine zH ?_|refine zI ?_|refine zJ ?_|refine zK ?_|refine zL ?_|refine zM rfl ?_|refine zN ?_|refine zO ?_|refine zP ?_|refine zQ ?_|refine zR rfl ?_|refine zS rfl ?_|refine zU ?_)
 refine wP I ?_
 by_cases hlt:i<l.length
 ·refine wU 9 true I (dT (by omega)) (Aa ?_)
  repeat (first|refine zA ?_|refine zB ?_|refine zC ?_|refine zD ?_|refine zE ?_|refine zF ?_|refine zG ?_|refine zH ?_|refine zI ?_|refine zJ ?_|refine zK ?_|refine zL ?_|refine zM rfl ?_|refine zN ?_|refine zO ?_|refine zP ?_|refine zQ ?_|refine zR rfl ?_|refine zS rfl ?_|refine zU ?_)
  obtain⟨b,off,rfl,hrow⟩:=hS.row (i:=i) (by rw[List.length_map];exact hlt)
  repeat (first|refine zA ?_|refine zB ?_|refine zC ?_|refine zD ?_|refine zE ?_|refine zF ?_|refine zG ?_|refine zH ?_|refine zI ?_|refine zJ ?_|refine zK ?_|refine zL ?_|refine zM rfl ?_|refine zN ?_|refine zO ?_|refine zP ?_|refine zQ ?_|refine zR rfl ?_|refine zS rfl ?_|refine zU ?_)
  refine wP I (wP I (Aa ?_))
  repeat (first|refine zA ?_|refine zB ?_|refine zC ?_|refine zD ?_|refine zE ?_|refine zF ?_|refine zG ?_|refine zH ?_|refine zI ?_|refine zJ ?_|refine zK ?_|refine zL ?_|refine zM rfl ?_|refine zN ?_|refine zO ?_|refine zP ?_|refine zQ ?_|refine zR rfl ?_|refine zS rfl ?_|refine zU ?_)
  refine wP I (wP I (wP I ?_))
  (first|refine wJ ?_|refine qJ ?_)
  have hrow1:Ai W b (off+i*1) [str (Ac l[i])]:=by have:=hrow i (by rw[List.length_map];exact hlt);rwa [List.getElem_map] at this
  (first|refine wL 0 rfl rfl (fun W hp=>hrow1.hp hp) rfl ?_|refine wL 1 rfl rfl (fun W hp=>hrow1.hp hp) rfl ?_|refine wL 2 rfl rfl (fun W hp=>hrow1.hp hp) rfl ?_|refine wL 3 rfl rfl (fun W hp=>hrow1.hp hp) rfl ?_|refine wL 4 rfl rfl (fun W hp=>hrow1.hp hp) rfl ?_|refine wL 5 rfl rfl (fun W hp=>hrow1.hp hp) rfl ?_|refine wL 6 rfl rfl (fun W hp=>hrow1.hp hp) rfl ?_|refine wL 7 rfl rfl (fun W hp=>hrow1.hp hp) rfl ?_|refine qL 0 rfl rfl (fun W hp=>hrow1.hp hp) rfl ?_|refine qL 1 rfl rfl (fun W hp=>hrow1.hp hp) rfl ?_|refine qL 2 rfl rfl (fun W hp=>hrow1.hp hp) rfl ?_|refine qL 3 rfl rfl (fun W hp=>hrow1.hp hp) rfl ?_|refine qL 4 rfl rfl (fun W hp=>hrow1.hp hp) rfl ?_|refine qL 5 rfl rfl (fun W hp=>hrow1.hp hp) rfl ?_|refine qL 6 rfl rfl (fun W hp=>hrow1.hp hp) rfl ?_|refine qL 7 rfl rfl (fun W hp=>hrow1.hp hp) rfl ?_)
  refine Bh (capt:=capt) I I I I I I hE (fun W1 hp=>hF l[i] (List.getElem_mem hlt) W1 hp.below) ?_
  refine Aa ?_
  repeat (first|refine zA ?_|refine zB ?_|refine zC ?_|refine zD ?_|refine zE ?_|refine zF ?_|refine zG ?_|refine zH ?_|refine zI ?_|refine zJ ?_|refine zK ?_|refine zL ?_|refine zM rfl ?_|refine zN ?_|refine zO ?_|refine zP ?_|refine zQ ?_|refine zR rfl ?_|refine zS rfl ?_|refine zU ?_)
  refine Aj I (fun hc=> ?_) (fun hc=> ?_)
  ·have hc:f l[i]=true:=hc
   repeat (first|refine zA ?_|refine zB ?_|refine zC ?_|refine zD ?_|refine zE ?_|refine zF ?_|refine zG ?_|refine zH ?_|refine zI ?_|refine zJ ?_|refine zK ?_|refine zL ?_|refine zM rfl ?_|refine zN ?_|refine zO ?_|refine zP ?_|refine zQ ?_|refine zR rfl ?_|refine zS rfl ?_|refine zU ?_)
   refine wP I (wP I (Aa ?_))
   repeat (first|refine zA ?_|refine zB ?_|refine zC ?_|refine zD ?_|refine zE ?_|refine zF ?_|refine zG ?_|refine zH ?_|refine zI ?_|refine zJ ?_|refine zK ?_|refine zL ?_|refine zM rfl ?_|refine zN ?_|refine zO ?_|refine zP ?_|refine zQ ?_|refine zR rfl ?_|refine zS rfl ?_|refine zU ?_)
   exact Ay tH I (.tmp I) ((i:Nat):Int) I ⟨fun _=>List.any_eq_true.2 ⟨l[i],List.getElem_mem hlt,hc⟩,fun _=>by omega⟩ fun W _=>As.nil _ _
  ·have hc:f l[i]=false:=hc
   repeat (first|refine zA ?_|refine zB ?_|refine zC ?_|refine zD ?_|refine zE ?_|refine zF ?_|refine zG ?_|refine zH ?_|refine zI ?_|refine zJ ?_|refine zK ?_|refine zL ?_|refine zM rfl ?_|refine zN ?_|refine zO ?_|refine zP ?_|refine zQ ?_|refine zR rfl ?_|refine zS rfl ?_|refine zU ?_)
   refine wP I (wV 18 ((i+1:Nat):Int) I (Ax (by omega)) (wP I (Aa ?_)))
   repeat (first|refine zA ?_|refine zB ?_|refine zC ?_|refine zD ?_|refine zE ?_|refine zF ?_|refine zG ?_|refine zH ?_|refine zI ?_|refine zJ ?_|refine zK ?_|refine zL ?_|refine zM rfl ?_|refine zN ?_|refine zO ?_|refine zP ?_|refine zQ ?_|refine zR rfl ?_|refine zS rfl ?_|refine zU ?_)
   refine Al (i+1) ⟨hlt,fun k hk h=> ?_⟩ (by show l.length-(i+1)<l.length-i;omega) ⟨I,I,I,I,tO⟩ [] I
   by_cases e:k=i
   ·subst e;exact hc
   ·exact hno k hk (by show k<i;omega)
 ·refine wU 9 false I (dF (by omega)) (Aa ?_)
  repeat (first|refine zA ?_|refine zB ?_|refine zC ?_|refine zD ?_|refine zE ?_|refine zF ?_|refine zG ?_|refine zH ?_|refine zI ?_|refine zJ ?_|refine zK ?_|refine zL ?_|refine zM rfl ?_|refine zN ?_|refine zO ?_|refine zP ?_|refine zQ ?_|refine zR rfl ?_|refine zS rfl ?_|refine zU ?_)
  refine wP I (Aa ?_)
  repeat (first|refine zA ?_|refine zB ?_|refine zC ?_|refine zD ?_|refine zE ?_|refine zF ?_|refine zG ?_|refine zH ?_|refine zI ?_|refine zJ ?_|refine zK ?_|refine zL ?_|refine zM rfl ?_|refine zN ?_|refine zO ?_|refine zP ?_|refine zQ ?_|refine zR rfl ?_|refine zS rfl ?_|refine zU ?_)
  refine Ay tH I (.tmp I) (-1:Int) I ⟨fun h=>absurd h (by decide),fun h=> ?_⟩ fun W _=>As.nil _ _
  obtain⟨t,ht,hft⟩:=List.any_eq_true.1 h
  obtain⟨k,hk,rfl⟩:=List.getElem_of_mem ht
  rw[hno k hk (by show k<i;omega)] at hft
  cases hft
theorem K8 (g:Nat) (capt:List Value) (hE:AN Tryz.prog g=true) (f:Rat→Bool) (l:List Rat) (W:World) (p:Option Addr) (cap:Nat) (hn:l.length<4611686018427387904) (hS:E8 W p (l.map Ac)) (hF:Uj g capt f l W):
  Ad Tryz.prog 153 #[slv p l.length cap, .func (.func g) #[] capt.toArray] W (fun _:Unit=> .bool (l.any f)) (fun _=>True) (fun _=>[]):=by
 refine Ab (args:=[slv p l.length cap, .func (.func g) #[] capt.toArray]) Tryz.func153 I I I ?_
 repeat (first|refine zA ?_|refine zB ?_|refine zC ?_|refine zD ?_|refine zE ?_|refine zF ?_|refine zG ?_|refine zH ?_|refine zI ?_|refine zJ ?_|refine zK ?_|refine zL ?_|refine zM rfl ?_|refine zN ?_|refine zO ?_|refine zP ?_|refine zQ ?_|refine zR rfl ?_|refine zS rfl ?_|refine zU ?_)
 refine wP I (Aa ?_)
 repeat (first|refine zA ?_|refine zB ?_|refine zC ?_|refine zD ?_|refine zE ?_|refine zF ?_|refine zG ?_|refine zH ?_|refine zI ?_|refine zJ ?_|refine zK ?_|refine zL ?_|refine zM rfl ?_|refine zN ?_|refine zO ?_|refine zP ?_|refine zQ ?_|refine zR rfl ?_|refine zS rfl ?_|refine zU ?_)
 refine wP I (wP I ?_)
 refine wD (X:=Int) I I (fun W hp=>OH g capt hE f l W p cap hn (hS.hp hp) (hF.below hp.below)) ?_
 intro k hk
 refine wP I ?_
 refine Ao 8 (.bool (l.any f)) I (congrArg Value.bool (by
  cases h:l.any f
  ·exact dF fun e=>by rw[hk.1 e] at h;cases h
  ·exact dT (hk.2 h))) ?_
 refine wP I (Aa ?_)
 repeat (first|refine zA ?_|refine zB ?_|refine zC ?_|refine zD ?_|refine zE ?_|refine zF ?_|refine zG ?_|refine zH ?_|refine zI ?_|refine zJ ?_|refine zK ?_|refine zL ?_|refine zM rfl ?_|refine zN ?_|refine zO ?_|refine zP ?_|refine zQ ?_|refine zR rfl ?_|refine zS rfl ?_|refine zU ?_)
 exact wR1 I I I
-- BOXES 4
def Hh (l:List Rat) (k:Nat):Rat:=(l.take k).foldl (fun s x=>s+x) 0
theorem TD {l:List Rat} {k:Nat} (hk:k<l.length):Hh l (k+1)=Hh l k+l[k]:=by
 rw[Hh,List.take_add_one,List.getElem?_eq_getElem hk,List.foldl_append];rfl
theorem WX (l:List Rat):Ac (Hh l 0)=[48]:=Cs
theorem RN (p:Option Addr) (n cap:Nat) (W:World):Ad Tryz.prog 266 #[slv p n cap] W (fun b:Nat=> .func (.func 315) #[] #[Af b]) (fun _=>True) (fun b=>[⟨b,63,[slv p n cap],true,none⟩]):=by
 refine Ab (args:=[slv p n cap]) Tryz.func266 I I I ?_
 repeat (first|refine zA ?_|refine zB ?_|refine zC ?_|refine zD ?_|refine zE ?_|refine zF ?_|refine zG ?_|refine zH ?_|refine zI ?_|refine zJ ?_|refine zK ?_|refine zL ?_|refine zM rfl ?_|refine zN ?_|refine zO ?_|refine zP ?_|refine zQ ?_|refine zR rfl ?_|refine zS rfl ?_|refine zU ?_)
 (refine Ak rfl rfl rfl rfl ?_;intro)
 refine wP I (Aa ?_)
 rename_i b1
 repeat (first|refine zA ?_|refine zB ?_|refine zC ?_|refine zD ?_|refine zE ?_|refine zF ?_|refine zG ?_|refine zH ?_|refine zI ?_|refine zJ ?_|refine zK ?_|refine zL ?_|refine zM rfl ?_|refine zN ?_|refine zO ?_|refine zP ?_|refine zQ ?_|refine zR rfl ?_|refine zS rfl ?_|refine zU ?_)
 refine wP I (wP I (Aa ?_))
 repeat (first|refine zA ?_|refine zB ?_|refine zC ?_|refine zD ?_|refine zE ?_|refine zF ?_|refine zG ?_|refine zH ?_|refine zI ?_|refine zJ ?_|refine zK ?_|refine zL ?_|refine zM rfl ?_|refine zN ?_|refine zO ?_|refine zP ?_|refine zQ ?_|refine zR rfl ?_|refine zS rfl ?_|refine zU ?_)
 exact Ay tH I (.tmp I) b1 I tO fun W hp=>As.of_hp hp
structure Yv (b:Nat) (p:Option Addr) (cap:Nat) (l:List Rat) (W:World):Prop where
 var:Ai W b 0 [slv p l.length cap]
 row:E8 W p (l.map Ac)
 v:AL W
 t:AA W
theorem SS (b:Nat) (p:Option Addr) (cap:Nat) (l:List Rat) (hn:l.length<4611686018427387904) (hz: ∀k (hk:k<l.length),Sz2 (Hh l k) l[k]):
  TU Tryz.prog 315 [Af b] l.length (fun k=>[str (Ac (Hh l (k+1))), .int .i64 0]) (fun _=>Yv b p cap l):=by
 refine⟨fun y J Jx hN hB hY W hJ=> ?_⟩
 have hG: ∀k,WU (J k):=fun k W W' h hb=>hB k W W' h hb
 refine C0 (args:=[.func (.yield y) #[] #[],Af b]) (J0:=J 0) Tryz.func315 I I I hJ ?_
 repeat (first|refine zA ?_|refine zB ?_|refine zC ?_|refine zD ?_|refine zE ?_|refine zF ?_|refine zG ?_|refine zH ?_|refine zI ?_|refine zJ ?_|refine zK ?_|refine zL ?_|refine zM rfl ?_|refine zN ?_|refine zO ?_|refine zP ?_|refine zQ ?_|refine zR rfl ?_|refine zS rfl ?_|refine zU ?_)
 refine wP I (Aa ?_)
 repeat (first|refine zA ?_|refine zB ?_|refine zC ?_|refine zD ?_|refine zE ?_|refine zF ?_|refine zG ?_|refine zH ?_|refine zI ?_|refine zJ ?_|refine zK ?_|refine zL ?_|refine zM rfl ?_|refine zN ?_|refine zO ?_|refine zP ?_|refine zQ ?_|refine zR rfl ?_|refine zS rfl ?_|refine zU ?_)
 (first|refine wL 0 rfl rfl (fun W hp=>(hN 0 W hp).var) rfl ?_|refine wL 1 rfl rfl (fun W hp=>(hN 0 W hp).var) rfl ?_|refine wL 2 rfl rfl (fun W hp=>(hN 0 W hp).var) rfl ?_|refine wL 3 rfl rfl (fun W hp=>(hN 0 W hp).var) rfl ?_|refine wL 4 rfl rfl (fun W hp=>(hN 0 W hp).var) rfl ?_|refine wL 5 rfl rfl (fun W hp=>(hN 0 W hp).var) rfl ?_|refine wL 6 rfl rfl (fun W hp=>(hN 0 W hp).var) rfl ?_|refine wL 7 rfl rfl (fun W hp=>(hN 0 W hp).var) rfl ?_|refine qL 0 rfl rfl (fun W hp=>(hN 0 W hp).var) rfl ?_|refine qL 1 rfl rfl (fun W hp=>(hN 0 W hp).var) rfl ?_|refine qL 2 rfl rfl (fun W hp=>(hN 0 W hp).var) rfl ?_|refine qL 3 rfl rfl (fun W hp=>(hN 0 W hp).var) rfl ?_|refine qL 4 rfl rfl (fun W hp=>(hN 0 W hp).var) rfl ?_|refine qL 5 rfl rfl (fun W hp=>(hN 0 W hp).var) rfl ?_|refine qL 6 rfl rfl (fun W hp=>(hN 0 W hp).var) rfl ?_|refine qL 7 rfl rfl (fun W hp=>(hN 0 W hp).var) rfl ?_)
 refine wP I (wP I (Aa ?_))
 repeat (first|refine zA ?_|refine zB ?_|refine zC ?_|refine zD ?_|refine zE ?_|refine zF ?_|refine zG ?_|refine zH ?_|refine zI ?_|refine zJ ?_|refine zK ?_|refine zL ?_|refine zM rfl ?_|refine zN ?_|refine zO ?_|refine zP ?_|refine zQ ?_|refine zR rfl ?_|refine zS rfl ?_|refine zU ?_)
 refine C7 (X:=Nat) (fun k=>[(0, .func (.yield y) #[] #[]),(3,str (Ac (Hh l k))),(7,slv p l.length cap),(8, .int .i64 (l.length:Nat)),(9, .int .i64 (k:Nat))]) J (fun k=>k≤l.length) (fun k=>l.length-k) 0 (Nat.zero_le _) ⟨I,(by show some (str [48])=some (str (Ac (Hh l 0)));rw[WX]),I,I,I,tO⟩ (fun W h=>h) ?_
 intro k hk
 have hk:k≤l.length:=hk
 repeat (first|refine zA ?_|refine zB ?_|refine zC ?_|refine zD ?_|refine zE ?_|refine zF ?_|refine zG ?_|refine zH ?_|refine zI ?_|refine zJ ?_|refine zK ?_|refine zL ?_|refine zM rfl ?_|refine zN ?_|refine zO ?_|refine zP ?_|refine zQ ?_|refine zR rfl ?_|refine zS rfl ?_|refine zU ?_)
 refine wP I ?_
 by_cases hlt:k<l.length
 ·refine wU 10 true I (dT (by omega)) (Aa ?_)
  repeat (first|refine zA ?_|refine zB ?_|refine zC ?_|refine zD ?_|refine zE ?_|refine zF ?_|refine zG ?_|refine zH ?_|refine zI ?_|refine zJ ?_|refine zK ?_|refine zL ?_|refine zM rfl ?_|refine zN ?_|refine zO ?_|refine zP ?_|refine zQ ?_|refine zR rfl ?_|refine zS rfl ?_|refine zU ?_)
  obtain⟨g,off,rfl,hrow⟩: ∃g off,p=some ⟨g,off,none⟩∧ ∀W,J k W→Ai W g (off+k*1) [str (Ac l[k])]:=by
   obtain⟨g,off,e,_⟩:=(hN 0 W hJ).row.row (i:=k) (by rw[List.length_map];exact hlt)
   refine⟨g,off,e,fun W hW=> ?_⟩
   obtain⟨g',off',e',h⟩:=(hN k W hW).row.row (i:=k) (by rw[List.length_map];exact hlt)
   rw[e] at e'
   cases e'
   have:=h k (by rw[List.length_map];exact hlt)
   rwa [List.getElem_map] at this
  (first|refine wJ ?_|refine qJ ?_)
  (first|refine wL 0 rfl rfl (fun W hp=>hrow W hp) rfl ?_|refine wL 1 rfl rfl (fun W hp=>hrow W hp) rfl ?_|refine wL 2 rfl rfl (fun W hp=>hrow W hp) rfl ?_|refine wL 3 rfl rfl (fun W hp=>hrow W hp) rfl ?_|refine wL 4 rfl rfl (fun W hp=>hrow W hp) rfl ?_|refine wL 5 rfl rfl (fun W hp=>hrow W hp) rfl ?_|refine wL 6 rfl rfl (fun W hp=>hrow W hp) rfl ?_|refine wL 7 rfl rfl (fun W hp=>hrow W hp) rfl ?_|refine qL 0 rfl rfl (fun W hp=>hrow W hp) rfl ?_|refine qL 1 rfl rfl (fun W hp=>hrow W hp) rfl ?_|refine qL 2 rfl rfl (fun W hp=>hrow W hp) rfl ?_|refine qL 3 rfl rfl (fun W hp=>hrow W hp) rfl ?_|refine qL 4 rfl rfl (fun W hp=>hrow W hp) rfl ?_|refine qL 5 rfl rfl (fun W hp=>hrow W hp) rfl ?_|refine qL 6 rfl rfl (fun W hp=>hrow W hp) rfl ?_|refine qL 7 rfl rfl (fun W hp=>hrow W hp) rfl ?_)
  refine wP I (Aa ?_)
  repeat (first|refine zA ?_|refine zB ?_|refine zC ?_|refine zD ?_|refine zE ?_|refine zF ?_|refine zG ?_|refine zH ?_|refine zI ?_|refine zJ ?_|refine zK ?_|refine zL ?_|refine zM rfl ?_|refine zN ?_|refine zO ?_|refine zP ?_|refine zQ ?_|refine zR rfl ?_|refine zS rfl ?_|refine zU ?_)
  refine wP I (Aa ?_)
  repeat (first|refine zA ?_|refine zB ?_|refine zC ?_|refine zD ?_|refine zE ?_|refine zF ?_|refine zG ?_|refine zH ?_|refine zI ?_|refine zJ ?_|refine zK ?_|refine zL ?_|refine zM rfl ?_|refine zN ?_|refine zO ?_|refine zP ?_|refine zQ ?_|refine zR rfl ?_|refine zS rfl ?_|refine zU ?_)
  refine wP I (wP I ?_)
  refine Vi (hG k) I I I I I I (by kernel_rfl) (fun W hp=>(CN (Hh l k) l[k] (hz k hlt) W (hN k W hp).v (hN k W hp).t).cast (by rw[←TD hlt])) ?_
  iterate 5 refine wP I ?_
  refine Aa ?_
  repeat (first|refine zA ?_|refine zB ?_|refine zC ?_|refine zD ?_|refine zE ?_|refine zF ?_|refine zG ?_|refine zH ?_|refine zI ?_|refine zJ ?_|refine zK ?_|refine zL ?_|refine zM rfl ?_|refine zN ?_|refine zO ?_|refine zP ?_|refine zQ ?_|refine zR rfl ?_|refine zS rfl ?_|refine zU ?_)
  refine wP I (wP I (wP I ?_))
  refine DK (A1:=J (k+1)) (A2:=Jx) I I I I I I (fun W hp=>hY k W hlt hp) ?_ ?_
  ·refine wP I (wP I ?_)
   (first|refine wP rfl ?_|refine Ah rfl rfl ?_)
   (first|refine wP rfl ?_|refine Ah rfl rfl ?_)
   refine wP I (Aa ?_)
   repeat (first|refine zA ?_|refine zB ?_|refine zC ?_|refine zD ?_|refine zE ?_|refine zF ?_|refine zG ?_|refine zH ?_|refine zI ?_|refine zJ ?_|refine zK ?_|refine zL ?_|refine zM rfl ?_|refine zN ?_|refine zO ?_|refine zP ?_|refine zQ ?_|refine zR rfl ?_|refine zS rfl ?_|refine zU ?_)
   refine wP I (wV 28 ((k+1:Nat):Int) I (Ax (by omega)) (wP I (Aa ?_)))
   repeat (first|refine zA ?_|refine zB ?_|refine zC ?_|refine zD ?_|refine zE ?_|refine zF ?_|refine zG ?_|refine zH ?_|refine zI ?_|refine zJ ?_|refine zK ?_|refine zL ?_|refine zM rfl ?_|refine zN ?_|refine zO ?_|refine zP ?_|refine zQ ?_|refine zR rfl ?_|refine zS rfl ?_|refine zU ?_)
   exact CA (k+1) hlt (by omega) ⟨I,I,I,I,I,tO⟩ (fun W h=>h)
  ·repeat (first|refine wP rfl ?_|refine wB 0 rfl rfl rfl ?_|refine wB 1 rfl rfl rfl ?_|refine wB 2 rfl rfl rfl ?_|refine wB 3 rfl rfl rfl ?_|refine Ah rfl rfl ?_|refine qP rfl ?_|refine qB 0 rfl rfl rfl ?_|refine qB 1 rfl rfl rfl ?_|refine qB 2 rfl rfl rfl ?_|refine qB 3 rfl rfl rfl ?_|refine EL rfl rfl ?_|refine Au Tryz.hZ tH rfl rfl rfl rfl rfl rfl rfl rfl ?_|refine JT Tryz.hZ tH rfl rfl rfl rfl rfl rfl rfl rfl ?_|refine zA ?_|refine zB ?_|refine zC ?_|refine zD ?_|refine zE ?_|refine zF ?_|refine zG ?_|refine zH ?_|refine zI ?_|refine zJ ?_|refine zK ?_|refine zL ?_|refine zM rfl ?_|refine zN ?_|refine zO ?_|refine zP ?_|refine zQ ?_|refine zR rfl ?_|refine zS rfl ?_|refine zU ?_|(refine Ak rfl rfl rfl rfl ?_;intro)|(refine Ae Tryz.hZ rfl rfl rfl rfl ?_;intro)|(refine At Tryz.hZ tH rfl rfl rfl rfl rfl rfl rfl rfl rfl rfl rfl ?_;intro)|refine wS 0 rfl rfl rfl ?_|refine wS 1 rfl rfl rfl ?_|refine wS 2 rfl rfl rfl ?_|refine wS 3 rfl rfl rfl ?_)
   exact BI I (fun W h=>h)
 ·have e:k=l.length:=by omega
  subst e
  refine wU 10 false I (dF (by omega)) (Aa ?_)
  repeat (first|refine zA ?_|refine zB ?_|refine zC ?_|refine zD ?_|refine zE ?_|refine zF ?_|refine zG ?_|refine zH ?_|refine zI ?_|refine zJ ?_|refine zK ?_|refine zL ?_|refine zM rfl ?_|refine zN ?_|refine zO ?_|refine zP ?_|refine zQ ?_|refine zR rfl ?_|refine zS rfl ?_|refine zU ?_)
  exact EA I fun W h=>h
theorem Rd (l:List Rat) (p:Option Addr) (cap:Nat) (hn:l.length≤4096) (hk: ∀q∈l,okQ q) (hz: ∀k (hk:k<l.length),Sz2 (Hh l k) l[k]) (W:World) (hS:E8 W p (l.map Ac)) (hv:AL W) (ht:AA W):
  Ad Tryz.prog 224 #[slv p l.length cap] W (fun _:Unit=> .tuple #[str (Ac (Hh l l.length)), .int .i64 0]) (fun _=>True) (fun _=>[]):=by
 refine Ab (args:=[slv p l.length cap]) Tryz.func224 I I I ?_
 repeat (first|refine zA ?_|refine zB ?_|refine zC ?_|refine zD ?_|refine zE ?_|refine zF ?_|refine zG ?_|refine zH ?_|refine zI ?_|refine zJ ?_|refine zK ?_|refine zL ?_|refine zM rfl ?_|refine zN ?_|refine zO ?_|refine zP ?_|refine zQ ?_|refine zR rfl ?_|refine zS rfl ?_|refine zU ?_)
 (refine Ae Tryz.hZ rfl rfl rfl rfl ?_;intro)
 (refine Ae Tryz.hZ rfl rfl rfl rfl ?_;intro)
 refine Aa ?_
 rename_i b2 b3
 repeat (first|refine zA ?_|refine zB ?_|refine zC ?_|refine zD ?_|refine zE ?_|refine zF ?_|refine zG ?_|refine zH ?_|refine zI ?_|refine zJ ?_|refine zK ?_|refine zL ?_|refine zM rfl ?_|refine zN ?_|refine zO ?_|refine zP ?_|refine zQ ?_|refine zR rfl ?_|refine zS rfl ?_|refine zU ?_)
 refine wP I (wP I (wP I (wU 12 false I (dF (by omega)) (Aa ?_))))
 repeat (first|refine zA ?_|refine zB ?_|refine zC ?_|refine zD ?_|refine zE ?_|refine zF ?_|refine zG ?_|refine zH ?_|refine zI ?_|refine zJ ?_|refine zK ?_|refine zL ?_|refine zM rfl ?_|refine zN ?_|refine zO ?_|refine zP ?_|refine zQ ?_|refine zR rfl ?_|refine zS rfl ?_|refine zU ?_)
 refine wP I (wP I (wP I (Aa ?_)))
 repeat (first|refine zA ?_|refine zB ?_|refine zC ?_|refine zD ?_|refine zE ?_|refine zF ?_|refine zG ?_|refine zH ?_|refine zI ?_|refine zJ ?_|refine zK ?_|refine zL ?_|refine zM rfl ?_|refine zN ?_|refine zO ?_|refine zP ?_|refine zQ ?_|refine zR rfl ?_|refine zS rfl ?_|refine zU ?_)
 refine Aw (X:=Nat) (fun i=>[(0,slv p l.length cap),(2,Af b2),(3,Af b3),(13,slv p l.length cap),(14, .int .i64 (l.length:Nat)),(15, .int .i64 (i:Nat))]) (fun _=>[⟨b2,25,[str []],true,none⟩,⟨b3,28,[.int .i64 0],true,none⟩]) (fun i=>i≤l.length) (fun i=>l.length-i) 0 (Nat.zero_le _) ⟨I,I,I,I,I,I,tO⟩ [] I ?_
 intro i hi
 have hi:i≤l.length:=hi
 repeat (first|refine zA ?_|refine zB ?_|refine zC ?_|refine zD ?_|refine zE ?_|refine zF ?_|refine zG ?_|refine zH ?_|refine zI ?_|refine zJ ?_|refine zK ?_|refine zL ?_|refine zM rfl ?_|refine zN ?_|refine zO ?_|refine zP ?_|refine zQ ?_|refine zR rfl ?_|refine zS rfl ?_|refine zU ?_)
 refine wP I ?_
 by_cases hlt:i<l.length
 ·refine wU 16 true I (dT (by omega)) (Aa ?_)
  repeat (first|refine zA ?_|refine zB ?_|refine zC ?_|refine zD ?_|refine zE ?_|refine zF ?_|refine zG ?_|refine zH ?_|refine zI ?_|refine zJ ?_|refine zK ?_|refine zL ?_|refine zM rfl ?_|refine zN ?_|refine zO ?_|refine zP ?_|refine zQ ?_|refine zR rfl ?_|refine zS rfl ?_|refine zU ?_)
  obtain⟨g,off,rfl,hrow⟩:=hS.row (i:=i) (by rw[List.length_map];exact hlt)
  have hrow1:Ai W g (off+i*1) [str (Ac l[i])]:=by have:=hrow i (by rw[List.length_map];exact hlt);rwa [List.getElem_map] at this
  have ho:=hk l[i] (List.getElem_mem hlt)
  have hle:=AQ ho
  (first|refine wJ ?_|refine qJ ?_)
  (first|refine wL 0 rfl rfl (fun W hp=>hrow1.hp hp) rfl ?_|refine wL 1 rfl rfl (fun W hp=>hrow1.hp hp) rfl ?_|refine wL 2 rfl rfl (fun W hp=>hrow1.hp hp) rfl ?_|refine wL 3 rfl rfl (fun W hp=>hrow1.hp hp) rfl ?_|refine wL 4 rfl rfl (fun W hp=>hrow1.hp hp) rfl ?_|refine wL 5 rfl rfl (fun W hp=>hrow1.hp hp) rfl ?_|refine wL 6 rfl rfl (fun W hp=>hrow1.hp hp) rfl ?_|refine wL 7 rfl rfl (fun W hp=>hrow1.hp hp) rfl ?_|refine qL 0 rfl rfl (fun W hp=>hrow1.hp hp) rfl ?_|refine qL 1 rfl rfl (fun W hp=>hrow1.hp hp) rfl ?_|refine qL 2 rfl rfl (fun W hp=>hrow1.hp hp) rfl ?_|refine qL 3 rfl rfl (fun W hp=>hrow1.hp hp) rfl ?_|refine qL 4 rfl rfl (fun W hp=>hrow1.hp hp) rfl ?_|refine qL 5 rfl rfl (fun W hp=>hrow1.hp hp) rfl ?_|refine qL 6 rfl rfl (fun W hp=>hrow1.hp hp) rfl ?_|refine qL 7 rfl rfl (fun W hp=>hrow1.hp hp) rfl ?_)
  refine wP I (Aa ?_)
  repeat (first|refine zA ?_|refine zB ?_|refine zC ?_|refine zD ?_|refine zE ?_|refine zF ?_|refine zG ?_|refine zH ?_|refine zI ?_|refine zJ ?_|refine zK ?_|refine zL ?_|refine zM rfl ?_|refine zN ?_|refine zO ?_|refine zP ?_|refine zQ ?_|refine zR rfl ?_|refine zS rfl ?_|refine zU ?_)
  refine wP I (wC I I (fun W hp=>(B0 (Ac l[i]) (by omega) W (hv.hp hp) (ht.hp hp)).cast (by rw[C3 ho])) (wP I (Aa ?_)))
  repeat (first|refine zA ?_|refine zB ?_|refine zC ?_|refine zD ?_|refine zE ?_|refine zF ?_|refine zG ?_|refine zH ?_|refine zI ?_|refine zJ ?_|refine zK ?_|refine zL ?_|refine zM rfl ?_|refine zN ?_|refine zO ?_|refine zP ?_|refine zQ ?_|refine zR rfl ?_|refine zS rfl ?_|refine zU ?_)
  refine wP I (wP I (Aa ?_))
  repeat (first|refine zA ?_|refine zB ?_|refine zC ?_|refine zD ?_|refine zE ?_|refine zF ?_|refine zG ?_|refine zH ?_|refine zI ?_|refine zJ ?_|refine zK ?_|refine zL ?_|refine zM rfl ?_|refine zN ?_|refine zO ?_|refine zP ?_|refine zQ ?_|refine zR rfl ?_|refine zS rfl ?_|refine zU ?_)
  refine wP I (wV 24 ((i+1:Nat):Int) I (Ax (by omega)) (wP I (Aa ?_)))
  repeat (first|refine zA ?_|refine zB ?_|refine zC ?_|refine zD ?_|refine zE ?_|refine zF ?_|refine zG ?_|refine zH ?_|refine zI ?_|refine zJ ?_|refine zK ?_|refine zL ?_|refine zM rfl ?_|refine zN ?_|refine zO ?_|refine zP ?_|refine zQ ?_|refine zR rfl ?_|refine zS rfl ?_|refine zU ?_)
  exact Al (i+1) hlt (by show l.length-(i+1)<l.length-i;omega) ⟨I,I,I,I,I,I,tO⟩ [] I
 ·refine wU 16 false I (dF (by omega)) (Aa ?_)
  repeat (first|refine zA ?_|refine zB ?_|refine zC ?_|refine zD ?_|refine zE ?_|refine zF ?_|refine zG ?_|refine zH ?_|refine zI ?_|refine zJ ?_|refine zK ?_|refine zL ?_|refine zM rfl ?_|refine zN ?_|refine zO ?_|refine zP ?_|refine zQ ?_|refine zR rfl ?_|refine zS rfl ?_|refine zU ?_)
  (refine Ae Tryz.hZ rfl rfl rfl rfl ?_;intro)
  (first|refine wS 0 rfl rfl rfl ?_|refine wS 1 rfl rfl rfl ?_|refine wS 2 rfl rfl rfl ?_|refine wS 3 rfl rfl rfl ?_)
  refine Aa ?_
  rename_i b7
  repeat (first|refine zA ?_|refine zB ?_|refine zC ?_|refine zD ?_|refine zE ?_|refine zF ?_|refine zG ?_|refine zH ?_|refine zI ?_|refine zJ ?_|refine zK ?_|refine zL ?_|refine zM rfl ?_|refine zN ?_|refine zO ?_|refine zP ?_|refine zQ ?_|refine zR rfl ?_|refine zS rfl ?_|refine zU ?_)
  refine wP I ?_
  refine wD (X:=Nat) I I (fun W _=>RN p l.length cap W) ?_
  intro bS _
  refine Aa ?_
  repeat (first|refine zA ?_|refine zB ?_|refine zC ?_|refine zD ?_|refine zE ?_|refine zF ?_|refine zG ?_|refine zH ?_|refine zI ?_|refine zJ ?_|refine zK ?_|refine zL ?_|refine zM rfl ?_|refine zN ?_|refine zO ?_|refine zP ?_|refine zQ ?_|refine zR rfl ?_|refine zS rfl ?_|refine zU ?_)
  refine Nu (X:=Nat) (fun k=>[⟨b2,25,[str []],true,none⟩,⟨b3,28,[.int .i64 0],true,none⟩,⟨b7,25,[str (Ac (Hh l k))],true,none⟩,⟨bS,63,[slv p l.length cap],true,none⟩])
   (fun j x=>x=j) (fun _ _=>False) 0 rfl (by kernel_rfl) (SS bS p cap l (by omega) hz) (fun _=>rfl) rfl [] (by show _=[(⟨b2,25,[str []],true,none⟩:Bx),⟨b3,28,[.int .i64 0],true,none⟩,⟨b7,25,[str (Ac (Hh l 0))],true,none⟩,⟨bS,63,[slv p l.length cap],true,none⟩]++[];rw[WX];rfl)
   (fun k x W _ hp=>⟨Ai.of_bx hp 3 rfl rfl,hS.hp hp,hv.hp hp,ht.hp hp⟩) ?_ ?_ (fun _ _ _ _ _ h=>h.elim)
  ·intro k x d L rec hk hx hrec
   obtain rfl:x=k:=hx
   repeat (first|refine zA ?_|refine zB ?_|refine zC ?_|refine zD ?_|refine zE ?_|refine zF ?_|refine zG ?_|refine zH ?_|refine zI ?_|refine zJ ?_|refine zK ?_|refine zL ?_|refine zM rfl ?_|refine zN ?_|refine zO ?_|refine zP ?_|refine zQ ?_|refine zR rfl ?_|refine zS rfl ?_|refine zU ?_)
   refine wP I (Aa ?_)
   repeat (first|refine zA ?_|refine zB ?_|refine zC ?_|refine zD ?_|refine zE ?_|refine zF ?_|refine zG ?_|refine zH ?_|refine zI ?_|refine zJ ?_|refine zK ?_|refine zL ?_|refine zM rfl ?_|refine zN ?_|refine zO ?_|refine zP ?_|refine zQ ?_|refine zR rfl ?_|refine zS rfl ?_|refine zU ?_)
   refine wP I (Aa ?_)
   refine B4 5 hrec I ?_
   refine B6 ?_
   repeat (first|refine zA ?_|refine zB ?_|refine zC ?_|refine zD ?_|refine zE ?_|refine zF ?_|refine zG ?_|refine zH ?_|refine zI ?_|refine zJ ?_|refine zK ?_|refine zL ?_|refine zM rfl ?_|refine zN ?_|refine zO ?_|refine zP ?_|refine zQ ?_|refine zR rfl ?_|refine zS rfl ?_|refine zU ?_)
   refine wP I (wP I (Aa ?_))
   repeat (first|refine zA ?_|refine zB ?_|refine zC ?_|refine zD ?_|refine zE ?_|refine zF ?_|refine zG ?_|refine zH ?_|refine zI ?_|refine zJ ?_|refine zK ?_|refine zL ?_|refine zM rfl ?_|refine zN ?_|refine zO ?_|refine zP ?_|refine zQ ?_|refine zR rfl ?_|refine zS rfl ?_|refine zU ?_)
   refine wP I ?_
   (first|refine wS 0 rfl rfl rfl ?_|refine wS 1 rfl rfl rfl ?_|refine wS 2 rfl rfl rfl ?_|refine wS 3 rfl rfl rfl ?_)
   refine Aa ?_
   repeat (first|refine zA ?_|refine zB ?_|refine zC ?_|refine zD ?_|refine zE ?_|refine zF ?_|refine zG ?_|refine zH ?_|refine zI ?_|refine zJ ?_|refine zK ?_|refine zL ?_|refine zM rfl ?_|refine zN ?_|refine zO ?_|refine zP ?_|refine zQ ?_|refine zR rfl ?_|refine zS rfl ?_|refine zU ?_)
   exact Bg 5 (x+1) hrec I I [] I
  ·intro x d L rec hx
   obtain rfl:x=l.length:=hx
   repeat (first|refine zA ?_|refine zB ?_|refine zC ?_|refine zD ?_|refine zE ?_|refine zF ?_|refine zG ?_|refine zH ?_|refine zI ?_|refine zJ ?_|refine zK ?_|refine zL ?_|refine zM rfl ?_|refine zN ?_|refine zO ?_|refine zP ?_|refine zQ ?_|refine zR rfl ?_|refine zS rfl ?_|refine zU ?_)
   (first|refine wB 0 rfl rfl rfl ?_|refine wB 1 rfl rfl rfl ?_|refine wB 2 rfl rfl rfl ?_|refine wB 3 rfl rfl rfl ?_)
   (first|refine wS 0 rfl rfl rfl ?_|refine wS 1 rfl rfl rfl ?_|refine wS 2 rfl rfl rfl ?_|refine wS 3 rfl rfl rfl ?_)
   (first|refine wS 0 rfl rfl rfl ?_|refine wS 1 rfl rfl rfl ?_|refine wS 2 rfl rfl rfl ?_|refine wS 3 rfl rfl rfl ?_)
   refine Aa ?_
   repeat (first|refine zA ?_|refine zB ?_|refine zC ?_|refine zD ?_|refine zE ?_|refine zF ?_|refine zG ?_|refine zH ?_|refine zI ?_|refine zJ ?_|refine zK ?_|refine zL ?_|refine zM rfl ?_|refine zN ?_|refine zO ?_|refine zP ?_|refine zQ ?_|refine zR rfl ?_|refine zS rfl ?_|refine zU ?_)
   refine BK 4 I ?_
   exact A9 tH I (.cell 0 I I I I I) (.cell 1 I I I I I) () I tO fun W _=>As.nil _ _
-- BOXES 5
section
variable {r:Option Nat} {n:Nat} {P:Program} {W0:World} {N:Nat} {D:List Deferred} {ops:List Oper} {Q:Exit→Act→World→Prop} {o:Oper} {rest:List Oper} {env:Env} {bxs:List Bx} {A:World→Prop}
theorem Gf {d:Nat} {t e:TypeId} {x y:Operand} {m:Nat} {cs:Array Value} {k:IntKind} {i:Int} {v:Value} (ht:P.underlying t=some (.array m e)) (he: ∀W,(isAgg e).run P W= .ok false W) (hz: ∀W,(Go.sizeOf e).run P W= .ok 1 W)
  (hg:A0 ops N env o=some true) (hd:o.dst=some d) (ho:o.op= .index t x y) (hx:evO N env x=some (.agg cs)) (hy:evO N env y=some (.int k i)) (h0:0≤i∧i<m) (hv:cs[i.toNat]? =some v)
  (h:WL r n P N D ops Q rest ((d,v)::env) A):WL r n P N D ops Q (o::rest) env A:=
 Cu hg hd (fun c e=>by rw[ho] at e;cases e) (fun _ W hρ _=>by
  simp[execOp,ho,hρ _ _ hx,hρ _ _ hy,Instr.index,asIntOf,run_underlying ht,h0,hz,part,he,hv]) h
theorem EO {d:Nat} {t e:TypeId} {m:Nat} {parts:Array (Nat×Operand)} {vs:List (Nat×Value)} (z:Value) {c:List Value} (ht:P.underlying t=some (.array m e)) (hz: ∀W,(zeroValue t).run P W= .ok z W) (hs: ∀W,(Go.sizeOf e).run P W= .ok 1 W)
  (hg:A0 ops N env o=some true) (hd:o.dst=some d) (ho:o.op= .build t parts) (hp:Dr (evO N env) parts.toList=some vs) (hc:Fz (Ir 1) z.cells.toList vs=some c)
  (h:WL r n P N D ops Q rest ((d, .agg c.toArray)::env) A):WL r n P N D ops Q (o::rest) env A:=
 Cu hg hd (fun c e=>by rw[ho] at e;cases e) (fun ρ W hρ _=>by
  have hparts:(parts.map fun(i,x)=>(i,ρ x)).toList=vs:=by rw[←D6 hρ hp];simp
  have hfill:=I8 hc
  simp only[Array.toArray_toList] at hfill
  have hfill':Instr.fill (fun i=>some (i*1,1)) z.cells (parts.map fun(i,x)=>(i,ρ x)).toList=some c.toArray:=by rw[hparts];exact hfill
  simp only[execOp,ho,Instr.build,Sem.run_bind,hz,Result.andThen_ok,run_underlying ht,hs,Sem.run_pure]
  rw[hfill']
  simp) h
end
theorem EG (q:Rat) (h:szQ q 36) (W:World) (hv:AL W) (ht:AA W):
  Ad Tryz.prog 152 #[str (Ac q)] W (fun _:Unit=> .int .i64 0) (fun _=>True) (fun _=>[]):=by
 have hk:=h.ok (by decide)
 have l1:=CM 36 q.num.natAbs (by decide) h.1
 have l2:=CM 36 q.den (by decide) h.2
 refine Ab (args:=[str (Ac q)]) Tryz.func152 I I I ?_
 repeat (first|refine zA ?_|refine zB ?_|refine zC ?_|refine zD ?_|refine zE ?_|refine zF ?_|refine zG ?_|refine zH ?_|refine zI ?_|refine zJ ?_|refine zK ?_|refine zL ?_|refine zM rfl ?_|refine zN ?_|refine zO ?_|refine zP ?_|refine zQ ?_|refine zR rfl ?_|refine zS rfl ?_|refine zU ?_)
 refine wP I (Aa ?_)
 repeat (first|refine zA ?_|refine zB ?_|refine zC ?_|refine zD ?_|refine zE ?_|refine zF ?_|refine zG ?_|refine zH ?_|refine zI ?_|refine zJ ?_|refine zK ?_|refine zL ?_|refine zM rfl ?_|refine zN ?_|refine zO ?_|refine zP ?_|refine zQ ?_|refine zR rfl ?_|refine zS rfl ?_|refine zU ?_)
 refine wP I (wC I I (fun W hp=>E9 q hk W (hv.hp hp) (ht.hp hp)) ?_)
 iterate 7 refine wP I ?_
 refine Aa ?_
 repeat (first|refine zA ?_|refine zB ?_|refine zC ?_|refine zD ?_|refine zE ?_|refine zF ?_|refine zG ?_|refine zH ?_|refine zI ?_|refine zJ ?_|refine zK ?_|refine zL ?_|refine zM rfl ?_|refine zN ?_|refine zO ?_|refine zP ?_|refine zQ ?_|refine zR rfl ?_|refine zS rfl ?_|refine zU ?_)
 refine wP I (wP I (Aa ?_))
 repeat (first|refine zA ?_|refine zB ?_|refine zC ?_|refine zD ?_|refine zE ?_|refine zF ?_|refine zG ?_|refine zH ?_|refine zI ?_|refine zJ ?_|refine zK ?_|refine zL ?_|refine zM rfl ?_|refine zN ?_|refine zO ?_|refine zP ?_|refine zQ ?_|refine zR rfl ?_|refine zS rfl ?_|refine zU ?_)
 refine wP I (wC I I (fun W _=>(B8 (itoa q.num) [45] W).cast (by rw[AU])) (wP I ?_))
 refine Ao 17 (.int .i64 ((decDigits q.num.natAbs).length:Nat)) I (congrArg (fun n:Nat=>Value.int .i64 (n:Int)) (A5 _)) ?_
 refine wP I (wP I ?_)
 refine Ao 19 (.int .i64 ((decDigits q.den).length:Nat)) I (congrArg (fun n:Nat=>Value.int .i64 (n:Int)) ((A5 _).trans (by rw[GZ]))) ?_
 refine wP I (wP I ?_)
 refine Ao 21 (.bool false) I (congrArg Value.bool (dF (by
  show¬((if _>_ then _ else _)>_)
  split<;>omega))) ?_
 refine Aa ?_
 repeat (first|refine zA ?_|refine zB ?_|refine zC ?_|refine zD ?_|refine zE ?_|refine zF ?_|refine zG ?_|refine zH ?_|refine zI ?_|refine zJ ?_|refine zK ?_|refine zL ?_|refine zM rfl ?_|refine zN ?_|refine zO ?_|refine zP ?_|refine zQ ?_|refine zR rfl ?_|refine zS rfl ?_|refine zU ?_)
 refine wP I (Aa ?_)
 repeat (first|refine zA ?_|refine zB ?_|refine zC ?_|refine zD ?_|refine zE ?_|refine zF ?_|refine zG ?_|refine zH ?_|refine zI ?_|refine zJ ?_|refine zK ?_|refine zL ?_|refine zM rfl ?_|refine zN ?_|refine zO ?_|refine zP ?_|refine zQ ?_|refine zR rfl ?_|refine zS rfl ?_|refine zU ?_)
 exact wR1 I I I
theorem M5 (q:Rat) (h:szQ q 36) (W:World) (hv:AL W) (ht:AA W):
  Ad Tryz.prog 154 #[str (Ac q)] W (fun _:Unit=> .bool false) (fun _=>True) (fun _=>[]):=by
 refine Ab (args:=[str (Ac q)]) Tryz.func154 I I I ?_
 repeat (first|refine zA ?_|refine zB ?_|refine zC ?_|refine zD ?_|refine zE ?_|refine zF ?_|refine zG ?_|refine zH ?_|refine zI ?_|refine zJ ?_|refine zK ?_|refine zL ?_|refine zM rfl ?_|refine zN ?_|refine zO ?_|refine zP ?_|refine zQ ?_|refine zR rfl ?_|refine zS rfl ?_|refine zU ?_)
 refine wP I (Aa ?_)
 repeat (first|refine zA ?_|refine zB ?_|refine zC ?_|refine zD ?_|refine zE ?_|refine zF ?_|refine zG ?_|refine zH ?_|refine zI ?_|refine zJ ?_|refine zK ?_|refine zL ?_|refine zM rfl ?_|refine zN ?_|refine zO ?_|refine zP ?_|refine zQ ?_|refine zR rfl ?_|refine zS rfl ?_|refine zU ?_)
 refine wP I (wC I I (fun W hp=>EG q h W (hv.hp hp) (ht.hp hp)) (wP I (wP I (Aa ?_))))
 repeat (first|refine zA ?_|refine zB ?_|refine zC ?_|refine zD ?_|refine zE ?_|refine zF ?_|refine zG ?_|refine zH ?_|refine zI ?_|refine zJ ?_|refine zK ?_|refine zL ?_|refine zM rfl ?_|refine zN ?_|refine zO ?_|refine zP ?_|refine zQ ?_|refine zR rfl ?_|refine zS rfl ?_|refine zU ?_)
 exact wR1 I I I
theorem NO (x y:Rat) (hx:szQ x 36) (hy:szQ y 36) (b:Nat) (W:World) (hr:Ai W b 0 [str (Ac x),str (Ac y)]) (hv:AL W) (ht:AA W):
  Ad Tryz.prog 73 #[.slice (some ⟨b,0,none⟩) 2 2] W (fun _:Unit=> .bool false) (fun _=>True) (fun _=>[]):=by
 refine Ab (args:=[.slice (some ⟨b,0,none⟩) 2 2]) Tryz.func73 I I I ?_
 repeat (first|refine zA ?_|refine zB ?_|refine zC ?_|refine zD ?_|refine zE ?_|refine zF ?_|refine zG ?_|refine zH ?_|refine zI ?_|refine zJ ?_|refine zK ?_|refine zL ?_|refine zM rfl ?_|refine zN ?_|refine zO ?_|refine zP ?_|refine zQ ?_|refine zR rfl ?_|refine zS rfl ?_|refine zU ?_)
 refine wP I (Aa ?_)
 repeat (first|refine zA ?_|refine zB ?_|refine zC ?_|refine zD ?_|refine zE ?_|refine zF ?_|refine zG ?_|refine zH ?_|refine zI ?_|refine zJ ?_|refine zK ?_|refine zL ?_|refine zM rfl ?_|refine zN ?_|refine zO ?_|refine zP ?_|refine zQ ?_|refine zR rfl ?_|refine zS rfl ?_|refine zU ?_)
 refine wP I ?_
 refine wC I I (fun W hp=>K8 154 [] (by kernel_rfl) (fun _=>false) [x,y] W (some ⟨b,0,none⟩) 2 (show 2<4611686018427387904 by decide) (.inr ⟨b,0,I,hr.hp hp⟩)
  (fun t h1 W' hb=>by
   have hz:szQ t 36:=by
    rcases List.mem_cons.1 h1 with rfl|h1
    ·exact hx
    ·obtain rfl:=List.mem_singleton.1 h1;exact hy
   exact M5 t hz W' ((hv.hp hp).below hb) ((ht.hp hp).below hb))) ?_
 refine wP I (Aa ?_)
 repeat (first|refine zA ?_|refine zB ?_|refine zC ?_|refine zD ?_|refine zE ?_|refine zF ?_|refine zG ?_|refine zH ?_|refine zI ?_|refine zJ ?_|refine zK ?_|refine zL ?_|refine zM rfl ?_|refine zN ?_|refine zO ?_|refine zP ?_|refine zQ ?_|refine zR rfl ?_|refine zS rfl ?_|refine zU ?_)
 exact wR1 I I I
abbrev plV (a b c:Rat):Value:= .agg #[str (Ac a),str (Ac b),str (Ac c)]
theorem OJ (a b c:Rat) (ha:szQ a 36) (hb:szQ b 36) (hc:szQ c 36) (W:World) (hv:AL W) (ht:AA W):
  Ad Tryz.prog 72 #[plV a b c] W (fun _:Unit=> .int .i64 0) (fun _=>True) (fun _=>[]):=by
 have oa:=ha.ok (by decide)
 have ob:=hb.ok (by decide)
 have oc:=hc.ok (by decide)
 have la:=AQ oa
 have lb:=AQ ob
 have lc:=AQ oc
 refine Ab (args:=[plV a b c]) Tryz.func72 I I I ?_
 repeat (first|refine zA ?_|refine zB ?_|refine zC ?_|refine zD ?_|refine zE ?_|refine zF ?_|refine zG ?_|refine zH ?_|refine zI ?_|refine zJ ?_|refine zK ?_|refine zL ?_|refine zM rfl ?_|refine zN ?_|refine zO ?_|refine zP ?_|refine zQ ?_|refine zR rfl ?_|refine zS rfl ?_|refine zU ?_)
 (refine Ak rfl rfl rfl rfl ?_;intro)
 refine wP I (Aa ?_)
 rename_i b1
 repeat (first|refine zA ?_|refine zB ?_|refine zC ?_|refine zD ?_|refine zE ?_|refine zF ?_|refine zG ?_|refine zH ?_|refine zI ?_|refine zJ ?_|refine zK ?_|refine zL ?_|refine zM rfl ?_|refine zN ?_|refine zO ?_|refine zP ?_|refine zQ ?_|refine zR rfl ?_|refine zS rfl ?_|refine zU ?_)
 refine wP I ?_
 (first|refine wB 0 rfl rfl rfl ?_|refine wB 1 rfl rfl rfl ?_|refine wB 2 rfl rfl rfl ?_|refine wB 3 rfl rfl rfl ?_|refine wB 4 rfl rfl rfl ?_)
 refine wP I ?_
 (first|refine wB 0 rfl rfl rfl ?_|refine wB 1 rfl rfl rfl ?_|refine wB 2 rfl rfl rfl ?_|refine wB 3 rfl rfl rfl ?_|refine wB 4 rfl rfl rfl ?_)
 refine wP I ?_
 (first|refine wB 0 rfl rfl rfl ?_|refine wB 1 rfl rfl rfl ?_|refine wB 2 rfl rfl rfl ?_|refine wB 3 rfl rfl rfl ?_|refine wB 4 rfl rfl rfl ?_)
 refine EO (.agg #[str [],str [],str []]) Tryz.underlying201 (fun W=>by kernel_rfl) Tryz.sizeOf25 I I I I I ?_
 refine wP I (Aa (A8 ?_))
 try refine Az ?_
 refine AC (X:=Unit) (fun _=>[(1,Af b1),(2, .int .i64 0)]) (fun _=>[⟨b1,52,(plV a b c).cells.toList,true,none⟩]) (fun _=>True) ?_ ?_
 ·refine B6 ?_
  refine Aw (X:=Nat) (fun i=>[(1,Af b1),(2, .int .i64 0),(15,plV a b c),(16, .int .i64 (i:Nat))]) (fun _=>[⟨b1,52,(plV a b c).cells.toList,true,none⟩]) (fun i=>i≤3) (fun i=>3-i) 0 (by decide) ⟨I,I,I,I,tO⟩ [] I ?_
  intro i hi
  have hi:i=0∨i=1∨i=2∨i=3:=by have:i≤3:=hi;omega
  rcases hi with rfl|rfl|rfl|rfl
  ·repeat (first|refine zA ?_|refine zB ?_|refine zC ?_|refine zD ?_|refine zE ?_|refine zF ?_|refine zG ?_|refine zH ?_|refine zI ?_|refine zJ ?_|refine zK ?_|refine zL ?_|refine zM rfl ?_|refine zN ?_|refine zO ?_|refine zP ?_|refine zQ ?_|refine zR rfl ?_|refine zS rfl ?_|refine zU ?_)
   refine wP I (Aa ?_)
   repeat (first|refine zA ?_|refine zB ?_|refine zC ?_|refine zD ?_|refine zE ?_|refine zF ?_|refine zG ?_|refine zH ?_|refine zI ?_|refine zJ ?_|refine zK ?_|refine zL ?_|refine zM rfl ?_|refine zN ?_|refine zO ?_|refine zP ?_|refine zQ ?_|refine zR rfl ?_|refine zS rfl ?_|refine zU ?_)
   refine Gf Tryz.underlying201 Tryz.isAgg25 Tryz.sizeOf25 I I I I I (by decide) (v:=str (Ac a)) I ?_
   refine wP I (Aa ?_)
   repeat (first|refine zA ?_|refine zB ?_|refine zC ?_|refine zD ?_|refine zE ?_|refine zF ?_|refine zG ?_|refine zH ?_|refine zI ?_|refine zJ ?_|refine zK ?_|refine zL ?_|refine zM rfl ?_|refine zN ?_|refine zO ?_|refine zP ?_|refine zQ ?_|refine zR rfl ?_|refine zS rfl ?_|refine zU ?_)
   refine wP I (wC I I (fun W hp=>(B0 (Ac a) (by omega) W (hv.hp hp) (ht.hp hp)).cast (by rw[C3 oa])) (wP I (Aa ?_)))
   repeat (first|refine zA ?_|refine zB ?_|refine zC ?_|refine zD ?_|refine zE ?_|refine zF ?_|refine zG ?_|refine zH ?_|refine zI ?_|refine zJ ?_|refine zK ?_|refine zL ?_|refine zM rfl ?_|refine zN ?_|refine zO ?_|refine zP ?_|refine zQ ?_|refine zR rfl ?_|refine zS rfl ?_|refine zU ?_)
   refine wP I (wP I (Aa ?_))
   repeat (first|refine zA ?_|refine zB ?_|refine zC ?_|refine zD ?_|refine zE ?_|refine zF ?_|refine zG ?_|refine zH ?_|refine zI ?_|refine zJ ?_|refine zK ?_|refine zL ?_|refine zM rfl ?_|refine zN ?_|refine zO ?_|refine zP ?_|refine zQ ?_|refine zR rfl ?_|refine zS rfl ?_|refine zU ?_)
   refine wP I (wP I (Aa ?_))
   repeat (first|refine zA ?_|refine zB ?_|refine zC ?_|refine zD ?_|refine zE ?_|refine zF ?_|refine zG ?_|refine zH ?_|refine zI ?_|refine zJ ?_|refine zK ?_|refine zL ?_|refine zM rfl ?_|refine zN ?_|refine zO ?_|refine zP ?_|refine zQ ?_|refine zR rfl ?_|refine zS rfl ?_|refine zU ?_)
   exact Al 1 (by decide) (by decide) ⟨I,I,I,I,tO⟩ [] I
  ·repeat (first|refine zA ?_|refine zB ?_|refine zC ?_|refine zD ?_|refine zE ?_|refine zF ?_|refine zG ?_|refine zH ?_|refine zI ?_|refine zJ ?_|refine zK ?_|refine zL ?_|refine zM rfl ?_|refine zN ?_|refine zO ?_|refine zP ?_|refine zQ ?_|refine zR rfl ?_|refine zS rfl ?_|refine zU ?_)
   refine wP I (Aa ?_)
   repeat (first|refine zA ?_|refine zB ?_|refine zC ?_|refine zD ?_|refine zE ?_|refine zF ?_|refine zG ?_|refine zH ?_|refine zI ?_|refine zJ ?_|refine zK ?_|refine zL ?_|refine zM rfl ?_|refine zN ?_|refine zO ?_|refine zP ?_|refine zQ ?_|refine zR rfl ?_|refine zS rfl ?_|refine zU ?_)
   refine Gf Tryz.underlying201 Tryz.isAgg25 Tryz.sizeOf25 I I I I I (by decide) (v:=str (Ac b)) I ?_
   refine wP I (Aa ?_)
   repeat (first|refine zA ?_|refine zB ?_|refine zC ?_|refine zD ?_|refine zE ?_|refine zF ?_|refine zG ?_|refine zH ?_|refine zI ?_|refine zJ ?_|refine zK ?_|refine zL ?_|refine zM rfl ?_|refine zN ?_|refine zO ?_|refine zP ?_|refine zQ ?_|refine zR rfl ?_|refine zS rfl ?_|refine zU ?_)
   refine wP I (wC I I (fun W hp=>(B0 (Ac b) (by omega) W (hv.hp hp) (ht.hp hp)).cast (by rw[C3 ob])) (wP I (Aa ?_)))
   repeat (first|refine zA ?_|refine zB ?_|refine zC ?_|refine zD ?_|refine zE ?_|refine zF ?_|refine zG ?_|refine zH ?_|refine zI ?_|refine zJ ?_|refine zK ?_|refine zL ?_|refine zM rfl ?_|refine zN ?_|refine zO ?_|refine zP ?_|refine zQ ?_|refine zR rfl ?_|refine zS rfl ?_|refine zU ?_)
   refine wP I (wP I (Aa ?_))
   repeat (first|refine zA ?_|refine zB ?_|refine zC ?_|refine zD ?_|refine zE ?_|refine zF ?_|refine zG ?_|refine zH ?_|refine zI ?_|refine zJ ?_|refine zK ?_|refine zL ?_|refine zM rfl ?_|refine zN ?_|refine zO ?_|refine zP ?_|refine zQ ?_|refine zR rfl ?_|refine zS rfl ?_|refine zU ?_)
   refine wP I (wP I (Aa ?_))
   repeat (first|refine zA ?_|refine zB ?_|refine zC ?_|refine zD ?_|refine zE ?_|refine zF ?_|refine zG ?_|refine zH ?_|refine zI ?_|refine zJ ?_|refine zK ?_|refine zL ?_|refine zM rfl ?_|refine zN ?_|refine zO ?_|refine zP ?_|refine zQ ?_|refine zR rfl ?_|refine zS rfl ?_|refine zU ?_)
   exact Al 2 (by decide) (by decide) ⟨I,I,I,I,tO⟩ [] I
  ·repeat (first|refine zA ?_|refine zB ?_|refine zC ?_|refine zD ?_|refine zE ?_|refine zF ?_|refine zG ?_|refine zH ?_|refine zI ?_|refine zJ ?_|refine zK ?_|refine zL ?_|refine zM rfl ?_|refine zN ?_|refine zO ?_|refine zP ?_|refine zQ ?_|refine zR rfl ?_|refine zS rfl ?_|refine zU ?_)
   refine wP I (Aa ?_)
   repeat (first|refine zA ?_|refine zB ?_|refine zC ?_|refine zD ?_|refine zE ?_|refine zF ?_|refine zG ?_|refine zH ?_|refine zI ?_|refine zJ ?_|refine zK ?_|refine zL ?_|refine zM rfl ?_|refine zN ?_|refine zO ?_|refine zP ?_|refine zQ ?_|refine zR rfl ?_|refine zS rfl ?_|refine zU ?_)
   refine Gf Tryz.underlying201 Tryz.isAgg25 Tryz.sizeOf25 I I I I I (by decide) (v:=str (Ac c)) I ?_
   refine wP I (Aa ?_)
   repeat (first|refine zA ?_|refine zB ?_|refine zC ?_|refine zD ?_|refine zE ?_|refine zF ?_|refine zG ?_|refine zH ?_|refine zI ?_|refine zJ ?_|refine zK ?_|refine zL ?_|refine zM rfl ?_|refine zN ?_|refine zO ?_|refine zP ?_|refine zQ ?_|refine zR rfl ?_|refine zS rfl ?_|refine zU ?_)
   refine wP I (wC I I (fun W hp=>(B0 (Ac c) (by omega) W (hv.hp hp) (ht.hp hp)).cast (by rw[C3 oc])) (wP I (Aa ?_)))
   repeat (first|refine zA ?_|refine zB ?_|refine zC ?_|refine zD ?_|refine zE ?_|refine zF ?_|refine zG ?_|refine zH ?_|refine zI ?_|refine zJ ?_|refine zK ?_|refine zL ?_|refine zM rfl ?_|refine zN ?_|refine zO ?_|refine zP ?_|refine zQ ?_|refine zR rfl ?_|refine zS rfl ?_|refine zU ?_)
   refine wP I (wP I (Aa ?_))
   repeat (first|refine zA ?_|refine zB ?_|refine zC ?_|refine zD ?_|refine zE ?_|refine zF ?_|refine zG ?_|refine zH ?_|refine zI ?_|refine zJ ?_|refine zK ?_|refine zL ?_|refine zM rfl ?_|refine zN ?_|refine zO ?_|refine zP ?_|refine zQ ?_|refine zR rfl ?_|refine zS rfl ?_|refine zU ?_)
   refine wP I (wP I (Aa ?_))
   repeat (first|refine zA ?_|refine zB ?_|refine zC ?_|refine zD ?_|refine zE ?_|refine zF ?_|refine zG ?_|refine zH ?_|refine zI ?_|refine zJ ?_|refine zK ?_|refine zL ?_|refine zM rfl ?_|refine zN ?_|refine zO ?_|refine zP ?_|refine zQ ?_|refine zR rfl ?_|refine zS rfl ?_|refine zU ?_)
   exact Al 3 (by decide) (by decide) ⟨I,I,I,I,tO⟩ [] I
  ·repeat (first|refine zA ?_|refine zB ?_|refine zC ?_|refine zD ?_|refine zE ?_|refine zF ?_|refine zG ?_|refine zH ?_|refine zI ?_|refine zJ ?_|refine zK ?_|refine zL ?_|refine zM rfl ?_|refine zN ?_|refine zO ?_|refine zP ?_|refine zQ ?_|refine zR rfl ?_|refine zS rfl ?_|refine zU ?_)
   refine wP I (Aa ?_)
   repeat (first|refine zA ?_|refine zB ?_|refine zC ?_|refine zD ?_|refine zE ?_|refine zF ?_|refine zG ?_|refine zH ?_|refine zI ?_|refine zJ ?_|refine zK ?_|refine zL ?_|refine zM rfl ?_|refine zN ?_|refine zO ?_|refine zP ?_|refine zQ ?_|refine zR rfl ?_|refine zS rfl ?_|refine zU ?_)
   exact An () tO ⟨I,I,tO⟩ [] I
 intro _ _
 repeat (first|refine zA ?_|refine zB ?_|refine zC ?_|refine zD ?_|refine zE ?_|refine zF ?_|refine zG ?_|refine zH ?_|refine zI ?_|refine zJ ?_|refine zK ?_|refine zL ?_|refine zM rfl ?_|refine zN ?_|refine zO ?_|refine zP ?_|refine zQ ?_|refine zR rfl ?_|refine zS rfl ?_|refine zU ?_)
 refine wP I ?_
 (first|refine wB 0 rfl rfl rfl ?_|refine wB 1 rfl rfl rfl ?_|refine wB 2 rfl rfl rfl ?_|refine wB 3 rfl rfl rfl ?_|refine wB 4 rfl rfl rfl ?_)
 refine wP I ?_
 (first|refine wB 0 rfl rfl rfl ?_|refine wB 1 rfl rfl rfl ?_|refine wB 2 rfl rfl rfl ?_|refine wB 3 rfl rfl rfl ?_|refine wB 4 rfl rfl rfl ?_)
 refine wP I ?_
 (first|refine wB 0 rfl rfl rfl ?_|refine wB 1 rfl rfl rfl ?_|refine wB 2 rfl rfl rfl ?_|refine wB 3 rfl rfl rfl ?_|refine wB 4 rfl rfl rfl ?_)
 refine EO (.agg #[str [],str [],str []]) Tryz.underlying201 (fun W=>by kernel_rfl) Tryz.sizeOf25 I I I I I ?_
 refine wP I (Aa ?_)
 repeat (first|refine zA ?_|refine zB ?_|refine zC ?_|refine zD ?_|refine zE ?_|refine zF ?_|refine zG ?_|refine zH ?_|refine zI ?_|refine zJ ?_|refine zK ?_|refine zL ?_|refine zM rfl ?_|refine zN ?_|refine zO ?_|refine zP ?_|refine zQ ?_|refine zR rfl ?_|refine zS rfl ?_|refine zU ?_)
 refine Aw (X:=Nat) (fun i=>[(1,Af b1),(2, .int .i64 0),(31,plV a b c),(32, .int .i64 (i:Nat))]) (fun _=>[⟨b1,52,(plV a b c).cells.toList,true,none⟩]) (fun i=>i≤3) (fun i=>3-i) 0 (by decide) ⟨I,I,I,I,tO⟩ [] I ?_
 intro i hi
 have hi:i=0∨i=1∨i=2∨i=3:=by have:i≤3:=hi;omega
 rcases hi with rfl|rfl|rfl|rfl
 ·repeat (first|refine zA ?_|refine zB ?_|refine zC ?_|refine zD ?_|refine zE ?_|refine zF ?_|refine zG ?_|refine zH ?_|refine zI ?_|refine zJ ?_|refine zK ?_|refine zL ?_|refine zM rfl ?_|refine zN ?_|refine zO ?_|refine zP ?_|refine zQ ?_|refine zR rfl ?_|refine zS rfl ?_|refine zU ?_)
  refine wP I (Aa ?_)
  repeat (first|refine zA ?_|refine zB ?_|refine zC ?_|refine zD ?_|refine zE ?_|refine zF ?_|refine zG ?_|refine zH ?_|refine zI ?_|refine zJ ?_|refine zK ?_|refine zL ?_|refine zM rfl ?_|refine zN ?_|refine zO ?_|refine zP ?_|refine zQ ?_|refine zR rfl ?_|refine zS rfl ?_|refine zU ?_)
  refine Gf Tryz.underlying201 Tryz.isAgg25 Tryz.sizeOf25 I I I I I (by decide) (v:=str (Ac a)) I ?_
  refine wP I (Aa ?_)
  repeat (first|refine zA ?_|refine zB ?_|refine zC ?_|refine zD ?_|refine zE ?_|refine zF ?_|refine zG ?_|refine zH ?_|refine zI ?_|refine zJ ?_|refine zK ?_|refine zL ?_|refine zM rfl ?_|refine zN ?_|refine zO ?_|refine zP ?_|refine zQ ?_|refine zR rfl ?_|refine zS rfl ?_|refine zU ?_)
  refine wP I (wC I I (fun W hp=>EG a ha W (hv.hp hp) (ht.hp hp)) (wP I (Aa ?_)))
  repeat (first|refine zA ?_|refine zB ?_|refine zC ?_|refine zD ?_|refine zE ?_|refine zF ?_|refine zG ?_|refine zH ?_|refine zI ?_|refine zJ ?_|refine zK ?_|refine zL ?_|refine zM rfl ?_|refine zN ?_|refine zO ?_|refine zP ?_|refine zQ ?_|refine zR rfl ?_|refine zS rfl ?_|refine zU ?_)
  refine wP I (wP I (Aa ?_))
  repeat (first|refine zA ?_|refine zB ?_|refine zC ?_|refine zD ?_|refine zE ?_|refine zF ?_|refine zG ?_|refine zH ?_|refine zI ?_|refine zJ ?_|refine zK ?_|refine zL ?_|refine zM rfl ?_|refine zN ?_|refine zO ?_|refine zP ?_|refine zQ ?_|refine zR rfl ?_|refine zS rfl ?_|refine zU ?_)
  refine wP I (wP I (Aa ?_))
  repeat (first|refine zA ?_|refine zB ?_|refine zC ?_|refine zD ?_|refine zE ?_|refine zF ?_|refine zG ?_|refine zH ?_|refine zI ?_|refine zJ ?_|refine zK ?_|refine zL ?_|refine zM rfl ?_|refine zN ?_|refine zO ?_|refine zP ?_|refine zQ ?_|refine zR rfl ?_|refine zS rfl ?_|refine zU ?_)
  exact Al 1 (by decide) (by decide) ⟨I,I,I,I,tO⟩ [] I
 ·repeat (first|refine zA ?_|refine zB ?_|refine zC ?_|refine zD ?_|refine zE ?_|refine zF ?_|refine zG ?_|refine zH ?_|refine zI ?_|refine zJ ?_|refine zK ?_|refine zL ?_|refine zM rfl ?_|refine zN ?_|refine zO ?_|refine zP ?_|refine zQ ?_|refine zR rfl ?_|refine zS rfl ?_|refine zU ?_)
  refine wP I (Aa ?_)
  repeat (first|refine zA ?_|refine zB ?_|refine zC ?_|refine zD ?_|refine zE ?_|refine zF ?_|refine zG ?_|refine zH ?_|refine zI ?_|refine zJ ?_|refine zK ?_|refine zL ?_|refine zM rfl ?_|refine zN ?_|refine zO ?_|refine zP ?_|refine zQ ?_|refine zR rfl ?_|refine zS rfl ?_|refine zU ?_)
  refine Gf Tryz.underlying201 Tryz.isAgg25 Tryz.sizeOf25 I I I I I (by decide) (v:=str (Ac b)) I ?_
  refine wP I (Aa ?_)
  repeat (first|refine zA ?_|refine zB ?_|refine zC ?_|refine zD ?_|refine zE ?_|refine zF ?_|refine zG ?_|refine zH ?_|refine zI ?_|refine zJ ?_|refine zK ?_|refine zL ?_|refine zM rfl ?_|refine zN ?_|refine zO ?_|refine zP ?_|refine zQ ?_|refine zR rfl ?_|refine zS rfl ?_|refine zU ?_)
  refine wP I (wC I I (fun W hp=>EG b hb W (hv.hp hp) (ht.hp hp)) (wP I (Aa ?_)))
  repeat (first|refine zA ?_|refine zB ?_|refine zC ?_|refine zD ?_|refine zE ?_|refine zF ?_|refine zG ?_|refine zH ?_|refine zI ?_|refine zJ ?_|refine zK ?_|refine zL ?_|refine zM rfl ?_|refine zN ?_|refine zO ?_|refine zP ?_|refine zQ ?_|refine zR rfl ?_|refine zS rfl ?_|refine zU ?_)
  refine wP I (wP I (Aa ?_))
  repeat (first|refine zA ?_|refine zB ?_|refine zC ?_|refine zD ?_|refine zE ?_|refine zF ?_|refine zG ?_|refine zH ?_|refine zI ?_|refine zJ ?_|refine zK ?_|refine zL ?_|refine zM rfl ?_|refine zN ?_|refine zO ?_|refine zP ?_|refine zQ ?_|refine zR rfl ?_|refine zS rfl ?_|refine zU ?_)
  refine wP I (wP I (Aa ?_))
  repeat (first|refine zA ?_|refine zB ?_|refine zC ?_|refine zD ?_|refine zE ?_|refine zF ?_|refine zG ?_|refine zH ?_|refine zI ?_|refine zJ ?_|refine zK ?_|refine zL ?_|refine zM rfl ?_|refine zN ?_|refine zO ?_|refine zP ?_|refine zQ ?_|refine zR rfl ?_|refine zS rfl ?_|refine zU ?_)
  exact Al 2 (by decide) (by decide) ⟨I,I,I,I,tO⟩ [] I
 ·repeat (first|refine zA ?_|refine zB ?_|refine zC ?_|refine zD ?_|refine zE ?_|refine zF ?_|refine zG ?_|refine zH ?_|refine zI ?_|refine zJ ?_|refine zK ?_|refine zL ?_|refine zM rfl ?_|refine zN ?_|refine zO ?_|refine zP ?_|refine zQ ?_|refine zR rfl ?_|refine zS rfl ?_|refine zU ?_)
  refine wP I (Aa ?_)
  repeat (first|refine zA ?_|refine zB ?_|refine zC ?_|refine zD ?_|refine zE ?_|refine zF ?_|refine zG ?_|refine zH ?_|refine zI ?_|refine zJ ?_|refine zK ?_|refine zL ?_|refine zM rfl ?_|refine zN ?_|refine zO ?_|refine zP ?_|refine zQ ?_|refine zR rfl ?_|refine zS rfl ?_|refine zU ?_)
  refine Gf Tryz.underlying201 Tryz.isAgg25 Tryz.sizeOf25 I I I I I (by decide) (v:=str (Ac c)) I ?_
  refine wP I (Aa ?_)
  repeat (first|refine zA ?_|refine zB ?_|refine zC ?_|refine zD ?_|refine zE ?_|refine zF ?_|refine zG ?_|refine zH ?_|refine zI ?_|refine zJ ?_|refine zK ?_|refine zL ?_|refine zM rfl ?_|refine zN ?_|refine zO ?_|refine zP ?_|refine zQ ?_|refine zR rfl ?_|refine zS rfl ?_|refine zU ?_)
  refine wP I (wC I I (fun W hp=>EG c hc W (hv.hp hp) (ht.hp hp)) (wP I (Aa ?_)))
  repeat (first|refine zA ?_|refine zB ?_|refine zC ?_|refine zD ?_|refine zE ?_|refine zF ?_|refine zG ?_|refine zH ?_|refine zI ?_|refine zJ ?_|refine zK ?_|refine zL ?_|refine zM rfl ?_|refine zN ?_|refine zO ?_|refine zP ?_|refine zQ ?_|refine zR rfl ?_|refine zS rfl ?_|refine zU ?_)
  refine wP I (wP I (Aa ?_))
  repeat (first|refine zA ?_|refine zB ?_|refine zC ?_|refine zD ?_|refine zE ?_|refine zF ?_|refine zG ?_|refine zH ?_|refine zI ?_|refine zJ ?_|refine zK ?_|refine zL ?_|refine zM rfl ?_|refine zN ?_|refine zO ?_|refine zP ?_|refine zQ ?_|refine zR rfl ?_|refine zS rfl ?_|refine zU ?_)
  refine wP I (wP I (Aa ?_))
  repeat (first|refine zA ?_|refine zB ?_|refine zC ?_|refine zD ?_|refine zE ?_|refine zF ?_|refine zG ?_|refine zH ?_|refine zI ?_|refine zJ ?_|refine zK ?_|refine zL ?_|refine zM rfl ?_|refine zN ?_|refine zO ?_|refine zP ?_|refine zQ ?_|refine zR rfl ?_|refine zS rfl ?_|refine zU ?_)
  exact Al 3 (by decide) (by decide) ⟨I,I,I,I,tO⟩ [] I
 ·repeat (first|refine zA ?_|refine zB ?_|refine zC ?_|refine zD ?_|refine zE ?_|refine zF ?_|refine zG ?_|refine zH ?_|refine zI ?_|refine zJ ?_|refine zK ?_|refine zL ?_|refine zM rfl ?_|refine zN ?_|refine zO ?_|refine zP ?_|refine zQ ?_|refine zR rfl ?_|refine zS rfl ?_|refine zU ?_)
  refine wP I (Aa ?_)
  repeat (first|refine zA ?_|refine zB ?_|refine zC ?_|refine zD ?_|refine zE ?_|refine zF ?_|refine zG ?_|refine zH ?_|refine zI ?_|refine zJ ?_|refine zK ?_|refine zL ?_|refine zM rfl ?_|refine zN ?_|refine zO ?_|refine zP ?_|refine zQ ?_|refine zR rfl ?_|refine zS rfl ?_|refine zU ?_)
  refine wP I (Aa ?_)
  repeat (first|refine zA ?_|refine zB ?_|refine zC ?_|refine zD ?_|refine zE ?_|refine zF ?_|refine zG ?_|refine zH ?_|refine zI ?_|refine zJ ?_|refine zK ?_|refine zL ?_|refine zM rfl ?_|refine zN ?_|refine zO ?_|refine zP ?_|refine zQ ?_|refine zR rfl ?_|refine zS rfl ?_|refine zU ?_)
  exact wR1 I I I
def Hk (W:World) (c:Nat):Prop:=W.heap[c]? =some (.cells #[.int .i64 0] 128 (0,0))
theorem Hk.hp {W0 W:World} {bxs:List Bx} {c:Nat} (h:Hk W0 c) (hp:Hp W0 bxs W):Hk W c:=
 (hp.below.block c (Array.getElem?_eq_some_iff.1 h).1).trans h
theorem Hk.row {W:World} {c:Nat} (h:Hk W c):Ai W c 0 [.int .i64 0]:=Ai.of_block h
theorem IH (c:Nat) (s:List UInt8) (W:World) (hc:Hk W c):
  Ad Tryz.prog 223 #[Af c,str s, .int .i64 0] W (fun _:Unit=>str s) (fun _=>True) (fun _=>[]):=by
 refine Ab (args:=[Af c,str s, .int .i64 0]) Tryz.func223 I I I ?_
 repeat (first|refine zA ?_|refine zB ?_|refine zC ?_|refine zD ?_|refine zE ?_|refine zF ?_|refine zG ?_|refine zH ?_|refine zI ?_|refine zJ ?_|refine zK ?_|refine zL ?_|refine zM rfl ?_|refine zN ?_|refine zO ?_|refine zP ?_|refine zQ ?_|refine zR rfl ?_|refine zS rfl ?_|refine zU ?_)
 refine wP I (Aa ?_)
 repeat (first|refine zA ?_|refine zB ?_|refine zC ?_|refine zD ?_|refine zE ?_|refine zF ?_|refine zG ?_|refine zH ?_|refine zI ?_|refine zJ ?_|refine zK ?_|refine zL ?_|refine zM rfl ?_|refine zN ?_|refine zO ?_|refine zP ?_|refine zQ ?_|refine zR rfl ?_|refine zS rfl ?_|refine zU ?_)
 refine wP I ?_
 refine AK I I I I ?_
 refine wP I ?_
 (first|refine wL 0 rfl rfl (fun W hp=>(hc.hp hp).row) rfl ?_|refine wL 1 rfl rfl (fun W hp=>(hc.hp hp).row) rfl ?_|refine wL 2 rfl rfl (fun W hp=>(hc.hp hp).row) rfl ?_|refine wL 3 rfl rfl (fun W hp=>(hc.hp hp).row) rfl ?_|refine wL 4 rfl rfl (fun W hp=>(hc.hp hp).row) rfl ?_|refine wL 5 rfl rfl (fun W hp=>(hc.hp hp).row) rfl ?_|refine wL 6 rfl rfl (fun W hp=>(hc.hp hp).row) rfl ?_|refine wL 7 rfl rfl (fun W hp=>(hc.hp hp).row) rfl ?_|refine qL 0 rfl rfl (fun W hp=>(hc.hp hp).row) rfl ?_|refine qL 1 rfl rfl (fun W hp=>(hc.hp hp).row) rfl ?_|refine qL 2 rfl rfl (fun W hp=>(hc.hp hp).row) rfl ?_|refine qL 3 rfl rfl (fun W hp=>(hc.hp hp).row) rfl ?_|refine qL 4 rfl rfl (fun W hp=>(hc.hp hp).row) rfl ?_|refine qL 5 rfl rfl (fun W hp=>(hc.hp hp).row) rfl ?_|refine qL 6 rfl rfl (fun W hp=>(hc.hp hp).row) rfl ?_|refine qL 7 rfl rfl (fun W hp=>(hc.hp hp).row) rfl ?_)
 refine wP I (Aa ?_)
 repeat (first|refine zA ?_|refine zB ?_|refine zC ?_|refine zD ?_|refine zE ?_|refine zF ?_|refine zG ?_|refine zH ?_|refine zI ?_|refine zJ ?_|refine zK ?_|refine zL ?_|refine zM rfl ?_|refine zN ?_|refine zO ?_|refine zP ?_|refine zQ ?_|refine zR rfl ?_|refine zS rfl ?_|refine zU ?_)
 refine wP I (wP I ?_)
 refine AK I I I I ?_
 refine wP I ?_
 refine G3 (c:=[.int .i64 0]) (ty:=128) tH I I I I I I I I I I (fun W hp=>hc.hp hp) ?_
 refine Aa ?_
 repeat (first|refine zA ?_|refine zB ?_|refine zC ?_|refine zD ?_|refine zE ?_|refine zF ?_|refine zG ?_|refine zH ?_|refine zI ?_|refine zJ ?_|refine zK ?_|refine zL ?_|refine zM rfl ?_|refine zN ?_|refine zO ?_|refine zP ?_|refine zQ ?_|refine zR rfl ?_|refine zS rfl ?_|refine zU ?_)
 refine wP I (wP I (Aa ?_))
 repeat (first|refine zA ?_|refine zB ?_|refine zC ?_|refine zD ?_|refine zE ?_|refine zF ?_|refine zG ?_|refine zH ?_|refine zI ?_|refine zJ ?_|refine zK ?_|refine zL ?_|refine zM rfl ?_|refine zN ?_|refine zO ?_|refine zP ?_|refine zQ ?_|refine zR rfl ?_|refine zS rfl ?_|refine zU ?_)
 exact wR1 I I I
theorem HP (c:Nat) (p q:Rat) (hz:Sz2 p q) (W:World) (hc:Hk W c) (hv:AL W) (ht:AA W):
  Ad Tryz.prog 156 #[Af c,str (Ac p),str (Ac q)] W (fun _:Unit=>str (Ac (p*q))) (fun _=>True) (fun _=>[]):=by
 refine Ab (args:=[Af c,str (Ac p),str (Ac q)]) Tryz.func156 I I I ?_
 repeat (first|refine zA ?_|refine zB ?_|refine zC ?_|refine zD ?_|refine zE ?_|refine zF ?_|refine zG ?_|refine zH ?_|refine zI ?_|refine zJ ?_|refine zK ?_|refine zL ?_|refine zM rfl ?_|refine zN ?_|refine zO ?_|refine zP ?_|refine zQ ?_|refine zR rfl ?_|refine zS rfl ?_|refine zU ?_)
 refine wP I (Aa ?_)
 repeat (first|refine zA ?_|refine zB ?_|refine zC ?_|refine zD ?_|refine zE ?_|refine zF ?_|refine zG ?_|refine zH ?_|refine zI ?_|refine zJ ?_|refine zK ?_|refine zL ?_|refine zM rfl ?_|refine zN ?_|refine zO ?_|refine zP ?_|refine zQ ?_|refine zR rfl ?_|refine zS rfl ?_|refine zU ?_)
 refine wP I (wP I (wP I (wC I I (fun W hp=>C2 p q hz W (hv.hp hp) (ht.hp hp)) (wP I (wP I (wC I I (fun W hp=>IH c (Ac (p*q)) W (hc.hp hp)) (wP I (Aa ?_))))))))
 repeat (first|refine zA ?_|refine zB ?_|refine zC ?_|refine zD ?_|refine zE ?_|refine zF ?_|refine zG ?_|refine zH ?_|refine zI ?_|refine zJ ?_|refine zK ?_|refine zL ?_|refine zM rfl ?_|refine zN ?_|refine zO ?_|refine zP ?_|refine zQ ?_|refine zR rfl ?_|refine zS rfl ?_|refine zU ?_)
 exact wR1 I I I
theorem MA (c:Nat) (l:List Rat) (p:Option Addr) (cap:Nat) (hn:l.length≤4096) (hk: ∀q∈l,okQ q) (hz: ∀k (hk:k<l.length),Sz2 (Hh l k) l[k]) (W:World) (hc:Hk W c) (hS:E8 W p (l.map Ac)) (hv:AL W) (ht:AA W):
  Ad Tryz.prog 155 #[Af c,slv p l.length cap] W (fun _:Unit=>str (Ac (Hh l l.length))) (fun _=>True) (fun _=>[]):=by
 refine Ab (args:=[Af c,slv p l.length cap]) Tryz.func155 I I I ?_
 repeat (first|refine zA ?_|refine zB ?_|refine zC ?_|refine zD ?_|refine zE ?_|refine zF ?_|refine zG ?_|refine zH ?_|refine zI ?_|refine zJ ?_|refine zK ?_|refine zL ?_|refine zM rfl ?_|refine zN ?_|refine zO ?_|refine zP ?_|refine zQ ?_|refine zR rfl ?_|refine zS rfl ?_|refine zU ?_)
 refine wP I (Aa ?_)
 repeat (first|refine zA ?_|refine zB ?_|refine zC ?_|refine zD ?_|refine zE ?_|refine zF ?_|refine zG ?_|refine zH ?_|refine zI ?_|refine zJ ?_|refine zK ?_|refine zL ?_|refine zM rfl ?_|refine zN ?_|refine zO ?_|refine zP ?_|refine zQ ?_|refine zR rfl ?_|refine zS rfl ?_|refine zU ?_)
 refine wP I (wP I (wC I I (fun W hp=>Rd l p cap hn hk hz W (hS.hp hp) (hv.hp hp) (ht.hp hp)) (wP I (wP I (wC I I (fun W hp=>IH c (Ac (Hh l l.length)) W (hc.hp hp)) (wP I (Aa ?_)))))))
 repeat (first|refine zA ?_|refine zB ?_|refine zC ?_|refine zD ?_|refine zE ?_|refine zF ?_|refine zG ?_|refine zH ?_|refine zI ?_|refine zJ ?_|refine zK ?_|refine zL ?_|refine zM rfl ?_|refine zN ?_|refine zO ?_|refine zP ?_|refine zQ ?_|refine zR rfl ?_|refine zS rfl ?_|refine zU ?_)
 exact wR1 I I I
theorem L5 (c:Nat) (s:List UInt8) (W:World) (hc:Hk W c):
  Ad Tryz.prog 74 #[Af c,str s] W (fun _:Unit=> .tuple #[str s, .int .i64 0]) (fun _=>True) (fun _=>[]):=by
 refine Ab (args:=[Af c,str s]) Tryz.func74 I I I ?_
 repeat (first|refine zA ?_|refine zB ?_|refine zC ?_|refine zD ?_|refine zE ?_|refine zF ?_|refine zG ?_|refine zH ?_|refine zI ?_|refine zJ ?_|refine zK ?_|refine zL ?_|refine zM rfl ?_|refine zN ?_|refine zO ?_|refine zP ?_|refine zQ ?_|refine zR rfl ?_|refine zS rfl ?_|refine zU ?_)
 refine wP I (wP I (Aa ?_))
 repeat (first|refine zA ?_|refine zB ?_|refine zC ?_|refine zD ?_|refine zE ?_|refine zF ?_|refine zG ?_|refine zH ?_|refine zI ?_|refine zJ ?_|refine zK ?_|refine zL ?_|refine zM rfl ?_|refine zN ?_|refine zO ?_|refine zP ?_|refine zQ ?_|refine zR rfl ?_|refine zS rfl ?_|refine zU ?_)
 refine wP I ?_
 refine AK I I I I ?_
 refine wP I ?_
 (first|refine wL 0 rfl rfl (fun W hp=>(hc.hp hp).row) rfl ?_|refine wL 1 rfl rfl (fun W hp=>(hc.hp hp).row) rfl ?_|refine wL 2 rfl rfl (fun W hp=>(hc.hp hp).row) rfl ?_|refine wL 3 rfl rfl (fun W hp=>(hc.hp hp).row) rfl ?_|refine wL 4 rfl rfl (fun W hp=>(hc.hp hp).row) rfl ?_|refine wL 5 rfl rfl (fun W hp=>(hc.hp hp).row) rfl ?_|refine wL 6 rfl rfl (fun W hp=>(hc.hp hp).row) rfl ?_|refine wL 7 rfl rfl (fun W hp=>(hc.hp hp).row) rfl ?_|refine qL 0 rfl rfl (fun W hp=>(hc.hp hp).row) rfl ?_|refine qL 1 rfl rfl (fun W hp=>(hc.hp hp).row) rfl ?_|refine qL 2 rfl rfl (fun W hp=>(hc.hp hp).row) rfl ?_|refine qL 3 rfl rfl (fun W hp=>(hc.hp hp).row) rfl ?_|refine qL 4 rfl rfl (fun W hp=>(hc.hp hp).row) rfl ?_|refine qL 5 rfl rfl (fun W hp=>(hc.hp hp).row) rfl ?_|refine qL 6 rfl rfl (fun W hp=>(hc.hp hp).row) rfl ?_|refine qL 7 rfl rfl (fun W hp=>(hc.hp hp).row) rfl ?_)
 refine wP I (Aa ?_)
 repeat (first|refine zA ?_|refine zB ?_|refine zC ?_|refine zD ?_|refine zE ?_|refine zF ?_|refine zG ?_|refine zH ?_|refine zI ?_|refine zJ ?_|refine zK ?_|refine zL ?_|refine zM rfl ?_|refine zN ?_|refine zO ?_|refine zP ?_|refine zQ ?_|refine zR rfl ?_|refine zS rfl ?_|refine zU ?_)
 refine wP I (wP I (wP I (Aa ?_)))
 repeat (first|refine zA ?_|refine zB ?_|refine zC ?_|refine zD ?_|refine zE ?_|refine zF ?_|refine zG ?_|refine zH ?_|refine zI ?_|refine zJ ?_|refine zK ?_|refine zL ?_|refine zM rfl ?_|refine zN ?_|refine zO ?_|refine zP ?_|refine zQ ?_|refine zR rfl ?_|refine zS rfl ?_|refine zU ?_)
 exact wR2 I I I
structure HtZ (a b c x y:Rat):Prop where
 m1:Sz2 a x
 m2:Sz2 b y
 ok: ∀q∈[a*x,b*y,c],okQ q
 s: ∀k (hk:k<[a*x,b*y,c].length),Sz2 (Hh [a*x,b*y,c] k) [a*x,b*y,c][k]
theorem NC (c:Nat) (a b d x y:Rat) (hz:HtZ a b d x y) (W:World) (hc:Hk W c) (hv:AL W) (ht:AA W):
  Ad Tryz.prog 75 #[Af c,plV a b d,ptV x y] W (fun _:Unit=>str (Ac (0+a*x+b*y+d))) (fun _=>True) (fun _=>[]):=by
 refine Ab (args:=[Af c,plV a b d,ptV x y]) Tryz.func75 I I I ?_
 repeat (first|refine zA ?_|refine zB ?_|refine zC ?_|refine zD ?_|refine zE ?_|refine zF ?_|refine zG ?_|refine zH ?_|refine zI ?_|refine zJ ?_|refine zK ?_|refine zL ?_|refine zM rfl ?_|refine zN ?_|refine zO ?_|refine zP ?_|refine zQ ?_|refine zR rfl ?_|refine zS rfl ?_|refine zU ?_)
 (refine Ak rfl rfl rfl rfl ?_;intro)
 (refine Ak rfl rfl rfl rfl ?_;intro)
 refine wP I (Aa ?_)
 rename_i b4 b5
 repeat (first|refine zC ?_|refine zD ?_|refine zE ?_|refine zF ?_|refine zG ?_|refine zH ?_|refine zI ?_|refine zJ ?_|refine zK ?_|refine zL ?_|refine zM rfl ?_|refine zN ?_|refine zO ?_|refine zP ?_|refine zQ ?_|refine zR rfl ?_|refine zS rfl ?_)
 refine Az ?_
 refine AV (X:=Nat) [true,true,true,true,true,true,true,true,true,true,true,true,true,true,true,false,false,false] (fun bS=>[(6,str (Ac (0+a*x+b*y+d)))]) (fun bS=>[⟨b4,52,(plV a b d).cells.toList,true,none⟩,⟨b5,62,(ptV x y).cells.toList,true,none⟩,⟨bS,25,[str (Ac (a*x)),str (Ac (b*y)),str (Ac d)],true,none⟩])
   3 [⟨b4,52,(plV a b d).cells.toList,true,none⟩,⟨b5,62,(ptV x y).cells.toList,true,none⟩] Tryz.mixed (by kernel_rfl) ?_ ?_
 ·refine qP I (qP I (qP I ?_))
  (first|refine qB 0 rfl rfl rfl ?_|refine qB 1 rfl rfl rfl ?_|refine qB 2 rfl rfl rfl ?_|refine qB 3 rfl rfl rfl ?_|refine qB 4 rfl rfl rfl ?_)
  refine qP I ?_
  (first|refine qB 0 rfl rfl rfl ?_|refine qB 1 rfl rfl rfl ?_|refine qB 2 rfl rfl rfl ?_|refine qB 3 rfl rfl rfl ?_|refine qB 4 rfl rfl rfl ?_)
  refine qC I I (fun W hp=>HP c a x hz.m1 W (hc.hp hp) (hv.hp hp) (ht.hp hp)) (qP I (qP I ?_))
  (first|refine qB 0 rfl rfl rfl ?_|refine qB 1 rfl rfl rfl ?_|refine qB 2 rfl rfl rfl ?_|refine qB 3 rfl rfl rfl ?_|refine qB 4 rfl rfl rfl ?_)
  refine qP I ?_
  (first|refine qB 0 rfl rfl rfl ?_|refine qB 1 rfl rfl rfl ?_|refine qB 2 rfl rfl rfl ?_|refine qB 3 rfl rfl rfl ?_|refine qB 4 rfl rfl rfl ?_)
  refine qC I I (fun W hp=>HP c b y hz.m2 W (hc.hp hp) (hv.hp hp) (ht.hp hp)) (qP I ?_)
  (first|refine qB 0 rfl rfl rfl ?_|refine qB 1 rfl rfl rfl ?_|refine qB 2 rfl rfl rfl ?_|refine qB 3 rfl rfl rfl ?_|refine qB 4 rfl rfl rfl ?_)
  refine BU ?_
  first|refine wX ?_|refine wY ?_
  refine wZ ?_
  refine At Tryz.hZ tH I I I I I I I I I I I fun bS=> ?_
  refine Aa (Ag ?_)
  first|refine wX ?_|refine wY ?_
  refine wZ (wC I I (fun W hp=>MA c [a*x,b*y,d] (some ⟨bS,0,none⟩) 3 (show 3≤4096 by decide) hz.ok hz.s W (hc.hp hp) (.inr ⟨bS,0,I,Ai.of_bx hp 2 I I⟩) (hv.hp hp) (ht.hp hp)) (Aa (Ag ?_)))
  first|refine wX ?_|refine wY ?_
  refine wZ (wP I (Aa (Ag ?_)))
  first|refine AG rfl (by((repeat (first|refine AI.same ?_|refine AI.off rfl ?_));exact trivial)) ?_|refine AP rfl (by kernel_rfl) ?_
  exact A6 bS ⟨I,tO⟩ [0,1,2] (by decide) I
 intro bS
 repeat (first|refine zA ?_|refine zB ?_|refine zC ?_|refine zD ?_|refine zE ?_|refine zF ?_|refine zG ?_|refine zH ?_|refine zI ?_|refine zJ ?_|refine zK ?_|refine zL ?_|refine zM rfl ?_|refine zN ?_|refine zO ?_|refine zP ?_|refine zQ ?_|refine zR rfl ?_|refine zS rfl ?_|refine zU ?_)
 exact wR1 I I I
theorem MQ (a b c x y:Rat) (ha:szQ a 36) (hb:szQ b 36) (hc:szQ c 36) (hx:szQ x 36) (hy:szQ y 36) (hz:HtZ a b c x y) (W:World) (hv:AL W) (ht:AA W):
  Ad Tryz.prog 20 #[plV a b c,ptV x y] W (fun _:Unit=> .tuple #[str (Ac (0+a*x+b*y+c)), .int .i64 0]) (fun _=>True) (fun _=>[]):=by
 refine Ab (args:=[plV a b c,ptV x y]) Tryz.func20 I I I ?_
 repeat (first|refine zA ?_|refine zB ?_|refine zC ?_|refine zD ?_|refine zE ?_|refine zF ?_|refine zG ?_|refine zH ?_|refine zI ?_|refine zJ ?_|refine zK ?_|refine zL ?_|refine zM rfl ?_|refine zN ?_|refine zO ?_|refine zP ?_|refine zQ ?_|refine zR rfl ?_|refine zS rfl ?_|refine zU ?_)
 (refine Ak rfl rfl rfl rfl ?_;intro)
 (refine Ak rfl rfl rfl rfl ?_;intro)
 refine wP I (wP I (Aa ?_))
 rename_i b2 b3
 repeat (first|refine zA ?_|refine zB ?_|refine zC ?_|refine zD ?_|refine zE ?_|refine zF ?_|refine zG ?_|refine zH ?_|refine zI ?_|refine zJ ?_|refine zK ?_|refine zL ?_|refine zM rfl ?_|refine zN ?_|refine zO ?_|refine zP ?_|refine zQ ?_|refine zR rfl ?_|refine zS rfl ?_|refine zU ?_)
 (first|refine wB 0 rfl rfl rfl ?_|refine wB 1 rfl rfl rfl ?_|refine wB 2 rfl rfl rfl ?_|refine wB 3 rfl rfl rfl ?_|refine wB 4 rfl rfl rfl ?_)
 refine wC I I (fun W hp=>OJ a b c ha hb hc W (hv.hp hp) (ht.hp hp)) (wP I (wP I ?_))
 (first|refine wP rfl ?_|refine Ah rfl rfl ?_)
 (first|refine Ah rfl rfl ?_|refine wB 0 rfl rfl rfl ?_|refine wB 1 rfl rfl rfl ?_|refine wB 2 rfl rfl rfl ?_|refine wB 3 rfl rfl rfl ?_|refine wB 4 rfl rfl rfl ?_)
 (first|refine wP rfl ?_|refine Ah rfl rfl ?_)
 (first|refine Ah rfl rfl ?_|refine wB 0 rfl rfl rfl ?_|refine wB 1 rfl rfl rfl ?_|refine wB 2 rfl rfl rfl ?_|refine wB 3 rfl rfl rfl ?_|refine wB 4 rfl rfl rfl ?_)
 refine At Tryz.hZ tH I I I I I I I I I I I fun bS=> ?_
 refine wC I I (fun W hp=>NO x y hx hy bS W (Ai.of_bx hp 2 I I) (hv.hp hp) (ht.hp hp)) (wP I (Aa ?_))
 repeat (first|refine zA ?_|refine zB ?_|refine zC ?_|refine zD ?_|refine zE ?_|refine zF ?_|refine zG ?_|refine zH ?_|refine zI ?_|refine zJ ?_|refine zK ?_|refine zL ?_|refine zM rfl ?_|refine zN ?_|refine zO ?_|refine zP ?_|refine zQ ?_|refine zR rfl ?_|refine zS rfl ?_|refine zU ?_)
 (refine Ae Tryz.hZ rfl rfl rfl rfl ?_;intro)
 refine Aa ?_
 rename_i b6
 have hcal: ∀W1,Hp W [⟨b2,52,(plV a b c).cells.toList,true,none⟩,⟨b3,62,(ptV x y).cells.toList,true,none⟩,⟨bS,25,[str (Ac x),str (Ac y)],true,none⟩,⟨b6,128,[.int .i64 0],true,none⟩] W1→Hk W1 b6:=fun W1 hp=>(hp.at_ 3 _ rfl rfl).1
 repeat (first|refine zA ?_|refine zB ?_|refine zC ?_|refine zD ?_|refine zE ?_|refine zF ?_|refine zG ?_|refine zH ?_|refine zI ?_|refine zJ ?_|refine zK ?_|refine zL ?_|refine zM rfl ?_|refine zN ?_|refine zO ?_|refine zP ?_|refine zQ ?_|refine zR rfl ?_|refine zS rfl ?_|refine zU ?_)
 (first|refine wB 0 rfl rfl rfl ?_|refine wB 1 rfl rfl rfl ?_|refine wB 2 rfl rfl rfl ?_|refine wB 3 rfl rfl rfl ?_|refine wB 4 rfl rfl rfl ?_)
 (first|refine wB 0 rfl rfl rfl ?_|refine wB 1 rfl rfl rfl ?_|refine wB 2 rfl rfl rfl ?_|refine wB 3 rfl rfl rfl ?_|refine wB 4 rfl rfl rfl ?_)
 refine wC I I (fun W hp=>NC b6 a b c x y hz W (hcal W hp) (hv.hp hp) (ht.hp hp)) (wC I I (fun W hp=>L5 b6 (Ac (0+a*x+b*y+c)) W (hcal W hp)) (wP I (wP I (wP I (wP I (Aa ?_))))))
 repeat (first|refine zA ?_|refine zB ?_|refine zC ?_|refine zD ?_|refine zE ?_|refine zF ?_|refine zG ?_|refine zH ?_|refine zI ?_|refine zJ ?_|refine zK ?_|refine zL ?_|refine zM rfl ?_|refine zN ?_|refine zO ?_|refine zP ?_|refine zQ ?_|refine zR rfl ?_|refine zS rfl ?_|refine zU ?_)
 exact wR2 I I I
end
section
-- OLD
open Go Go.RowKit Go.Am
set_option maxRecDepth 10000
structure Sd where
 x:Int
 y:Int
 rise:Int
 run:Int
 gable:Bool
 plate:Int
 over:Int
 deriving DecidableEq,Inhabited
abbrev Sd.cells (s:Sd):List Value:=[.int .i64 s.x, .int .i64 s.y, .int .i64 s.rise, .int .i64 s.run, .bool s.gable, .int .i64 s.plate, .int .i64 s.over]
abbrev Sd.val (s:Sd):Value:= .agg #[.int .i64 s.x, .int .i64 s.y, .int .i64 s.rise, .int .i64 s.run, .bool s.gable, .int .i64 s.plate, .int .i64 s.over]
abbrev spot (x y:Int):Value:= .agg #[.int .i64 x, .int .i64 y]
abbrev GH (s t u:Sd):Value:= .agg #[.int .i64 s.x, .int .i64 s.y, .int .i64 s.rise, .int .i64 s.run, .bool s.gable, .int .i64 s.plate, .int .i64 s.over, .int .i64 t.x, .int .i64 t.y, .int .i64 t.rise, .int .i64 t.run, .bool t.gable, .int .i64 t.plate, .int .i64 t.over, .int .i64 u.x, .int .i64 u.y, .int .i64 u.rise, .int .i64 u.run, .bool u.gable, .int .i64 u.plate, .int .i64 u.over]
theorem Br (s:Sd):AY Tryz.prog 194 [s.val] (spot s.x s.y):=by
 intro W
 refine Ab Tryz.func194 I I I ?_
 refine zA (zB ?_)
 refine wF I I fun _=> ?_
 refine Bk (z:=spot 0 0) I I I (fun W=>by kernel_rfl) fun b3=> ?_
 refine zC (zE (zA (zB (wP I (wB 0 I I I (wP I (wB 0 I I I ?_)))))))
 refine FR (spot 0 0) tH I I I I I (fun W=>by kernel_rfl) I I ?_
 exact wS 1 I I I (zC (zE (zO (Ay tH I (.cell 1 I I I I I) () I tO fun W _=>As.nil _ _))))
theorem KO (x y u v:Int):AY Tryz.prog 195 [spot x y,spot u v] (spot (w64 (u-x)) (w64 (v-y))):=by
 intro W
 refine Ab Tryz.func195 I I I ?_
 refine zA (zB ?_)
 refine wF I I fun _=> ?_
 refine wF I I fun _=> ?_
 refine Bk (z:=spot 0 0) I I I (fun W=>by kernel_rfl) fun b3=> ?_
 refine zC (zE (zA (zB (wP I (wB 1 I I I (wP I (wB 0 I I I (wP I (wP I (wB 1 I I I (wP I (wB 0 I I I (wP I ?_)))))))))))))
 refine FR (spot 0 0) tH I I I I I (fun W=>by kernel_rfl) I I ?_
 exact wS 2 I I I (zC (zE (zO (Ay tH I (.cell 2 I I I I I) () I tO fun W _=>As.nil _ _))))
theorem Kw (x y u v:Int):AY Tryz.prog 244 [spot x y,spot u v] (.int .i64 (w64 (w64 (x*v)-w64 (y*u)))):=by
 intro W
 refine Ab Tryz.func244 I I I ?_
 refine zA (zB ?_)
 refine wF I I fun _=> ?_
 refine wF I I fun _=> ?_
 refine wP I (zC (zE (zA (zB (wP I (wB 0 I I I (wP I (wB 1 I I I (wP I (wP I (wB 0 I I I (wP I (wB 1 I I I ?_)))))))))))))
 exact wP I (wP I (wP I (zC (zE (zO (wR1 I I I))))))
theorem Js (s t u:Sd):AY Tryz.prog 196 [GH s t u] (spot (w64 (u.x-t.x)) (w64 (u.y-t.y))):=by
 intro W
 refine Ab Tryz.func196 I I I ?_
 refine zA (zB ?_)
 refine wF I I fun _=> ?_
 refine Bk (z:=spot 0 0) I I I (fun W=>by kernel_rfl) fun b3=> ?_
 refine zC (zE (zA (zU (qP I (qB 0 I I I (qC I I (fun W _=>Br t W) (qP I (qB 0 I I I (qC I I (fun W _=>Br u W) (qC I I (fun W _=>KO t.x t.y u.x u.y W) (zD (wS 1 I I I (zC ?_)))))))))))))
 exact zE (zO (Ay tH I (.cell 1 I I I I I) () I tO fun W _=>As.nil _ _))
theorem Rv (s t u:Sd):AY Tryz.prog 201 [GH s t u] (.bool (decide (w64 (w64 (w64 (t.x-s.x)*w64 (u.y-t.y))-w64 (w64 (t.y-s.y)*w64 (u.x-t.x)))>0))):=by
 intro W
 refine Ab Tryz.func201 I I I ?_
 refine zA (zB ?_)
 refine wF I I fun _=> ?_
 refine wP I (zC (zE (zA (zU (qP I (qB 0 I I I (qC I I (fun W _=>Br s W) (qP I (qB 0 I I I (qC I I (fun W _=>Br t W) (qC I I (fun W _=>KO s.x s.y t.x t.y W) (qB 0 I I I (qC I I (fun W _=>Js s t u W) ?_)))))))))))))
 exact qC I I (fun W _=>Kw _ _ _ _ W) (qP I (qP I (zD (zC (zE (zO (wR1 I I I)))))))
structure F5 (W:World) (b off:Nat) (l:List Sd):Prop where
 get: ∀(i:Nat) (s:Sd),l[i]? =some s→Ai W b (off+i*7) s.cells
def CJ (W:World) (p:Option Addr) (l:List Sd):Prop:=l=[]∨ ∃b off,p=some ⟨b,off,none⟩∧F5 W b off l
theorem CJ.below {W W':World} {p:Option Addr} {l:List Sd} {n:Nat} (h:CJ W p l) (hn:W.heap.size≤n) (hb:Below n W W'):CJ W' p l:=by
 rcases h with h|⟨b,off,h1,h2⟩
 ·exact .inl h
 ·exact .inr ⟨b,off,h1,⟨fun i s hs=>(h2.get i s hs).below hn hb⟩⟩
theorem CJ.hp {W0 W:World} {bxs:List Bx} {p:Option Addr} {l:List Sd} (h:CJ W0 p l) (hp:Hp W0 bxs W):CJ W p l:=h.below (Nat.le_refl _) hp.below
def sd (l:List Sd) (i:Nat):Sd:=l.getD i default
theorem JB {l:List Sd} {i:Nat} (h:i<l.length):l[i]? =some (sd l i):=by simp[sd,h]
theorem CJ.row {W:World} {p:Option Addr} {l:List Sd} (h:CJ W p l) {i:Nat} (hi:i<l.length): ∃b off,p=some ⟨b,off,none⟩∧ ∀k,k<l.length→Ai W b (off+k*7) (sd l k).cells:=by
 rcases h with rfl|⟨b,off,h1,h2⟩
 ·simp at hi
 ·exact⟨b,off,h1,fun k hk=>h2.get k _ (JB hk)⟩
end
section
-- OLD
open Go Go.RowKit Go.Am
set_option maxRecDepth 10000
theorem Eu (p:Option Addr) (n cap:Nat) (W:World):Ad Tryz.prog 193 #[slv p n cap] W (fun b:Nat=> .func (.func 243) #[] #[.pointer (some ⟨b,0,none⟩)]) (fun _=>True) (fun b=>[⟨b,94,[slv p n cap],true,none⟩]):=by
 refine Ab (args:=[slv p n cap]) Tryz.func193 I I I ?_
 refine zA (zB ?_)
 refine Ak rfl rfl rfl rfl ?_;intro b
 exact wP I (zC (zE (zA (zB (wP I (wP I (zC (zE (zO (Ay tH I (.tmp I) b I tO fun W hp=>As.of_hp hp))))))))))
def prv (n i:Nat):Nat:=(i+n-1)%n
def nxt (n i:Nat):Nat:=(i+1)%n
abbrev Wz (l:List Sd) (k:Nat):List Value:=[.int .i64 k,GH (sd l (prv l.length k)) (sd l k) (sd l (nxt l.length k))]
structure D7 (b:Nat) (p:Option Addr) (cap:Nat) (l:List Sd) (W:World):Prop where
 var:Ai W b 0 [slv p l.length cap]
 ring:CJ W p l
theorem Fk (b:Nat) (p:Option Addr) (cap:Nat) (l:List Sd) (hn:l.length<4611686018427387904):
  T3 Tryz.prog 243 [.pointer (some ⟨b,0,none⟩)] l.length (Wz l) (D7 b p cap l):=by
 refine⟨fun y J Jx hNeed hdr hY W hJ=> ?_⟩
 refine C0 (args:=[.func (.yield y) #[] #[], .pointer (some ⟨b,0,none⟩)]) (J0:=J 0) Tryz.func243 I I I hJ ?_
 refine zA (zB (wL 0 I I (fun W hp=>(hNeed 0 W hp).var) I (wP I (wP I (zC (zE (zA (zB (wL 0 I I (fun W hp=>(hNeed 0 W hp).var) I (wP I (wP I (zC (zE ?_)))))))))))))
 refine zH ?_
 refine C7 (X:=Nat) (fun k=>[(0, .func (.yield y) #[] #[]),(1, .pointer (some ⟨b,0,none⟩)),(3, .int .i64 (l.length:Nat)),(8, .int .i64 (l.length:Nat)),(9, .int .i64 (k:Nat))]) J (fun k=>k≤l.length) (fun k=>l.length-k) 0 (Nat.zero_le _) ⟨I,I,I,I,I,tO⟩ (fun W h=>h) ?_
 intro k hk
 refine zA (zB (wP I (zC (zE (zA ?_)))))
 refine Aj I ?_ ?_
 rotate_left
 ·intro h
  refine zJ (zK (zK (zL ?_)))
  have:k=l.length:=by simp at h;omega
  subst this
  exact EA I fun W h=>h
 intro h
 have hk:k<l.length:=by simp at h;omega
 clear h
 refine zI (zE (zA (zH (zA (zB (wP I (wP I (zC (zE (zA ?_))))))))))
 have hz:(l.length:Int)≠0:=by omega
 have e1:(w64 (w64 ((k:Int)+(l.length:Int))-1)).tmod (l.length:Int)=((prv l.length k:Nat):Int):=by
  rw[Ap (x:=(k:Int)+l.length) (by omega) (by omega),Ap (by omega) (by omega)]
  have:(k:Int)+l.length-1=((k+l.length-1:Nat):Int):=by omega
  rw[this];rfl
 have e2:(w64 ((k:Int)+1)).tmod (l.length:Int)=((nxt l.length k:Nat):Int):=by
  rw[Ap (x:=(k:Int)+1) (by omega) (by omega)]
  rfl
 have l1:prv l.length k<l.length:=Nat.mod_lt _ (by omega)
 have l2:nxt l.length k<l.length:=Nat.mod_lt _ (by omega)
 refine Oh 23 (hdr k) Tryz.mixed (by kernel_rfl) I ?_
 refine qP I (qP I (qL 0 I I (fun W hp=>(hNeed k W hp).var) I ?_))
 iterate 5 refine qP I ?_
 refine Ed I I I I I hz ?_
 refine Eg 20 _ I (congrArg (Value.int .i64) e1) ?_
 obtain⟨b2,off,rfl,hrow⟩: ∃b2 off,p=some ⟨b2,off,none⟩∧ ∀i,i<l.length→ ∀W,J k W→Ai W b2 (off+i*7) (sd l i).cells:=by
  obtain⟨b2,off,e,_⟩:=(hNeed 0 W hJ).ring.row hk
  refine⟨b2,off,e,fun i hi W hW=> ?_⟩
  obtain⟨b3,off3,e',h⟩:=(hNeed k W hW).ring.row hk
  rw[e] at e'
  cases e'
  exact h i hi
 refine qJ ?_
 refine I7 I I I I (fun W hp=>Ai.load 0 tH I ((hrow _ l1) W hp) I) ?_
 refine qL 0 I I (fun W hp=>(hNeed k W hp).var) I (qP I ?_)
 refine qJ ?_
 refine I7 I I I I (fun W hp=>Ai.load 0 tH I ((hrow _ hk) W hp) I) ?_
 refine qL 0 I I (fun W hp=>(hNeed k W hp).var) I (qP I (qP I (qP I ?_)))
 refine Ed I I I I I hz ?_
 refine Eg 31 _ I (congrArg (Value.int .i64) e2) ?_
 refine qJ ?_
 refine I7 I I I I (fun W hp=>Ai.load 0 tH I ((hrow _ l2) W hp) I) ?_
 refine Qd (GH default default default) tH I I I I I (fun W=>by kernel_rfl) I I ?_
 refine zD ?_
 refine DK (A1:=J (k+1)) (A2:=Jx) I I I I I I (fun W hp=>hY k W hk hp) ?_ ?_
 ·exact wP I (zC (zE (zS I (zI (zN (zE (zB (wP I (wP I (zC (CA (k+1) hk (by omega) ⟨I,I,I,I,congrArg (fun z=>some (Value.int .i64 z)) (BJ (x:=(k:Int)+1) (by omega) (by omega)),tO⟩ (fun W h=>h))))))))))))
 ·exact wP I (zC (zE (zR I (zO (zQ (zP (zP (zQ (BI I (fun W h=>h))))))))))
end
section
-- OLD
open Go Go.RowKit Go.Am
set_option maxRecDepth 10000
-- BOXES 6
abbrev T0 (a b c d:Int):Value:= .agg #[.int .i64 a, .int .i64 b, .int .i64 c, .int .i64 d]
theorem PN (s t u:Sd):AY Tryz.prog 197 [GH s t u] (T0 (if u.x<t.x then u.x else t.x) (if u.y<t.y then u.y else t.y) (if u.x>t.x then u.x else t.x) (if u.y>t.y then u.y else t.y)):=by
 intro W
 refine Ab Tryz.func197 I I I ?_
 refine zA (zB ?_)
 refine wF I I fun _=> ?_
 refine Bk (z:=T0 0 0 0 0) I I I (fun W=>by kernel_rfl) fun b2=> ?_
 refine Aa (A8 (Az ?_))
 refine PL (X:=Nat×Nat) (fun x=>[(2, .pointer (some ⟨b2,0,none⟩)),(3, .pointer (some ⟨x.1,0,none⟩)),(4, .pointer (some ⟨x.2,0,none⟩))])
  (fun x=>[⟨b2,240,(T0 0 0 0 0).cells.toList,true,none⟩,⟨x.1,233,(spot t.x t.y).cells.toList,true,none⟩,⟨x.2,233,(spot u.x u.y).cells.toList,true,none⟩]) 4 Tryz.mixed (by kernel_rfl) ?_ ?_
 ·refine qP I (qB 0 I I I (qC I I (fun W _=>Br t W) (qP I (qB 0 I I I (qC I I (fun W _=>Br u W) (zG (wX ?_)))))))
  refine RS.cons ?_ (RS.cons ?_ RS.nil)
  ·refine Bk (z:=spot 0 0) I I I (fun W=>by kernel_rfl) fun b3=> ?_
   refine zC (zF (wX ?_))
   refine RS.cons ?_ RS.nil
   refine Bk (z:=spot 0 0) I I I (fun W=>by kernel_rfl) fun b4=> ?_
   refine zC (zF (wX ?_))
   refine RS.cons ?_ RS.nil
   refine wS 2 I I I (zC (zF (wX ?_)))
   refine RS.cons ?_ RS.nil
   refine wS 3 I I I (zC (zF ?_))
   refine AG I (by((repeat (first|refine AI.same ?_|refine AI.off I ?_));exact tO)) ?_
   exact A6 (b3,b4) ⟨I,I,I,tO⟩ [1,2,3] (by decide) I
  ·refine Bk (z:=spot 0 0) I I I (fun W=>by kernel_rfl) fun b4=> ?_
   refine zC (zF (wX ?_))
   refine RS.cons ?_ RS.nil
   refine Bk (z:=spot 0 0) I I I (fun W=>by kernel_rfl) fun b3=> ?_
   refine zC (zF (wX ?_))
   refine RS.cons ?_ RS.nil
   refine wS 3 I I I (zC (zF (wX ?_)))
   refine RS.cons ?_ RS.nil
   refine wS 2 I I I (zC (zF ?_))
   refine AG I (by((repeat (first|refine AI.same ?_|refine AI.off I ?_));exact tO)) ?_
   exact A6 (b3,b4) ⟨I,I,I,tO⟩ [1,3,2] (by decide) I
 ·rintro⟨b3,b4⟩
  refine zE (zA (zB (wP I (wB 1 I I I (wP I (wB 2 I I I (wP I (wP I (wB 1 I I I (wP I (wB 2 I I I (wP I ?_))))))))))))
  refine FR (spot 0 0) tH I I I I I (fun W=>by kernel_rfl) I I ?_
  refine wP I (wB 1 I I I (wP I (wB 2 I I I (wP I (wP I (wB 1 I I I (wP I (wB 2 I I I (wP I ?_)))))))))
  refine FR (spot 0 0) tH I I I I I (fun W=>by kernel_rfl) I I ?_
  refine FR (T0 0 0 0 0) tH I I I I I (fun W=>by kernel_rfl) I I ?_
  exact wS 0 I I I (zC (zE (zO (Ay tH I (.cell 0 I I I I I) () I tO fun W _=>As.nil _ _))))
theorem Qr (a b c d a' b' c' d':Int):AY Tryz.prog 198 [T0 a b c d,T0 a' b' c' d'] (.bool (decide (a≤c')&&decide (a'≤c)&&decide (b≤d')&&decide (b'≤d))):=by
 intro W
 refine Ab Tryz.func198 I I I ?_
 refine zA (zB ?_)
 refine wF I I fun _=> ?_
 refine wF I I fun _=> ?_
 refine wP I (zC (zE (zA (zB (wP I (wP I (wB 0 I I I (wP I (wP I (wB 1 I I I (wP I (wP I ?_))))))))))))
 refine Bu 12 I (fun h12=> ?_) (fun h12=> ?_)
 ·refine wP I (wP I (wB 1 I I I (wP I (wP I (wB 0 I I I (wP I (wP I (wP I ?_))))))))
  refine Bu 21 I (fun h21=> ?_) (fun h21=> ?_)
  ·refine wP I (wP I (wB 0 I I I (wP I (wP I (wB 1 I I I (wP I (wP I (wP I ?_))))))))
   refine Bu 30 I (fun h30=> ?_) (fun h30=> ?_)
   ·exact wP I (wP I (wB 1 I I I (wP I (wP I (wB 0 I I I (wP I (wP I (wP I (zC (zE (zO (wR1 I I (by simp_all<;>(intros;omega))))))))))))))
   ·refine Ah I I ?_
    iterate 6 refine Ah I I ?_
    exact wP I (wP I (zC (zE (zO (wR1 I I (by simp_all<;>(intros;omega)))))))
  ·refine Ah I I ?_
   iterate 6 refine Ah I I ?_
   refine wP I (wP I ?_)
   iterate 7 refine Ah I I ?_
   exact wP I (wP I (zC (zE (zO (wR1 I I (by simp_all<;>(intros;omega)))))))
 ·refine Ah I I ?_
  iterate 6 refine Ah I I ?_
  refine wP I (wP I ?_)
  iterate 7 refine Ah I I ?_
  refine wP I (wP I ?_)
  iterate 7 refine Ah I I ?_
  exact wP I (wP I (zC (zE (zO (wR1 I I (by simp_all<;>(intros;omega)))))))
end
section
-- OLD
open Go Go.RowKit Go.Am
set_option maxRecDepth 10000
-- BOXES 6
theorem D7.mk' {W0 W:World} {bxs:List Bx} {b:Nat} {p:Option Addr} {cap:Nat} {l:List Sd} (h:CJ W0 p l) (hp:Hp W0 bxs W) (k:Nat) (hk:nth bxs k=some ⟨b,94,[slv p l.length cap],true,none⟩):D7 b p cap l W:=
 ⟨Ai.of_bx hp k hk rfl,h.hp hp⟩
def Jw (l:List Sd):Nat→Int
 |0=>0
 |k+1=>w64 (Jw l k+w64 (w64 ((sd l k).x*(sd l (nxt l.length k)).y)-w64 ((sd l k).y*(sd l (nxt l.length k)).x)))
theorem RT (W:World) (p:Option Addr) (cap:Nat) (l:List Sd) (hn:l.length<4611686018427387904) (hR:CJ W p l):
  Ad Tryz.prog 199 #[slv p l.length cap] W (fun _:Unit=> .int .i64 (Jw l l.length)) (fun _=>True) (fun _=>[]):=by
 refine Ab (args:=[slv p l.length cap]) Tryz.func199 I I I ?_
 refine zA (zB (wP I (zC (zE (zA (zB ?_))))))
 refine Bk (z:= .int .i64 0) I I I (fun W=>by kernel_rfl) fun b3=> ?_
 refine wS 0 I I I (zC (zE (zA (zA (zB (wP I ?_))))))
 refine wD (X:=Nat) I I (fun W _=>Eu p l.length cap W) ?_
 intro b _
 refine zC (zE (zH ?_))
 refine DN (X:=Nat) (fun k=>[⟨b3,3,[.int .i64 (Jw l k)],true,none⟩,⟨b,94,[slv p l.length cap],true,none⟩]) (fun k x=>x=k) (fun _ _=>False) 0 I (by kernel_rfl) (Fk b p cap l hn) (fun _=>rfl) I [] I (fun k x W _ hp=>D7.mk' hR hp 1 I) ?_ ?_ (fun _ _ _ _ _ h=>h.elim)
 ·intro k x d L rec hk hx hrec
  subst hx
  refine zB ?_
  refine Bk (z:=GH default default default) I I I (fun W=>by kernel_rfl) fun b5=> ?_
  refine wS 4 I I I (zC ?_)
  refine B4 3 hrec I ?_
  refine zH (zU (qB 0 I I I (qP I (qB 4 I I I (qC I I (fun W _=>Br (sd l x) W) (qP I (qB 4 I I I (qC I I (fun W _=>Br (sd l (nxt l.length x)) W) (qC I I (fun W _=>Kw _ _ _ _ W) (qP I (zD (wS 0 I I I (zC ?_)))))))))))))
  exact zN (Bg 3 (x+1) hrec I I [_] I)
 ·intro x d L rec hx
  subst hx
  refine zN (zE (zA (zB (wB 0 I I I (wP I (zC (zE (zO ?_))))))))
  refine BK 2 I ?_
  exact wR1 I I I
end
section
-- OLD
open Go Go.RowKit Go.Am
set_option maxRecDepth 10000
-- BOXES 8
-- EQB 4
structure VM (W:World) (b off:Nat) (rs:List (List Sd)):Prop where
 get: ∀(i:Nat) (l:List Sd),rs[i]? =some l→ ∃p cap,Ai W b (off+i*1) [slv p l.length cap]∧CJ W p l
def BZ (W:World) (p:Option Addr) (rs:List (List Sd)):Prop:=rs=[]∨ ∃b off,p=some ⟨b,off,none⟩∧VM W b off rs
def rg (rs:List (List Sd)) (i:Nat):List Sd:=rs.getD i []
theorem De {rs:List (List Sd)} {i:Nat} (h:i<rs.length):rs[i]? =some (rg rs i):=by simp[rg,h]
theorem BZ.row {W:World} {p:Option Addr} {rs:List (List Sd)} (h:BZ W p rs) {i:Nat} (hi:i<rs.length):
  ∃b off,p=some ⟨b,off,none⟩∧ ∀k,k<rs.length→ ∃q cap,Ai W b (off+k*1) [slv q (rg rs k).length cap]∧CJ W q (rg rs k):=by
 rcases h with rfl|⟨b,off,h1,h2⟩
 ·simp at hi
 ·exact⟨b,off,h1,fun k hk=>h2.get k _ (De hk)⟩
theorem BZ.below {W W':World} {p:Option Addr} {rs:List (List Sd)} {n:Nat} (h:BZ W p rs) (hn:W.heap.size≤n) (hb:Below n W W'):BZ W' p rs:=by
 rcases h with h|⟨b,off,h1,h2⟩
 ·exact .inl h
 ·refine .inr ⟨b,off,h1,⟨fun i l hl=> ?_⟩⟩
  obtain⟨q,cap,h3,h4⟩:=h2.get i l hl
  exact⟨q,cap,h3.below hn hb,h4.below hn hb⟩
end
section
open Go Go.RowKit Go.Am
set_option maxRecDepth 10000
-- BOXES 3
theorem RO (W:World) (m:Nat) (hm:m<1099511627776):Ad Tryz.prog 190 #[.slice none 0 0, .int .i64 (m:Nat)] W (fun V:Vec=>V.val 0) (fun V=>V.OK 7 0 []∧(0<m→V.p≠none)) (fun V=>[V.bx 97 []]):=by
 refine Ab (args:=[.slice none 0 0, .int .i64 (m:Nat)]) Tryz.func190 I I I ?_
 refine zA (zB (wP I (Aa (zE (zA (zA (zB (wP I (wP I (Aa (zE (zS I (zI ?_)))))))))))))
 refine zE (zA (zA (zB ?_)))
 iterate 8 refine wP I ?_
 refine Aa (zE (zA (zB (wP I (wP I (Aa (zE ?_)))))))
 have e14:w64 ((m:Int)-w64 (0-0))=m:=by
  have:w64 (0-0)=0:=rfl
  rw[this];exact(Ap (by omega) (by omega)).trans (by omega)
 refine AT 16 _ I (show Value.bool (decide (w64 ((m:Int)-w64 (0-0))>0))= .bool (decide (0<m)) by rw[e14];congr 1;simp) ?_
 refine Aj I (fun h=> ?_) (fun h=> ?_)
 ·have h:0<m:=by simpa using h
  refine zB (wP I (wP I (wP I ?_)))
  refine Bm 0 tH I I I I I I I I (Nat.le_refl _) ?_
  refine wP I ?_
  refine He Tryz.vec94 (ku:= .i64) (by kernel_rfl) m I I I I I I I I e14 h (by simp only[maxLen];omega) (by omega) ?_
  intro V hV hp hj
  refine wP I (wP I ?_)
  obtain⟨p,cap,junk⟩:=V
  cases p with
  |none=>exact absurd rfl hp
  |some g=>
  refine Bm (a:=some ⟨g,0,none⟩) (len:=m) (cap:=cap) 0 tH I I I I I I I I (Nat.zero_le _) ?_
  refine wP I (Aa (zE (zA (zB (wP I (wP I (Aa (zE (zO ?_)))))))))
  obtain⟨h1,h2,h3⟩:=hV.cap (by simp)
  refine Ay tH rfl (.tmp rfl) (⟨some g,cap,BA [.int .i64 0, .int .i64 0, .int .i64 0, .int .i64 0, .bool false, .int .i64 0, .int .i64 0] m++junk⟩:Vec) rfl ⟨⟨rfl,(fun h=>by cases h),fun _=>⟨Nat.zero_le _,h2, ?_⟩⟩,fun _=>by simp⟩ fun W hp=>As.of_hp1 hp 0 rfl
  show 0+(BA _ m++junk).length=cap*7
  rw[List.length_append,Nat.zero_add]
  exact h3
 ·have h:m=0:=by simp at h;omega
  subst h
  exact zI (zE (zA (zB (wP rfl (wP rfl (Aa (zE (zO (Ay tH rfl (.tmp rfl) Vec.empty rfl ⟨Vec.OK.empty 7,fun h=>absurd h (Nat.lt_irrefl _)⟩ fun W hp=>Own.one (fun p hp=>by cases hp) List.nodup_nil)))))))))
def cellsOf (l:List Sd):List Value:=l.flatMap Sd.cells
theorem LS (l m:List Sd):cellsOf (l++m)=cellsOf l++cellsOf m:=List.flatMap_append
theorem Fl: ∀l:List Sd,(cellsOf l).length=l.length*7
 |[]=>rfl
 |s::l=>by
  show(s.cells++cellsOf l).length=_
  rw[List.length_append,Fl l,List.length_cons]
  show 7+l.length*7=(l.length+1)*7
  omega
theorem GY: ∀(l:List Sd) (i:Nat) (s:Sd),l[i]? =some s→ ∀j,j<7→(cellsOf l)[i*7+j]? =s.cells[j]?
 |[],i,s,h,_,_=>by simp at h
 |t::l,0,s,h,j,hj=>by
  obtain rfl:t=s:=by simpa using h
  show(t.cells++cellsOf l)[0*7+j]? =_
  rw[Nat.zero_mul,Nat.zero_add,List.getElem?_append_left (show j<t.cells.length from hj)]
 |t::l,i+1,s,h,j,hj=>by
  show(t.cells++cellsOf l)[(i+1)*7+j]? =_
  rw[List.getElem?_append_right (show t.cells.length≤(i+1)*7+j by show 7≤_;omega)]
  show(cellsOf l)[(i+1)*7+j-7]? =_
  rw[show(i+1)*7+j-7=i*7+j by omega]
  exact GY l i s (by simpa using h) j hj
theorem Pn: ∀l:List Sd, ∀u∈cellsOf l,u.oneCell'=true:=fun l u hu=>by
 obtain⟨s,_,h⟩:=List.mem_flatMap.1 hu
 simp at h
 rcases h with rfl|rfl|rfl|rfl|rfl|rfl|rfl<;>rfl
theorem F5.of_cells {W:World} {b off:Nat} {l:List Sd} (hlt:b<W.heap.size) (h: ∀j u,(cellsOf l)[j]? =some u→W.cell? ⟨b,off+j,none⟩=some u):F5 W b off l:=by
 refine⟨fun i s hs=>⟨hlt,fun j u hj=> ?_⟩⟩
 have hj':j<7:=(List.getElem?_eq_some_iff.1 hj).1
 have h1:=GY l i s hs j hj'
 rw[hj] at h1
 rw[Nat.add_assoc]
 exact h _ _ h1
theorem F5.cells {W:World} {b off:Nat} {l:List Sd} (h:F5 W b off l): ∀j u,(cellsOf l)[j]? =some u→W.cell? ⟨b,off+j,none⟩=some u:=by
 intro j u hj
 have hlt:j<l.length*7:=by rw[←Fl];exact(List.getElem?_eq_some_iff.1 hj).1
 have hi:j/7<l.length:=by omega
 have h1:=GY l (j/7) _ (List.getElem?_eq_getElem hi) (j%7) (Nat.mod_lt _ (by omega))
 have e:j/7*7+j%7=j:=by omega
 rw[e,hj] at h1
 have h2:=(h.get (j/7) _ (List.getElem?_eq_getElem hi)).get (j%7) u h1.symm
 rw[Nat.add_assoc,e] at h2
 exact h2
theorem Vec.ring {V:Vec} {l:List Sd} (hV:V.OK 7 l.length (cellsOf l)): ∃p cap,V.val l.length=slv p l.length cap∧ ∀ {W0 W:World} {bxs:List Bx},Hp W0 bxs W→ ∀k,nth bxs k=some (V.bx 97 (cellsOf l))→CJ W p l:=by
 obtain⟨p,cap,junk⟩:=V
 cases p with
 |none=>
  have h0:=hV.nil rfl
  refine⟨none,0,by rw[h0];rfl,fun _ _ _=> .inl (List.length_eq_zero_iff.1 h0)⟩
 |some g=>
  refine⟨some ⟨g,0,none⟩,cap,I,fun hp k hk=> .inr ⟨g,0,I,F5.of_cells (Ai.of_bx hp k hk I).lt fun j u hj=> ?_⟩⟩
  refine(Ai.of_bx hp k hk I).get j u ?_
  show(cellsOf l++junk)[j]? =some u
  rw[List.getElem?_append_left (List.getElem?_eq_some_iff.1 hj).1]
  exact hj
def tot (rs:List (List Sd)):Nat:=(rs.map List.length).sum
theorem GT (rs:List (List Sd)):rs.flatten.length=tot rs:=by simp[tot,List.length_flatten]
theorem Na {rs:List (List Sd)} {k:Nat} (hk:k<rs.length):(rs.take (k+1)).flatten=(rs.take k).flatten++rg rs k:=by
 rw[List.take_add_one,De hk];simp
theorem Ey (rs:List (List Sd)) (k:Nat):tot (rs.take k)≤tot rs:=by
 conv=>rhs;rw[←List.take_append_drop k rs]
 unfold tot
 rw[List.map_append,List.sum_append];omega
theorem BM {rs:List (List Sd)} {k:Nat} (hk:k<rs.length):tot (rs.take (k+1))=tot (rs.take k)+(rg rs k).length:=by
 rw[←GT, ←GT,Na hk,List.length_append]
theorem I5 (W:World) (p:Option Addr) (cap:Nat) (rs:List (List Sd)) (hn:rs.length<4611686018427387904) (hT:tot rs<1099511627776) (hR:BZ W p rs) (hne: ∀l∈rs,l≠[]):
  Ad Tryz.prog 125 #[slv p rs.length cap] W (fun V:Vec=>V.val rs.flatten.length) (fun V=>V.OK 7 rs.flatten.length (cellsOf rs.flatten)) (fun V=>[V.bx 97 (cellsOf rs.flatten)]):=by
 refine Ab (args:=[slv p rs.length cap]) Tryz.func125 I I I ?_
 refine zA (zB (wP I (Aa (zE (zA (zB (wP I (Aa (zE (zA (zA (zB (wP I (wP I (wP I ?_)))))))))))))))
 refine Aa (zE (zH ?_))
 refine Aw (X:=Nat) (fun k=>[(0,slv p rs.length cap),(3, .int .i64 (tot (rs.take k):Nat)),(9,slv p rs.length cap),(10, .int .i64 (rs.length:Nat)),(11, .int .i64 (k:Nat))]) (fun _=>[])
  (fun k=>k≤rs.length) (fun k=>rs.length-k) 0 (Nat.zero_le _) ⟨rfl,rfl,rfl,rfl,rfl,trivial⟩ [] rfl ?_
 intro k hk
 refine zA (zB (wP I (Aa (zE (zA ?_)))))
 refine Aj I (fun h=> ?_) (fun h=> ?_)
 ·have hk:k<rs.length:=by simp at h;omega
  clear h
  obtain⟨b,off,rfl,hrow⟩:=hR.row hk
  obtain⟨q,cap2,hq1,hq2⟩:=hrow k hk
  refine zI (zE (zA (zH (zA (zB ?_)))))
  refine wJ ?_
  refine wL 0 I I (fun W hp=>hq1.hp hp) I (wP I (Aa (zE (zA (zB ?_)))))
  iterate 5 refine wP I ?_
  refine Aa ?_
  have hs:w64 ((tot (rs.take k):Nat)+((rg rs k).length:Nat))=(tot (rs.take (k+1)):Nat):=by
   have h1:=BM hk
   have h2:=Ey rs (k+1)
   rw[Ap (by omega) (by omega)];omega
  refine zE (zA (zB ?_))
  refine Ao 3 _ I (congrArg (Value.int .i64) hs) ?_
  exact wP I (wP I (Aa (zE (zS I (zI (zN (zE (zB (wP I (wP I (Aa (Al (k+1) hk (by omega) ⟨I,I,I,I,congrArg (fun z=>some (Value.int .i64 z)) (BJ (x:=(k:Int)+1) (by omega) (by omega)),tO⟩ [] I))))))))))))
 ·have e:k=rs.length:=by simp at h;omega
  subst e
  clear h
  rw[List.take_length]
  refine zJ (zK (zK (zL (zE (zA (zB (wP I ?_)))))))
  refine wD (X:=Vec) I I (fun W _=>RO W (tot rs) hT) ?_
  rintro V0 ⟨hV0,hV0p⟩
  refine wP I (Aa (zE (zA (zA (zB (wP I (wP I (wP I (Aa (zE (zH ?_)))))))))))
  refine Aw (X:=Nat×Vec) (fun x=>[(6,x.2.val (tot (rs.take x.1))),(25,slv p rs.length cap),(26, .int .i64 (rs.length:Nat)),(27, .int .i64 (x.1:Nat))]) (fun x=>[x.2.bx 97 (cellsOf (rs.take x.1).flatten)])
   (fun x=>x.1≤rs.length∧x.2.OK 7 (tot (rs.take x.1)) (cellsOf (rs.take x.1).flatten)) (fun x=>rs.length-x.1) (0,V0) ⟨Nat.zero_le _,hV0⟩ ⟨rfl,rfl,rfl,rfl,trivial⟩ [] rfl ?_
  rintro⟨k,V⟩ ⟨hk,hV⟩
  refine zA (zB (wP I (Aa (zE (zA ?_)))))
  refine Aj I (fun h=> ?_) (fun h=> ?_)
  ·have hk:k<rs.length:=by simp at h;omega
   clear h
   obtain⟨b,off,rfl,hrow⟩:=hR.row hk
   obtain⟨q,cap2,hq1,hq2⟩:=hrow k hk
   refine zI (zE (zA (zH (zA (zB ?_)))))
   refine wJ ?_
   refine wL 0 I I (fun W hp=>hq1.hp hp) I (wP I (Aa (zE (zB (wP I (wP I ?_))))))
   obtain⟨b2,off2,rfl,hRk⟩: ∃b off,q=some ⟨b,off,none⟩∧F5 W b off (rg rs k):=by
    rcases hq2 with h|h
    ·exact absurd h (hne _ (List.mem_of_getElem? (De hk)))
    ·exact h
   have h1:=BM hk
   have h2:=Ey rs (k+1)
   refine ER (len:=tot (rs.take k)) 0 Tryz.vec94 I I I I I I I I I hV (Fl (rg rs k)) (fun W hp j u hj=> ?_) (Pn _) (by simp only[maxLen];omega) (by omega) ?_
   ·have hR':CJ W (some ⟨b2,off2,none⟩) (rg rs k):=CJ.hp (.inr ⟨b2,off2,rfl,hRk⟩) hp
    rcases hR' with h|⟨b3,off3,e,hR'⟩
    ·exact absurd h (hne _ (List.mem_of_getElem? (De hk)))
    ·cases e
     rw[Addr.add_none]
     exact hR'.cells j u hj
   intro V' hV' _
   have e3:cellsOf (rs.take k).flatten++cellsOf (rg rs k)=cellsOf (rs.take (k+1)).flatten:=by rw[Na hk,LS]
   rw[e3, ←h1] at hV'
   rw[e3, ←h1]
   exact wP I (Aa (zN (zE (zB (wP I (wP I (Aa (Al (k+1,V') ⟨hk,hV'⟩ (by show rs.length-(k+1)<rs.length-k;omega) ⟨I,I,I,congrArg (fun z=>some (Value.int .i64 z)) (BJ (x:=(k:Int)+1) (by omega) (by omega)),tO⟩ [] I))))))))
  ·have e:k=rs.length:=by simp at h;omega
   subst e
   rw[List.take_length] at hV
   rw[List.take_length]
   refine zJ (zK (zK (zL (zE (zA (zB (wP I (wP I (Aa (zE (zO ?_)))))))))))
   refine Ay tH I (.tmp I) V (by rw[GT]) (by rw[GT];exact hV) fun W hp=>As.of_hp1 hp 0 I
-- BOXES 12
def lox (t u:Sd):Int:=if u.x<t.x then u.x else t.x
def loy (t u:Sd):Int:=if u.y<t.y then u.y else t.y
def hix (t u:Sd):Int:=if u.x>t.x then u.x else t.x
def hiy (t u:Sd):Int:=if u.y>t.y then u.y else t.y
def bsd (rs:List (List Sd)) (q:Nat×Nat):Sd:=sd (rg rs q.1) q.2
def esd (rs:List (List Sd)) (q:Nat×Nat):Sd:=sd (rg rs q.1) (nxt (rg rs q.1).length q.2)
def BX (rs:List (List Sd)) (q:Nat×Nat):List Value:=[.int .i64 (lox (bsd rs q) (esd rs q)), .int .i64 (loy (bsd rs q) (esd rs q)), .int .i64 (hix (bsd rs q) (esd rs q)), .int .i64 (hiy (bsd rs q) (esd rs q))]
def BE (q:Nat×Nat):List Value:=[.int .i64 (q.1:Nat), .int .i64 (q.2:Nat)]
def Bl (k j:Nat):List (Nat×Nat):=(List.range j).map fun i=>(k,i)
def AD (rs:List (List Sd)):Nat→List (Nat×Nat)
 |0=>[]
 |k+1=>AD rs k++Bl k (rg rs k).length
theorem Te (k j:Nat):Bl k (j+1)=Bl k j++[(k,j)]:=by simp[Bl,List.range_succ]
theorem LE (k j:Nat):(Bl k j).length=j:=by simp[Bl]
theorem Jt (rs:List (List Sd)): ∀k,k≤rs.length→(AD rs k).length=tot (rs.take k)
 |0,_=>rfl
 |k+1,h=>by
  rw[BM (by omega)]
  show(AD rs k++Bl k _).length=_
  rw[List.length_append,Jt rs k (by omega),LE]
theorem Nb (rs:List (List Sd)): ∀k, ∀q∈AD rs k,q.1<k∧q.2<(rg rs q.1).length
 |0,q,h=>by cases h
 |k+1,q,h=>by
  rcases List.mem_append.1 h with h|h
  ·have:=Nb rs k q h
   exact⟨by omega,this.2⟩
  ·obtain⟨i,hi,rfl⟩:=List.mem_map.1 h
   exact⟨Nat.lt_succ_self k,List.mem_range.1 hi⟩
def nbB (n:Nat) (q q':Nat×Nat):Bool:=(q.1==q'.1)&&(((q.2:Int)-q'.2==1)||((q.2:Int)-q'.2==(n:Int)-1))
def XS (t u t' u':Sd):Bool:=decide (lox t u≤hix t' u')&&decide (lox t' u'≤hix t u)&&decide (loy t u≤hiy t' u')&&decide (loy t' u'≤hiy t u)
def Hf (rs:List (List Sd)) (q q':Nat×Nat):Bool:= !nbB (rg rs q.1).length q q'&&XS (bsd rs q) (esd rs q) (bsd rs q') (esd rs q')
def pl (rs:List (List Sd)) (i:Nat):Nat×Nat:=(AD rs rs.length).getD i (0,0)
def crs (rs:List (List Sd)):Bool:=(List.range (tot rs)).any fun i=>(List.range i).any fun k=>Hf rs (pl rs i) (pl rs k)
theorem Pm {α:Type} (f:α→List Value) (n:Nat) (hf: ∀x,(f x).length=n): ∀(l:List α) (i:Nat) (x:α),l[i]? =some x→ ∀(j:Nat) (u:Value),(f x)[j]? =some u→(l.flatMap f)[i*n+j]? =some u
 |[],i,x,h,_,_,_=>by simp at h
 |y::l,0,x,h,j,u,hu=>by
  obtain rfl:y=x:=by simpa using h
  rw[List.flatMap_cons,Nat.zero_mul,Nat.zero_add,List.getElem?_append_left (List.getElem?_eq_some_iff.1 hu).1]
  exact hu
 |y::l,i+1,x,h,j,u,hu=>by
  rw[List.flatMap_cons,List.getElem?_append_right (by rw[hf];rw[Nat.add_mul];omega),hf]
  rw[show(i+1)*n+j-n=i*n+j by rw[Nat.add_mul];omega]
  exact Pm f n hf l i x (by simpa using h) j u hu
theorem Vec.rowAt {α:Type} {f:α→List Value} {n:Nat} (hf: ∀x,(f x).length=n) {l:List α} {g cap:Nat} {junk:List Value} {e:TypeId} {W0 W:World} {bxs:List Bx} (hp:Hp W0 bxs W) (k:Nat) (hk:nth bxs k=some ((⟨some g,cap,junk⟩:Vec).bx e (l.flatMap f))) {i:Nat} {x:α} (hi:l[i]? =some x):
  Ai W g (0+i*n) (f x):=by
 have h:=Ai.of_bx hp k hk rfl
 refine⟨h.lt,fun j u hu=> ?_⟩
 have h1:=Pm f n hf l i x hi j u hu
 have:=h.get (i*n+j) u (by
  show(l.flatMap f++junk)[i*n+j]? =some u
  rw[List.getElem?_append_left (List.getElem?_eq_some_iff.1 h1).1]
  exact h1)
 rw[Nat.zero_add] at this⊢
 exact this
theorem Vec.val_eq {V:Vec} {size n:Nat} {xs:List Value} (h:V.OK size n xs):V.val n= .slice (V.p.map fun g=>⟨g,0,none⟩) n (match V.p with|none=>0|some _=>V.cap):=by
 obtain⟨p,cap,junk⟩:=V
 cases p with
 |none=>have:=h.nil rfl;subst this;rfl
 |some g=>rfl
theorem GO {n:Nat} {f:Nat→Bool} {k:Nat} (hk:k<n) (h:f k=true):(List.range n).any f=true:=List.any_eq_true.2 ⟨k,List.mem_range.2 hk,h⟩
theorem GC {n:Nat} {f:Nat→Bool} (h: ∀k,k<n→f k=false):(List.range n).any f=false:=Bool.eq_false_iff.2 fun h2=>by
 obtain⟨k,hk,h3⟩:=List.any_eq_true.1 h2
 rw[h k (List.mem_range.1 hk)] at h3;cases h3
theorem Lz (W:World) (p:Option Addr) (cap:Nat) (rs:List (List Sd)) (hn:rs.length<4611686018427387904) (hT:tot rs<1099511627776) (hl: ∀l∈rs,l.length<4611686018427387904) (hR:BZ W p rs):
  Ad Tryz.prog 131 #[slv p rs.length cap] W (fun _:Unit=> .bool (crs rs)) (fun _=>True) (fun _=>[]):=by
 refine Ab (args:=[slv p rs.length cap]) Tryz.func131 I I I ?_
 refine zA (zB (wP I (Aa (zE (zA (zB ?_))))))
 (refine Ae Tryz.hZ rfl rfl rfl rfl ?_;intro)
 refine Aa ?_
 rename_i b3
 refine zE (zA (zB ?_))
 (refine Ae Tryz.hZ rfl rfl rfl rfl ?_;intro)
 refine Aa ?_
 rename_i b4
 refine zE (zA (zA (zB (wP I (wP I (wP I (Aa (zE (zH ?_)))))))))
 iterate 2 refine Cp ?_
 refine Nh ?_
 refine Le (X:=Nat×Vec×Vec×List Nat) (fun x=>x.2.2.2.map CS) (fun x=>[(0,slv p rs.length cap),(3, .pointer (some ⟨b3,0,none⟩)),(4, .pointer (some ⟨b4,0,none⟩)),(14,slv p rs.length cap),(15, .int .i64 (rs.length:Nat)),(16, .int .i64 (x.1:Nat))])
  (fun x=>[⟨b3,237,[x.2.1.val (AD rs x.1).length],true,none⟩,⟨b4,238,[x.2.2.1.val (AD rs x.1).length],true,none⟩,x.2.1.bx 240 ((AD rs x.1).flatMap (BX rs)),x.2.2.1.bx 243 ((AD rs x.1).flatMap BE),bag x.2.2.2])
  (fun x=>x.1≤rs.length∧x.2.1.OK 4 (AD rs x.1).length ((AD rs x.1).flatMap (BX rs))∧x.2.2.1.OK 2 (AD rs x.1).length ((AD rs x.1).flatMap BE)) (fun x=>rs.length-x.1) (0,Vec.empty,Vec.empty,[])
  ⟨Nat.zero_le _,Vec.OK.empty 4,Vec.OK.empty 2⟩ rfl ⟨rfl,rfl,rfl,rfl,rfl,rfl,trivial⟩ [] rfl ?_
 rintro⟨k,V1,V2,ds⟩ ⟨hk0,hV10,hV20⟩
 have hk:k≤rs.length:=hk0
 have hV1:V1.OK 4 (AD rs k).length ((AD rs k).flatMap (BX rs)):=hV10
 have hV2:V2.OK 2 (AD rs k).length ((AD rs k).flatMap BE):=hV20
 clear hk0 hV10 hV20
 refine zA (zB (wP I (Aa (zE (zA ?_)))))
 refine Aj I (fun h=> ?_) (fun h=> ?_)
 ·have hk:k<rs.length:=by simp at h;omega
  clear h
  obtain⟨b',off,rfl,hrow⟩:=hR.row hk
  obtain⟨q,cap2,hq1,hq2⟩:=hrow k hk
  have hlk:(rg rs k).length<4611686018427387904:=hl _ (List.mem_of_getElem? (De hk))
  refine zI (zE (zA (zH (zA (zB (wP I ?_))))))
  refine wJ ?_
  refine wL 0 I I (fun W hp=>hq1.hp hp) I ?_
  (refine Ae Tryz.hZ rfl rfl rfl rfl ?_;intro)
  rename_i b5
  refine wS 5 I I I (wP I (Aa (zE (zA (zB (wP I ?_))))))
  refine wD (X:=Nat) I I (fun W _=>Eu q (rg rs k).length cap2 W) ?_
  intro b _
  refine Aa (zE (zH ?_))
  refine DN (X:=Vec×Vec×Nat) (fun x=>[⟨b3,237,[x.1.val (AD rs k++Bl k x.2.2).length],true,none⟩,⟨b4,238,[x.2.1.val (AD rs k++Bl k x.2.2).length],true,none⟩,x.1.bx 240 ((AD rs k++Bl k x.2.2).flatMap (BX rs)),x.2.1.bx 243 ((AD rs k++Bl k x.2.2).flatMap BE),bag ds,⟨b5,3,[.int .i64 (k:Nat)],true,none⟩,⟨b,94,[slv q (rg rs k).length cap2],true,none⟩])
   (fun j x=>x.2.2=j∧x.1.OK 4 (AD rs k++Bl k x.2.2).length ((AD rs k++Bl k x.2.2).flatMap (BX rs))∧x.2.1.OK 2 (AD rs k++Bl k x.2.2).length ((AD rs k++Bl k x.2.2).flatMap BE)) (fun _ _=>False) (V1,V2,0) rfl (by kernel_rfl) (Fk b q cap2 (rg rs k) hlk) (fun _=>rfl)
   ⟨rfl,by show V1.OK 4 (AD rs k++Bl k 0).length _;rw[show AD rs k++Bl k 0=AD rs k by simp[Bl]];exact hV1,by show V2.OK 2 (AD rs k++Bl k 0).length _;rw[show AD rs k++Bl k 0=AD rs k by simp[Bl]];exact hV2⟩ []
   (by show _=_++[];rw[show AD rs k++Bl k (V1,V2,0).2.2=AD rs k by simp[Bl]];rfl) (fun j x W _ hp=>D7.mk' hq2 hp 6 rfl) ?_ ?_ (fun _ _ _ _ _ h=>h.elim)
  ·rintro j' ⟨U1,U2,j⟩ d L rec hj ⟨e1,hU1,hU2⟩ hrec
   obtain rfl:j=j':=e1
   have hU1:U1.OK 4 (AD rs k++Bl k j).length ((AD rs k++Bl k j).flatMap (BX rs)):=hU1
   have hU2:U2.OK 2 (AD rs k++Bl k j).length ((AD rs k++Bl k j).flatMap BE):=hU2
   have hlen:(AD rs k++Bl k (j+1)).length≤tot rs:=by
    rw[List.length_append,LE,Jt rs k (by omega)]
    have h1:=BM hk
    have h2:=Ey rs (k+1)
    omega
   have hlen1:(AD rs k++Bl k (j+1)).length=(AD rs k++Bl k j).length+1:=by
    simp only[List.length_append,LE];omega
   have es:AD rs k++Bl k (j+1)=(AD rs k++Bl k j)++[(k,j)]:=by rw[Te,List.append_assoc]
   have eb1:(AD rs k++Bl k (j+1)).flatMap (BX rs)=(AD rs k++Bl k j).flatMap (BX rs)++BX rs (k,j):=by rw[es,List.flatMap_append];simp
   have eb2:(AD rs k++Bl k (j+1)).flatMap BE=(AD rs k++Bl k j).flatMap BE++BE (k,j):=by rw[es,List.flatMap_append];simp
   refine zA (zB (wP I (Aa (zE (zB ?_)))))
   (refine Ae Tryz.hZ rfl rfl rfl rfl ?_;intro)
   refine wS 9 I I I (Aa ?_)
   rename_i b8
   refine B4 8 hrec I ?_
   refine B6 ?_
   refine IG (X:= {x:Vec×Vec//x.1.OK 4 (AD rs k++Bl k (j+1)).length ((AD rs k++Bl k (j+1)).flatMap (BX rs))∧x.2.OK 2 (AD rs k++Bl k (j+1)).length ((AD rs k++Bl k (j+1)).flatMap BE)}) (fun _=>[(3, .pointer (some ⟨b3,0,none⟩)),(4, .pointer (some ⟨b4,0,none⟩))])
    (fun x=>[⟨b3,237,[x.1.1.val (AD rs k++Bl k (j+1)).length],true,none⟩,⟨b4,238,[x.1.2.val (AD rs k++Bl k (j+1)).length],true,none⟩,x.1.1.bx 240 ((AD rs k++Bl k (j+1)).flatMap (BX rs)),x.1.2.bx 243 ((AD rs k++Bl k (j+1)).flatMap BE),bag ds,⟨b5,3,[.int .i64 (k:Nat)],true,none⟩,⟨b,94,[slv q (rg rs k).length cap2],true,none⟩,Bz d,Bb L rec .busy none]) 6 [⟨b3,237,[U1.val (AD rs k++Bl k j).length],true,none⟩,⟨b4,238,[U2.val (AD rs k++Bl k j).length],true,none⟩,Fo,Fo,bag ds,⟨b5,3,[.int .i64 (k:Nat)],true,none⟩,⟨b,94,[slv q (rg rs k).length cap2],true,none⟩,Bz d,Bb L rec .busy none,⟨b8,231,(GH (sd (rg rs k) (prv (rg rs k).length j)) (sd (rg rs k) j) (sd (rg rs k) (nxt (rg rs k).length j))).cells.toList,true,none⟩] Tryz.mixed (by kernel_rfl) ?_ ?_
   ·refine qB 0 I I I (qB 9 I I I (qC I I (fun W _=>(PN ..)) (qB 1 I I I (qB 5 I I I (qP I ?_)))))
    refine JT Tryz.hZ tH I I I I I I I I ?_
    refine BU (wX ?_)
    refine RS.cons ?_ (RS.cons ?_ (RS.nil))
    ·(refine At Tryz.hZ tH rfl rfl rfl rfl rfl rfl rfl rfl rfl rfl rfl ?_;intro)
     refine Aa (Ag (wX ?_))
     refine RS.cons ?_ (RS.cons ?_ (RS.nil))
     ·(first|refine AH 2 10 Tryz.vec237 (AD rs k++Bl k (j+1)).length ((AD rs k++Bl k (j+1)).flatMap (BX rs)) rfl rfl rfl rfl rfl rfl rfl rfl rfl rfl rfl hU1 rfl rfl hlen1.symm (by rw[eb1];rfl) (by simp only[maxLen];omega) (by omega) rfl ?_|refine AH 2 11 Tryz.vec237 (AD rs k++Bl k (j+1)).length ((AD rs k++Bl k (j+1)).flatMap (BX rs)) rfl rfl rfl rfl rfl rfl rfl rfl rfl rfl rfl hU1 rfl rfl hlen1.symm (by rw[eb1];rfl) (by simp only[maxLen];omega) (by omega) rfl ?_);intro g1 c1 j1 hU1'
      refine Aa (Ag (wX (wZ ?_)))
      (refine At Tryz.hZ tH rfl rfl rfl rfl rfl rfl rfl rfl rfl rfl rfl ?_;intro)
      refine Aa (Ag (wX (wZ ?_)))
      (first|refine AH 3 10 Tryz.vec238 (AD rs k++Bl k (j+1)).length ((AD rs k++Bl k (j+1)).flatMap BE) rfl rfl rfl rfl rfl rfl rfl rfl rfl rfl rfl hU2 rfl rfl hlen1.symm (by rw[eb2];rfl) (by simp only[maxLen];omega) (by omega) rfl ?_|refine AH 3 11 Tryz.vec238 (AD rs k++Bl k (j+1)).length ((AD rs k++Bl k (j+1)).flatMap BE) rfl rfl rfl rfl rfl rfl rfl rfl rfl rfl rfl hU2 rfl rfl hlen1.symm (by rw[eb2];rfl) (by simp only[maxLen];omega) (by omega) rfl ?_);intro g2 c2 j2 hU2'
      refine Aa (Ag (wX (wZ (wS 0 I I I (Aa (Ag (wY (wZ (wS 1 I I I (Aa (Ag ?_)))))))))))
      refine AP I (by kernel_rfl) ?_
      exact A6 ⟨(⟨some g1,c1,j1⟩,⟨some g2,c2,j2⟩),hU1',hU2'⟩ ⟨I,I,tO⟩ [0,1,2,3,4,5,6,7,8] (by decide) I
     ·(refine At Tryz.hZ tH rfl rfl rfl rfl rfl rfl rfl rfl rfl rfl rfl ?_;intro)
      refine Aa (Ag (wX (wZ ?_)))
      (first|refine AH 2 10 Tryz.vec237 (AD rs k++Bl k (j+1)).length ((AD rs k++Bl k (j+1)).flatMap (BX rs)) rfl rfl rfl rfl rfl rfl rfl rfl rfl rfl rfl hU1 rfl rfl hlen1.symm (by rw[eb1];rfl) (by simp only[maxLen];omega) (by omega) rfl ?_|refine AH 2 11 Tryz.vec237 (AD rs k++Bl k (j+1)).length ((AD rs k++Bl k (j+1)).flatMap (BX rs)) rfl rfl rfl rfl rfl rfl rfl rfl rfl rfl rfl hU1 rfl rfl hlen1.symm (by rw[eb1];rfl) (by simp only[maxLen];omega) (by omega) rfl ?_);intro g1 c1 j1 hU1'
      refine Aa (Ag (wX (wZ ?_)))
      (first|refine AH 3 10 Tryz.vec238 (AD rs k++Bl k (j+1)).length ((AD rs k++Bl k (j+1)).flatMap BE) rfl rfl rfl rfl rfl rfl rfl rfl rfl rfl rfl hU2 rfl rfl hlen1.symm (by rw[eb2];rfl) (by simp only[maxLen];omega) (by omega) rfl ?_|refine AH 3 11 Tryz.vec238 (AD rs k++Bl k (j+1)).length ((AD rs k++Bl k (j+1)).flatMap BE) rfl rfl rfl rfl rfl rfl rfl rfl rfl rfl rfl hU2 rfl rfl hlen1.symm (by rw[eb2];rfl) (by simp only[maxLen];omega) (by omega) rfl ?_);intro g2 c2 j2 hU2'
      refine Aa (Ag (wX (wZ (wS 0 I I I (Aa (Ag (wY (wZ (wS 1 I I I (Aa (Ag ?_)))))))))))
      refine AP I (by kernel_rfl) ?_
      exact A6 ⟨(⟨some g1,c1,j1⟩,⟨some g2,c2,j2⟩),hU1',hU2'⟩ ⟨I,I,tO⟩ [0,1,2,3,4,5,6,7,8] (by decide) I
    ·(refine At Tryz.hZ tH rfl rfl rfl rfl rfl rfl rfl rfl rfl rfl rfl ?_;intro)
     refine Aa (Ag (wX (wZ ?_)))
     (refine At Tryz.hZ tH rfl rfl rfl rfl rfl rfl rfl rfl rfl rfl rfl ?_;intro)
     refine Aa (Ag (wX (wZ ?_)))
     (first|refine AH 2 10 Tryz.vec237 (AD rs k++Bl k (j+1)).length ((AD rs k++Bl k (j+1)).flatMap (BX rs)) rfl rfl rfl rfl rfl rfl rfl rfl rfl rfl rfl hU1 rfl rfl hlen1.symm (by rw[eb1];rfl) (by simp only[maxLen];omega) (by omega) rfl ?_|refine AH 2 11 Tryz.vec237 (AD rs k++Bl k (j+1)).length ((AD rs k++Bl k (j+1)).flatMap (BX rs)) rfl rfl rfl rfl rfl rfl rfl rfl rfl rfl rfl hU1 rfl rfl hlen1.symm (by rw[eb1];rfl) (by simp only[maxLen];omega) (by omega) rfl ?_);intro g1 c1 j1 hU1'
     refine Aa (Ag (wX (wZ ?_)))
     (first|refine AH 3 10 Tryz.vec238 (AD rs k++Bl k (j+1)).length ((AD rs k++Bl k (j+1)).flatMap BE) rfl rfl rfl rfl rfl rfl rfl rfl rfl rfl rfl hU2 rfl rfl hlen1.symm (by rw[eb2];rfl) (by simp only[maxLen];omega) (by omega) rfl ?_|refine AH 3 11 Tryz.vec238 (AD rs k++Bl k (j+1)).length ((AD rs k++Bl k (j+1)).flatMap BE) rfl rfl rfl rfl rfl rfl rfl rfl rfl rfl rfl hU2 rfl rfl hlen1.symm (by rw[eb2];rfl) (by simp only[maxLen];omega) (by omega) rfl ?_);intro g2 c2 j2 hU2'
     refine Aa (Ag (wX (wZ (wS 0 I I I (Aa (Ag (wY (wZ (wS 1 I I I (Aa (Ag ?_)))))))))))
     refine AP I (by kernel_rfl) ?_
     exact A6 ⟨(⟨some g1,c1,j1⟩,⟨some g2,c2,j2⟩),hU1',hU2'⟩ ⟨I,I,tO⟩ [0,1,2,3,4,5,6,7,8] (by decide) I
   ·rintro⟨⟨U1',U2'⟩,hU1',hU2'⟩
    exact zN (Bg 8 (U1',U2',j+1) hrec I ⟨I,hU1',hU2'⟩ [] I)
  ·rintro⟨U1,U2,j⟩ d L rec ⟨e1,hU1,hU2⟩
   obtain rfl:j=(rg rs k).length:=e1
   refine zN (zN (zE (zB (wP I (wP I (Aa ?_))))))
   refine R0 4 7 I I ?_
   exact IS (X:=Nat×Vec×Vec×List Nat) (k+1,U1,U2,d::ds) ⟨hk,hU1,hU2⟩ (by show rs.length-(k+1)<rs.length-k;omega) I ⟨I,I,I,I,I,congrArg (fun z=>some (Value.int .i64 z)) (BJ (x:=(k:Int)+1) (by omega) (by omega)),tO⟩ [0,1,2,3,4] (by decide) I
 ·have e:k=rs.length:=by simp at h;omega
  subst e
  clear h hk
  have hpl:(AD rs rs.length).length=tot rs:=by rw[Jt rs _ (Nat.le_refl _),List.take_length]
  have hget: ∀i,i<tot rs→(AD rs rs.length)[i]? =some (pl rs i):=fun i hi=>by
   rw[←hpl] at hi
   simp[pl,hi]
  have hmem: ∀i,i<tot rs→(pl rs i).1<rs.length∧(pl rs i).2<(rg rs (pl rs i).1).length:=fun i hi=>Nb rs _ _ (List.mem_of_getElem? (hget i hi))
  rw[hpl] at hV1 hV2
  have hR2:=hR
  have hm62:tot rs<1099511627776:=hT
  refine zJ (zK (zK (zL (zE (zA (zA (zB (wB 0 I I I ?_))))))))
  refine Ao 37 (.slice (V1.p.map fun g=>⟨g,0,none⟩) (tot rs) (match V1.p with|none=>0|some _=>V1.cap)) I (show V1.val (AD rs rs.length).length=_ by rw[hpl];exact Vec.val_eq hV1) ?_
  refine wP I (wP I (Aa (zE (zH ?_))))
  refine Aw (X:=Nat) (fun i=>[(0,slv p rs.length cap),(3, .pointer (some ⟨b3,0,none⟩)),(4, .pointer (some ⟨b4,0,none⟩)),(38, .int .i64 (tot rs:Nat)),(39, .int .i64 (i:Nat))])
   (fun _=>[⟨b3,237,[V1.val (tot rs)],true,none⟩,⟨b4,238,[V2.val (tot rs)],true,none⟩,V1.bx 240 ((AD rs rs.length).flatMap (BX rs)),V2.bx 243 ((AD rs rs.length).flatMap BE),bag ds])
   (fun i=>i≤tot rs∧ ∀i',i'<i→((List.range i').any fun k=>Hf rs (pl rs i') (pl rs k))=false) (fun i=>tot rs-i) 0 ⟨Nat.zero_le _,fun j hj=>absurd hj (Nat.not_lt_zero _)⟩ ⟨rfl,rfl,rfl,rfl,rfl,trivial⟩ []
   (by show _=_++[];rw[hpl];rfl) ?_
  rintro i ⟨hi,hno⟩
  refine zA (zB (wP I (Aa (zE (zA ?_)))))
  refine Aj I (fun h=> ?_) (fun h=> ?_)
  rotate_left
  ·have e:i=tot rs:=by simp at h;omega
   subst e
   refine zJ (zK (zK (zL (zE (zA (zB (wP I (Aa (zE (zO ?_))))))))))
   refine Ht 4 ds I ?_
   have hf:crs rs=false:=GC hno
   exact wR1 I I (by rw[hf])
  have hi:i<tot rs:=by simp at h;omega
  clear h
  obtain⟨p1,cap1,junk1⟩:=V1
  obtain⟨p2,cap3,junk2⟩:=V2
  cases p1 with
  |none=>exact absurd (hV1.nil rfl) (Nat.ne_of_gt (Nat.lt_of_le_of_lt (Nat.zero_le i) hi))
  |some g1=>
  cases p2 with
  |none=>exact absurd (hV2.nil rfl) (Nat.ne_of_gt (Nat.lt_of_le_of_lt (Nat.zero_le i) hi))
  |some g2=>
  refine zI (zE (zA (zH (zA (zB (wP I (wP I (Aa (zE (zA (zB (wP I (wP I ?_)))))))))))))
  refine Aa (zE (zH ?_))
  refine Aw (X:=Nat) (fun k=>[(0,slv p rs.length cap),(3, .pointer (some ⟨b3,0,none⟩)),(4, .pointer (some ⟨b4,0,none⟩)),(38, .int .i64 (tot rs:Nat)),(39, .int .i64 (i:Nat)),(9, .int .i64 (i:Nat)),(42, .int .i64 (i:Nat)),(43, .int .i64 (k:Nat))])
   (fun _=>[⟨b3,237,[slv (some ⟨g1,0,none⟩) (tot rs) cap1],true,none⟩,⟨b4,238,[slv (some ⟨g2,0,none⟩) (tot rs) cap3],true,none⟩,(⟨some g1,cap1,junk1⟩:Vec).bx 240 ((AD rs rs.length).flatMap (BX rs)),(⟨some g2,cap3,junk2⟩:Vec).bx 243 ((AD rs rs.length).flatMap BE),bag ds])
   (fun k=>k≤i∧ ∀k',k'<k→Hf rs (pl rs i) (pl rs k')=false) (fun k=>i-k) 0 ⟨Nat.zero_le _,fun j hj=>absurd hj (Nat.not_lt_zero _)⟩ ⟨rfl,rfl,rfl,rfl,rfl,rfl,rfl,rfl,trivial⟩ [] rfl ?_
  rintro k ⟨hk,hnok⟩
  refine zA (zB (wP I (Aa (zE (zA ?_)))))
  refine Aj I (fun h=> ?_) (fun h=> ?_)
  rotate_left
  ·have e:k=i:=by simp at h;omega
   subst e
   refine zJ (zK (zK (zL (zN (zE (zB (wP I (wP I (Aa ?_)))))))))
   refine Al (k+1) ⟨hi,fun i' hi'=> ?_⟩ (by omega) ⟨I,I,I,I,congrArg (fun z=>some (Value.int .i64 z)) (BJ (x:=(k:Int)+1) (by omega) (by omega)),tO⟩ [] I
   by_cases e:i'=k
   ·subst e;exact GC hnok
   ·exact hno i' (by omega)
  have hk:k<i:=by simp at h;omega
  clear h
  have hkt:k<tot rs:=by omega
  obtain⟨hi1,hi2⟩:=hmem i hi
  obtain⟨hk1,hk2⟩:=hmem k hkt
  obtain⟨b',off,rfl,hrow⟩:=hR.row hi1
  obtain⟨q,cap2,hq1,hq2⟩:=hrow _ hi1
  have hlk:(rg rs (pl rs i).1).length<4611686018427387904:=hl _ (List.mem_of_getElem? (De hi1))
  have hlk2:(rg rs (pl rs k).1).length<4611686018427387904:=hl _ (List.mem_of_getElem? (De hk1))
  refine zI (zE (zA (zH (zA (zB (wP I (wP I (Aa (zE (zA (zB (wP I (wB 1 I I I ?_)))))))))))))
  refine wP I ?_
  refine wJ ?_
  refine wP I (wL 0 I I (fun W hp=>Vec.rowAt (f:=BE) (n:=2) (fun _=>rfl) hp 3 I (hget i hi)) I ?_)
  refine wJ ?_
  refine wL 0 I I (fun W hp=>hq1.hp hp) I (wP I (wP I (Aa (zE (zA (zU (qB 1 I I I (qP I ?_))))))))
  refine qJ ?_
  refine qP I (qL 1 I I (fun W hp=>Vec.rowAt (f:=BE) (n:=2) (fun _=>rfl) hp 3 I (hget i hi)) I (qB 1 I I I (qP I ?_)))
  refine qJ ?_
  refine qP I (qL 1 I I (fun W hp=>Vec.rowAt (f:=BE) (n:=2) (fun _=>rfl) hp 3 I (hget k hkt)) I (qP I (qP I (AB (Aa ?_)))))
  have egap:w64 (((pl rs i).2:Nat)-((pl rs k).2:Nat))=((pl rs i).2:Int)-(pl rs k).2:=Ap (by omega) (by omega)
  have en1:w64 (((rg rs (pl rs i).1).length:Nat)-1)=((rg rs (pl rs i).1).length:Int)-1:=Ap (by omega) (by omega)
  refine A8 ?_
  refine AT 12 _ I (congrArg (Value.int .i64) egap) ?_
  refine FC (X:=Unit) (fun _=>[(0,slv (some ⟨b',off,none⟩) rs.length cap),(3, .pointer (some ⟨b3,0,none⟩)),(4, .pointer (some ⟨b4,0,none⟩)),(38, .int .i64 (tot rs:Nat)),(39, .int .i64 (i:Nat)),(9, .int .i64 (i:Nat)),(10, .int .i64 (k:Nat)),(42, .int .i64 (i:Nat)),(43, .int .i64 (k:Nat)),(13, .bool (nbB (rg rs (pl rs i).1).length (pl rs i) (pl rs k)))])
   (fun _=>[⟨b3,237,[slv (some ⟨g1,0,none⟩) (tot rs) cap1],true,none⟩,⟨b4,238,[slv (some ⟨g2,0,none⟩) (tot rs) cap3],true,none⟩,(⟨some g1,cap1,junk1⟩:Vec).bx 240 ((AD rs rs.length).flatMap (BX rs)),(⟨some g2,cap3,junk2⟩:Vec).bx 243 ((AD rs rs.length).flatMap BE),bag ds]) (fun _=>True) ?_ ?_
  ·refine zU (qB 1 I I I (qP I ?_))
   refine qJ ?_
   refine qP I (qL 0 I I (fun W hp=>Vec.rowAt (f:=BE) (n:=2) (fun _=>rfl) hp 3 I (hget i hi)) I (qB 1 I I I (qP I ?_)))
   refine qJ ?_
   refine qP I (qL 0 I I (fun W hp=>Vec.rowAt (f:=BE) (n:=2) (fun _=>rfl) hp 3 I (hget k hkt)) I (qP I (qP I ?_)))
   have e1:((((pl rs i).1:Nat):Int)==(((pl rs k).1:Nat):Int))=((pl rs i).1==(pl rs k).1):=by
    by_cases h:(pl rs i).1=(pl rs k).1
    ·rw[h,beq_self_eq_true,beq_self_eq_true]
    ·have h1:(((pl rs i).1:Nat):Int)≠(pl rs k).1:=by omega
     rw[beq_eq_false_iff_ne.2 h1,beq_eq_false_iff_ne.2 h]
   refine OC 77 I (fun h77=> ?_) (fun h77=> ?_)
   ·have h77':((pl rs i).1==(pl rs k).1)=true:=e1.symm.trans h77
    refine qP I (qP I (qP I ?_))
    refine OC 80 I (fun h80=> ?_) (fun h80=> ?_)
    ·have e:nbB (rg rs (pl rs i).1).length (pl rs i) (pl rs k)=true:=by
      have h80':(((pl rs i).2:Int)-(pl rs k).2==1)=true:=h80
      unfold nbB;rw[h77',h80'];rfl
     iterate 4 refine EL I I ?_
     exact qP I (qP I (qP I (AB (Aa (An () tO ⟨I,I,I,I,I,I,I,I,I,by rw[e];rfl,tO⟩ [] I)))))
    ·have e:nbB (rg rs (pl rs i).1).length (pl rs i) (pl rs k)=(((pl rs i).2:Int)-(pl rs k).2==w64 (((rg rs (pl rs i).1).length:Nat)-1)):=by
      have h80':(((pl rs i).2:Int)-(pl rs k).2==1)=false:=h80
      unfold nbB;rw[h77',h80',en1];rfl
     iterate 7 refine qP I ?_
     exact AB (Aa (An () tO ⟨I,I,I,I,I,I,I,I,I,by rw[e];rfl,tO⟩ [] I))
   ·have h77':((pl rs i).1==(pl rs k).1)=false:=e1.symm.trans h77
    have e:nbB (rg rs (pl rs i).1).length (pl rs i) (pl rs k)=false:=by unfold nbB;rw[h77'];rfl
    iterate 8 refine EL I I ?_
    exact qP I (qP I (AB (Aa (An () tO ⟨I,I,I,I,I,I,I,I,I,by rw[e];rfl,tO⟩ [] I))))
  intro _ _
  have next:Hf rs (pl rs i) (pl rs k)=false→ ∀k',k'<k+1→Hf rs (pl rs i) (pl rs k')=false:=fun h k' hk'=>by
   by_cases e:k'=k
   ·subst e;exact h
   ·exact hnok k' (by omega)
  refine zA (zU (qP I (qP I (qP I ?_))))
  refine OC 89 I (fun h89=> ?_) (fun h89=> ?_)
  ·have hnb:nbB (rg rs (pl rs i).1).length (pl rs i) (pl rs k)=false:=by simpa using h89
   refine qB 0 I I I (qP I ?_)
   refine qJ ?_
   refine qL 0 I I (fun W hp=>Vec.rowAt (f:=BX rs) (n:=4) (fun _=>rfl) hp 2 I (hget i hi)) I (qB 0 I I I (qP I ?_))
   refine qJ ?_
   refine qL 0 I I (fun W hp=>Vec.rowAt (f:=BX rs) (n:=4) (fun _=>rfl) hp 2 I (hget k hkt)) I (qC I I (fun W _=>(Qr ..)) (qP I (AB (Aa (zE ?_)))))
   refine Aj I (fun h=> ?_) (fun h=> ?_)
   ·refine zA (zB (wP I (Aa (zE (zO (zQ (zP (zP (zQ (zQ (zP (zP (zQ ?_)))))))))))))
    refine zP ?_
    refine Ht 4 ds I ?_
    have hf:crs rs=true:=GO hi (GO hk (by unfold Hf;rw[hnb];exact h))
    exact wR1 I I (by rw[hf])
   ·exact zI (zN (zE (zB (wP I (wP I (Aa (Al (k+1) ⟨hk,next (by unfold Hf;rw[hnb];exact h)⟩ (by omega) ⟨I,I,I,I,I,I,I,congrArg (fun z=>some (Value.int .i64 z)) (BJ (x:=(k:Int)+1) (by omega) (by omega)),tO⟩ [] I)))))))
  ·have hnb:nbB (rg rs (pl rs i).1).length (pl rs i) (pl rs k)=true:=by simpa using h89
   iterate 9 refine EL I I ?_
   exact qP I (AB (Aa (zE (zS I (zI (zN (zE (zB (wP I (wP I (Aa (Al (k+1) ⟨hk,next (by unfold Hf;rw[hnb];rfl)⟩ (by omega) ⟨I,I,I,I,I,I,I,congrArg (fun z=>some (Value.int .i64 z)) (BJ (x:=(k:Int)+1) (by omega) (by omega)),tO⟩ [] I))))))))))))
end
section
-- OLD
open Go Go.RowKit Go.Am
set_option maxRecDepth 10000
-- BOXES 8
-- EQB 4
def UL (s t u:Sd):Bool:=
 !((w64 (u.x-t.x)==0)==(w64 (u.y-t.y)==0))&& !((w64 (t.x-s.x)==0)==(w64 (u.x-t.x)==0))
def Ij (l:List Sd) (k:Nat):Bool:=UL (sd l (prv l.length k)) (sd l k) (sd l (nxt l.length k))
def shp (l:List Sd):Bool:=decide (4≤l.length)&&(List.range l.length).all (Ij l)
theorem T5 {l:List Sd} {k:Nat} (hk:k<l.length) (h:Ij l k=false):shp l=false:=by
 unfold shp
 have:(List.range l.length).all (Ij l)=false:=by
  apply Bool.eq_false_iff.2
  intro h2
  have:=List.all_eq_true.1 h2 k (List.mem_range.2 hk)
  rw[h] at this;cases this
 rw[this,Bool.and_false]
theorem O5 (W:World) (p:Option Addr) (cap:Nat) (l:List Sd) (hn:l.length<4611686018427387904) (hR:CJ W p l):
  Ad Tryz.prog 130 #[slv p l.length cap] W (fun _:Unit=> .bool (shp l)) (fun _=>True) (fun _=>[]):=by
 refine Ab (args:=[slv p l.length cap]) Tryz.func130 I I I ?_
 refine zA (zB ?_)
 refine Bk (z:= .bool false) I I I (fun W=>by kernel_rfl) fun b2=> ?_
 refine Aa (A8 ?_)
 refine FC (X:=Unit) (fun _=>[(0,slv p l.length cap),(2, .pointer (some ⟨b2,0,none⟩))]) (fun _=>[⟨b2,4,[.bool false],true,none⟩]) (fun _=>4≤l.length) ?_ ?_
 ·(refine Az ?_;refine DB ?_)
  refine wP I (wP I (wP I (Aa (A8 ?_))))
  refine Aj I (fun h=> ?_) (fun h=> ?_)
  ·refine zA (zB (wS 0 I I I (zC (zE (zO (zP ?_))))))
   have hs:shp l=false:=by simp at h;simp[shp];omega
   exact Ay tH I (.cell 0 I I I I I) () (by rw[hs]) tO fun W _=>As.nil _ _
  ·exact zI (An () (by simp at h;omega) ⟨I,I,tO⟩ [] I)
 intro _ h4
 refine zA (zA (zB (wP I ?_)))
 refine wD (X:=Nat) I I (fun W _=>Eu p l.length cap W) ?_
 intro b _
 refine zC (zE (zH ?_))
 refine DN (X:=Bool×Nat) (fun x=>[⟨b2,4,[.bool x.1],true,none⟩,⟨b,94,[slv p l.length cap],true,none⟩]) (fun k x=>x.1=false∧x.2=k∧ ∀i,i<k→Ij l i=true) (fun c x=>c= .ret∧x.1=false∧ ∃k,k<l.length∧Ij l k=false) (false,0) I (by kernel_rfl) (Fk b p cap l hn) (fun _=>rfl) ⟨I,I,fun i hi=>by omega⟩ [] I (fun k x W _ hp=>D7.mk' hR hp 1 I) ?_ ?_ ?_
 ·rintro k ⟨_,_⟩ d L rec hk ⟨rfl,rfl,hok⟩ hrec
  rename_i k
  refine zB ?_
  refine Bk (z:=GH default default default) I I I (fun W=>by kernel_rfl) fun b4=> ?_
  refine wS 4 I I I (zC ?_)
  refine B4 3 hrec I ?_
  refine B6 (Az ?_)
  refine PL (X:=Nat×Nat) (fun x=>[(2, .pointer (some ⟨b2,0,none⟩)),(5, .pointer (some ⟨x.1,0,none⟩)),(6, .pointer (some ⟨x.2,0,none⟩))])
   (fun x=>[⟨b2,4,[.bool false],true,none⟩,⟨b,94,[slv p l.length cap],true,none⟩,Bz d,Bb L rec .busy none,⟨b4,231,(GH (sd l (prv l.length k)) (sd l k) (sd l (nxt l.length k))).cells.toList,true,none⟩,
    ⟨x.1,233,(spot (w64 ((sd l k).x-(sd l (prv l.length k)).x)) (w64 ((sd l k).y-(sd l (prv l.length k)).y))).cells.toList,true,none⟩,
    ⟨x.2,233,(spot (w64 ((sd l (nxt l.length k)).x-(sd l k).x)) (w64 ((sd l (nxt l.length k)).y-(sd l k).y))).cells.toList,true,none⟩]) 4 Tryz.mixed (by kernel_rfl) ?_ ?_
  ·refine qP I (qB 4 I I I (qC I I (fun W _=>Br (sd l (prv l.length k)) W) (qP I (qB 4 I I I (qC I I (fun W _=>Br (sd l k) W) (qC I I (fun W _=>KO _ _ _ _ W) (qB 4 I I I (qC I I (fun W _=>Js (sd l (prv l.length k)) (sd l k) (sd l (nxt l.length k)) W) (zG (wX ?_))))))))))
   refine RS.cons ?_ (RS.cons ?_ RS.nil)
   ·refine Bk (z:=spot 0 0) I I I (fun W=>by kernel_rfl) fun bA=> ?_
    refine zC (zF (wX ?_))
    refine RS.cons ?_ RS.nil
    refine Bk (z:=spot 0 0) I I I (fun W=>by kernel_rfl) fun bB=> ?_
    refine zC (zF (wX ?_))
    refine RS.cons ?_ RS.nil
    refine wS 5 I I I (zC (zF (wX ?_)))
    refine RS.cons ?_ RS.nil
    refine wS 6 I I I (zC (zF ?_))
    refine AG I (by((repeat (first|refine AI.same ?_|refine AI.off I ?_));exact tO)) ?_
    exact A6 (bA,bB) ⟨I,I,I,tO⟩ [0,1,2,3,4,5,6] (by decide) I
   ·refine Bk (z:=spot 0 0) I I I (fun W=>by kernel_rfl) fun bB=> ?_
    refine zC (zF (wX ?_))
    refine RS.cons ?_ RS.nil
    refine Bk (z:=spot 0 0) I I I (fun W=>by kernel_rfl) fun bA=> ?_
    refine zC (zF (wX ?_))
    refine RS.cons ?_ RS.nil
    refine wS 6 I I I (zC (zF (wX ?_)))
    refine RS.cons ?_ RS.nil
    refine wS 5 I I I (zC (zF ?_))
    refine AG I (by((repeat (first|refine AI.same ?_|refine AI.off I ?_));exact tO)) ?_
    exact A6 (bA,bB) ⟨I,I,I,tO⟩ [0,1,2,3,4,6,5] (by decide) I
  rintro⟨bA,bB⟩
  refine zE (zA (zB (wP I (wB 6 I I I (wP I (wP I (wB 6 I I I (wP I ?_))))))))
  refine DX Tryz.underlying4 I I I I I I ?_
  refine wP I ?_
  refine Bu 30 I (fun h30=> ?_) (fun h30=> ?_)
  ·refine Ah I I ?_
   iterate 6 refine Ah I I ?_
   refine wP I (zC (zE (zR I (zA (zB (wS 0 I I I (zC (zE (zO (zQ ?_))))))))))
   refine CV 3 (false,k) hrec I ⟨I,I,k,hk, ?_⟩ [_,_,_] I
   simp[Ij,UL] at h30⊢
   simp[h30]
  ·refine wP I (wB 5 I I I (wP I (wP I (wB 6 I I I (wP I ?_)))))
   refine DX Tryz.underlying4 I I I I I I ?_
   refine wP I (Aa (A8 ?_))
   refine Aj I (fun h=> ?_) (fun h=> ?_)
   ·refine zA (zB (wS 0 I I I (zC (zE (zO (zQ ?_))))))
    refine CV 3 (false,k) hrec I ⟨I,I,k,hk, ?_⟩ [_,_,_] I
    simp[Ij,UL] at h⊢
    intro _
    exact h
   ·refine zI (zN ?_)
    refine Bg 3 (false,k+1) hrec I ⟨I,I,fun i hi=> ?_⟩ [_,_,_] I
    by_cases e:i=k
    ·subst e
     show UL _ _ _=true
     unfold UL
     rw[Bool.and_eq_true,Bool.not_eq_true',Bool.not_eq_true']
     exact⟨h30,h⟩
    ·exact hok i (by show i<k;have:i<k+1:=hi;omega)
 ·rintro⟨_,_⟩ d L rec ⟨rfl,rfl,hok⟩
  refine zN (zE (zA (zB (wS 0 I I I (zC (zE (zO ?_)))))))
  refine BK 2 I ?_
  have hs:shp l=true:=by simp only[shp,Bool.and_eq_true,decide_eq_true_eq,List.all_eq_true];exact⟨h4,fun i hi=>hok i (List.mem_range.1 hi)⟩
  exact Ay tH I (.cell 0 I I I I I) () (by rw[hs]) tO fun W _=>As.nil _ _
 ·rintro⟨_,_⟩ d L rec c ⟨rfl,rfl,k,hk,hf⟩
  refine zO (zQ (zP ?_))
  refine BK 2 I ?_
  have hs:=T5 hk hf
  exact Ay tH I (.cell 0 I I I I I) () (by rw[hs]) tO fun W _=>As.nil _ _
end
section
-- OLD
open Go Go.RowKit Go.Am
set_option maxRecDepth 10000
-- BOXES 6
def btw (n a b:Int):Bool:=decide (a≤n)&&decide (n≤b)
theorem FD (n a b:Int):AY Tryz.prog 191 [.int .i64 n, .int .i64 a, .int .i64 b] (.bool (btw n a b)):=by
 intro W
 refine Ab Tryz.func191 I I I ?_
 refine zA (zB (wP I (zC (zE (zA (zB (wP I (wP I (wP I (wP I ?_))))))))))
 refine Bu 10 I (fun h10=> ?_) (fun h10=> ?_)
 ·exact wP I (wP I (wP I (wP I (wP I (zC (zE (zO (wR1 I I (by simp_all [btw])))))))))
 ·refine Ah I I ?_
  iterate 2 refine Ah I I ?_
  exact wP I (wP I (zC (zE (zO (wR1 I I (by simp_all [btw]<;>intros<;>omega))))))
def rgd (s:Sd):Bool:=(if s.gable then s.rise==0&&s.run==0 else btw s.rise 1 48&&btw s.run 1 48)&&(btw s.x 0 65536&&btw s.y 0 65536&&btw s.plate 0 65536&&btw s.over 0 65536)
def num (s:Sd):Nat→Int
 |0=>s.x
 |1=>s.y
 |2=>s.plate
 |_=>s.over
theorem NB (s:Sd):AY Tryz.prog 127 [s.val] (.bool (rgd s)):=by
 intro W
 refine Ab Tryz.func127 I I I ?_
 (refine Az ?_;refine DB ?_)
 refine wF I I fun _=> ?_
 refine wP I (Aa (A8 ?_))
 rename_i b1
 refine FC (X:=Unit) (fun _=>[(1, .pointer (some ⟨b1,0,none⟩))]) (fun _=>[⟨b1,97,s.cells,true,none⟩]) (fun _=>(if s.gable then s.rise==0&&s.run==0 else btw s.rise 1 48&&btw s.run 1 48)=true) ?_ ?_
 ·(refine Az ?_;refine DB ?_)
  refine wP I (wB 0 I I I (Aa (A8 ?_)))
  refine Aj I (fun hg=> ?_) (fun hg=> ?_)
  ·(refine Az ?_;refine DB ?_)
   refine wP I (wB 0 I I I (wP I (wP I ?_)))
   refine Bu 10 I (fun h10=> ?_) (fun h10=> ?_)
   ·refine Ah I I ?_
    iterate 2 refine Ah I I ?_
    exact wP I (zC (zE (zR I (zA (zB (wP I (zC (zE (zO (zP (wR1 I I (by simp_all [rgd]))))))))))))
   ·refine wP I (wB 0 I I I (wP I (wP I (Aa (A8 ?_)))))
    refine Aj I (fun h14=> ?_) (fun h14=> ?_)
    ·exact zA (zB (wP I (zC (zE (zO (zP (wR1 I I (by simp_all [rgd]))))))))
    ·exact zI (An () (by simp_all) ⟨I,tO⟩ [] I)
  ·(refine Az ?_;refine DB ?_)
   refine wP I (wB 0 I I I (wC I I (fun W _=>FD _ _ _ W) (wP I (wP I ?_))))
   refine Bu 19 I (fun h19=> ?_) (fun h19=> ?_)
   ·refine Ah I I ?_
    iterate 3 refine Ah I I ?_
    exact wP I (zC (zE (zR I (zA (zB (wP I (zC (zE (zO (zP (wR1 I I (by simp_all [rgd]))))))))))))
   ·refine wP I (wB 0 I I I (wC I I (fun W _=>FD _ _ _ W) (wP I (wP I (Aa (A8 ?_))))))
    refine Aj I (fun h14=> ?_) (fun h14=> ?_)
    ·exact zA (zB (wP I (zC (zE (zO (zP (wR1 I I (by simp_all [rgd]))))))))
    ·exact zI (An () (by simp_all) ⟨I,tO⟩ [] I)
 ·intro _ hg
  refine zA (zA (zB (wP I (wB 0 I I I (wP I (wB 0 I I I (wP I (wB 0 I I I (wP I (wB 0 I I I ?_))))))))))
  refine H0 (.int .i64 0) tH I I I I I (fun W=>by kernel_rfl) I I (by rfl) (by rfl) I fun b33=> ?_
  refine wP I (wP I (zC (zE (zH ?_))))
  refine Aw (X:=Nat) (fun k=>[(33, .slice (some ⟨b33,0,none⟩) 4 4),(34, .int .i64 4),(35, .int .i64 (k:Nat))]) (fun _=>[⟨b1,97,s.cells,true,none⟩,⟨b33,3,[.int .i64 s.x, .int .i64 s.y, .int .i64 s.plate, .int .i64 s.over],true,none⟩])
   (fun k=>k≤4∧ ∀i,i<k→btw (num s i) 0 65536=true) (fun k=>4-k) 0 ⟨by omega,fun i hi=>by omega⟩ ⟨rfl,rfl,rfl,trivial⟩ [] rfl ?_
  rintro k ⟨hk,hin⟩
  (refine Az ?_;refine DB ?_)
  refine wP I (Aa (A8 ?_))
  refine FC (X:=Unit) (fun _=>[(33, .slice (some ⟨b33,0,none⟩) 4 4),(34, .int .i64 4),(35, .int .i64 (k:Nat))]) (fun _=>[⟨b1,97,s.cells,true,none⟩,⟨b33,3,[.int .i64 s.x, .int .i64 s.y, .int .i64 s.plate, .int .i64 s.over],true,none⟩]) (fun _=>k<4) ?_ ?_
  ·skip
   refine Aj I (fun h=> ?_) (fun h=> ?_)
   ·exact zI (An () (by simp at h;omega) ⟨I,I,I,tO⟩ [] I)
   ·refine zJ (zK (zK (zL (zE (zA (zB (wP I (zC (zE (zO ?_))))))))))
    have:k=4:=by simp at h;omega
    subst this
    exact wR1 I I (by have h0:=hin 0 (by omega);have h1:=hin 1 (by omega);have h2:=hin 2 (by omega);have h3:=hin 3 (by omega);simp only[num] at h0 h1 h2 h3;simp[rgd,h0,h1,h2,h3,hg])
  ·intro _ hk
   refine zA (zH (zA (zB ?_)))
   refine wJ ?_
   refine Ob (v:= .int .i64 (num s k)) I I I I (fun W hp=>KN (k:=1) tH I I I (by
    match k,hk with
    |0,_=>rfl
    |1,_=>rfl
    |2,_=>rfl
    |3,_=>rfl) W hp) ?_
   refine wP I (zC (zE (zA (zB (wP I (wC I I (fun W _=>FD _ _ _ W) (wP I (Aa (A8 ?_)))))))))
   refine Aj I (fun h=> ?_) (fun h=> ?_)
   ·refine zA (zB (wP I (zC (zE (zO (zQ (zP (zP (zQ (zP ?_))))))))))
    have h:btw (num s k) 0 65536=false:=by simpa using h
    have hr:rgd s=false:=by
     match k,hk with
     |0,_=>simp only[num] at h;simp[rgd,h]
     |1,_=>simp only[num] at h;simp[rgd,h]
     |2,_=>simp only[num] at h;simp[rgd,h]
     |3,_=>simp only[num] at h;simp[rgd,h]
    exact wR1 I I (by rw[hr])
   ·refine zI (zN (zE (zB (wP I (wP I (zC ?_))))))
    refine Al (k+1) ⟨hk,fun i hi=> ?_⟩ (by omega) ⟨I,I,congrArg (fun z=>some (Value.int .i64 z)) (BJ (x:=(k:Int)+1) (by omega) (by omega)),tO⟩ [] I
    by_cases e:i=k
    ·subst e;simpa using h
    ·exact hin i (by omega)
end
section
open Go Go.RowKit Go.Am
set_option maxRecDepth 10000
-- BOXES 2
-- USES NB
def Ji {α:Type} (f:α→Bool):List α→Nat→Int
 |[],_=> -1
 |x::l,k=>if f x=true then(k:Int) else Ji f l (k+1)
theorem L0 {α:Type} (f:α→Bool): ∀(l:List α) (k:Nat),decide (Ji f l k≥0)=l.any f
 |[],k=>by simp[Ji]
 |x::l,k=>by
  unfold Ji
  by_cases h:f x=true
  ·rw[if_pos h,List.any_cons,h,Bool.true_or,decide_eq_true_iff];omega
  ·rw[if_neg h,L0 f l (k+1),List.any_cons]
   simp[h]
theorem MV (g:Nat) (hE:AN Tryz.prog g=true) (f:Sd→Bool) (hf: ∀s,AY Tryz.prog g [s.val] (.bool (f s))) (W:World) (p:Option Addr) (cap:Nat) (l:List Sd) (hn:l.length<4611686018427387904) (hR:CJ W p l):
  Ad Tryz.prog 189 #[slv p l.length cap, .func (.func g) #[] #[]] W (fun _:Unit=> .int .i64 (Ji f l 0)) (fun _=>True) (fun _=>[]):=by
 refine Ab (args:=[slv p l.length cap, .func (.func g) #[] #[]]) Tryz.func189 I I I ?_
 refine zA (zB (wP I (Aa (zE (zA (zA (zB (wP I (wP I (wP I (Aa (zE (zH ?_)))))))))))))
 refine Aw (X:=Nat) (fun k=>[(0,slv p l.length cap),(1, .func (.func g) #[] #[]),(7, .int .i64 (l.length:Nat)),(8, .int .i64 (k:Nat))]) (fun _=>[])
  (fun k=>k≤l.length∧Ji f l 0=Ji f (l.drop k) k) (fun k=>l.length-k) 0 ⟨Nat.zero_le _,rfl⟩ ⟨rfl,rfl,rfl,rfl,trivial⟩ [] rfl ?_
 rintro k ⟨hk,hi⟩
 refine zA (zB (wP I (Aa (zE (zA ?_)))))
 refine Aj I (fun h=> ?_) (fun h=> ?_)
 rotate_left
 ·refine zJ (zK (zK (zL (zE (zA (zB (wP I (Aa (zE (zO ?_))))))))))
  have e:k=l.length:=by simp at h;omega
  rw[e,List.drop_length] at hi
  exact wR1 I I (by rw[hi];rfl)
 ·have hk:k<l.length:=by simp at h;omega
  clear h
  obtain⟨b,off,rfl,hrow⟩:=hR.row hk
  refine zI (zE (zA (zH (zA (zB (wP I (wP I (Aa (zE (zA (zB (wP I (wP I (wP I ?_))))))))))))))
  refine wJ ?_
  refine wL 0 I I (fun W hp=>(hrow k hk).hp hp) I ?_
  refine Bh (g:=g) (v:= .bool (f (sd l k))) I I I I I I hE (fun W _=>hf (sd l k) W) ?_
  have hd:l.drop k=sd l k::l.drop (k+1):=by
   rw[List.drop_eq_getElem_cons hk];simp[sd,hk]
  have hstep:Ji f (l.drop k) k=if f (sd l k)=true then(k:Int) else Ji f (l.drop (k+1)) (k+1):=by rw[hd];rfl
  rw[hstep] at hi
  refine zC (zE ?_)
  refine Aj I (fun h=> ?_) (fun h=> ?_)
  ·refine zA (zB (wP I (wP I (Aa (zE (zO (zQ (zP (zP (zQ (zP ?_)))))))))))
   rw[if_pos h] at hi
   exact wR1 I I (by rw[hi])
  ·refine zI (zN (zE (zB (wP I (wP I (Aa ?_))))))
   rw[if_neg (by rw[h];decide)] at hi
   exact Al (k+1) ⟨hk,hi⟩ (by omega) ⟨I,I,I,congrArg (fun z=>some (Value.int .i64 z)) (BJ (x:=(k:Int)+1) (by omega) (by omega)),tO⟩ [] I
theorem J2 (g:Nat) (hE:AN Tryz.prog g=true) (f:Sd→Bool) (hf: ∀s,AY Tryz.prog g [s.val] (.bool (f s))) (W:World) (p:Option Addr) (cap:Nat) (l:List Sd) (hn:l.length<4611686018427387904) (hR:CJ W p l):
  Ad Tryz.prog 124 #[slv p l.length cap, .func (.func g) #[] #[]] W (fun _:Unit=> .bool (l.any f)) (fun _=>True) (fun _=>[]):=by
 refine Ab (args:=[slv p l.length cap, .func (.func g) #[] #[]]) Tryz.func124 I I I ?_
 refine zA (zB (wP I (zC (zE (zA (zB (wP I (wP I (wC I I (fun W hp=>MV g hE f hf W p cap l hn (hR.hp hp)) (wP I (wP I (zC (zE ?_)))))))))))))
 exact zO (wR1 I I (by rw[L0]))
theorem M9 (g:Nat) (hE:AN Tryz.prog g=true) (f:List Sd→Bool) (hf: ∀W p cap l,l.length<4611686018427387904→CJ W p l→Ad Tryz.prog g #[slv p l.length cap] W (fun _:Unit=> .bool (f l)) (fun _=>True) (fun _=>[])) (W:World) (p:Option Addr) (cap:Nat) (rs:List (List Sd)) (hn:rs.length<4611686018427387904) (hl: ∀l∈rs,l.length<4611686018427387904) (hR:BZ W p rs):
  Ad Tryz.prog 192 #[slv p rs.length cap, .func (.func g) #[] #[]] W (fun _:Unit=> .int .i64 (Ji f rs 0)) (fun _=>True) (fun _=>[]):=by
 refine Ab (args:=[slv p rs.length cap, .func (.func g) #[] #[]]) Tryz.func192 I I I ?_
 refine zA (zB (wP I (Aa (zE (zA (zA (zB (wP I (wP I (wP I (Aa (zE (zH ?_)))))))))))))
 refine Aw (X:=Nat) (fun k=>[(0,slv p rs.length cap),(1, .func (.func g) #[] #[]),(7, .int .i64 (rs.length:Nat)),(8, .int .i64 (k:Nat))]) (fun _=>[])
  (fun k=>k≤rs.length∧Ji f rs 0=Ji f (rs.drop k) k) (fun k=>rs.length-k) 0 ⟨Nat.zero_le _,rfl⟩ ⟨rfl,rfl,rfl,rfl,trivial⟩ [] rfl ?_
 rintro k ⟨hk,hi⟩
 refine zA (zB (wP I (Aa (zE (zA ?_)))))
 refine Aj I (fun h=> ?_) (fun h=> ?_)
 rotate_left
 ·refine zJ (zK (zK (zL (zE (zA (zB (wP I (Aa (zE (zO ?_))))))))))
  have e:k=rs.length:=by simp at h;omega
  rw[e,List.drop_length] at hi
  exact wR1 I I (by rw[hi];rfl)
 ·have hk:k<rs.length:=by simp at h;omega
  clear h
  obtain⟨b,off,rfl,hrow⟩:=hR.row hk
  obtain⟨q,cap2,hq1,hq2⟩:=hrow k hk
  refine zI (zE (zA (zH (zA (zB (wP I (wP I (Aa (zE (zA (zB (wP I (wP I (wP I ?_))))))))))))))
  refine wJ ?_
  refine wL 0 I I (fun W hp=>hq1.hp hp) I ?_
  refine Bh (g:=g) (v:= .bool (f (rg rs k))) I I I I I I hE (fun W hp=>hf W q cap2 (rg rs k) (hl _ (List.mem_of_getElem? (De hk))) (hq2.hp hp)) ?_
  have hd:rs.drop k=rg rs k::rs.drop (k+1):=by
   rw[List.drop_eq_getElem_cons hk];simp[rg,hk]
  have hstep:Ji f (rs.drop k) k=if f (rg rs k)=true then(k:Int) else Ji f (rs.drop (k+1)) (k+1):=by rw[hd];rfl
  rw[hstep] at hi
  refine zC (zE ?_)
  refine Aj I (fun h=> ?_) (fun h=> ?_)
  ·refine zA (zB (wP I (wP I (Aa (zE (zO (zQ (zP (zP (zQ (zP ?_)))))))))))
   rw[if_pos h] at hi
   exact wR1 I I (by rw[hi])
  ·refine zI (zN (zE (zB (wP I (wP I (Aa ?_))))))
   rw[if_neg (by rw[h];decide)] at hi
   exact Al (k+1) ⟨hk,hi⟩ (by omega) ⟨I,I,I,congrArg (fun z=>some (Value.int .i64 z)) (BJ (x:=(k:Int)+1) (by omega) (by omega)),tO⟩ [] I
theorem J9 (g:Nat) (hE:AN Tryz.prog g=true) (f:List Sd→Bool) (hf: ∀W p cap l,l.length<4611686018427387904→CJ W p l→Ad Tryz.prog g #[slv p l.length cap] W (fun _:Unit=> .bool (f l)) (fun _=>True) (fun _=>[])) (W:World) (p:Option Addr) (cap:Nat) (rs:List (List Sd)) (hn:rs.length<4611686018427387904) (hl: ∀l∈rs,l.length<4611686018427387904) (hR:BZ W p rs):
  Ad Tryz.prog 128 #[slv p rs.length cap, .func (.func g) #[] #[]] W (fun _:Unit=> .bool (rs.any f)) (fun _=>True) (fun _=>[]):=by
 refine Ab (args:=[slv p rs.length cap, .func (.func g) #[] #[]]) Tryz.func128 I I I ?_
 refine zA (zB (wP I (zC (zE (zA (zB (wP I (wP I (wC I I (fun W hp=>M9 g hE f hf W p cap rs hn hl (hR.below (Nat.le_refl _) hp.below)) (wP I (wP I (zC (zE ?_)))))))))))))
 exact zO (wR1 I I (by rw[L0]))
theorem Oe (s:Sd):AY Tryz.prog 126 [s.val] (.bool (!rgd s)):=by
 intro W
 refine Ab Tryz.func126 I I I ?_
 refine zA (zB ?_)
 refine wF I I fun _=> ?_
 exact wP I (zC (zE (zA (zB (wB 0 I I I (wC I I (fun W _=>(NB ..)) (wP I (wP I (zC (zE (zO (wR1 I I I))))))))))))
theorem ON (W:World) (p:Option Addr) (cap:Nat) (l:List Sd) (hn:l.length<4611686018427387904) (hR:CJ W p l):
  Ad Tryz.prog 129 #[slv p l.length cap] W (fun _:Unit=> .bool (!shp l)) (fun _=>True) (fun _=>[]):=by
 refine Ab (args:=[slv p l.length cap]) Tryz.func129 I I I ?_
 exact zA (zB (wP I (zC (zE (zA (zB (wP I (wC I I (fun W hp=>O5 W p cap l hn (hR.hp hp)) (wP I (wP I (zC (zE (zO (wR1 I I I))))))))))))))
end
section
-- OLD
open Go Go.RowKit Go.Am
set_option maxRecDepth 10000
-- BOXES 8
-- EQB 4
def Lm (t u:Sd) (px py:Int):Bool:=(w64 (u.x-t.x)==0)&&decide (t.x>px)&& !(decide (t.y>py)==decide (u.y>py))
def Ev (l:List Sd) (px py:Int):Nat→Bool
 |0=>false
 |k+1=>if Lm (sd l k) (sd l (nxt l.length k)) px py=true then !Ev l px py k else Ev l px py k
theorem OM (W:World) (p:Option Addr) (cap:Nat) (l:List Sd) (px py:Int) (hn:l.length<4611686018427387904) (hR:CJ W p l):
  Ad Tryz.prog 200 #[slv p l.length cap,spot px py] W (fun _:Unit=> .bool (Ev l px py l.length)) (fun _=>True) (fun _=>[]):=by
 refine Ab (args:=[slv p l.length cap,spot px py]) Tryz.func200 I I I ?_
 refine zA (zB ?_)
 refine wF I I fun _=> ?_
 refine wP I (zC (zE (zA (zB ?_))))
 rename_i b3
 refine Bk (z:= .bool false) I I I (fun W=>by kernel_rfl) fun b5=> ?_
 refine wS 1 I I I (zC (zE (zA (zA (zB (wP I ?_))))))
 refine wD (X:=Nat) I I (fun W _=>Eu p l.length cap W) ?_
 intro b _
 refine zC (zE (zH ?_))
 refine DN (X:=Bool×Nat) (fun x=>[⟨b3,233,(spot px py).cells.toList,true,none⟩,⟨b5,4,[.bool x.1],true,none⟩,⟨b,94,[slv p l.length cap],true,none⟩]) (fun k x=>x.2=k∧x.1=Ev l px py k) (fun _ _=>False) (false,0) I (by kernel_rfl) (Fk b p cap l hn) (fun _=>rfl) ⟨I,I⟩ [] I (fun k x W _ hp=>D7.mk' hR hp 2 I) ?_ ?_ (fun _ _ _ _ _ h=>h.elim)
 ·rintro j ⟨i,k⟩ d L rec hk ⟨hj,hi⟩ hrec
  obtain rfl:k=j:=hj
  obtain rfl:i=Ev l px py k:=hi
  refine zB ?_
  refine Bk (z:=GH default default default) I I I (fun W=>by kernel_rfl) fun b7=> ?_
  refine wS 5 I I I (zC ?_)
  refine B4 4 hrec I ?_
  refine zH (zA (zB (wP I (wB 5 I I I (wC I I (fun W _=>Br (sd l k) W) ?_)))))
  refine Bk (z:=spot 0 0) I I I (fun W=>by kernel_rfl) fun b8=> ?_
  refine wS 6 I I I (zC (zE (zA (zB (wB 5 I I I (wC I I (fun W _=>Js (sd l (prv l.length k)) (sd l k) (sd l (nxt l.length k)) W) (wP I (wP I (wP I ?_)))))))))
  have no:Lm (sd l k) (sd l (nxt l.length k)) px py=false→Ev l px py (k+1)=Ev l px py k:=fun h=>by simp[Ev,h]
  have yes:Lm (sd l k) (sd l (nxt l.length k)) px py=true→Ev l px py (k+1)= !Ev l px py k:=fun h=>by simp[Ev,h]
  refine Bu 20 I (fun h20=> ?_) (fun h20=> ?_)
  ·refine wP I (wB 6 I I I (wP I (wB 0 I I I (wP I (wP I (wP I ?_))))))
   refine Bu 27 I (fun h27=> ?_) (fun h27=> ?_)
   ·refine wP I (wB 6 I I I (wP I (wB 0 I I I (wP I (wP I (wP I (wB 5 I I I (wP I (wB 0 I I I (wP I ?_))))))))))
    refine DX Tryz.underlying4 I I I I I I ?_
    refine wP I (Aa (A8 ?_))
    refine Aj I (fun h=> ?_) (fun h=> ?_)
    ·exact zB (wB 1 I I I (wP I (wS 1 I I I (zC (zN (Bg 4 (!Ev l px py k,k+1) hrec I ⟨I,(yes (by simp_all [Lm])).symm⟩ [_,_] I))))))
    ·exact zI (zN (Bg 4 (Ev l px py k,k+1) hrec I ⟨I,(no (by simp_all [Lm])).symm⟩ [_,_] I))
   ·refine Ah I I ?_
    iterate 11 refine Ah I I ?_
    exact wP I (zC (zE (zS I (zI (zN (Bg 4 (Ev l px py k,k+1) hrec I ⟨I,(no (by simp_all [Lm]<;>(intros;omega))).symm⟩ [_,_] I))))))
  ·refine Ah I I ?_
   iterate 4 refine Ah I I ?_
   refine wP I (wP I ?_)
   iterate 12 refine Ah I I ?_
   exact wP I (zC (zE (zS I (zI (zN (Bg 4 (Ev l px py k,k+1) hrec I ⟨I,(no (by simp_all [Lm])).symm⟩ [_,_] I))))))
 ·rintro⟨i,j⟩ d L rec ⟨hj,hi⟩
  obtain rfl:j=l.length:=hj
  obtain rfl:i=Ev l px py l.length:=hi
  refine zN (zE (zA (zB (wB 1 I I I (wP I (zC (zE (zO ?_))))))))
  refine BK 3 I ?_
  exact wR1 I I I
end
section
open Go Go.RowKit Go.Am
set_option maxRecDepth 10000
-- BOXES 2
def Im (rs:List (List Sd)) (i k:Nat):Bool:=(k==i||i==0)||(Ev (rg rs k) (sd (rg rs i) 0).x (sd (rg rs i) 0).y (rg rs k).length==(k==0))
def FO (rs:List (List Sd)) (i:Nat):Bool:=(decide (Jw (rg rs i) (rg rs i).length>0)==(i==0))&&(List.range rs.length).all (Im rs i)
def plc (rs:List (List Sd)):Bool:=(List.range rs.length).all (FO rs)
theorem E7 {n:Nat} {f:Nat→Bool} {k:Nat} (hk:k<n) (h:f k=false):(List.range n).all f=false:=Bool.eq_false_iff.2 fun h2=>by
 have:=List.all_eq_true.1 h2 k (List.mem_range.2 hk)
 rw[h] at this;cases this
theorem Dz (a b:Nat):((a:Int)==(b:Int))=(a==b):=by
 by_cases h:a=b
 ·subst h;rw[beq_self_eq_true,beq_self_eq_true]
 ·have h1:(a:Int)≠b:=by omega
  rw[beq_eq_false_iff_ne.2 h1,beq_eq_false_iff_ne.2 h]
theorem Pe (W:World) (p:Option Addr) (cap:Nat) (rs:List (List Sd)) (hn:rs.length<4611686018427387904) (hl: ∀l∈rs,l.length<4611686018427387904) (hne: ∀l∈rs,l≠[]) (hR:BZ W p rs):
  Ad Tryz.prog 132 #[slv p rs.length cap] W (fun _:Unit=> .bool (plc rs)) (fun _=>True) (fun _=>[]):=by
 refine Ab (args:=[slv p rs.length cap]) Tryz.func132 I I I ?_
 refine zA (zB (wP I (Aa (zE (zA (zA (zB (wP I (wP I (wP I (Aa (zE (zH ?_)))))))))))))
 refine Aw (X:=Nat) (fun i=>[(0,slv p rs.length cap),(7,slv p rs.length cap),(8, .int .i64 (rs.length:Nat)),(9, .int .i64 (i:Nat))]) (fun _=>[])
  (fun i=>i≤rs.length∧ ∀j,j<i→FO rs j=true) (fun i=>rs.length-i) 0 ⟨Nat.zero_le _,fun j hj=>absurd hj (Nat.not_lt_zero _)⟩ ⟨rfl,rfl,rfl,rfl,trivial⟩ [] rfl ?_
 rintro i ⟨hi,hok⟩
 refine zA (zB (wP I (Aa (zE (zA ?_)))))
 refine Aj I (fun h=> ?_) (fun h=> ?_)
 rotate_left
 ·have e:i=rs.length:=by simp at h;omega
  subst e
  refine zJ (zK (zK (zL (zE (zA (zB (wP I (Aa (zE (zO ?_))))))))))
  have:plc rs=true:=List.all_eq_true.2 fun j hj=>hok j (List.mem_range.1 hj)
  exact wR1 I I (by rw[this])
 have hi:i<rs.length:=by simp at h;omega
 clear h
 obtain⟨b,off,rfl,hrow⟩:=hR.row hi
 obtain⟨q,cap2,hq1,hq2⟩:=hrow i hi
 have hli:=hl _ (List.mem_of_getElem? (De hi))
 have hnei:0<(rg rs i).length:=List.length_pos_iff.2 (hne _ (List.mem_of_getElem? (De hi)))
 refine zI (zE (zA (zH (zA (zB (wP I ?_))))))
 refine wJ ?_
 refine wL 0 I I (fun W hp=>hq1.hp hp) I (wP I (wP I (Aa (zE (zA (zA (zB (wP I (wC I I (fun W hp=>RT W q cap2 (rg rs i) hli (hq2.hp hp)) (wP I (wP I (wP I ?_))))))))))))
 refine DX Tryz.underlying4 I I I I I I ?_
 refine Aa (zE ?_)
 refine Aj I (fun h=> ?_) (fun h=> ?_)
 ·refine zA (zB (wP I (Aa (zE (zO (zP (zQ (zP (zP (zQ (zP ?_)))))))))))
  have hf:plc rs=false:=E7 hi (by
   unfold FO
   rw[show(decide (Jw (rg rs i) (rg rs i).length>0)==(i==0))=false by
    have h':=h
    rw[show((i:Int)==0)=(i==0) from Dz i 0] at h'
    simpa using h']
   rfl)
  exact wR1 I I (by rw[hf])
 have hA:(decide (Jw (rg rs i) (rg rs i).length>0)==(i==0))=true:=by
  have h':=h
  rw[show((i:Int)==0)=(i==0) from Dz i 0] at h'
  simpa using h'
 clear h
 refine zI (zE (zA (zB (wP I (wP I (wP I (Aa (zE (zH ?_)))))))))
 refine Aw (X:=Nat) (fun k=>[(0,slv (some ⟨b,off,none⟩) rs.length cap),(7,slv (some ⟨b,off,none⟩) rs.length cap),(8, .int .i64 (rs.length:Nat)),(9, .int .i64 (i:Nat)),(3, .int .i64 (i:Nat)),(4,slv q (rg rs i).length cap2),(20,slv (some ⟨b,off,none⟩) rs.length cap),(21, .int .i64 (rs.length:Nat)),(22, .int .i64 (k:Nat))]) (fun _=>[])
  (fun k=>k≤rs.length∧ ∀j,j<k→Im rs i j=true) (fun k=>rs.length-k) 0 ⟨Nat.zero_le _,fun j hj=>absurd hj (Nat.not_lt_zero _)⟩ ⟨rfl,rfl,rfl,rfl,rfl,rfl,rfl,rfl,rfl,trivial⟩ [] rfl ?_
 rintro k ⟨hk,hokk⟩
 refine zA (zB (wP I (Aa (zE (zA ?_)))))
 refine Aj I (fun h=> ?_) (fun h=> ?_)
 rotate_left
 ·have e:k=rs.length:=by simp at h;omega
  subst e
  refine zJ (zK (zK (zL (zN (zE (zB (wP I (wP I (Aa ?_)))))))))
  refine Al (i+1) ⟨hi,fun j hj=> ?_⟩ (by omega) ⟨I,I,I,congrArg (fun z=>some (Value.int .i64 z)) (BJ (x:=(i:Int)+1) (by omega) (by omega)),tO⟩ [] I
  by_cases e:j=i
  ·subst e
   unfold FO
   rw[hA,Bool.true_and]
   exact List.all_eq_true.2 fun m hm=>hokk m (List.mem_range.1 hm)
  ·exact hok j (by omega)
 have hk:k<rs.length:=by simp at h;omega
 clear h
 obtain⟨q2,cap3,hq3,hq4⟩:=hrow k hk
 have hlk:=hl _ (List.mem_of_getElem? (De hk))
 have next:Im rs i k=true→ ∀j,j<k+1→Im rs i j=true:=fun h j hj=>by
  by_cases e:j=k
  ·subst e;exact h
  ·exact hokk j (by omega)
 refine zI (zE (zA (zH (zA (zB (wP I ?_))))))
 refine wJ ?_
 refine wL 0 I I (fun W hp=>hq3.hp hp) I (wP I (wP I (Aa (zE (Az ?_)))))
 refine FC (X:=Unit) (fun _=>[(0,slv (some ⟨b,off,none⟩) rs.length cap),(7,slv (some ⟨b,off,none⟩) rs.length cap),(8, .int .i64 (rs.length:Nat)),(9, .int .i64 (i:Nat)),(3, .int .i64 (i:Nat)),(4,slv q (rg rs i).length cap2),(5, .int .i64 (k:Nat)),(6,slv q2 (rg rs k).length cap3),(20,slv (some ⟨b,off,none⟩) rs.length cap),(21, .int .i64 (rs.length:Nat)),(22, .int .i64 (k:Nat)),(33, .bool (k==i||i==0))]) (fun _=>[]) (fun _=>True) ?_ ?_
 ·refine zB (wP I (wP I (wP I (wP I ?_))))
  refine Bu 30 I (fun h30=> ?_) (fun h30=> ?_)
  ·have e:(k==i||i==0)=true:=by
    have:(k==i)=true:=by rw[←Dz];exact h30
    rw[this];rfl
   iterate 2 refine Ah I I ?_
   exact wP I (Aa (An () tO ⟨I,I,I,I,I,I,I,I,I,I,I,by rw[e];rfl,tO⟩ [] I))
  ·have e:(k==i||i==0)=((i:Int)==0):=by
    have:(k==i)=false:=by rw[←Dz];exact h30
    rw[this,Bool.false_or];exact(Dz i 0).symm
   exact wP I (wP I (wP I (Aa (An () tO ⟨I,I,I,I,I,I,I,I,I,I,I,by rw[e];rfl,tO⟩ [] I))))
 intro _ _
 refine Aj I (fun h=> ?_) (fun h=> ?_)
 ·exact zJ (zK (zL (zE (zB (wP I (wP I (Aa (Al (k+1) ⟨hk,next (by unfold Im;rw[h];rfl)⟩ (by omega) ⟨I,I,I,I,I,I,I,I,congrArg (fun z=>some (Value.int .i64 z)) (BJ (x:=(k:Int)+1) (by omega) (by omega)),tO⟩ [] I))))))))
 obtain⟨b3,off3,rfl,hrow3⟩:=hq2.row hnei
 refine zI (zE (zA (zB (wP I (wP I ?_)))))
 refine wJ ?_
 refine wL 0 I I (fun W hp=>(hrow3 0 hnei).hp hp) I (wC I I (fun W _=>(Br ..)) (wC I I (fun W hp=>OM W q2 cap3 (rg rs k) _ _ hlk (hq4.hp hp)) (wP I (wP I ?_))))
 refine DX Tryz.underlying4 I I I I I I ?_
 refine Aa (zE ?_)
 refine Aj I (fun h2=> ?_) (fun h2=> ?_)
 ·refine zA (zB (wP I (Aa (zE (zO (zQ (zP (zP (zQ (zQ (zP (zP (zQ ?_)))))))))))))
  refine zP ?_
  have hf:plc rs=false:=E7 hi (by
   unfold FO
   rw[E7 hk (by
    unfold Im
    rw[h,Bool.false_or]
    have h':=h2
    rw[show((k:Int)==0)=(k==0) from Dz k 0] at h'
    simpa using h'),Bool.and_false])
  exact wR1 I I (by rw[hf])
 ·refine zI (zN (zE (zB (wP I (wP I (Aa ?_))))))
  refine Al (k+1) ⟨hk,next ?_⟩ (by omega) ⟨I,I,I,I,I,I,I,I,congrArg (fun z=>some (Value.int .i64 z)) (BJ (x:=(k:Int)+1) (by omega) (by omega)),tO⟩ [] I
  unfold Im
  rw[h,Bool.false_or]
  have h':=h2
  rw[show((k:Int)==0)=(k==0) from Dz k 0] at h'
  simpa using h'
end
section
-- OLD
open Go Go.RowKit Go.Am
set_option maxRecDepth 10000
-- BOXES 8
-- EQB 4
def Ni (s t u:Sd):Bool:=decide (w64 (w64 (w64 (t.x-s.x)*w64 (u.y-t.y))-w64 (w64 (t.y-s.y)*w64 (u.x-t.x)))>0)
def Nd (s t u:Sd):Bool:=Ni s t u||(!t.gable&& !s.gable&&(t.plate==s.plate))
def Dk (l:List Sd) (k:Nat):Bool:=Nd (sd l (prv l.length k)) (sd l k) (sd l (nxt l.length k))
def CF (l:List Sd) (b:Bool):Nat→Bool
 |0=>b
 |k+1=>CF l b k|| !(sd l k).gable
def Cv (rs:List (List Sd)):Nat→Bool
 |0=>false
 |k+1=>CF (rg rs k) (Cv rs k) (rg rs k).length
def GV (l:List Sd):Bool:=(List.range l.length).all (Dk l)
def jnd (rs:List (List Sd)):Bool:=rs.all GV&&Cv rs rs.length
theorem Oi (W:World) (p:Option Addr) (cap:Nat) (rs:List (List Sd)) (hn:rs.length<4611686018427387904) (hl: ∀l∈rs,l.length<4611686018427387904) (hR:BZ W p rs):
  Ad Tryz.prog 133 #[slv p rs.length cap] W (fun _:Unit=> .bool (jnd rs)) (fun _=>True) (fun _=>[]):=by
 refine Ab (args:=[slv p rs.length cap]) Tryz.func133 I I I ?_
 refine zA (zB ?_)
 refine Bk (z:= .bool false) I I I (fun W=>by kernel_rfl) fun b2=> ?_
 refine zC (zE (zA (zB ?_)))
 refine Bk (z:= .bool false) I I I (fun W=>by kernel_rfl) fun b3=> ?_
 refine wS 1 I I I (zC (zE (zA (zA (zB (wP I (wP I (wP I (zC (zE (zH ?_)))))))))))
 refine Nh ?_
 refine Le (X:=Nat×Bool×List Nat) (fun x=>x.2.2.map CS) (fun x=>[(2, .pointer (some ⟨b2,0,none⟩)),(3, .pointer (some ⟨b3,0,none⟩)),(8,slv p rs.length cap),(9, .int .i64 (rs.length:Nat)),(10, .int .i64 (x.1:Nat))])
  (fun x=>[⟨b2,4,[.bool false],true,none⟩,⟨b3,4,[.bool x.2.1],true,none⟩,bag x.2.2]) (fun x=>x.1≤rs.length∧x.2.1=Cv rs x.1∧ ∀i,i<x.1→GV (rg rs i)=true) (fun x=>rs.length-x.1) (0,false,[])
  ⟨Nat.zero_le _,rfl,fun i hi=>absurd hi (Nat.not_lt_zero _)⟩ rfl ⟨rfl,rfl,rfl,rfl,rfl,trivial⟩ [] rfl ?_
 rintro⟨k,sm,ds⟩ ⟨hk,hsm,hok⟩
 have hk:k≤rs.length:=hk
 obtain rfl:sm=Cv rs k:=hsm
 refine zA (zB (wP I (zC (zE (zA ?_)))))
 refine Aj I (fun h=> ?_) (fun h=> ?_)
 rotate_left
 ·refine zJ (zK (zK (zL (zE (zA (zB (wB 1 I I I (wS 0 I I I (zC (zE (zO ?_)))))))))))
  refine Ht 2 ds I ?_
  have e:k=rs.length:=by simp at h;omega
  subst e
  have hj:jnd rs=Cv rs rs.length:=by
   have:rs.all GV=true:=List.all_eq_true.2 fun l hl=>by
    obtain⟨i,hi,rfl⟩:=List.getElem_of_mem hl
    have:=hok i hi
    rwa [show rg rs i=rs[i] by simp[rg,hi]] at this
   simp[jnd,this]
  exact Ay tH I (.cell 0 I I I I I) () (by rw[hj]) tO fun W _=>As.nil _ _
 have hk:k<rs.length:=by simp at h;omega
 obtain⟨b',off,rfl,hrow⟩:=hR.row hk
 obtain⟨q,cap2,hq1,hq2⟩:=hrow k hk
 have hlk:(rg rs k).length<4611686018427387904:=hl _ (List.mem_of_getElem? (De hk))
 refine zI (zE (zA (zH (zA (zB ?_)))))
 refine wJ ?_
 refine wL 0 I I (fun W hp=>hq1.hp hp) I (wP I (zC (zE (zA (zB (wP I ?_))))))
 refine wD (X:=Nat) I I (fun W _=>Eu q (rg rs k).length cap2 W) ?_
 intro b _
 refine zC (zE (zH ?_))
 refine DN (X:=Bool×Nat) (fun x=>[⟨b2,4,[.bool false],true,none⟩,⟨b3,4,[.bool x.1],true,none⟩,bag ds,⟨b,94,[slv q (rg rs k).length cap2],true,none⟩])
  (fun j x=>x.2=j∧x.1=CF (rg rs k) (Cv rs k) j∧ ∀i,i<j→Dk (rg rs k) i=true) (fun c _=>c= .ret∧ ∃j,j<(rg rs k).length∧Dk (rg rs k) j=false) (Cv rs k,0) rfl (by kernel_rfl) (Fk b q cap2 (rg rs k) hlk) (fun _=>rfl)
  ⟨rfl,rfl,fun i hi=>absurd hi (Nat.not_lt_zero _)⟩ [] rfl (fun k x W _ hp=>D7.mk' hq2 hp 3 rfl) ?_ ?_ ?_
 ·rintro j' ⟨sm,j⟩ d L rec hj ⟨e1,e2,hin⟩ hrec
  obtain rfl:j=j':=e1
  obtain rfl:sm=CF (rg rs k) (Cv rs k) j:=e2
  refine zB ?_
  refine Bk (z:=GH default default default) I I I (fun W=>by kernel_rfl) fun b7=> ?_
  refine wS 6 I I I (zC ?_)
  refine B4 5 hrec I ?_
  refine B6 ?_
  refine FC (X:=Unit) (fun _=>[(2, .pointer (some ⟨b2,0,none⟩)),(3, .pointer (some ⟨b3,0,none⟩)),(7, .pointer (some ⟨b7,0,none⟩))])
   (fun _=>[⟨b2,4,[.bool false],true,none⟩,⟨b3,4,[.bool (CF (rg rs k) (Cv rs k) (j+1))],true,none⟩,bag ds,⟨b,94,[slv q (rg rs k).length cap2],true,none⟩,Bz d,Bb L rec .busy none,
    ⟨b7,231,(GH (sd (rg rs k) (prv (rg rs k).length j)) (sd (rg rs k) j) (sd (rg rs k) (nxt (rg rs k).length j))).cells.toList,true,none⟩]) (fun _=>True) ?_ ?_
  ·refine DB ?_
   refine wB 1 I I I (wP I ?_)
   refine Bu 19 I (fun h19=> ?_) (fun h19=> ?_)
   ·refine Ah I I ?_
    iterate 3 refine Ah I I ?_
    refine wP I (wS 1 I I I (zC ?_))
    refine An () tO ⟨I,I,I,tO⟩ [] ?_
    have h19:CF (rg rs k) (Cv rs k) j=true:=h19
    have e:CF (rg rs k) (Cv rs k) (j+1)=true:=by simp[CF,h19]
    rw[e];rfl
   ·refine wP I (wP I (wB 6 I I I (wP I (wP I (wS 1 I I I (zC ?_))))))
    refine An () tO ⟨I,I,I,tO⟩ [] ?_
    have h19:CF (rg rs k) (Cv rs k) j=false:=h19
    have e:CF (rg rs k) (Cv rs k) (j+1)= !(sd (rg rs k) j).gable:=by simp[CF,h19]
    rw[e];rfl
  intro _ _
  refine zA (zB (wB 6 I I I (wC I I (fun W _=>Rv (sd (rg rs k) (prv (rg rs k).length j)) (sd (rg rs k) j) (sd (rg rs k) (nxt (rg rs k).length j)) W) (wP I (wP I ?_)))))
  have good:Dk (rg rs k) j=true→ ∀i,i<j+1→Dk (rg rs k) i=true:=fun hg i hi=>by
   by_cases e:i=j
   ·subst e;exact hg
   ·exact hin i (by show i<j;omega)
  refine Bu 28 I (fun h28=> ?_) (fun h28=> ?_)
  ·refine wP I (wP I (wB 6 I I I (wP I ?_)))
   refine Bu 32 I (fun h32=> ?_) (fun h32=> ?_)
   ·refine Ah I I ?_
    iterate 2 refine Ah I I ?_
    refine wP I (wP I ?_)
    iterate 7 refine Ah I I ?_
    exact wP I (wP I (zC (zE (zR I (zA (zB (wS 0 I I I (zC (zE (zO (zQ (CV 5 (CF (rg rs k) (Cv rs k) (j+1),j+1) hrec I ⟨I,j,hj,by simp_all [Dk,Nd,Ni]⟩ [_] I))))))))))))
   ·refine wP I (wP I (wB 6 I I I (wP I (wP I ?_))))
    refine Bu 37 I (fun h37=> ?_) (fun h37=> ?_)
    ·refine Ah I I ?_
     iterate 6 refine Ah I I ?_
     exact wP I (wP I (zC (zE (zR I (zA (zB (wS 0 I I I (zC (zE (zO (zQ (CV 5 (CF (rg rs k) (Cv rs k) (j+1),j+1) hrec I ⟨I,j,hj,by simp_all [Dk,Nd,Ni]⟩ [_] I))))))))))))
    ·refine wP I (wP I (wB 6 I I I (wP I (wP I (wB 6 I I I (wP I (wP I (wP I (Aa (A8 ?_))))))))))
     refine Aj I (fun h=> ?_) (fun h=> ?_)
     ·exact zA (zB (wS 0 I I I (zC (zE (zO (zQ (CV 5 (CF (rg rs k) (Cv rs k) (j+1),j+1) hrec I ⟨I,j,hj,by simp_all [Dk,Nd,Ni]⟩ [_] I)))))))
     ·exact zI (zN (Bg 5 (CF (rg rs k) (Cv rs k) (j+1),j+1) hrec I ⟨I,I,good (by simp_all [Dk,Nd,Ni])⟩ [_] I))
  ·refine Ah I I ?_
   iterate 16 refine Ah I I ?_
   exact wP I (zC (zE (zS I (zI (zN (Bg 5 (CF (rg rs k) (Cv rs k) (j+1),j+1) hrec I ⟨I,I,good (by simp_all [Dk,Nd,Ni])⟩ [_] I))))))
 ·rintro⟨sm,j⟩ d L rec ⟨e1,e2,hin⟩
  obtain rfl:j=(rg rs k).length:=e1
  obtain rfl:sm=CF (rg rs k) (Cv rs k) (rg rs k).length:=e2
  refine zN (zN (zE (zB (wP I (wP I (zC ?_))))))
  refine R0 2 4 I I ?_
  refine IS (X:=Nat×Bool×List Nat) (k+1,CF (rg rs k) (Cv rs k) (rg rs k).length,d::ds) ?_ ?_ I ?_ [0,1,2] (by decide) I
  rotate_left
  ·show rs.length-(k+1)<rs.length-k;omega
  ·exact⟨I,I,I,I,congrArg (fun z=>some (Value.int .i64 z)) (BJ (x:=(k:Int)+1) (by omega) (by omega)),tO⟩
  refine⟨hk,I,fun i hi=> ?_⟩
  by_cases e:i=k
  ·subst e
   exact List.all_eq_true.2 fun x hx=>hin x (List.mem_range.1 hx)
  ·exact hok i (by show i<k;have:i<k+1:=hi;omega)
 ·rintro⟨sm,j'⟩ d L rec c ⟨rfl,j,hj,hf⟩
  refine zO (zQ (zQ (zP (zP (zQ (zP ?_))))))
  refine R0 2 4 I I ?_
  refine Ht 2 (d::ds) I ?_
  have hj:jnd rs=false:=by
   have h1:GV (rg rs k)=false:=Bool.eq_false_iff.2 fun h2=>by
    have:=List.all_eq_true.1 h2 j (List.mem_range.2 hj)
    rw[hf] at this;cases this
   have:rs.all GV=false:=Bool.eq_false_iff.2 fun h2=>by
    have:=List.all_eq_true.1 h2 _ (List.mem_of_getElem? (De hk))
    rw[h1] at this;cases this
   simp[jnd,this]
  exact Ay tH I (.cell 0 I I I I I) () (by rw[hj]) tO fun W _=>As.nil _ _
end
section
open Go Go.RowKit Go.Am
set_option maxRecDepth 10000
-- BOXES 3
abbrev HQ (p:Option Addr) (n cap:Nat):Value:= .agg #[slv p n cap]
def chk (rs:List (List Sd)):Int:=
 if rs.any (fun l=>l.length==0)=true then 5
 else if tot rs=0 then 5
 else if tot rs>24 then 4
 else if rs.flatten.any (fun s=> !rgd s)=true then 2
 else if rs.any (fun l=> !shp l)=true then 14
 else if crs rs=true then 15
 else if (!plc rs|| !jnd rs)=true then 14
 else 0
theorem Rt {rs:List (List Sd)} {l:List Sd} (h:l∈rs):l.length≤tot rs:=by
 unfold tot
 induction rs with
 |nil=>cases h
 |cons x rs ih=>
  rw[List.map_cons,List.sum_cons]
  rcases List.mem_cons.1 h with rfl|h
  ·omega
  ·have:=ih h;omega
theorem Kq (W:World) (p:Option Addr) (cap:Nat) (rs:List (List Sd)) (hn:rs.length<4611686018427387904) (hT:tot rs<1099511627776) (hR:BZ W p rs):
  Ad Tryz.prog 55 #[HQ p rs.length cap] W (fun _:Unit=> .int .i64 (chk rs)) (fun _=>True) (fun _=>[]):=by
 have hl: ∀l∈rs,l.length<4611686018427387904:=fun l h=>by have:=Rt h;omega
 refine Ab (args:=[HQ p rs.length cap]) Tryz.func55 I I I ?_
 refine zA (zB ?_)
 (refine Ak rfl rfl rfl rfl ?_;intro)
 refine wP I (Aa ?_)
 rename_i b1
 refine zE (zA (zB (wP I (Aa (zE (zA (zA (zB (wP I (wB 0 I I I (wP I (wP I (Aa ?_)))))))))))))
 refine zE (zH ?_)
 refine Aw (X:=Nat) (fun k=>[(1, .pointer (some ⟨b1,0,none⟩)),(3, .int .i64 (tot (rs.take k):Nat)),(7,slv p rs.length cap),(8, .int .i64 (rs.length:Nat)),(9, .int .i64 (k:Nat))]) (fun _=>[⟨b1,36,[slv p rs.length cap],true,none⟩])
  (fun k=>k≤rs.length∧ ∀j,j<k→(rg rs j).length≠0) (fun k=>rs.length-k) 0 ⟨Nat.zero_le _,fun j hj=>absurd hj (Nat.not_lt_zero _)⟩ ⟨rfl,rfl,rfl,rfl,rfl,trivial⟩ [] rfl ?_
 rintro k ⟨hk,hok⟩
 refine zA (zB (wP I (Aa (zE (zA ?_)))))
 refine Aj I (fun h=> ?_) (fun h=> ?_)
 ·have hk:k<rs.length:=by simp at h;omega
  clear h
  obtain⟨b,off,rfl,hrow⟩:=hR.row hk
  obtain⟨q,cap2,hq1,hq2⟩:=hrow k hk
  refine zI (zE (zA (zH (zA (zB ?_)))))
  refine wJ ?_
  refine wL 0 I I (fun W hp=>hq1.hp hp) I (wP I (Aa (zE (zA (zA (zB (wP I (wP I (wP I (Aa (zE ?_)))))))))))
  refine Aj I (fun h=> ?_) (fun h=> ?_)
  ·refine zA (zB (wP I (Aa (zE (zO (zP (zQ (zP (zP (zQ (zP ?_)))))))))))
   have he:rs.any (fun l=>l.length==0)=true:=List.any_eq_true.2 ⟨_,List.mem_of_getElem? (De hk),by have h':((((rg rs k).length:Nat):Int)==0)=true:=h;rw[beq_iff_eq] at h'⊢;omega⟩
   exact wR1 I I (by unfold chk;rw[if_pos he])
  have hz:(rg rs k).length≠0:=by
   have h':((((rg rs k).length:Nat):Int)==0)=false:=h
   rw[beq_eq_false_iff_ne] at h';omega
  clear h
  refine zI (zE (zB ?_))
  iterate 5 refine wP I ?_
  refine Aa ?_
  have hs:w64 ((tot (rs.take k):Nat)+((rg rs k).length:Nat))=(tot (rs.take (k+1)):Nat):=by
   have h1:=BM hk
   have h2:=Ey rs (k+1)
   rw[Ap (by omega) (by omega)];omega
  refine zN (zE (zB ?_))
  refine Ao 3 _ I (congrArg (Value.int .i64) hs) ?_
  refine wP I (wP I (Aa ?_))
  refine Al (k+1) ⟨hk,fun j hj=> ?_⟩ (by omega) ⟨I,I,I,I,congrArg (fun z=>some (Value.int .i64 z)) (BJ (x:=(k:Int)+1) (by omega) (by omega)),tO⟩ [] I
  by_cases e:j=k
  ·subst e;exact hz
  ·exact hok j (by omega)
 have e:k=rs.length:=by simp at h;omega
 subst e
 clear h
 rw[List.take_length]
 have hne: ∀l∈rs,l≠[]:=fun l hl e=>by
  obtain⟨i,hi,e2⟩:=List.getElem_of_mem hl
  have:=hok i hi
  rw[show rg rs i=rs[i] by simp[rg,hi],e2,e] at this
  exact this I
 have he:rs.any (fun l=>l.length==0)=false:=Bool.eq_false_iff.2 fun h2=>by
  obtain⟨l,h3,h4⟩:=List.any_eq_true.1 h2
  rw[beq_iff_eq] at h4
  exact hne l h3 (List.length_eq_zero_iff.1 h4)
 have hN: ¬(rs.any (fun l=>l.length==0)=true):=by rw[he];decide
 refine zJ (zK (zK (zL (zE (zA (zH (zA (zB (wP I (wP I (wP I (Aa (zE ?_)))))))))))))
 refine Aj I (fun h=> ?_) (fun h=> ?_)
 ·refine zA (zB (wP I (Aa (zE (zO (zQ (zP ?_)))))))
  have h0:tot rs=0:=by have h':(((tot rs:Nat):Int)==0)=true:=h;rw[beq_iff_eq] at h';omega
  exact wR1 I I (by unfold chk;rw[if_neg hN,if_pos h0])
 have h0: ¬tot rs=0:=by have h':(((tot rs:Nat):Int)==0)=false:=h;rw[beq_eq_false_iff_ne] at h';omega
 clear h
 refine zA (zB (wP I (wP I (wP I (Aa (zE ?_))))))
 refine Aj I (fun h=> ?_) (fun h=> ?_)
 ·refine zA (zB (wP I (Aa (zE (zO (zQ (zP ?_)))))))
  have h1:tot rs>24:=by have h':decide (((tot rs:Nat):Int)>24)=true:=h;rw[decide_eq_true_iff] at h';omega
  exact wR1 I I (by unfold chk;rw[if_neg hN,if_neg h0,if_pos h1])
 have h1: ¬tot rs>24:=by have h':decide (((tot rs:Nat):Int)>24)=false:=h;rw[decide_eq_false_iff_not] at h';omega
 clear h
 refine zA (zB (wP I (wB 0 I I I ?_)))
 refine wD (X:=Vec) I I (fun W hp=>I5 W p cap rs hn hT (hR.below (Nat.le_refl _) hp.below) hne) ?_
 intro V hV
 obtain⟨q,cq,eV,hVR⟩:=Vec.ring hV
 have hfl:rs.flatten.length<4611686018427387904:=by rw[GT];omega
 refine Ao 30 _ I eV ?_
 refine wC I I (fun W hp=>J2 126 (by kernel_rfl) (fun s=> !rgd s) Oe W q cq rs.flatten hfl (hVR hp 1 I)) (wP I (Aa (zE ?_)))
 refine Aj I (fun h=> ?_) (fun h=> ?_)
 ·exact zA (zB (wP I (Aa (zE (zO (zQ (zP (wR1 I I (by unfold chk;rw[if_neg hN,if_neg h0,if_neg h1,if_pos h])))))))))
 have h2: ¬(rs.flatten.any (fun s=> !rgd s)=true):=by rw[h];decide
 clear h
 refine zA (zB (wP I (wB 0 I I I (wC I I (fun W hp=>J9 129 (by kernel_rfl) (fun l=> !shp l) ON W p cap rs hn hl (hR.below (Nat.le_refl _) hp.below)) (wP I (Aa (zE ?_)))))))
 refine Aj I (fun h=> ?_) (fun h=> ?_)
 ·exact zA (zB (wP I (Aa (zE (zO (zQ (zP (wR1 I I (by unfold chk;rw[if_neg hN,if_neg h0,if_neg h1,if_neg h2,if_pos h])))))))))
 have h3: ¬(rs.any (fun l=> !shp l)=true):=by rw[h];decide
 clear h
 refine zA (zB (wP I (wB 0 I I I (wC I I (fun W hp=>Lz W p cap rs hn hT hl (hR.below (Nat.le_refl _) hp.below)) (wP I (Aa (zE ?_)))))))
 refine Aj I (fun h=> ?_) (fun h=> ?_)
 ·exact zA (zB (wP I (Aa (zE (zO (zQ (zP (wR1 I I (by unfold chk;rw[if_neg hN,if_neg h0,if_neg h1,if_neg h2,if_neg h3,if_pos h])))))))))
 have h4: ¬(crs rs=true):=by rw[h];decide
 clear h
 refine zA (zB (wP I (wB 0 I I I (wC I I (fun W hp=>Pe W p cap rs hn hl hne (hR.below (Nat.le_refl _) hp.below)) (wP I (wP I ?_))))))
 refine Bu 45 I (fun h45=> ?_) (fun h45=> ?_)
 ·have h5:(!plc rs|| !jnd rs)=true:=by have h':(!plc rs)=true:=h45;rw[h'];rfl
  iterate 4 refine Ah I I ?_
  exact wP I (wP I (Aa (zE (zR I (zA (zB (wP I (Aa (zE (zO (zQ (zP (wR1 I I (by unfold chk;rw[if_neg hN,if_neg h0,if_neg h1,if_neg h2,if_neg h3,if_neg h4,if_pos h5]))))))))))))))
 ·have h':(!plc rs)=false:=h45
  refine wP I (wB 0 I I I (wC I I (fun W hp=>Oi W p cap rs hn hl (hR.below (Nat.le_refl _) hp.below)) (wP I (wP I (wP I (Aa (zE ?_)))))))
  refine Aj I (fun h=> ?_) (fun h=> ?_)
  ·refine zA (zB (wP I (Aa (zE (zO (zQ (zP ?_)))))))
   have h5:(!plc rs|| !jnd rs)=true:=by rw[h',h];rfl
   exact wR1 I I (by unfold chk;rw[if_neg hN,if_neg h0,if_neg h1,if_neg h2,if_neg h3,if_neg h4,if_pos h5])
  ·refine zI (zN (zE (zA (zB (wP I (Aa (zE (zO ?_))))))))
   have h5: ¬((!plc rs|| !jnd rs)=true):=by rw[h',h];decide
   exact wR1 I I (by unfold chk;rw[if_neg hN,if_neg h0,if_neg h1,if_neg h2,if_neg h3,if_neg h4,if_neg h5])
-- BOXES 3
theorem BZ.hp {W0 W:World} {bxs:List Bx} {p:Option Addr} {rs:List (List Sd)} (h:BZ W0 p rs) (hp:Hp W0 bxs W):BZ W p rs:=h.below (Nat.le_refl _) hp.below
theorem RJ {rs:List (List Sd)} (h:chk rs=0):(∀l∈rs,l≠[])∧tot rs≤24∧tot rs≠0:=by
 unfold chk at h
 split at h
 ·cases h
 ·rename_i h1
  split at h
  ·cases h
  ·rename_i h2
   split at h
   ·cases h
   ·rename_i h3
    refine⟨fun l hl e=>h1 (List.any_eq_true.2 ⟨l,hl,by rw[e];rfl⟩),by omega,h2⟩
theorem UY (W:World) (p:Option Addr) (cap:Nat) (rs:List (List Sd)) (hn:rs.length<4611686018427387904) (hR:BZ W p rs) (hc:chk rs=0):
  Ad Tryz.prog 121 #[HQ p rs.length cap] W (fun V:Vec=> .tuple #[V.val rs.flatten.length, .int .i64 0]) (fun V=>V.OK 7 rs.flatten.length (cellsOf rs.flatten)) (fun V=>[V.bx 97 (cellsOf rs.flatten)]):=by
 obtain⟨hne,hT,_⟩:=RJ hc
 refine Ab (args:=[HQ p rs.length cap]) Tryz.func121 I I I ?_
 refine zA (zB ?_)
 (refine Ak rfl rfl rfl rfl ?_;intro)
 refine wP I (wP I (Aa (zE (zA (zA (zB (wB 0 I I I (wC I I (fun W hp=>(Kq W p cap rs hn (by omega) (hR.hp hp)).cast (by rw[hc])) (wP I (Aa (zE (zS I (zI ?_)))))))))))))
 refine zE (zA (zB (wP I (wB 0 I I I ?_))))
 refine wD (X:=Vec) I I (fun W hp=>I5 W p cap rs hn (by omega) (hR.hp hp) hne) ?_
 intro V hV
 exact wP I (wP I (Aa (zE (zO (A9 tH I (.tmp I) (.tmp I) V I hV fun W hp=>As.of_hp1 hp 1 I)))))
end
section
open Go Go.RowKit Go.Am
theorem TW {n i:Nat} (h:i<n):nxt n i<n:=Nat.mod_lt _ (by omega)
theorem MZ {rs:List (List Sd)} (h:chk rs=0):(∀l∈rs, ∀s∈l,rgd s=true)∧(∀l∈rs,shp l=true)∧crs rs=false∧plc rs=true∧jnd rs=true:=by
 unfold chk at h
 split at h
 ·cases h
 split at h
 ·cases h
 split at h
 ·cases h
 split at h
 ·cases h
 rename_i h2
 split at h
 ·cases h
 rename_i h3
 split at h
 ·cases h
 rename_i h4
 split at h
 ·cases h
 rename_i h5
 refine⟨fun l hl s hs=> ?_,fun l hl=> ?_,by simpa using h4, ?_, ?_⟩
 ·cases hr:rgd s with
  |true=>rfl
  |false=>exact absurd (List.any_eq_true.2 ⟨s,List.mem_flatten.2 ⟨l,hl,hs⟩,by rw[hr];rfl⟩) h2
 ·cases hr:shp l with
  |true=>rfl
  |false=>exact absurd (List.any_eq_true.2 ⟨l,hl,by rw[hr];rfl⟩) h3
 ·cases hp:plc rs with
  |true=>rfl
  |false=>rw[hp] at h5;exact absurd rfl h5
 ·cases hp:jnd rs with
  |true=>rfl
  |false=>rw[hp] at h5;exact absurd (by simp) h5
end
end Go.Proofs.YtndkgionklmdfaaGreatDoor
