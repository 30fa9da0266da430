/-
  Lemmas that the theorem openingCheeks_upto_card needs (part 6 of 8).
-/
import Derived.Test.YtndkgionklmdfaaGreatDoorOce
set_option maxHeartbeats 64000000
namespace Go.Proofs.YtndkgionklmdfaaGreatDoor
section
open Go Go.RowKit Go.Am Go.Lib
set_option maxRecDepth 10000
abbrev cvV (p:At):Value:= .agg #[str (Ac p.1),str (Ac p.2)]
def D7 (W:World) (c:Nat):Prop:=W.heap[c]? =some (.cells #[.int .i64 0] 317 (0,0))
theorem D7.hp {W0 W:World} {bxs:List Bx} {c:Nat} (h:D7 W0 c) (hp:Hp W0 bxs W):D7 W c:=
 (hp.below.block c (Array.getElem?_eq_some_iff.1 h).1).trans h
theorem D7.row {W:World} {c:Nat} (h:D7 W c):Ai W c 0 [.int .i64 0]:=Ai.of_block h
theorem I9 (c g:Nat) (a b v:List UInt8) (W:World) (hc:D7 W c) (hE:AO Tryz.prog g=true) (hg: ∀W1,Below W.heap.size W W1->Ad Tryz.prog g #[str a,str b] W1 (fun _:Unit=> .tuple #[str v, .int .i64 0]) (fun _=>True) (fun _=>[])):
  Ad Tryz.prog 329 #[Af c, .func (.func g) #[] #[],str a,str b] W (fun _:Unit=>str v) (fun _=>True) (fun _=>[]):=by
 refine Ab (args:=[Af c, .func (.func g) #[] #[],str a,str b]) Tryz.func329 I I I (zA (zB (wP I (Aa (zE (zA (zA (zB (wP I (AM I I I I ?_))))))))))
 refine wP I (wL 0 I I (fun W1 hp=>(hc.hp hp).row) I (wP I (Aa (zE (zS I (zI (zE (zA (zB (wP I (wP I (wP I (Bp (capt:=[]) I I I I I I hE (fun W1 h=>hg W1 h.below) (wP I (wP I (wP I (wP I (wP I (Aa (zE (zA (zA (zB ?_)))))))))))))))))))))))
 refine wP I (wP I (AM I I I I ?_))
 refine wP I (Hf (c:=[.int .i64 0]) (ty:=317) tH I I I I I I I I I I (fun W1 hp=>hc.hp hp) ?_)
 exact Aa (zE (zA (zB (wP I (wP I (Aa (zE (zS I (zI (zE (zA (zB (wP I (wP I (Aa (zE (zO (wR1 I I I))))))))))))))))))
theorem FD (c:Nat) (p q:Rat) (hz:Sz2 p q) (W:World) (hc:D7 W c) (hv:AE W) (ht:A7 W):
  Ad Tryz.prog 285 #[Af c,str (Ac p),str (Ac q)] W (fun _:Unit=>str (Ac (p+q))) (fun _=>True) (fun _=>[]):=by
 exact Ab (args:=[Af c,str (Ac p),str (Ac q)]) Tryz.func285 I I I (zA (zB (wP I (Aa (zE (zA (zB (wP I (wP I (wP I (wC I I (fun W hp=>I9 c 19 (Ac p) (Ac q) (Ac (p+q)) W (hc.hp hp) (by kernel_rfl) (fun W1 hb=>Ca p q hz W1 ((hv.hp hp).below hb) ((ht.hp hp).below hb))) (wP I (Aa (zE (zO (wR1 I I I))))))))))))))))
theorem Co (c:Nat) (p q:Rat) (hz:Sz2 p q) (W:World) (hc:D7 W c) (hv:AE W) (ht:A7 W):
  Ad Tryz.prog 283 #[Af c,str (Ac p),str (Ac q)] W (fun _:Unit=>str (Ac (p-q))) (fun _=>True) (fun _=>[]):=by
 exact Ab (args:=[Af c,str (Ac p),str (Ac q)]) Tryz.func283 I I I (zA (zB (wP I (Aa (zE (zA (zB (wP I (wP I (wP I (wC I I (fun W hp=>I9 c 21 (Ac p) (Ac q) (Ac (p-q)) W (hc.hp hp) (by kernel_rfl) (fun W1 hb=>BM p q hz W1 ((hv.hp hp).below hb) ((ht.hp hp).below hb))) (wP I (Aa (zE (zO (wR1 I I I))))))))))))))))
theorem CD (c:Nat) (p q:Rat) (hz:Sz2 p q) (W:World) (hc:D7 W c) (hv:AE W) (ht:A7 W):
  Ad Tryz.prog 286 #[Af c,str (Ac p),str (Ac q)] W (fun _:Unit=>str (Ac (p*q))) (fun _=>True) (fun _=>[]):=by
 exact Ab (args:=[Af c,str (Ac p),str (Ac q)]) Tryz.func286 I I I (zA (zB (wP I (Aa (zE (zA (zB (wP I (wP I (wP I (wC I I (fun W hp=>I9 c 18 (Ac p) (Ac q) (Ac (p*q)) W (hc.hp hp) (by kernel_rfl) (fun W1 hb=>Cq p q hz W1 ((hv.hp hp).below hb) ((ht.hp hp).below hb))) (wP I (Aa (zE (zO (wR1 I I I))))))))))))))))
theorem ME (c:Nat) (p q:Rat) (hz:Sz2 p q) (h0:q.num≠0) (W:World) (hc:D7 W c) (hv:AE W) (ht:A7 W):
  Ad Tryz.prog 289 #[Af c,str (Ac p),str (Ac q)] W (fun _:Unit=>str (Ac (p/q))) (fun _=>True) (fun _=>[]):=by
 exact Ab (args:=[Af c,str (Ac p),str (Ac q)]) Tryz.func289 I I I (zA (zB (wP I (Aa (zE (zA (zB (wP I (wP I (wP I (wC I I (fun W hp=>I9 c 26 (Ac p) (Ac q) (Ac (p/q)) W (hc.hp hp) (by kernel_rfl) (fun W1 hb=>(Hn p q hz W1 ((hv.hp hp).below hb) ((ht.hp hp).below hb)).cast (by rw[KE,if_neg h0]))) (wP I (Aa (zE (zO (wR1 I I I))))))))))))))))
theorem E4 (c:Nat) (p q:Rat) (hz:Sz2 p q) (W:World) (hc:D7 W c) (hv:AE W) (ht:A7 W):
  Ad Tryz.prog 356 #[Af c,str (Ac p),str (Ac q)] W (fun _:Unit=> .int .i64 (CU p q)) (fun _=>True) (fun _=>[]):=by
 refine Ab (args:=[Af c,str (Ac p),str (Ac q)]) Tryz.func356 I I I (zA (zB (wP I (Aa (zE (zA (zA (zB (wP I (AM I I I I ?_))))))))))
 refine wP I (wL 0 I I (fun W1 hp=>(hc.hp hp).row) I (wP I (Aa (zE (zS I (zI (zE (zA (zB (wP I (wP I (wC I I (fun W hp=>(E6 p q hz W (hv.hp hp) (ht.hp hp)).cast (v':= .tuple #[.int .i64 (CU p q), .int .i64 0]) (by rw[Mp])) (wP I (wP I (wP I (wP I (wP I (Aa (zE (zA (zB (wP I (wP I (AM I I I I ?_))))))))))))))))))))))))
 refine wP I (Hf (c:=[.int .i64 0]) (ty:=317) tH I I I I I I I I I I (fun W1 hp=>hc.hp hp) ?_)
 exact Aa (zE (zA (zB (wP I (wP I (Aa (zE (zO (wR1 I I I)))))))))
structure aE (p q r:At):Prop where
 s1:Sz2 q.1 p.1
 s2:Sz2 r.2 p.2
 s3:Sz2 q.2 p.2
 s4:Sz2 r.1 p.1
 m1:Sz2 (q.1-p.1) (r.2-p.2)
 m2:Sz2 (q.2-p.2) (r.1-p.1)
 o:Sz2 ((q.1-p.1)*(r.2-p.2)) ((q.2-p.2)*(r.1-p.1))
def Ta (p q r:At):Int:=CU ((q.1-p.1)*(r.2-p.2)) ((q.2-p.2)*(r.1-p.1))
theorem QY (c:Nat) (p q r:At) (hz:aE p q r) (W:World) (hc:D7 W c) (hv:AE W) (ht:A7 W):
  Ad Tryz.prog 325 #[Af c,cvV p,cvV q,cvV r] W (fun _:Unit=> .int .i64 (Ta p q r)) (fun _=>True) (fun _=>[]):=by
 refine Ab (args:=[Af c,cvV p,cvV q,cvV r]) Tryz.func325 I I I (zA (zB (wF I I fun _=>(wF I I fun _=>(wF I I fun _=>(wP I (Aa (zE (zA (zU (qP I (qP I (qB 1 I I I (qP I (qB 0 I I I (qC I I (fun W hp=>Co c q.1 p.1 hz.s1 W (hc.hp hp) (hv.hp hp) (ht.hp hp)) (qP I (qP I (qB 2 I I I (qP I (qB 0 I I I (qC I I (fun W hp=>Co c r.2 p.2 hz.s2 W (hc.hp hp) (hv.hp hp) (ht.hp hp)) (qP I (qP I ?_))))))))))))))))))))))))
 refine A8 (Aa (zE (zA (zU (qP I (qP I (qB 1 I I I (qP I (qB 0 I I I (qC I I (fun W hp=>Co c q.2 p.2 hz.s3 W (hc.hp hp) (hv.hp hp) (ht.hp hp)) (qP I (qP I (qB 2 I I I (qP I (qB 0 I I I (qC I I (fun W hp=>Co c r.1 p.1 hz.s4 W (hc.hp hp) (hv.hp hp) (ht.hp hp)) (qP I (qP I (A8 (Aa (zE (zA (zB ?_)))))))))))))))))))))))
 exact wP I (wP I (wP I (wP I (wC I I (fun W hp=>CD c (q.1-p.1) (r.2-p.2) hz.m1 W (hc.hp hp) (hv.hp hp) (ht.hp hp)) (wP I (wP I (wP I (wC I I (fun W hp=>CD c (q.2-p.2) (r.1-p.1) hz.m2 W (hc.hp hp) (hv.hp hp) (ht.hp hp)) (wC I I (fun W hp=>E4 c _ _ hz.o W (hc.hp hp) (hv.hp hp) (ht.hp hp)) (wP I (Aa (zE (zO (wR1 I I I))))))))))))))
def KB (p q:At):Int:=if CU p.1 q.1=0 then CU p.2 q.2 else CU p.1 q.1
theorem Hg (p q:Rat):CU p q= -1\/CU p q=0\/CU p q=1:=by
 unfold CU
 split
 ·exact Or.inl I
 ·split
  ·exact Or.inr (Or.inl I)
  ·exact Or.inr (Or.inr I)
theorem SB (c:Nat) (p q:At) (h1:Sz2 p.1 q.1) (h2:Sz2 p.2 q.2) (W:World) (hc:D7 W c) (hv:AE W) (ht:A7 W):
  Ad Tryz.prog 323 #[Af c,cvV p,cvV q] W (fun _:Unit=> .int .i64 (KB p q)) (fun _=>True) (fun _=>[]):=by
 refine Ab (args:=[Af c,cvV p,cvV q]) Tryz.func323 I I I (zA (zB (wF I I fun _=>(wF I I fun _=>(wP I (Aa (zE (zA (zA (zB (wP I (wP I (wB 0 I I I (wP I (wB 1 I I I ?_)))))))))))))))
 rcases Hg p.1 q.1 with e|e|e
 ·exact wC I I (fun W hp=>(E4 c p.1 q.1 h1 W (hc.hp hp) (hv.hp hp) (ht.hp hp)).cast (congrArg (Value.int .i64) e)) (wP I (Aa (zE (zA (zB (wP I (wP I (Aa (zE (zR I (zA (zB (wP I (wP I (Aa (zE (zO (zP (wR1 I I (by rw[KB,e,if_neg (by decide)]))))))))))))))))))))
 ·refine wC I I (fun W hp=>(E4 c p.1 q.1 h1 W (hc.hp hp) (hv.hp hp) (ht.hp hp)).cast (congrArg (Value.int .i64) e)) (wP I (Aa (zE (zA (zB (wP I (wP I (Aa (zE (zS I (zI (zE (zA (zB (wP I (wP I (wB 0 I I I (wP I (wB 1 I I I (wC I I (fun W hp=>E4 c p.2 q.2 h2 W (hc.hp hp) (hv.hp hp) (ht.hp hp)) (wP I (Aa (zE ?_)))))))))))))))))))))))
  exact zO (wR1 I I (by rw[KB,if_pos e]))
 ·exact wC I I (fun W hp=>(E4 c p.1 q.1 h1 W (hc.hp hp) (hv.hp hp) (ht.hp hp)).cast (congrArg (Value.int .i64) e)) (wP I (Aa (zE (zA (zB (wP I (wP I (Aa (zE (zR I (zA (zB (wP I (wP I (Aa (zE (zO (zP (wR1 I I (by rw[KB,e,if_neg (by decide)]))))))))))))))))))))
def GM (q:Rat):Int:=if q.num=0 then 0 else if q.num<0 then -1 else 1
theorem Ii (q:Rat):AX Tryz.prog 332 [str (Ac q)] (.int .i64 (GM q)):=by
 intro W
 refine Ab Tryz.func332 I I I (zA (zB (wP I (Aa (zE (zA (zH (zA (zB (wP I (wP I (wU 5 (decide (Ac q=[48])) I (AS _ _) (wP I (Aa (zE (Ah I (fun h=> ?_) (fun h=> ?_)))))))))))))))))
 ·have h:q.num=0:=GY.1 (of_decide_eq_true h)
  exact zA (zB (wP I (Aa (zE (zO (zQ (zP (wR1 I I (by rw[GM,if_pos h])))))))))
 have h: ¬q.num=0:=fun e=>of_decide_eq_false h (GY.2 e)
 have hpre:=(Qa (z:=q.num) q.den_pos).1
 rw[Bf] at hpre
 obtain⟨c,hc⟩: ∃c,(Ac q)[0]? =some c:=by
  cases e:Ac q with
  |nil=>
   have:=congrArg List.length e
   unfold Ac Gt at this
   have h2:itoa q.num≠[]:=by unfold itoa;split;simp;exact FT _
   split at this
   ·exact absurd (List.length_eq_zero_iff.1 this) h2
   ·rw[List.length_append] at this;simp at this
  |cons c t=>exact⟨c,rfl⟩
 have hc45:decide (c=45)=decide (q.num<0):=by
  rw[<-hpre]
  show _=decide ((Ac q)[0]? =some 45)
  exact decide_eq_decide.2 (by rw[hc];simp)
 refine zA (zB (wP I (AZ 0 tH I I I I I I I I hc (wP I (wU 9 (decide (q.num<0)) I ((Em c 45).trans hc45) (wP I (Aa (zE (Ah I (fun hn=> ?_) (fun hn=> ?_))))))))))
 ·have hn:q.num<0:=of_decide_eq_true hn
  exact zA (zB (wP I (Aa (zE (zO (zQ (zP (wR1 I I (by rw[GM,if_neg h,if_pos hn])))))))))
 ·have hn: ¬q.num<0:=of_decide_eq_false hn
  exact zI (zN (zE (zA (zB (wP I (Aa (zE (zO (wR1 I I (by rw[GM,if_neg h,if_neg hn]))))))))))
abbrev br:Nat:=1000000
theorem br2:2<=br:=by decide
theorem ED {g cap:Nat} {junk:List Value} {l:List Nat} (h:(⟨some g,cap,junk⟩:Vec).OK 1 l.length (nI l)) (hl: ∀x∈l,x<br):
  ∃junk',(⟨some g,cap,junk'⟩:Vec).OK 1 (lbs br (lv br l)).length (nI (lbs br (lv br l)))/\nI l++junk=nI (lbs br (lv br l))++junk':=by
 obtain⟨h1,h2,h3⟩:=h.cap (by simp)
 have e:=Ns br2 hl
 have hlen:=(BN br2).2 (FF br2 hl)
 have e2:nI l=nI (lbs br (lv br l))++nI (l.drop (lbs br (lv br l)).length):=by
  conv=>lhs;rw[<-List.take_append_drop (lbs br (lv br l)).length l]
  rw[Lj, <-e]
 have h3':(nI l).length+junk.length=cap*1:=h3
 have h2':cap<=maxLen:=h2
 refine⟨nI (l.drop (lbs br (lv br l)).length)++junk,⟨EO _,(fun h=>by cases h),fun _=>⟨by show _<=cap;rw[BB] at h3';omega,h2', ?_⟩⟩, ?_⟩
 ·show(nI (lbs br (lv br l))).length+(nI (l.drop (lbs br (lv br l)).length)++junk).length=cap*1
  rw[List.length_append,BB,BB,List.length_drop]
  rw[BB] at h3';omega
 ·rw[<-List.append_assoc, <-e2]
theorem Fa (W:World) (p:Option Addr) (cap n:Nat) (l:List Nat) (i x:Nat) (h:A5 W p l) (hn:l.length=n) (hi:i<4611686018427387904) (hx:lim l i=x):Ad Tryz.prog 242 #[slv p n cap, .int .i64 (i:Nat)] W (fun _:Unit=> .int .i64 (x:Nat)) (fun _=>True) (fun _=>[]):=by
 subst hn hx
 refine Ab (args:=[slv p l.length cap, .int .i64 (i:Nat)]) Tryz.func242 I I I (zA (zB (wP I (Aa (zE (zA (zA (zB (wP I (wP I (wP I (wP I (Aa (zE (Ah I (fun hc=> ?_) (fun hc=> ?_))))))))))))))))
 ·have hl:i<l.length:=by simp at hc;omega
  obtain⟨b,off,rfl,hrow⟩:=h.row hl
  refine zA (zB (wP I (wP I (wJ ?_))))
  exact wL 0 I I (fun W hp=>(hrow i hl).hp hp) I (wP I (Aa (zE (zO (zP (wR1 I I I))))))
 ·have hl:l.length<=i:=by simp at hc;omega
  exact zI (zE (zA (zB (wP I (Aa (zE (zO (wR1 I I (by rw[RD hl];rfl)))))))))
theorem Dn (W:World) (p:Option Addr) (cap:Nat) (l:List Nat) (h:A5 W p l) (hl: ∀x∈l,x<br) (hc:l.length<=cap) (hn:l.length<4611686018427387904):
  Ad Tryz.prog 185 #[slv p l.length cap] W (fun _:Unit=>slv p (lbs br (lv br l)).length cap) (fun _=>True) (fun _=>[]):=by
 refine Ab (args:=[slv p l.length cap]) Tryz.func185 I I I (zA (zB (wP I (Aa (zE (zA (zB (wP I (wP I (wP I (Aa (zE (zA (zH (Ar (X:=Nat) (fun k=>[(0,slv p l.length cap),(3, .int .i64 (k:Nat))]) (fun _=>[]) (fun k=>k<=l.length/\ ∀i,k<=i->i<l.length->l[i]? =some 0) (fun k=>k) l.length ⟨Nat.le_refl _,fun i h1 h2=>by omega⟩ ⟨I,I,tO⟩ [] I ?_)))))))))))))))
 rintro k ⟨hk,hz⟩
 have hk:k<=l.length:=hk
 have hend:(k=0\/l[k-1]? ≠some 0)->(lbs br (lv br l)).length=k:=fun h0=>by
  rw[<-S8 br2 hk hl hz h0,List.length_take];omega
 by_cases h0:k=0
 ·subst h0
  refine zA (zA (zB (wP I (wP I (Al 7 (.bool false) I I (wP I ?_))))))
  iterate 6 refine Ae I I ?_
  refine wP I (Aa (zE (zS I (zJ (zK (zK (zL (zE (zA (zB (wP I (wP I (B6 0 tH I I I I I I I I (by omega) ?_)))))))))))))
  exact wP I (Aa (zE (zO (wR1 I I (by rw[hend (.inl I)])))))
 ·refine zA (zA (zB (wP I (wP I (wU 7 true I (by simp;omega) ?_)))))
  obtain⟨b,off,rfl,hrow⟩:=h.row (show k-1<l.length by omega)
  refine wP I (wP I (wP I (wP I (wV 11 ((k-1:Nat):Int) I (by show w64 ((k:Int)-1)=_;rw[Ak (by omega) (by omega)];omega) (wJ ?_)))))
  refine wL 0 I I (fun W hp=>(hrow (k-1) (by omega)).hp hp) I (wP I (wP I (Aa (zE ?_))))
  have e1:((lim l (k-1):Int)==0)=decide (l[k-1]? =some 0):=by
   rw[DA (show k-1<l.length by omega),Rj]
   simp
  refine Ah I (fun hc=> ?_) (fun hc=> ?_)
  ·have hz0:l[k-1]? =some 0:=by simpa[e1] using hc
   refine zI (zE (zH (zB (wP I (wP I (wV 17 ((k-1:Nat):Int) I (by show w64 ((k:Int)-1)=_;rw[Ak (by omega) (by omega)];omega) (wP I (Aa (zN ?_)))))))))
   refine Aj (k-1) ⟨by show k-1<=_;omega,fun i h1 h2=> ?_⟩ (by show k-1<k;omega) ⟨I,I,tO⟩ [] I
   by_cases hi:i=k-1
   ·rw[hi];exact hz0
   ·exact hz i (by have h1:k-1<=i:=h1;omega) h2
  ·have hz0:l[k-1]? ≠some 0:=by simpa[e1] using hc
   refine zJ (zK (zK (zL (zE (zA (zB (wP I (wP I (B6 k tH I I I I I I I I (by omega) ?_)))))))))
   exact wP I (Aa (zE (zO (wR1 I I (by rw[hend (.inr hz0)])))))
theorem Ms {a b:Nat} (h:(lbs br a).length<(lbs br b).length):a<b:=by
 rcases Nat.lt_or_ge a b with h1|h1
 ·exact h1
 ·have:=(BN br2 (n:=b)).2 (Nat.lt_of_le_of_lt h1 (AH br2 a))
  omega
theorem ZV {B:Nat} (_hB:2<=B) {a b:Nat} {k:Nat} (h:a/B^(k+1)=b/B^(k+1)):(a/B^k<b/B^k↔a/B^k%B<b/B^k%B)/\(a/B^k=b/B^k↔a/B^k%B=b/B^k%B):=by
 have h1:=Nat.mod_add_div (a/B^k) B
 have h2:=Nat.mod_add_div (b/B^k) B
 rw[Nat.div_div_eq_div_mul,show B^k*B=B^(k+1) from(Nat.pow_succ ..).symm] at h1 h2
 rw[h] at h1
 constructor<;>constructor<;>intro<;>omega
theorem OX {a b c:Nat} (h:a/c<b/c):a<b:=by
 rcases Nat.lt_or_ge a b with h1|h1
 ·exact h1
 ·exact absurd (Nat.div_le_div_right (c:=c) h1) (by omega)
def Ol (a b:Nat):Int:=if a<b then -1 else if b<a then 1 else 0
theorem R8 (W:World) (p q:Option Addr) (cap cap2:Nat) (a b:Nat) (hA:A5 W p (lbs br a)) (hB:A5 W q (lbs br b)) (hna:(lbs br a).length<=1000000) (_hnb:(lbs br b).length<=1000000):
  Ad Tryz.prog 183 #[slv p (lbs br a).length cap,slv q (lbs br b).length cap2] W (fun _:Unit=> .int .i64 (Ol a b)) (fun _=>True) (fun _=>[]):=by
 have hal:=AH br2 a
 have hbl:=AH br2 b
 refine Ab (args:=[slv p (lbs br a).length cap,slv q (lbs br b).length cap2]) Tryz.func183 I I I (zA (zB (wP I (Aa (zE (zA (zA (zB (wP I (wP I (wP I (wP I (wP I ?_)))))))))))))
 by_cases hl:(lbs br a).length=(lbs br b).length
 rotate_left
 ·refine wU 10 true I (bne_iff_ne.2 (by omega)) (Aa (zE (zR I (zA (zA (zB (wP I (wP I (wP I (wP I (wP I ?_)))))))))))
  by_cases h:(lbs br a).length<(lbs br b).length
  ·have hlt:=Ms h
   exact wU 15 true I (dT (by omega)) (Aa (zE (zR I (zA (zB (wP I (Aa (zE (zO (zP (zP (wR1 I I (by unfold Ol;rw[if_pos hlt])))))))))))))
  ·have hlt:=Ms (a:=b) (b:=a) (by omega)
   exact wU 15 false I (dF (by omega)) (Aa (zE (zS I (zI (zE (zA (zB (wP I (Aa (zE (zO (zP (wR1 I I (by unfold Ol;rw[if_neg (by omega),if_pos hlt]))))))))))))))
 obtain⟨K,hK⟩: ∃K,(lbs br b).length=K:=⟨_,rfl⟩
 rw[hl,hK] at hal
 rw[hK] at hbl hl
 rw[hl,hK]
 refine wU 10 false I (by simp) (Aa (zE (zS I (zI (zE (zA (zA (zB (wP I (wP I (wP I (wV 18 ((K:Int)-1) I (Ak (by omega) (by omega)) (wP I (Aa (zE (zH (Ar (X:=Nat) (fun k=>[(0,slv p K cap),(1,slv q K cap2),(5, .int .i64 ((k:Nat)-1:Int))]) (fun _=>[]) (fun k=>k<=K/\a/br^k=b/br^k) (fun k=>k) K ⟨Nat.le_refl _,by rw[Nat.div_eq_of_lt hal,Nat.div_eq_of_lt hbl]⟩ ⟨I,I,I,tO⟩ [] I ?_)))))))))))))))))
 rintro k ⟨hk,hq⟩
 have hk:k<=K:=hk
 refine zA (zA (zB (wP I (wP I ?_))))
 cases k with
 |zero=>
  have e:a=b:=by have hq:a/br^0=b/br^0:=hq;simpa using hq
  exact wU 20 false I (dF (by show¬(((0:Nat):Int)-1≥0);omega)) (Aa (zE (zS I (zJ (zK (zK (zL (zE (zA (zB (wP I (Aa (zE (zO (wR1 I I (by unfold Ol;rw[e,if_neg (Nat.lt_irrefl _),if_neg (Nat.lt_irrefl _)]))))))))))))))))
 |succ k=>
  have hq:a/br^(k+1)=b/br^(k+1):=hq
  obtain⟨h1,h2⟩:=ZV br2 hq
  obtain⟨b1,o1,rfl,r1⟩:=hA.row (show k<(lbs br a).length by omega)
  obtain⟨b2,o2,rfl,r2⟩:=hB.row (show k<(lbs br b).length by omega)
  have r1:=r1 k (by omega)
  have r2:=r2 k (by omega)
  obtain⟨x,hx⟩: ∃x,lim (lbs br a) k=x:=⟨_,rfl⟩
  obtain⟨y,hy⟩: ∃y,lim (lbs br b) k=y:=⟨_,rfl⟩
  rw[hx] at r1
  rw[hy] at r2
  rw[Bl br2] at hx hy
  rw[hx,hy] at h1 h2
  have hxb:x<br:=by rw[<-hx];exact Nat.mod_lt _ (by decide)
  have hyb:y<br:=by rw[<-hy];exact Nat.mod_lt _ (by decide)
  have hxb:x<1000000:=hxb
  have hyb:y<1000000:=hyb
  refine wU 20 true I (dT (by show(((k+1:Nat):Int)-1≥0);omega)) (Aa (zE (zR I (zI (zE (zA (zH (zA (zA (zU (qP I (qP I (qV 24 (k:Nat) I (by show((k+1:Nat):Int)-1=_;omega) (qJ ?_))))))))))))))
  refine qL 0 I I (fun W hp=>r1.hp hp) I (qP I (qP I (qV 28 (k:Nat) I (by show((k+1:Nat):Int)-1=_;omega) (qJ ?_))))
  refine qL 0 I I (fun W hp=>r2.hp hp) I (qP I ?_)
  by_cases hlt:x<y
  ·have:=OX (h1.2 hlt)
   exact qU 31 true I (dT (by omega)) (A8 (Aa (zE (zR I (zA (zB (wP I (Aa (zE (zO (zP (zQ (zP (zP (zQ (zP (wR1 I I (by unfold Ol;rw[if_pos this]))))))))))))))))))
  refine qU 31 false I (dF (by omega)) (A8 (Aa (zE (zS I (zI (zE (zA (zU (qP I (qP I (qV 33 (k:Nat) I (by show((k+1:Nat):Int)-1=_;omega) (qJ ?_))))))))))))
  refine qL 0 I I (fun W hp=>r1.hp hp) I (qP I (qP I (qV 37 (k:Nat) I (by show((k+1:Nat):Int)-1=_;omega) (qJ ?_))))
  refine qL 0 I I (fun W hp=>r2.hp hp) I (qP I ?_)
  by_cases hgt:y<x
  ·have h3: ¬a/br^k<b/br^k:=fun h=>hlt (h1.1 h)
   have h4: ¬a/br^k=b/br^k:=fun h=>by have:=h2.1 h;omega
   have:=OX (a:=b) (b:=a) (c:=br^k) (by omega)
   exact qU 40 true I (dT (by show((x:Nat):Int)>(y:Nat);omega)) (A8 (Aa (zE (zR I (zA (zB (wP I (Aa (zE (zO (zQ (zP (zP (zQ (zP (wR1 I I (by unfold Ol;rw[if_neg (by omega),if_pos this])))))))))))))))))
  exact qU 40 false I (dF (by show¬((x:Nat):Int)>(y:Nat);omega)) (A8 (Aa (zE (zS I (zI (zN (zE (zB (wP I (wV 21 (k:Nat) I (by show((k+1:Nat):Int)-1=_;omega) (wP I (wV 22 ((k:Nat)-1:Int) I (Ak (by omega) (by omega)) (wP I (Aa (Aj k ⟨by show k<=K;omega,h2.2 (by omega)⟩ (by show k<k+1;omega) ⟨I,I,I,tO⟩ [] I)))))))))))))))
def HP (x y c:Nat):Nat×Nat:=if y+c<=x then(x-y-c,0) else(x+br-y-c,1)
theorem Uw {x y c:Nat} (hx:x<br) (hy:y<br) (hc:c<=1):(HP x y c).1<br/\(HP x y c).2<=1/\(HP x y c).1+y+c=x+br*(HP x y c).2:=by
 have hx:x<1000000:=hx
 have hy:y<1000000:=hy
 unfold HP
 split
 ·exact⟨by show x-y-c<1000000;omega,Nat.zero_le _,by show x-y-c+y+c=x+1000000*0;omega⟩
 ·exact⟨by show x+1000000-y-c<1000000;omega,Nat.le_refl _,by show x+1000000-y-c+y+c=x+1000000*1;omega⟩
def HB (a b:List Nat):Nat->List Nat×Nat
 |0=>([],0)
 |i+1=>((HB a b i).1++[(HP (lim a i) (lim b i) (HB a b i).2).1],(HP (lim a i) (lim b i) (HB a b i).2).2)
theorem Mt (a b:List Nat): ∀i,(HB a b i).1.length=i
 |0=>rfl
 |i+1=>by show(_++[_]).length=_;rw[List.length_append,Mt a b i];rfl
theorem Q3 {a b:List Nat} (ha: ∀x∈a,x<br) (hb: ∀x∈b,x<br): ∀i,(∀x∈(HB a b i).1,x<br)/\(HB a b i).2<=1
 |0=>⟨fun x h=>(by cases h),Nat.zero_le _⟩
 |i+1=>by
  obtain⟨h1,h2⟩:=Q3 ha hb i
  obtain⟨h3,h4,_⟩:=Uw (Bn br2 ha i) (Bn br2 hb i) h2
  refine⟨fun x hx=> ?_,h4⟩
  rcases List.mem_append.1 hx with hx|hx
  ·exact h1 x hx
  ·obtain rfl:=List.mem_singleton.1 hx;exact h3
theorem R7 (a b:Nat): ∀i,lv br (HB (lbs br a) (lbs br b) i).1+b%br^i=a%br^i+br^i*(HB (lbs br a) (lbs br b) i).2
 |0=>by show 0+_=_+br^0*0;rw[Nat.pow_zero,Nat.mod_one,Nat.mod_one]
 |i+1=>by
  have hc:=(Q3 (Br br2 a) (Br br2 b) i).2
  exact Mv (Mt _ _ i) (R7 a b i) (by rw[<-Bl br2 b i, <-Bl br2 a i];exact(Uw (Bn br2 (Br br2 a) i) (Bn br2 (Br br2 b) i) hc).2.2)
theorem Kn (W:World) (p q:Option Addr) (cap cap2:Nat) (a b:Nat) (hba:b<=a) (hA:A5 W p (lbs br a)) (hB:A5 W q (lbs br b)) (hna:(lbs br a).length<=1000000):
  Ad Tryz.prog 184 #[slv p (lbs br a).length cap,slv q (lbs br b).length cap2] W (fun x:NV=>BK x (lbs br (a-b)).length) (fun x=>CR x (lbs br (a-b))) (fun x=>[Cd x (lbs br (a-b))]):=by
 have hla:=Br br2 a
 have hlb:=Br br2 b
 have hal:=AH br2 a
 obtain⟨na,hna'⟩: ∃n,(lbs br a).length=n:=⟨_,rfl⟩
 obtain⟨nb,hnb'⟩: ∃n,(lbs br b).length=n:=⟨_,rfl⟩
 rw[hna'] at hna hal
 refine Ab (args:=[slv p (lbs br a).length cap,slv q (lbs br b).length cap2]) Tryz.func184 I I I ?_
 rw[hna',hnb']
 refine zA (zB (wP I (Aa (zE (zA (zB (EI tH I I I I I ?_)))))))
 intro g
 refine wP I (Aa (zE (zA (zB (wP I (Aa (zE (zA (zA (zB (wP I (Aa (zE (zH ?_))))))))))))))
 refine Ar (X:=Nat×NV) (fun x=>[(0,slv p na cap),(1,slv q nb cap2),(5,BK x.2 x.1),(6, .int .i64 ((HB (lbs br a) (lbs br b) x.1).2:Nat)),(7, .int .i64 (x.1:Nat))]) (fun x=>[Cd x.2 (HB (lbs br a) (lbs br b) x.1).1])
  (fun x=>x.1<=na/\CR x.2 (HB (lbs br a) (lbs br b) x.1).1) (fun x=>na-x.1) (0,g,0,[]) ⟨Nat.zero_le _,⟨rfl,(fun h=>by cases h),fun _=>⟨Nat.le_refl _,Nat.zero_le _,rfl⟩⟩⟩ ⟨rfl,rfl,rfl,rfl,rfl,trivial⟩ [] rfl ?_
 rintro⟨i,x⟩ ⟨hi,hx⟩
 have hi:i<=na:=hi
 have hx:CR x (HB (lbs br a) (lbs br b) i).1:=hx
 have hlen:=Mt (lbs br a) (lbs br b) i
 obtain⟨hob,hc1⟩:=Q3 hla hlb i
 have hval:=R7 a b i
 obtain⟨out,hout⟩: ∃out,(HB (lbs br a) (lbs br b) i).1=out:=⟨_,rfl⟩
 obtain⟨c,hc⟩: ∃c,(HB (lbs br a) (lbs br b) i).2=c:=⟨_,rfl⟩
 rw[hout] at hx hlen hob hval
 rw[hc] at hc1 hval
 simp only[hc,hout]
 refine zA (zA (zB (wP I (wP I (wP I (wP I ?_))))))
 by_cases h1:i<na
 ·refine wU 13 true I (dT (by omega)) (Aa (zE (zR I (zI (zE (zA (zH (zA (zU ?_)))))))))
  obtain⟨u,hu⟩: ∃u,lim (lbs br a) i=u:=⟨_,rfl⟩
  obtain⟨v,hv⟩: ∃v,lim (lbs br b) i=v:=⟨_,rfl⟩
  have hub:u<1000000:=by rw[<-hu];exact Bn br2 hla i
  have hvb:v<1000000:=by rw[<-hv];exact Bn br2 hlb i
  obtain⟨b1,o1,rfl,r1⟩:=hA.row (show i<(lbs br a).length by omega)
  have r1:=r1 i (by omega)
  rw[hu] at r1
  have e1:(HB (lbs br a) (lbs br b) (i+1)).1=out++[(HP u v c).1]:=by show _++[_]=_;rw[hout,hu,hv,hc]
  have e2:(HB (lbs br a) (lbs br b) (i+1)).2=(HP u v c).2:=by show(HP _ _ _).2=_;rw[hu,hv,hc]
  refine qP I (qP I (qJ ?_))
  refine qL 0 I I (fun W hp=>r1.hp hp) I (qP I (qP I (qC I I (fun W' hp=>Fa W' q cap2 nb (lbs br b) i v (hB.hp hp) hnb' (by omega) hv) (qP I (qP I (qP I (qV 25 ((u:Int)-v-c) I (by show w64 (w64 ((u:Int)-v)-c)=_;rw[Ak (x:=(u:Int)-v) (by omega) (by omega),Ak (by omega) (by omega)]) (qP I (A8 (Aa (zE (zA (zB (wP I (Aa (A6 (Av (Av (zB (wP I (wP I (Al 27 (.bool (decide ((u:Int)-v-c<0))) I I (Aa ?_)))))))))))))))))))))))
  refine A6 ?_
  try refine Av ?_
  refine AA (X:=Unit) (fun _=>[(0,slv (some ⟨b1,o1,none⟩) na cap),(1,slv q nb cap2),(5,BK x i),(6, .int .i64 ((HP u v c).2:Nat)),(7, .int .i64 (i:Nat)),(8, .int .i64 ((HP u v c).1:Nat))]) (fun _=>[Cd x out]) (fun _=>True) ?_ ?_
  ·refine Ah I (fun hn=> ?_) (fun hn=> ?_)
   ·have hn:(u:Int)-v-c<0:=of_decide_eq_true hn
    have em:HP u v c=(u+br-v-c,1):=by unfold HP;rw[if_neg (by omega)]
    exact zA (zB (wP I (wP I (wV 29 ((u+br-v-c:Nat):Int) I (by show w64 (((u:Int)-v-c)+((1000000:Nat):Int))=_;rw[Ak (by omega) (by omega)];show _=((u+1000000-v-c:Nat):Int);omega) (wP I (Aa (zE (zB (wP I (Aa (An () tO ⟨I,I,I,by rw[em];rfl,I,by rw[em];rfl,tO⟩ [] I)))))))))))
   ·have hn: ¬(u:Int)-v-c<0:=of_decide_eq_false hn
    have em:HP u v c=(u-v-c,0):=by unfold HP;rw[if_pos (by omega)]
    exact zI (An () tO ⟨I,I,I,by rw[em];rfl,I,by rw[em];exact congrArg (fun z=>some (Value.int .i64 z)) (by show(u:Int)-v-c=((u-v-c:Nat):Int);omega),tO⟩ [] I)
  intro _ _
  refine zB (wP I (wP I (Ao Tryz.hZ tH I I I I I I I I I I I fun bN=> ?_)))
  refine AK (V:=nvV x) (len:=i) (xs:=nI out) 0 1 Tryz.vec162 (i+1) (nI (out++[(HP u v c).1])) I I I I I I I I I I I (by rw[<-hlen];exact hx) I I I (by rw[Lj];rfl) (by simp only[maxLen];omega) (by omega) I ?_
  intro g1 c1 j1 hV1
  refine wP I (Aa (zN (zE (zB (wP I (wP I (wV 15 ((i+1:Nat):Int) I (Aw (by omega)) (wP I (Aa ?_)))))))))
  refine Aj (i+1,g1,c1,j1) ⟨h1, ?_⟩ (by show na-(i+1)<na-i;omega) ⟨I,I,I,by rw[e2];rfl,I,tO⟩ _ (by show _=[Cd _ (HB _ _ (i+1)).1]++_;rw[e1];rfl)
  show CR _ (HB (lbs br a) (lbs br b) (i+1)).1
  rw[e1]
  show Vec.OK _ 1 (out++[_]).length _
  rw[List.length_append,hlen]
  exact hV1
 ·have e:i=na:=by omega
  subst e
  have ev:lv br out=a-b:=OT br2 hlen hob hval hal hba
  obtain⟨j2,hj1,hj2⟩:=ED hx hob
  rw[ev] at hj1 hj2
  exact wU 13 false I (dF (by omega)) (Aa (zE (zS I (zJ (zK (zK (zL (zE (zA (zB (wP I (Al 34 (slv (some ⟨x.1,0,none⟩) out.length x.2.1) I (by rw[hlen]) (wC I I (fun W' hp=>Dn W' (some ⟨x.1,0,none⟩) x.2.1 out (A5.of_bx hp 0 I) hob (by have:=(hx.cap (by simp)).1;exact this) (by omega)) (wP I (Aa (zE (zO (Ax tH I (.tmp I) ((x.1,x.2.1,j2):NV) (by rw[ev]) hj1 fun W hp=>As.of_hp1 hp 0 (by show some (⟨x.1,3,nI out++x.2.2,true,none⟩:Bx)=some ⟨x.1,3,nI (lbs br (a-b))++j2,true,none⟩;rw[hj2])))))))))))))))))))
theorem XC {x y:Nat} (hx:x<br) (hy:y<br):x*y<=999998000001:=(Nat.mul_le_mul (Nat.le_of_lt_succ hx) (Nat.le_of_lt_succ hy):x*y<=999999*999999)
theorem Jf (W:World) (p q:Option Addr) (cap cap2:Nat) (a:Nat) (lb:List Nat) (hlb: ∀x∈lb,x<br) (hA:A5 W p (lbs br a)) (hB:A5 W q lb) (hna:(lbs br a).length<=1000000) (hnb:lb.length<=1000000):
  Ad Tryz.prog 241 #[slv p (lbs br a).length cap,slv q lb.length cap2] W (fun x:NV=>BK x (lbs br (a*lv br lb)).length) (fun x=>CR x (lbs br (a*lv br lb))) (fun x=>[Cd x (lbs br (a*lv br lb))]):=by
 have hla:=Br br2 a
 have hal:=AH br2 a
 have hbl:=FF br2 hlb
 obtain⟨b,hbv⟩: ∃b,lv br lb=b:=⟨_,rfl⟩
 rw[hbv] at hbl⊢
 obtain⟨na,hna'⟩: ∃n,(lbs br a).length=n:=⟨_,rfl⟩
 obtain⟨nb,hnb'⟩: ∃n,lb.length=n:=⟨_,rfl⟩
 obtain⟨M,hM⟩: ∃M,M=na+nb+1:=⟨_,rfl⟩
 rw[hna'] at hna hal
 rw[hnb'] at hnb hbl
 refine Ab (args:=[slv p (lbs br a).length cap,slv q lb.length cap2]) Tryz.func241 I I I ?_
 rw[hna',hnb']
 refine zA (zB (wP I (Aa (zE (zA (zB (wP I (wP I (wP I (wP I (wP I (wP I (wV 15 (M:Nat) I (by show w64 (w64 ((na:Int)+nb)+1)=_;rw[AQ (by omega),Aw (by omega),hM]) ?_)))))))))))))
 refine Cf Tryz.vec162 M I I I I I I I (by simp only[maxLen];omega) (by omega) ?_
 intro g
 have ez:BR (Value.cells (.int .i64 0)).toList M=nI (List.replicate M 0)++[]:=by rw[List.append_nil];exact FE M
 rw[ez]
 refine wP I (Aa (zE (zA (zA (zB (wP I (Aa (zE (zH ?_)))))))))
 refine Ar (X:=Nat×List Nat) (fun x=>[(0,slv p na cap),(1,slv q nb cap2),(5,slv (some ⟨g,0,none⟩) M M),(6, .int .i64 (x.1:Nat))]) (fun x=>[⟨g,3,nI x.2++[],true,none⟩])
  (fun x=>x.1<=na/\x.2.length=M/\(∀y∈x.2,y<br)/\lv br x.2=a%br^x.1*b) (fun x=>na-x.1) (0,List.replicate M 0) ⟨Nat.zero_le _,List.length_replicate,fun y hy=>by rw[List.eq_of_mem_replicate hy];decide,by rw[EZ];show 0=a%br^0*b;rw[Nat.pow_zero,Nat.mod_one,Nat.zero_mul]⟩ ⟨rfl,rfl,rfl,rfl,trivial⟩ [] rfl ?_
 rintro⟨i,out⟩ ⟨hi,hlen,hob,hov⟩
 have hi:i<=na:=hi
 have hlen:out.length=M:=hlen
 refine zA (zA (zB (wP I (wP I (wP I (wP I ?_))))))
 by_cases hi':i<na
 ·refine wU 20 true I (dT (by omega)) (Aa (zE (zR I (zI (zE (zA (zH (zA (zB ?_)))))))))
  obtain⟨pb,po,rfl,hrow⟩:=hA.row (show i<(lbs br a).length by omega)
  obtain⟨x,hx⟩: ∃x,lim (lbs br a) i=x:=⟨_,rfl⟩
  have hrx: ∀W' bx,Hp W bx W'->Ai W' pb (po+i*1) [.int .i64 (x:Nat)]:=fun W' bx hp=>by
   have:=(hrow i (by omega)).hp hp
   rwa [hx] at this
  have hxb:x<br:=by rw[<-hx];exact Bn br2 hla i
  have hxe:x=a/br^i%br:=by rw[<-hx];exact Bl br2 a i
  refine wP I (Aa (zE (zA (zB (wP I (Aa (zE (zH ?_))))))))
  refine Ar (X:=Nat×List Nat×Nat) (fun x'=>[(0,slv (some ⟨pb,po,none⟩) na cap),(1,slv q nb cap2),(5,slv (some ⟨g,0,none⟩) M M),(6, .int .i64 (i:Nat)),(7, .int .i64 (x'.2.2:Nat)),(8, .int .i64 (x'.1:Nat))]) (fun x'=>[⟨g,3,nI x'.2.1++[],true,none⟩])
   (fun x'=>x'.1<=nb+1/\x'.2.1.length=M/\(∀y∈x'.2.1,y<br)/\x'.2.2<br/\lv br x'.2.1+br^(i+x'.1)*x'.2.2=lv br out+br^i*(x*(b%br^x'.1))) (fun x'=>nb+1-x'.1) (0,out,0) ⟨Nat.zero_le _,hlen,hob,show 0<br by decide,by show lv br out+br^(i+0)*0=lv br out+br^i*(x*(b%br^0));rw[Nat.pow_zero,Nat.mod_one];simp⟩ ⟨rfl,rfl,rfl,rfl,rfl,rfl,trivial⟩ [] rfl ?_
  rintro⟨k,u,c⟩ ⟨hk,hul,hub,hcb,huv⟩
  have hk:k<=nb+1:=hk
  have hul:u.length=M:=hul
  have hcb:c<1000000:=hcb
  have huv:lv br u+br^(i+k)*c=lv br out+br^i*(x*(b%br^k)):=huv
  have hlast:k=nb+1->c=0:=fun e=>by
   subst e
   exact(Pv br2 huv hbl hxb (by rw[hov];exact LE br2 hbl)).2
  refine Av (Av (AA (X:=Unit) (fun _=>[(0,slv (some ⟨pb,po,none⟩) na cap),(1,slv q nb cap2),(5,slv (some ⟨g,0,none⟩) M M),(6, .int .i64 (i:Nat)),(7, .int .i64 (c:Nat)),(8, .int .i64 (k:Nat)),(30, .bool (decide (k<nb\/0<c)))]) (fun _=>[⟨g,3,nI u++[],true,none⟩]) (fun _=>True) ?_ ?_))
  ·refine zB (wP I (wP I (wP I (wP I ?_))))
   by_cases h1:k<nb
   ·refine wU 26 true I (dT (by omega)) (wP I ?_)
    iterate 2 refine Ae I I ?_
    exact wP I (Aa (An () tO ⟨I,I,I,I,I,I,by rw[dT (Or.inl h1)];rfl,tO⟩ [] I))
   ·exact wU 26 false I (dF (by omega)) (wP I (wP I (wP I (wU 29 (decide (k<nb\/0<c)) I (decide_eq_decide.2 (by show((c:Nat):Int)>0↔(k<nb\/0<c);omega)) (wP I (Aa (An () tO ⟨I,I,I,I,I,I,I,tO⟩ [] I)))))))
  intro _ _
  refine Ah I (fun hc=> ?_) (fun hc=> ?_)
  ·have hc:k<nb\/0<c:=of_decide_eq_true hc
   have hk':k<nb+1:=by
    rcases Nat.lt_or_ge k (nb+1) with h|h
    ·exact h
    ·have:=hlast (by omega);omega
   have hik:i+k<u.length:=by rw[hul];omega
   obtain⟨o,ho⟩: ∃o,lim u (i+k)=o:=⟨_,rfl⟩
   obtain⟨y,hy⟩: ∃y,lim lb k=y:=⟨_,rfl⟩
   have hob':o<br:=by rw[<-ho];exact Bn br2 hub _
   have hyb:y<br:=by rw[<-hy];exact Bn br2 hlb _
   have hou:u[i+k]? =some o:=by rw[DA hik,ho]
   obtain⟨n,hn⟩: ∃n,n=o+x*y+c:=⟨_,rfl⟩
   have hnb2:=Lk hxb hyb hob' hcb hn
   have hn63:n<1000000000000:=hnb2.2
   have hxy:=XC hxb hyb
   have hyy:=hy
   rw[Cy br2 k hlb,hbv] at hyy
   have hstep:=Js (n:=n) hou huv (by rw[hn,hyy])
   have hrx':=hrx
   refine zI (zE (zA (zH (zA (zU (qP I (qP I (qP I (qP I (qV 36 ((i+k:Nat):Int) I (AQ (by omega)) (qJ ?_)))))))))))
   refine qL 0 I I (fun W' hp=>Ai.of_intsX hp 0 I hik ho) I (qP I (qP I (qJ ?_)))
   refine qL 0 I I (fun W' hp=>hrx W' _ hp) I (qP I (qP I (qC I I (fun W' hp=>Fa W' q cap2 nb lb k y (hB.hp hp) hnb' (by omega) hy) (qP I (qP I (qP I (qP I (qV 49 (n:Nat) I (by show w64 (w64 ((o:Int)+w64 ((x:Int)*y))+c)=_;rw[Cs (by omega),AQ (by omega),AQ (by omega),hn]) (qP I (A8 (Aa (zE (zA (zB (wP I (wP I (wP I (wP I (wV 53 ((i+k:Nat):Int) I (AQ (by omega)) (wP I (FB I I I I I (by decide) ?_)))))))))))))))))))))
   refine wJ ?_
   refine AC 0 (nI (u.set (i+k) (n%br))++[]) tH I I I I I I I I I I (by show 0+(i+k)*1+1<=(nI u++[]).length;rw[List.append_nil,BB];omega) (C0 hik (n%br)) ?_
   refine Aa (zE (zB (wP I (Ep I I I I I (by decide) ?_))))
   exact wV 58 ((n/br:Nat):Int) I (BE (show n/1000000<9223372036854775808 by omega)) (wP I (Aa (zN (zE (zB (wP I (wP I (wV 32 ((k+1:Nat):Int) I (Aw (by omega)) (wP I (Aa (Aj (k+1,u.set (i+k) (n%br),n/br) ⟨hk',by rw[List.length_set];exact hul,CW hub (Nat.mod_lt _ (by decide)),hnb2.1,hstep⟩ (by show nb+1-(k+1)<nb+1-k;omega) ⟨I,I,I,I,I,I,tO⟩ [] I)))))))))))
  ·have hc: ¬(k<nb\/0<c):=of_decide_eq_false hc
   have hc0:c=0:=by omega
   have h1:lv br u=lv br out+br^i*(x*b):=by
    rw[hc0,Nat.mul_zero,Nat.add_zero] at huv
    have h3:br^nb<=br^k:=Nat.pow_le_pow_right (by decide) (by omega)
    rw[Nat.mod_eq_of_lt (show b<br^k by omega)] at huv
    exact huv
   have h2:=MK (a:=a) (b:=b) (i:=i) hov
   rw[<-hxe, <-h1] at h2
   exact zJ (zK (zK (zL (zN (zE (zB (wP I (wP I (wV 22 ((i+1:Nat):Int) I (Aw (by omega)) (wP I (Aa (Aj (i+1,u) ⟨hi',hul,hub,h2⟩ (by show na-(i+1)<na-i;omega) ⟨I,I,I,I,tO⟩ [] I))))))))))))
 ·have hi':i=na:=by omega
  subst hi'
  rw[Nat.mod_eq_of_lt hal] at hov
  refine wU 20 false I (dF (by omega)) (Aa (zE (zS I (zJ (zK (zK (zL (zE (zA (zB ?_))))))))))
  have hV0:(⟨some g,M,[]⟩:Vec).OK 1 out.length (nI out):=⟨EO _,(fun h=>by cases h),fun _=>⟨by show _<=M;omega,by show M<=maxLen;simp only[maxLen];omega,by show(nI out).length+0=M*1;rw[BB];omega⟩⟩
  obtain⟨j',hV2,he⟩:=ED hV0 hob
  refine wP I (Al 59 (slv (some ⟨g,0,none⟩) out.length M) I (by rw[hlen]) (wC I I (fun W hp=>Dn W _ M _ (A5.of_bx hp 0 I) hob (by omega) (by omega)) (wP I (Aa (zE (zO ?_))))))
  rw[hov] at hV2 he
  exact Ax tH I (.tmp I) ((g,M,j'):NV) (by rw[hov]) hV2 fun W hp=>As.of_hp1 hp 0 (by show some (⟨g,3,nI out++[],true,none⟩:Bx)=some ⟨g,3,nI (lbs br (a*b))++j',true,none⟩;rw[he])
theorem Kc (W:World) (p q:Option Addr) (cap cap2:Nat) (a b:Nat) (hA:A5 W p (lbs br a)) (hB:A5 W q (lbs br b)) (hna:(lbs br a).length<=1000000) (hnb:(lbs br b).length<=1000000):
  Ad Tryz.prog 241 #[slv p (lbs br a).length cap,slv q (lbs br b).length cap2] W (fun x:NV=>BK x (lbs br (a*b)).length) (fun x=>CR x (lbs br (a*b))) (fun x=>[Cd x (lbs br (a*b))]):=by
 have h:=Jf W p q cap cap2 a (lbs br b) (Br br2 b) hA hB hna hnb
 rwa [KL br2] at h
def IQ (z:Int):List UInt8:=if z<0 then[45] else[]
theorem CY (z:Int):itoa z=IQ z++decDigits z.natAbs:=by
 unfold itoa IQ
 split
 ·rfl
 ·rw[show z.toNat=z.natAbs by omega];rfl
theorem PD (z:Int):(IQ z).length<=1:=by unfold IQ;split<;>decide
theorem FY (z:Int): ∃c,(itoa z)[0]? =some c/\decide (c=45)=decide (z<0):=by
 have h:=LD z
 rw[Bf] at h
 cases e:itoa z with
 |nil=>
  rw[CY] at e
  exact absurd (List.append_eq_nil_iff.1 e).2 (FT _)
 |cons c t=>
  rw[e] at h
  exact⟨c,I,by rw[<-h];exact decide_eq_decide.2 (by simp)⟩
theorem WM {n:Nat} (h:(decDigits n)[0]? =some 48):n=0:=by
 rcases Nat.eq_zero_or_pos n with h0|h0
 ·exact h0
 ·obtain⟨b,r,h1,h2⟩:=LW n (by omega)
  rw[h1] at h
  have h:b=48:=by simpa using h
  rw[h] at h2;exact absurd rfl h2
theorem Hy (z:Int) (hl:(decDigits z.natAbs).length<=300):AX Tryz.prog 180 [str (itoa z)] (.int .i64 0):=by
 intro W
 obtain⟨s,hs⟩: ∃s,s=itoa z:=⟨_,rfl⟩
 obtain⟨dd,hdd⟩: ∃dd,dd=decDigits z.natAbs:=⟨_,rfl⟩
 obtain⟨f,hf⟩: ∃f,f=(IQ z).length:=⟨_,rfl⟩
 have hss:s=IQ z++dd:=by rw[hs,hdd];exact CY z
 have hf1:f<=1:=hf▸PD z
 have hsl:s.length=f+dd.length:=by rw[hss,List.length_append,hf]
 have hd0:0<dd.length:=by rw[hdd];exact List.length_pos_iff.2 (FT _)
 have hget: ∀i,f<=i->s[i]? =dd[i-f]? :=fun i hi=>by rw[hss,List.getElem?_append_right (by omega),hf]
 obtain⟨c0,hc0,hc45⟩:=FY z
 rw[<-hs] at hc0⊢
 rw[<-hdd] at hl
 have hdg: ∀b∈dd,El b=true:=by rw[hdd];exact(FN _).all
 refine Ab Tryz.func180 I I I (zA (zB (wP I (Aa (zE (zA (zB (wP I (Aa (zE (zA (zA (zB (wP I (wP I (Al 6 (.int .i64 (s.length:Nat)) I (congrArg (fun n:Nat=>Value.int .i64 (n:Int)) (A3 s)) (wP I (wU 7 true I (dT (by omega)) (wP I (wP I (AZ 0 tH I I I I I I I I hc0 (wP I (wU 11 (decide (z<0)) I ((Em c0 45).trans hc45) ?_)))))))))))))))))))))))
 refine wP I (Aa (A6 ?_))
 try refine Av ?_
 refine AA (X:=Unit) (fun _=>[(0,str s),(3, .int .i64 (f:Nat))]) (fun _=>[]) (fun _=>True) ?_ ?_
 ·refine Ah I (fun h=> ?_) (fun h=> ?_)
  ·have h:z<0:=of_decide_eq_true h
   exact zB (wP I (Aa (An () tO ⟨I,by rw[hf];unfold IQ;rw[if_pos h];rfl,tO⟩ [] I)))
  ·have h: ¬z<0:=of_decide_eq_false h
   exact zI (An () tO ⟨I,by rw[hf];unfold IQ;rw[if_neg h];rfl,tO⟩ [] I)
 intro _ _
 refine Av (Av (AA (X:=Unit) (fun _=>[(0,str s),(3, .int .i64 (f:Nat)),(27, .bool false)]) (fun _=>[]) (fun _=>True) ?_ ?_))
 ·refine zB (wP I (wP I (wP I (Al 15 (.int .i64 (s.length:Nat)) I (congrArg (fun n:Nat=>Value.int .i64 (n:Int)) (A3 s)) (wP I (wU 16 false I (by rw[beq_eq_false_iff_ne];omega) ?_))))))
  obtain⟨b,hb⟩: ∃b,dd[0]? =some b:=⟨dd[0],List.getElem?_eq_getElem hd0⟩
  have hsb:s[f]? =some b:=by rw[hget f (Nat.le_refl _),Nat.sub_self];exact hb
  refine wP I (wP I (wP I (AZ f tH I I I I I I I I hsb (wP I ?_))))
  by_cases h48:b=48
  ·rw[h48,hdd] at hb
   have h0:=WM hb
   have hz:z=0:=by omega
   have hs1:s.length=1:=by rw[hs,hz,Cx];rfl
   exact wU 21 true I ((Em b 48).trans (dT h48)) (wP I (wP I (wP I (Al 24 (.int .i64 (s.length:Nat)) I (congrArg (fun n:Nat=>Value.int .i64 (n:Int)) (A3 s)) (wP I (wU 25 false I (dF (by omega)) (wP I (wP I (Aa (An () tO ⟨I,I,I,tO⟩ [] I))))))))))
  ·refine wU 21 false I ((Em b 48).trans (dF h48)) (wP I ?_)
   iterate 3 refine Ae I I ?_
   exact wP I (wP I (Aa (An () tO ⟨I,I,I,tO⟩ [] I)))
 intro _ _
 refine zS I (zI (zE (zA (zA (zB (wP I (wP I (Aa (zE (zH (Ar (X:=Nat) (fun i=>[(0,str s),(3, .int .i64 (f:Nat)),(4, .int .i64 (i:Nat))]) (fun _=>[]) (fun i=>i<=s.length/\f<=i) (fun i=>s.length-i) f ⟨by omega,Nat.le_refl _⟩ ⟨I,I,I,tO⟩ [] I ?_)))))))))))
 rintro i ⟨hi,hfi⟩
 have hi:i<=s.length:=hi
 have hfi:f<=i:=hfi
 refine zA (zA (zB (wP I (wP I (wP I (Al 31 (.int .i64 (s.length:Nat)) I (congrArg (fun n:Nat=>Value.int .i64 (n:Int)) (A3 s)) (wP I ?_)))))))
 by_cases hlt:i<s.length
 ·refine wU 32 true I (dT (by omega)) (Aa (zE (zR I (zI (zE (zA (zH (zA (zB ?_)))))))))
  obtain⟨b,hb⟩: ∃b,dd[i-f]? =some b:=⟨dd[i-f]'(by omega),List.getElem?_eq_getElem (by omega)⟩
  have hsb:s[i]? =some b:=by rw[hget i hfi];exact hb
  have hbd:=CL.1 (hdg b (List.mem_of_getElem? hb))
  exact wP I (wP I (AZ i tH I I I I I I I I hsb (wP I (wU 38 false I ((Xm b).trans (dF (by omega))) (wP I (wP I (wP I (AZ i tH I I I I I I I I hsb (wP I (wU 43 false I ((Xn b).trans (dF (by omega))) (wP I (Aa (zE (zS I (zI (zN (zE (zB (wP I (wP I (wV 34 ((i+1:Nat):Int) I (Aw (by omega)) (wP I (Aa (Aj (i+1) ⟨hlt,by show f<=i+1;omega⟩ (by show s.length-(i+1)<s.length-i;omega) ⟨I,I,I,tO⟩ [] I))))))))))))))))))))))))
 ·refine wU 32 false I (dF (by omega)) (Aa (zE (zS I (zJ (zK (zK (zL (zE (zA (zA (zB (wP I (wP I (Al 46 (.int .i64 (s.length:Nat)) I (congrArg (fun n:Nat=>Value.int .i64 (n:Int)) (A3 s)) (wP I (wP I (wV 48 (dd.length:Nat) I (by show w64 ((s.length:Int)-f)=_;rw[Ak (by omega) (by omega)];omega) (wP I (wU 49 false I (dF (by omega)) (Aa (zE (zS I (zI ?_)))))))))))))))))))))))
  exact zE (zA (zB (wP I (Aa (zE (zO (wR1 I I I)))))))
theorem HK (a b:Int) (ha:(decDigits a.natAbs).length<=300) (hb:(decDigits b.natAbs).length<=300):AX Tryz.prog 109 [str (itoa a),str (itoa b)] (.int .i64 0):=by
 intro W
 refine Ab Tryz.func109 I I I (zA (zB (wP I (Aa (zE (zA (zA (zB (wP I (wC I I (fun W _=>Hy a ha W) (wP I (Aa (zE (zA (zB (wP I (wP I (Aa (zE (zS I (zI (zE (zA ?_)))))))))))))))))))))))
 exact zB (wP I (wC I I (fun W _=>Hy b hb W) (wP I (Aa (zE (zO (wR1 I I I)))))))
def smI (z:Int):Bool:=decide ((itoa z).length<=17)
theorem QS {z:Int} (h:smI z=true):z.natAbs<100000000000000000:=by
 have h:(itoa z).length<=17:=of_decide_eq_true h
 rw[CY,List.length_append] at h
 exact Nat.lt_of_lt_of_le (EP _) (show _<=10^17 from Nat.pow_le_pow_right (by decide) (by omega))
theorem Ke (z:Int) (hl:(itoa z).length<4611686018427387904):AX Tryz.prog 181 [str (itoa z)] (.tuple #[.int .i64 (if smI z=true then z else 0), .bool (smI z)]):=by
 intro W
 obtain⟨s,hs⟩: ∃s,s=itoa z:=⟨_,rfl⟩
 obtain⟨dd,hdd⟩: ∃dd,dd=decDigits z.natAbs:=⟨_,rfl⟩
 obtain⟨f,hf⟩: ∃f,f=(IQ z).length:=⟨_,rfl⟩
 have hss:s=IQ z++dd:=by rw[hs,hdd];exact CY z
 have hf1:f<=1:=hf▸PD z
 have hsl:s.length=f+dd.length:=by rw[hss,List.length_append,hf]
 have hd0:0<dd.length:=by rw[hdd];exact List.length_pos_iff.2 (FT _)
 have hget: ∀i,f<=i->s[i]? =dd[i-f]? :=fun i hi=>by rw[hss,List.getElem?_append_right (by omega),hf]
 have hneg: ∀i,i<f->s[i]? =some 45:=fun i hi=>by
  have h0:i=0:=by omega
  subst h0
  rw[hss]
  unfold IQ at hf⊢
  split
  ·rfl
  ·rename_i h;rw[if_neg h] at hf;simp at hf;omega
 obtain⟨c0,hc0,hc45⟩:=FY z
 have hsm:smI z=decide (s.length<=17):=by rw[hs];rfl
 rw[<-hs] at hc0 hl⊢
 have hdg: ∀b∈dd,El b=true:=by rw[hdd];exact(FN _).all
 refine Ab Tryz.func181 I I I (zA (zB (wP I (wP I (Aa (zE (zA (zA (zB (wP I (wP I (Al 7 (.int .i64 (s.length:Nat)) I (congrArg (fun n:Nat=>Value.int .i64 (n:Int)) (A3 s)) (wP I ?_)))))))))))))
 by_cases h17:s.length<=17
 rotate_left
 ·exact wU 8 true I (dT (by show((s.length:Nat):Int)>17;omega)) (Aa (zE (zR I (zA (zB (wP I (wP I (Aa (zE (zO (zP (wR2 I I (by rw[hsm,dF h17];rfl)))))))))))))
 have hlt: ∀i,AL (dd.take i)<100000000000000000:=fun i=>by
  have h1:=Gc (dd.take i).length (s:=dd.take i) rfl fun b hb=>hdg b (List.mem_of_mem_take hb)
  have h2:(dd.take i).length<=17:=by rw[List.length_take];omega
  exact Nat.lt_of_lt_of_le h1 (show _<=10^17 from Nat.pow_le_pow_right (by decide) h2)
 refine wU 8 false I (dF (by show¬((s.length:Nat):Int)>17;omega)) (Aa (zE (zS I (zI (zE (zA (zB (wP I (Aa (zE (zA (zA (zB (wP I (Aa (zE (zH ?_)))))))))))))))))
 refine Ar (X:=Nat) (fun i=>[(0,str s),(4, .int .i64 (AL (dd.take (i-f)):Nat)),(5, .int .i64 (i:Nat))]) (fun _=>[]) (fun i=>i<=s.length) (fun i=>s.length-i) 0 (Nat.zero_le _) ⟨I,by show some _=some (Value.int .i64 (AL (dd.take (0-f)):Nat));rw[Nat.zero_sub,List.take_zero];rfl,I,tO⟩ [] I ?_
 intro i hi
 have hi:i<=s.length:=hi
 refine zA (zA (zB (wP I (wP I (wP I (Al 11 (.int .i64 (s.length:Nat)) I (congrArg (fun n:Nat=>Value.int .i64 (n:Int)) (A3 s)) (wP I ?_)))))))
 by_cases hlt':i<s.length
 ·refine wU 12 true I (dT (by omega)) (Aa (zE (zR I (zI (zE ?_)))))
  try refine Av ?_
  refine AA (X:=Unit) (fun _=>[(0,str s),(4, .int .i64 (AL (dd.take (i+1-f)):Nat)),(5, .int .i64 (i:Nat))]) (fun _=>[]) (fun _=>True) ?_ ?_
  ·refine zH (zA (zB (wP I (wP I ?_))))
   by_cases hif:i<f
   ·exact AZ i tH I I I I I I I I (hneg i hif) (wP I (Aa (zE (zS I (zI (zN (An () tO ⟨I,by rw[show i+1-f=0 by omega,show i-f=0 by omega];rfl,I,tO⟩ [] I)))))))
   obtain⟨b,hb⟩: ∃b,dd[i-f]? =some b:=⟨dd[i-f]'(by omega),List.getElem?_eq_getElem (by omega)⟩
   have hsb:s[i]? =some b:=by rw[hget i (by omega)];exact hb
   have hbd:=CL.1 (hdg b (List.mem_of_getElem? hb))
   have e1:AL (dd.take (i+1-f))=10*AL (dd.take (i-f))+(b.toNat-48):=by
    rw[show i+1-f=i-f+1 by omega,List.take_add_one,hb];exact D4 _ _
   have l1:=hlt (i-f)
   have l2:=hlt (i+1-f)
   refine AZ i tH I I I I I I I I hsb (wP I ?_)
   refine Al 18 (.bool true) I (congrArg Value.bool (by
    show(!((((b.toNat:Nat):Int))==(45:Int)))=true
    rw[Bool.not_eq_true',beq_eq_false_iff_ne];omega)) ?_
   refine Aa (zE (zR I (zB (wP I (wP I (wV 20 ((10*AL (dd.take (i-f)):Nat):Int) I (show w64 (10*(AL (dd.take (i-f)):Nat))=_ by rw[Ak (by omega) (by omega)];omega) (wP I (wP I (AZ i tH I I I I I I I I hsb (wP I (Al 24 (.int .u8 ((b.toNat-48:Nat):Int)) I (congrArg (Value.int .u8) (by show IntKind.u8.wrap (((b.toNat:Nat):Int)-48)=_;rw[show((b.toNat:Nat):Int)-48=((b.toNat-48:Nat):Int) by omega,RP (by omega) (by omega)])) (J4 Tryz.underlying5 Tryz.underlying3 I I I I ?_))))))))))))
   exact wV 25 ((b.toNat-48:Nat):Int) I (BE (by omega)) (wP I (wV 26 ((AL (dd.take (i+1-f)):Nat):Int) I (show w64 (((10*AL (dd.take (i-f)):Nat):Int)+((b.toNat-48:Nat):Int))=_ by rw[Ak (by omega) (by omega),e1];omega) (wP I (Aa (zN (An () tO ⟨I,I,I,tO⟩ [] I))))))
  intro _ _
  exact zB (wP I (wP I (wV 14 ((i+1:Nat):Int) I (Aw (by omega)) (wP I (Aa (Aj (i+1) hlt' (by show s.length-(i+1)<s.length-i;omega) ⟨I,I,I,tO⟩ [] I))))))
 ·refine wU 12 false I (dF (by omega)) (Aa (zE (zS I (zJ (zK (zK (zL (zE (zA (zA (zB ?_)))))))))))
  have hv:AL (dd.take (i-f))=z.natAbs:=by rw[List.take_of_length_le (by omega),hdd,BO]
  have hzl:z.natAbs<100000000000000000:=by rw[<-hv];exact hlt _
  refine wP I (AZ 0 tH I I I I I I I I hc0 (wP I (wU 29 (decide (z<0)) I ((Em c0 45).trans hc45) (Aa (A6 ?_)))))
  try refine Av ?_
  refine AA (X:=Unit) (fun _=>[(4, .int .i64 z)]) (fun _=>[]) (fun _=>True) ?_ ?_
  ·refine Ah I (fun h=> ?_) (fun h=> ?_)
   ·have h:z<0:=of_decide_eq_true h
    exact zB (wP I (wP I (wV 31 z I (by rw[hv];show w64 (0-((z.natAbs:Nat):Int))=_;rw[Ak (by omega) (by omega)];omega) (wP I (Aa (An () tO ⟨I,tO⟩ [] I))))))
   ·have h: ¬z<0:=of_decide_eq_false h
    exact zI (An () tO ⟨congrArg (fun z=>some (Value.int .i64 z)) (by rw[hv];omega),tO⟩ [] I)
  intro _ _
  exact zA (zB (wP I (wP I (wP I (Aa (zE (zO (wR2 I I (by rw[hsm,dT h17,if_pos I])))))))))
theorem M3 (a b:Int) (ha:(itoa a).length<4611686018427387904) (hb:(itoa b).length<4611686018427387904):AX Tryz.prog 110 [str (itoa a),str (itoa b)] (.tuple #[.int .i64 (if smI a=true then a else 0), .int .i64 (if smI a=true then(if smI b=true then b else 0) else 0), .bool (smI a&&smI b)]):=by
 intro W
 refine Ab Tryz.func110 I I I (zA (zB (wP I (wP I (wP I (Aa (zE (zA (zB (wP I (wC I I (fun W _=>Ke a ha W) (wP I (wP I (wP I (wP I (wP I (Aa ?_)))))))))))))))))
 cases hsa:smI a with
 |false=>
  exact zE (zA (zA (zB (wP I (wP I (Aa (zE (zR I (zA (zB (wP I (wP I (wP I (Aa (zE (zO (zP (wR3 I I I))))))))))))))))))
 |true=>
  refine zE (zA (zA (zB (wP I (wP I (Aa (zE (zS I (zI (zE (zA (zB (wP I (wC I I (fun W _=>Ke b hb W) (wP I (wP I (wP I (wP I (wP I (Aa (zE (zA (zB ?_)))))))))))))))))))))))
  exact wP I (wP I (wP I (wP I (wP I (wP I (Aa (zE (zO (wR3 I I I)))))))))
theorem OM (a:List UInt8): ∀(n:Nat) (b:List UInt8),b.length=n->AL (a++b)=AL a*10^n+AL b
 |0,b,h=>by
  rw[List.length_eq_zero_iff.1 h,List.append_nil,Nat.pow_zero,Nat.mul_one];rfl
 |n+1,b,h=>by
  obtain⟨c,d,rfl⟩: ∃c d,b=c++[d]:=⟨b.dropLast,b.getLast (fun e=>by rw[e] at h;cases h),(List.dropLast_concat_getLast _).symm⟩
  have hc:c.length=n:=by rw[List.length_append] at h;exact Nat.succ.inj h
  rw[<-List.append_assoc,D4,OM a n c hc,D4,Nat.pow_succ]
  grind
theorem RX (a b:List UInt8):AL (a++b)=AL a*10^b.length+AL b:=OM a b.length b rfl
theorem Xe {m lo e:Nat} (_h1:lo<=e) (h2:e<=(decDigits m).length):AL (((decDigits m).take e).drop lo)=m/10^((decDigits m).length-e)%10^(e-lo):=by
 obtain⟨dd,hdd⟩: ∃dd,dd=decDigits m:=⟨_,rfl⟩
 have hdg: ∀b∈dd,El b=true:=by rw[hdd];exact(FN m).all
 have hv:AL dd=m:=by rw[hdd];exact BO m
 rw[<-hdd] at h2⊢
 have a1:=RX (dd.take e) (dd.drop e)
 rw[List.take_append_drop,hv,List.length_drop] at a1
 have b1:=Gc (dd.drop e).length (s:=dd.drop e) rfl fun b hb=>hdg b (List.mem_of_mem_drop hb)
 rw[List.length_drop] at b1
 have c1:m/10^(dd.length-e)=AL (dd.take e):=by
  rw[a1,Nat.mul_comm,Nat.mul_add_div (Nat.pow_pos (by decide)),Nat.div_eq_of_lt b1,Nat.add_zero]
 rw[c1]
 have a2:=RX ((dd.take e).take lo) ((dd.take e).drop lo)
 have b2:=Gc ((dd.take e).drop lo).length (s:=(dd.take e).drop lo) rfl fun b hb=>hdg b (List.mem_of_mem_take (List.mem_of_mem_drop hb))
 rw[List.take_append_drop] at a2
 have hl:((dd.take e).drop lo).length=e-lo:=by rw[List.length_drop,List.length_take,Nat.min_eq_left h2]
 rw[hl] at a2 b2
 rw[a2,Nat.mul_comm,Nat.mul_add_mod,Nat.mod_eq_of_lt b2]
def rdL (m:Nat) (j:Nat):List Nat:=(List.range j).map fun i=>m/br^i%br
theorem RO (m j:Nat):rdL m (j+1)=rdL m j++[m/br^j%br]:=by unfold rdL;rw[List.range_succ,List.map_append];rfl
theorem LX (m j:Nat):(rdL m j).length=j:=by unfold rdL;rw[List.length_map,List.length_range]
theorem Wh (m j:Nat): ∀x∈rdL m j,x<br:=fun x hx=>by
 obtain⟨i,_,rfl⟩:=List.mem_map.1 hx
 exact Nat.mod_lt _ (by decide)
theorem Ux (m:Nat): ∀j,lv br (rdL m j)=m%br^j
 |0=>by show 0=_;rw[Nat.pow_zero,Nat.mod_one]
 |j+1=>by rw[RO,Qt (LX m j),Ux m j, <-E1]
theorem La (j:Nat):br^j=10^(6*j):=by rw[Nat.pow_mul]
theorem Xk {m k:Nat} (h:m<10^(6*k)):(lbs br m).length<=k:=(BN br2).2 (by rw[La];exact h)
theorem Z9 {m e k:Nat} (h:(decDigits m).length<=e) (he:e=6*k):(lbs br m).length<=k:=by
 subst he
 exact Xk (Nat.lt_of_lt_of_le (EP m) (Nat.pow_le_pow_right (by decide) h))
theorem FA {m:Nat} (h:(decDigits m).length<=606):(lbs br m).length<=101:=Z9 h rfl
abbrev aK (z:Int) (x:NV):Value:= .agg #[.bool (decide (z<0)),BK x (lbs br z.natAbs).length]
theorem XZ (y:Int):(if y>0 then y else 0)=max 0 y:=by omega
theorem CN (z:Int) (hl:(decDigits z.natAbs).length<=1000) (W:World):
  Ad Tryz.prog 112 #[str (itoa z)] W (fun x:NV=>aK z x) (fun x=>CR x (lbs br z.natAbs)) (fun x=>[Cd x (lbs br z.natAbs)]):=by
 obtain⟨m,hm⟩: ∃m,m=z.natAbs:=⟨_,rfl⟩
 obtain⟨c0,hc0,hc45⟩:=FY z
 have hzl:=CY z
 refine Ab (args:=[str (itoa z)]) Tryz.func112 I I I (zA (zB (wG I I fun _=>(Aa ?_))))
 rename_i b2
 refine zE (zA (zB (Ap Tryz.hZ tH I I I I I I I I ?_)))
 refine wG I I fun _=>(wS 1 I I I (Aa ?_))
 rename_i b3
 refine zE (zA (zA (zB (wP I (AZ 0 tH I I I I I I I I hc0 (wP I (wU 10 (decide (z<0)) I ((Em c0 45).trans hc45) (Aa (A6 ?_)))))))))
 try refine Av ?_
 refine AA (X:=Unit) (fun _=>[(0,str (decDigits m)),(2,Af b2),(3,Af b3)]) (fun _=>[⟨b2,164,[.bool false, .slice none 0 0],true,none⟩,⟨b3,164,[.bool (decide (z<0)), .slice none 0 0],true,none⟩]) (fun _=>True) ?_ ?_
 ·refine Ah I (fun h=> ?_) (fun h=> ?_)
  ·have h:z<0:=of_decide_eq_true h
   have e:itoa z=45::decDigits m:=by rw[hzl,hm];unfold IQ;rw[if_pos h];rfl
   refine zA (zB (wP I (wS 1 I I I (Aa (zE (zB (wP I ?_)))))))
   refine Gj 1 tH I I I I I I I I (by rw[e,List.length_cons];omega) ?_
   exact wP I (Aa (An () tO ⟨by rw[e];rfl,I,I,tO⟩ [] (by rw[dT h];rfl)))
  ·have h: ¬z<0:=of_decide_eq_false h
   have e:itoa z=decDigits m:=by rw[hzl,hm];unfold IQ;rw[if_neg h];rfl
   exact zI (An () tO ⟨by rw[e];rfl,I,I,tO⟩ [] (by rw[dF h];rfl))
 intro _ _
 rw[<-hm] at hl⊢
 obtain⟨dd,hdd⟩: ∃dd,dd=decDigits m:=⟨_,rfl⟩
 have hdg: ∀b∈dd,El b=true:=by rw[hdd];exact(FN m).all
 have hd0:0<dd.length:=by rw[hdd];exact List.length_pos_iff.2 (FT _)
 have hmid: ∀lo e,lo<=e->e<=dd.length->AL ((dd.take e).drop lo)=m/10^(dd.length-e)%10^(e-lo):=fun lo e h1 h2=>by
  rw[hdd] at h2⊢;exact Xe h1 h2
 have hmlt:m<10^dd.length:=by rw[hdd];exact EP m
 rw[<-hdd] at hl⊢
 refine zA (zA (zB (wP I (wP I (Al 15 (.int .i64 (dd.length:Nat)) I (congrArg (fun n:Nat=>Value.int .i64 (n:Int)) (A3 dd)) (wP I (Aa (zE (zH (CI ?_))))))))))
 refine Ar (X:=Nat×Vec) (fun x=>[(0,str dd),(2,Af b2),(3,Af b3),(4, .int .i64 ((dd.length:Int)-6*(x.1:Nat)))])
  (fun x=>[⟨b2,164,[.bool false, .slice none 0 0],true,none⟩,⟨b3,164,[.bool (decide (z<0)),x.2.val x.1],true,none⟩,x.2.bx 3 (nI (rdL m x.1))])
  (fun x=>x.2.OK 1 x.1 (nI (rdL m x.1))/\6*x.1<dd.length+6) (fun x=>dd.length+6-6*x.1) (0,Vec.empty) ⟨Vec.OK.empty 1,by show 6*0<_;omega⟩ ⟨rfl,rfl,rfl,congrArg (fun z=>some (Value.int .i64 z)) (by show((dd.length:Nat):Int)=(dd.length:Int)-6*((0:Nat):Int);omega),trivial⟩ [] rfl ?_
 rintro⟨j,V⟩ ⟨hV,hj⟩
 have hV:V.OK 1 j (nI (rdL m j)):=hV
 have hj:6*j<dd.length+6:=hj
 refine zA (zA (zB (wP I (wP I ?_))))
 by_cases hlt:6*j<dd.length
 ·refine wU 17 true I (dT (by show(dd.length:Int)-6*(j:Nat)>0;omega)) (Aa (zE (zR I (zI (zE (zA (zH (zA (zB ?_)))))))))
  obtain⟨e,he⟩: ∃e,e=dd.length-6*j:=⟨_,rfl⟩
  have hev:(dd.length:Int)-6*(j:Nat)=(e:Nat):=by omega
  obtain⟨lo,hlo⟩: ∃lo,lo=e-6:=⟨_,rfl⟩
  have hlim:AL ((dd.take e).drop lo)=m/br^j%br:=by
   rw[hmid lo e (by omega) (by omega),La,show dd.length-e=6*j by omega]
   by_cases h6:6<=e
   ·rw[show e-lo=6 by omega]
   ·have hl0:lo=0:=by omega
    have h1:m/10^(6*j)<10^e:=by
     apply Nat.div_lt_of_lt_mul
     rw[<-Nat.pow_add,show 6*j+e=dd.length by omega];exact hmlt
    have h2:(10:Nat)^e<=10^6:=Nat.pow_le_pow_right (by decide) (by omega)
    rw[hl0,Nat.sub_zero,Nat.mod_eq_of_lt h1,Nat.mod_eq_of_lt (show m/10^(6*j)<br by show _<10^6;omega)]
  refine wP I (Aa (zE (zA (zA (zB (wP I (wP I (wV 21 ((e:Int)-6) I (by show w64 ((dd.length:Int)-6*(j:Nat)-6)=_;rw[hev,Ak (by omega) (by omega)]) (wP I (wV 22 (lo:Nat) I (by show(if (e:Int)-6>0 then(e:Int)-6 else 0)=_;rw[XZ];omega) (wP I (Aa (zE (zH ?_))))))))))))))
  refine Ar (X:=Nat) (fun i=>[(0,str dd),(2,Af b2),(3,Af b3),(4, .int .i64 (e:Nat)),(5, .int .i64 (AL ((dd.take i).drop lo):Nat)),(6, .int .i64 (i:Nat))])
   (fun _=>[⟨b2,164,[.bool false, .slice none 0 0],true,none⟩,⟨b3,164,[.bool (decide (z<0)),V.val j],true,none⟩,V.bx 3 (nI (rdL m j))])
   (fun i=>lo<=i/\i<=e) (fun i=>e-i) lo ⟨Nat.le_refl _,by omega⟩ ⟨rfl,rfl,rfl,(by rw[hev];rfl),by show some _=some (Value.int .i64 (AL ((dd.take lo).drop lo):Nat));rw[List.drop_of_length_le (by rw[List.length_take];omega)];rfl,rfl,trivial⟩ [] rfl ?_
  rintro i ⟨hi1,hi2⟩
  have hi1:lo<=i:=hi1
  have hi2:i<=e:=hi2
  refine zA (zA (zB (wP I (wP I (wP I ?_)))))
  by_cases hie:i<e
  ·refine wU 25 true I (dT (by omega)) (Aa (zE (zR I (zI (zE (zA (zH (zB ?_))))))))
   obtain⟨b,hb⟩: ∃b,dd[i]? =some b:=⟨dd[i]'(by omega),List.getElem?_eq_getElem (by omega)⟩
   have hbd:=CL.1 (hdg b (List.mem_of_getElem? hb))
   have e1:AL ((dd.take (i+1)).drop lo)=10*AL ((dd.take i).drop lo)+(b.toNat-48):=by
    rw[List.take_add_one,hb,List.drop_append_of_le_length (by rw[List.length_take];omega)]
    exact D4 _ _
   have hbnd: ∀k,k<=e->AL ((dd.take k).drop lo)<1000000:=fun k hk=>by
    have h1:=Gc ((dd.take k).drop lo).length (s:=(dd.take k).drop lo) rfl fun b hb=>hdg b (List.mem_of_mem_take (List.mem_of_mem_drop hb))
    have h2:((dd.take k).drop lo).length<=6:=by rw[List.length_drop,List.length_take];omega
    exact Nat.lt_of_lt_of_le h1 (show _<=10^6 from Nat.pow_le_pow_right (by decide) h2)
   have l1:=hbnd i hi2
   have l2:=hbnd (i+1) hie
   refine wP I (wP I (wV 29 ((10*AL ((dd.take i).drop lo):Nat):Int) I (show w64 (10*(AL ((dd.take i).drop lo):Nat))=_ by rw[Ak (by omega) (by omega)];omega) (wP I (wP I (AZ i tH I I I I I I I I hb (wP I (Al 33 (.int .u8 ((b.toNat-48:Nat):Int)) I (congrArg (Value.int .u8) (by show IntKind.u8.wrap (((b.toNat:Nat):Int)-48)=_;rw[show((b.toNat:Nat):Int)-48=((b.toNat-48:Nat):Int) by omega,RP (by omega) (by omega)])) (J4 Tryz.underlying5 Tryz.underlying3 I I I I ?_))))))))
   exact wV 34 ((b.toNat-48:Nat):Int) I (BE (by omega)) (wP I (wV 35 ((AL ((dd.take (i+1)).drop lo):Nat):Int) I (show w64 (((10*AL ((dd.take i).drop lo):Nat):Int)+((b.toNat-48:Nat):Int))=_ by rw[Ak (by omega) (by omega),e1];omega) (wP I (Aa (zN (zE (zB (wP I (wP I (wV 27 ((i+1:Nat):Int) I (Aw (by omega)) (wP I (Aa (Aj (i+1) ⟨by show lo<=i+1;omega,hie⟩ (by show e-(i+1)<e-i;omega) ⟨I,I,I,I,I,I,tO⟩ [] I)))))))))))))
  ·have hie:i=e:=by omega
   subst hie
   refine wU 25 false I (dF (by omega)) (Aa (zE (zS I (zJ (zK (zK (zL (zE (zB ?_)))))))))
   rw[hlim]
   refine wP I (wB 1 I I I (wP I (Ao Tryz.hZ tH I I I I I I I I I I I fun bN=> ?_)))
   refine AK (V:=V) (len:=j) (xs:=nI (rdL m j)) 2 3 Tryz.vec162 (j+1) (nI (rdL m (j+1))) I I I I I I I I I I I hV I I I (by rw[RO,Lj];rfl) (by simp only[maxLen];omega) (by omega) I ?_
   intro g1 c1 j1 hV1
   exact wP I (wS 1 I I I (Aa (zN (zE (zB (wP I (wP I (wV 19 ((dd.length:Int)-6*((j+1:Nat):Int)) I (by show w64 (((i:Nat):Int)-6)=_;rw[Ak (by omega) (by omega)];omega) (wP I (Aa (Aj (j+1,⟨some g1,c1,j1⟩) ⟨hV1,by show 6*(j+1)<_;omega⟩ (by show dd.length+6-6*(j+1)<dd.length+6-6*j;omega) ⟨I,I,I,I,tO⟩ _ I)))))))))))
 ·refine wU 17 false I (dF (by show¬(dd.length:Int)-6*(j:Nat)>0;omega)) (Aa (zE (zS I (zJ (zK (zK (zL (zE (zA (zB ?_))))))))))
  obtain⟨pV,cV,jV⟩:=V
  cases pV with
  |none=>have:=hV.nil rfl;omega
  |some g=>
  have hval:lv br (rdL m j)=m:=by
   rw[Ux,La]
   exact Nat.mod_eq_of_lt (Nat.lt_of_lt_of_le hmlt (Nat.pow_le_pow_right (by decide) (by omega)))
  have hV2:(⟨some g,cV,jV⟩:Vec).OK 1 (rdL m j).length (nI (rdL m j)):=by rw[LX];exact hV
  obtain⟨j2,hj1,hj2⟩:=ED hV2 (Wh m j)
  rw[hval] at hj1 hj2
  refine wP I (wB 1 I I I (Al 43 (slv (some ⟨g,0,none⟩) (rdL m j).length cV) I (by rw[LX];rfl) (wC I I (fun W' hp=>(Dn W' (some ⟨g,0,none⟩) cV (rdL m j) (A5.of_bx hp 2 I) (Wh m j) (by have:=(hV2.cap (by simp)).1;exact this) (by rw[LX];omega)).cast (v':=slv (some ⟨g,0,none⟩) (lbs br m).length cV) (by rw[hval])) (wP I (wS 1 I I I (Aa (zE (zA (zB (wB 1 I I I (wS 0 I I I (Aa (zE (zO ?_))))))))))))))
  subst hm
  exact Ax tH I (.cell 0 I I I I I) ((g,cV,j2):NV) I hj1 fun W hp=>As.of_hp1 hp 2 (by
   show some (⟨g,3,nI (rdL z.natAbs j)++jV,true,none⟩:Bx)=some (⟨g,3,nI (lbs br z.natAbs)++j2,true,none⟩:Bx)
   rw[hj2])
def Gr (m:Nat):Nat->List UInt8
 |0=>[]
 |d+1=>UInt8.ofNat (48+m/10^d%10)::Gr m d
theorem JG (m:Nat): ∀d,(Gr m d).length=d
 |0=>rfl
 |d+1=>by show(Gr m d).length+1=_;rw[JG m d]
theorem S4 (m:Nat): ∀(d i:Nat),i<d->(Gr m d)[d-1-i]? =some (UInt8.ofNat (48+m/10^i%10))
 |0,_,h=>absurd h (Nat.not_lt_zero _)
 |d+1,i,h=>by
  by_cases e:i=d
  ·subst e
   rw[show i+1-1-i=0 by omega];rfl
  ·rw[show d+1-1-i=(d-1-i)+1 by omega]
   show(_::Gr m d)[_+1]? =_
   rw[List.getElem?_cons_succ]
   exact S4 m d i (by omega)
theorem YK {m d:Nat} (h:(decDigits m).length<=d):Gr m d=List.replicate (d-(decDigits m).length) 48++decDigits m:=by
 apply List.ext_getElem?
 intro t
 by_cases ht:t<d
 ·have h1:=S4 m d (d-1-t) (by omega)
  rw[show d-1-(d-1-t)=t by omega] at h1
  rw[h1]
  by_cases h2:t<d-(decDigits m).length
  ·rw[List.getElem?_append_left (by rw[List.length_replicate];exact h2),List.getElem?_replicate_of_lt h2]
   have h3:m/10^(d-1-t)=0:=Nat.div_eq_of_lt (Nat.lt_of_lt_of_le (EP m) (Nat.pow_le_pow_right (by decide) (by omega)))
   rw[h3];rfl
  ·rw[List.getElem?_append_right (by rw[List.length_replicate];omega),List.length_replicate]
   have h3:=Wx (n:=m) (i:=d-1-t) (by omega)
   rw[<-h3]
   congr 1;omega
 ·rw[List.getElem?_eq_none (by rw[JG];omega),List.getElem?_eq_none (by rw[List.length_append,List.length_replicate];omega)]
theorem Xi {m i k:Nat} (hk:k<6):m/br^i%br/10^k%10=m/10^(6*i+k)%10:=by
 rw[Nat.pow_add, <-La, <-Nat.div_div_eq_div_mul]
 generalize m/br^i=x
 have h:k=0\/k=1\/k=2\/k=3\/k=4\/k=5:=by omega
 show x%1000000/10^k%10=x/10^k%10
 rcases h with rfl|rfl|rfl|rfl|rfl|rfl<;>simp only[Nat.reducePow,Nat.div_one]<;>omega
theorem Hs (z:Int) (hl:(decDigits z.natAbs).length<=606) (W:World) (p:Option Addr) (cap:Nat) (hA:A5 W p (lbs br z.natAbs)):
  Ad Tryz.prog 240 #[.agg #[.bool (decide (z<0)),slv p (lbs br z.natAbs).length cap]] W (fun _:Unit=>str (itoa z)) (fun _=>True) (fun _=>[]):=by
 obtain⟨m,hm⟩: ∃m,z.natAbs=m:=⟨_,rfl⟩
 rw[hm] at hl hA⊢
 obtain⟨L,hL⟩: ∃L,(lbs br m).length=L:=⟨_,rfl⟩
 have hL101:L<=101:=by rw[<-hL];exact FA hl
 have hml:m<br^L:=by rw[<-hL];exact AH br2 m
 refine Ab (args:=[.agg #[.bool (decide (z<0)),slv p (lbs br m).length cap]]) Tryz.func240 I I I ?_
 rw[hL]
 refine zA (zB (wF I I fun _=>(wP I (Aa ?_))))
 rename_i b1
 refine zE (zA (zA (zB (wP I (wB 0 I I I (wP I (wP I ?_)))))))
 by_cases hm0:m=0
 ·have hL0:L=0:=by rw[<-hL,hm0,Ba];rfl
  have hz:z=0:=by omega
  exact wU 10 true I (by rw[beq_iff_eq,hL0];rfl) (Aa (zE (zR I (zA (zB (wP I (Aa (zE (zO (zP (wR1 I I (by rw[hz,Cx]))))))))))))
 have hL0:L≠0:=fun e=>hm0 ((EJ br2).1 (List.length_eq_zero_iff.1 (hL.trans e)))
 refine wU 10 false I (by rw[beq_eq_false_iff_ne];omega) (Aa (zE (zS I (zI (zE (zA (zB ?_)))))))
 obtain⟨K,hK⟩: ∃K,K=6*L:=⟨_,rfl⟩
 refine wP I (wB 0 I I I (wP I (wP I (wV 14 (K:Nat) I (by show w64 (6*(L:Int))=_;rw[Ak (by omega) (by omega)];omega) ?_))))
 refine Cf Tryz.vec284 K I I I I I I I (by simp only[maxLen];omega) (by omega) ?_
 intro g
 refine wP I (Aa (zE (zA (zA (zB (wP I (Aa (A6 ?_))))))))
 try refine Av ?_
 refine AA (X:=Unit) (fun _=>[(1,Af b1),(3, .slice (some ⟨g,0,none⟩) K K)]) (fun _=>[⟨b1,164,[.bool (decide (z<0)),slv p L cap],true,none⟩,⟨g,5,zrV 0++byV (Gr m K),true,none⟩]) (fun _=>True) ?_ ?_
 ·refine zH ?_
  refine Ar (X:=Nat) (fun i=>[(1,Af b1),(3, .slice (some ⟨g,0,none⟩) K K),(4, .int .i64 (i:Nat))]) (fun i=>[⟨b1,164,[.bool (decide (z<0)),slv p L cap],true,none⟩,⟨g,5,zrV (K-6*i)++byV (Gr m (6*i)),true,none⟩]) (fun i=>i<=L) (fun i=>L-i) 0 (Nat.zero_le _) ⟨I,I,I,tO⟩ [] (by show _=[_,(⟨g,5,zrV (K-0)++[],true,none⟩:Bx)]++[];simp only[List.append_nil,Nat.sub_zero];rfl) ?_
  intro i hi
  have hi:i<=L:=hi
  refine zA (zA (zB (wP I (wP I (wB 0 I I I (wP I (wP I ?_)))))))
  by_cases hiL:i<L
  ·refine wU 20 true I (dT (by omega)) (Aa (zE (zR I (zI (zE (zA (zH (zA (zB ?_)))))))))
   obtain⟨bA,oA,rfl,rA⟩:=hA.row (show i<(lbs br m).length by omega)
   have rA:=rA i (by omega)
   rw[Bl br2] at rA
   obtain⟨v,hv⟩: ∃v,v=m/br^i%br:=⟨_,rfl⟩
   rw[<-hv] at rA
   have hvb:v<1000000:=by rw[hv];exact Nat.mod_lt _ (by decide)
   refine wP I (wB 0 I I I (wP I (wJ ?_)))
   refine wL 0 I I (fun W hp=>rA.hp hp) I (wP I (Aa (zE (zA (zB (wP I (Aa (zE (zH ?_)))))))))
   refine Ar (X:=Nat) (fun k=>[(1,Af b1),(3, .slice (some ⟨g,0,none⟩) K K),(4, .int .i64 (i:Nat)),(5, .int .i64 ((v/10^k:Nat):Int)),(6, .int .i64 ((k+1:Nat):Int))]) (fun k=>[⟨b1,164,[.bool (decide (z<0)),slv (some ⟨bA,oA,none⟩) L cap],true,none⟩,⟨g,5,zrV (K-(6*i+k))++byV (Gr m (6*i+k)),true,none⟩]) (fun k=>k<=6) (fun k=>6-k) 0 (by decide) ⟨I,I,I,by show some _=some (Value.int .i64 ((v/1:Nat):Int));rw[Nat.div_one],I,tO⟩ [] I ?_
   intro k hk
   have hk:k<=6:=hk
   refine zA (zA (zB (wP I (wP I ?_))))
   by_cases hk6:k<6
   ·refine wU 29 true I (dT (by show((k+1:Nat):Int)<=6;omega)) (Aa (zE (zR I (zI (zE (zA (zH (zA (zB ?_)))))))))
    obtain⟨u,hu⟩: ∃u,u=v/10^k:=⟨_,rfl⟩
    have hub:u<1000000:=by rw[hu];exact Nat.lt_of_le_of_lt (Nat.div_le_self ..) hvb
    have hdig:u%10=m/10^(6*i+k)%10:=by rw[hu,hv];exact Xi hk6
    have hu2:v/10^(k+1)=u/10:=by rw[hu,Nat.pow_succ,Nat.div_div_eq_div_mul]
    obtain⟨d,hd⟩: ∃d,d=6*i+k:=⟨_,rfl⟩
    have hdK:d<K:=by omega
    rw[<-hu, <-hd]
    rw[<-hd] at hdig
    refine wP I (wP I (wP I (wP I (wP I (wV 36 ((6*i:Nat):Int) I (by show w64 (6*(i:Int))=_;rw[Ak (by omega) (by omega)];omega) (wP I (wV 37 ((K-6*i:Nat):Int) I (by show w64 ((K:Int)-((6*i:Nat):Int))=_;rw[Ak (by omega) (by omega)];omega) (wP I (wP I (wV 39 ((K-d-1:Nat):Int) I (by show w64 (((K-6*i:Nat):Int)-((k+1:Nat):Int))=_;rw[Ak (by omega) (by omega)];omega) (wP I (FB I I I I I (by decide) ?_))))))))))))
    refine wV 41 ((u%10:Nat):Int) I (show Int.tmod (u:Nat) ((10:Nat):Int)=_ from(Int.ofNat_tmod _ _).symm) (wP I (wV 42 ((48+u%10:Nat):Int) I (show w64 (48+((u%10:Nat):Int))=_ by rw[Ak (by omega) (by omega)];omega) (W9 Tryz.underlying3 Tryz.underlying5 I I I I ?_)))
    refine Al 43 (.int .u8 ((UInt8.ofNat (48+m/10^d%10)).toNat:Int)) I (congrArg (Value.int .u8) (by rw[X7 u,hdig])) (wJ ?_)
    refine AC 1 (zrV (K-d-1)++byV (Gr m (d+1))) tH I I I I I I I I I I (by show 0+(K-d-1)*1+1<=(zrV (K-d)++byV (Gr m d)).length;rw[List.length_append,JI];omega) (by
     show B7 (zrV (K-d)++byV (Gr m d)) _ _=_
     rw[show K-d=K-d-1+1 by omega]
     exact Uf) ?_
    refine Aa (zE (zB (wP I (Ep I I I I I (by decide) ?_))))
    exact wV 46 ((u/10:Nat):Int) I (show w64 (Int.tdiv (u:Nat) ((10:Nat):Int))=_ by rw[<-Int.ofNat_tdiv,Ak (by omega) (by omega)]) (wP I (Aa (zN (zE (zB (wP I (wP I (wV 31 ((k+1+1:Nat):Int) I (Aw (by omega)) (wP I (Aa (Aj (k+1) hk6 (by show 6-(k+1)<6-k;omega) ⟨I,I,I,by show some _=some (Value.int .i64 ((v/10^(k+1):Nat):Int));rw[hu2],I,tO⟩ [] (by show _=[_,(⟨g,5,zrV (K-(6*i+(k+1)))++byV (Gr m (6*i+(k+1))),true,none⟩:Bx)]++[];rw[show 6*i+(k+1)=d+1 by omega,show K-(d+1)=K-d-1 by omega];rfl))))))))))))
   ·have hk6:k=6:=by omega
    subst hk6
    exact wU 29 false I (dF (by decide)) (Aa (zE (zS I (zJ (zK (zK (zL (zN (zE (zB (wP I (wP I (wV 22 ((i+1:Nat):Int) I (Aw (by omega)) (wP I (Aa (Aj (i+1) hiL (by show L-(i+1)<L-i;omega) ⟨I,I,I,tO⟩ [] (by show _=[_,(⟨g,5,zrV (K-6*(i+1))++byV (Gr m (6*(i+1))),true,none⟩:Bx)]++[];rw[show 6*(i+1)=6*i+6 by omega];rfl)))))))))))))))))
  ·have hiL:i=L:=by omega
   subst hiL
   exact wU 20 false I (dF (by omega)) (Aa (zE (zS I (zJ (zK (zK (zL (An () tO ⟨I,I,tO⟩ [] (by rw[<-hK,Nat.sub_self];rfl)))))))))
 intro _ _
 obtain⟨nd,hnd⟩: ∃nd,(decDigits m).length=nd:=⟨_,rfl⟩
 have hndK:nd<=K:=by
  rw[<-hnd]
  refine Cp K m (by omega) ?_
  rw[hK, <-La];exact hml
 have hnd0:0<nd:=by rw[<-hnd];exact List.length_pos_iff.2 (FT _)
 have hlow:=YK (m:=m) (d:=K) (by rw[hnd];exact hndK)
 rw[hnd] at hlow
 have hgetB: ∀j,j<K-> ∃b,(Gr m K)[j]? =some b/\(zrV 0++byV (Gr m K))[0+j]? =some (.int .u8 (b.toNat:Int)):=fun j hj=>by
  refine⟨(Gr m K)[j]'(by rw[JG];exact hj),List.getElem?_eq_getElem _, ?_⟩
  exact UJ (k:=0) (by rw[JG];exact hj)
 try refine A6 ?_
 try refine Av ?_
 refine AA (X:=Unit) (fun _=>[(1,Af b1),(3, .slice (some ⟨g,K-nd,none⟩) nd nd)]) (fun _=>[⟨b1,164,[.bool (decide (z<0)),slv p L cap],true,none⟩,⟨g,5,zrV 0++byV (Gr m K),true,none⟩]) (fun _=>True) ?_ ?_
 ·refine zH (Ar (X:=Nat) (fun j=>[(1,Af b1),(3, .slice (some ⟨g,j,none⟩) (K-j) (K-j))]) (fun _=>[⟨b1,164,[.bool (decide (z<0)),slv p L cap],true,none⟩,⟨g,5,zrV 0++byV (Gr m K),true,none⟩]) (fun j=>j<=K-nd) (fun j=>K-nd-j) 0 (Nat.zero_le _) ⟨I,I,tO⟩ [] I ?_)
  intro j hj
  have hj:j<=K-nd:=hj
  obtain⟨b,hb,hbc⟩:=hgetB j (by omega)
  rw[Nat.zero_add] at hbc
  have hrow: ∀W1 bxs,Hp W bxs W1->nth bxs 1=some (⟨g,5,zrV 0++byV (Gr m K),true,none⟩:Bx)->Ai W1 g j [.int .u8 (b.toNat:Int)]:=fun W1 bxs hp h1=>by
   have h:=Ai.of_bx hp 1 h1 rfl
   exact⟨h.lt,fun t u hu=>by
    have ht:t=0:=by have:=(List.getElem?_eq_some_iff.1 hu).1;simpa using this
    subst ht
    have hu:u= .int .u8 (b.toNat:Int):=by simpa using hu.symm
    rw[hu]
    have:=h.get j _ hbc
    rwa [Nat.zero_add] at this⟩
  refine zA (zA (zB (wP I (wI I I (by decide) (by show(0:Int)<((K-j:Nat):Int);omega) (Al 48 (.pointer (some ⟨g,j,none⟩)) I I (wL 0 I I (fun W1 hp=>hrow W1 _ hp I) I (wP I (wU 50 (decide (b=48)) I (Em b 48) (Aa (zE (Ah I (fun h48=> ?_) (fun h48=> ?_))))))))))))
  ·have h48:b=48:=of_decide_eq_true h48
   have hjl:j<K-nd:=by
    rcases Nat.lt_or_ge j (K-nd) with h|h
    ·exact h
    ·have e:j=K-nd:=by omega
     rw[hlow,List.getElem?_append_right (by rw[List.length_replicate];omega),List.length_replicate,e,Nat.sub_self,h48] at hb
     exact absurd (WM hb) hm0
   refine zI (zE (zH (zB (wP I ?_))))
   refine Du 1 tH I I I I I I I I (by show 1<=K-j;omega) (Nat.le_refl _) ?_
   exact Al 52 (.slice (some ⟨g,j+1,none⟩) (K-(j+1)) (K-(j+1))) I (by rw[if_neg (show¬K-j=1 by omega)];show Value.slice (some ⟨g,j+1*1,none⟩) (K-j-1) (K-j-1)=_;rw[show K-(j+1)=K-j-1 by omega]) (wP I (Aa (zN (Aj (j+1) hjl (by show K-nd-(j+1)<K-nd-j;omega) ⟨I,I,tO⟩ [] I))))
  ·have h48: ¬b=48:=of_decide_eq_false h48
   have e:j=K-nd:=by
    rcases Nat.lt_or_ge j (K-nd) with h|h
    ·rw[hlow,List.getElem?_append_left (by rw[List.length_replicate];exact h),List.getElem?_replicate_of_lt h] at hb
     exact absurd (Option.some.inj hb).symm h48
    ·omega
   exact zJ (zK (zK (zL (An () tO ⟨I,by rw[e,show K-(K-nd)=nd by omega];rfl,tO⟩ [] I))))
 intro _ _
 have hbytes: ∀j (hj:j<(decDigits m).length),(zrV 0++byV (Gr m K))[K-nd+j]? =some (.int .u8 ((decDigits m)[j].toNat:Int)):=fun j hj=>by
  obtain⟨b,hb,hbc⟩:=hgetB (K-nd+j) (by omega)
  rw[Nat.zero_add] at hbc
  rw[hbc]
  rw[hlow,List.getElem?_append_right (by rw[List.length_replicate];omega),List.length_replicate,Nat.add_sub_cancel_left,List.getElem?_eq_getElem hj] at hb
  rw[Option.some.inj hb]
 refine zA (zA (zB (wP I (wB 0 I I I (Aa (zE (Ah I (fun hn=> ?_) (fun hn=> ?_))))))))
 ·have hn:z<0:=of_decide_eq_true hn
  refine zA (zB (wP I (I2 1 (decDigits m) (e:=5) (by kernel_rfl) Tryz.underlying5 (by kernel_rfl) I I I I I I hnd.symm hbytes ?_)))
  refine Cm I I I I I (a:=[45]) (b:=decDigits m) (by decide) (by omega) ?_
  exact wP I (Aa (zE (zO (zP (wR1 I I (by rw[CY,hm];unfold IQ;rw[if_pos hn]))))))
 ·have hn: ¬z<0:=of_decide_eq_false hn
  refine zI (zE (zA (zB (wP I (I2 1 (decDigits m) (e:=5) (by kernel_rfl) Tryz.underlying5 (by kernel_rfl) I I I I I I hnd.symm hbytes ?_)))))
  exact wP I (Aa (zE (zO (wR1 I I (by rw[CY,hm];unfold IQ;rw[if_neg hn];rfl)))))
theorem G5 (z:Int) (hl:(decDigits z.natAbs).length<=300) (W:World) (p:Option Addr) (cap:Nat) (hA:A5 W p (lbs br z.natAbs)):
  Ad Tryz.prog 178 #[.agg #[.bool (decide (z<0)),slv p (lbs br z.natAbs).length cap]] W (fun _:Unit=> .tuple #[str (itoa z), .int .i64 0]) (fun _=>True) (fun _=>[]):=by
 refine Ab (args:=[.agg #[.bool (decide (z<0)),slv p (lbs br z.natAbs).length cap]]) Tryz.func178 I I I (zA (zB (wF I I fun _=>(wP I (wP I (Aa (zE (zA (zB (wB 0 I I I (wC I I (fun W hp=>Hs z (by omega) W p cap (hA.hp hp)) (wP I (Aa (zE (zA (zA (zB (wP I (wC I I (fun W _=>Hy z hl W) (wP I (Aa (zE (zS I ?_)))))))))))))))))))))))
 exact zI (zE (zA (zB (wP I (wP I (wP I (Aa (zE (zO (wR2 I I I))))))))))
abbrev Vw (z:Int) (p:Option Addr) (cap:Nat):Value:= .agg #[.bool (decide (z<0)),slv p (lbs br z.natAbs).length cap]
abbrev bY (b:Nat) (z:Int) (p:Option Addr) (cap:Nat):Bx:=⟨b,164,[.bool (decide (z<0)),slv p (lbs br z.natAbs).length cap],true,none⟩
theorem MB (a b:Int) (W:World) (p q:Option Addr) (cap cap2:Nat) (hA:A5 W p (lbs br a.natAbs)) (hB:A5 W q (lbs br b.natAbs)) (hna:(lbs br a.natAbs).length<=1000) (hnb:(lbs br b.natAbs).length<=1000):
  Ad Tryz.prog 179 #[Vw a p cap,Vw b q cap2] W (fun x:NV=>aK (a*b) x) (fun x=>CR x (lbs br (a*b).natAbs)) (fun x=>[Cd x (lbs br (a*b).natAbs)]):=by
 have en:(a*b).natAbs=a.natAbs*b.natAbs:=Int.natAbs_mul a b
 have es:(a*b).natAbs≠0->(decide (a<0) !=decide (b<0))=decide (a*b<0):=fun h0=>by
  rw[en] at h0
  have ha:a≠0:=fun e=>h0 (by rw[e];simp)
  have hb:b≠0:=fun e=>h0 (by rw[e];simp)
  by_cases h1:a<0<;>by_cases h2:b<0
  ·rw[dT h1,dT h2,dF (by have:=Int.mul_pos_of_neg_of_neg h1 h2;omega)];rfl
  ·rw[dT h1,dF h2,dT (Int.mul_neg_of_neg_of_pos h1 (by omega))];rfl
  ·rw[dF h1,dT h2,dT (Int.mul_neg_of_pos_of_neg (by omega) h2)];rfl
  ·rw[dF h1,dF h2,dF (by have:=Int.mul_pos (show 0<a by omega) (show 0<b by omega);omega)];rfl
 refine Ab (args:=[Vw a p cap,Vw b q cap2]) Tryz.func179 I I I (zA (zB (wF I I fun _=>(wF I I fun _=>(wG I I fun _=>(Aa ?_))))))
 rename_i b2 b3 b4
 refine zE (Av ?_)
 refine AW (X:= { y:Nat×NV//CR y.2 (lbs br (a*b).natAbs) }) [true,true,true,true,true,true,true,true,true,false,false,false,false] (fun y=>[(4,Af b4),(5,Af y.1.1)]) (fun y=>[⟨b4,164,[.bool false, .slice none 0 0],true,none⟩,⟨y.1.1,164,[.bool (decide (a<0) !=decide (b<0)),BK y.1.2 (lbs br (a*b).natAbs).length],true,none⟩,Cd y.1.2 (lbs br (a*b).natAbs)])
  4 [bY b2 a p cap,bY b3 b q cap2,⟨b4,164,[.bool false, .slice none 0 0],true,none⟩] Tryz.mixed (by kernel_rfl) ?_ ?_
 ·refine qP I (qB 0 I I I (qP I (qB 1 I I I (Tn Tryz.underlying4 I I I I I I ?_))))
  refine qP I (qB 0 I I I (qP I (qB 1 I I I (BU (wX (RS.cons ?_ (RS.cons ?_ (RS.nil))))))))
  ·refine wD (X:=NV) rfl rfl (fun W' hp=>Kc W' p q cap cap2 a.natAbs b.natAbs (hA.hp hp) (hB.hp hp) (by omega) (by omega)) ?_;intro x hx
   refine Aa (Ag (wX (RS.cons ?_ (RS.cons ?_ (RS.nil)))))
   ·refine Ap Tryz.hZ tH I I I I I I I I ?_
    refine Aa (Ag (wX (wZ ?_)))
    refine B8 Tryz.hZ rfl rfl rfl rfl ?_;intro b5
    refine Aa (Ag (wX (wZ (wS 4 I I I (Aa (Ag ?_))))))
    rw[<-en] at hx⊢;first|refine AD rfl (by((repeat (first|refine AJ.same ?_|refine AJ.off rfl ?_));exact trivial)) ?_|refine AT rfl (by kernel_rfl) ?_
    exact A4 ⟨(b5,x),hx⟩ ⟨I,I,tO⟩ [2,4,3] (by decide) I
   ·refine B8 Tryz.hZ rfl rfl rfl rfl ?_;intro b5
    refine Aa (Ag (wX (wZ (Ap Tryz.hZ tH I I I I I I I I ?_))))
    refine Aa (Ag (wX (wZ (wS 4 I I I (Aa (Ag ?_))))))
    rw[<-en] at hx⊢;first|refine AD rfl (by((repeat (first|refine AJ.same ?_|refine AJ.off rfl ?_));exact trivial)) ?_|refine AT rfl (by kernel_rfl) ?_
    exact A4 ⟨(b5,x),hx⟩ ⟨I,I,tO⟩ [2,4,3] (by decide) I
  ·refine B8 Tryz.hZ rfl rfl rfl rfl ?_;intro b5
   refine Aa (Ag (wX (wZ ?_)))
   refine wD (X:=NV) rfl rfl (fun W' hp=>Kc W' p q cap cap2 a.natAbs b.natAbs (hA.hp hp) (hB.hp hp) (by omega) (by omega)) ?_;intro x hx
   refine Aa (Ag (wX (wZ (Ap Tryz.hZ tH I I I I I I I I ?_))))
   refine Aa (Ag (wX (wZ (wS 3 I I I (Aa (Ag ?_))))))
   rw[<-en] at hx⊢;first|refine AD rfl (by((repeat (first|refine AJ.same ?_|refine AJ.off rfl ?_));exact trivial)) ?_|refine AT rfl (by kernel_rfl) ?_
   exact A4 ⟨(b5,x),hx⟩ ⟨I,I,tO⟩ [2,3,4] (by decide) I
 rintro⟨⟨b5,x⟩,hx⟩
 have hx:CR x (lbs br (a*b).natAbs):=hx
 refine zE (zA (zA (zB (wP I (wB 1 I I I (wP I (wP I ?_)))))))
 refine Al 20 (.bool (decide ((a*b).natAbs=0))) I (congrArg Value.bool (by
  by_cases h0:(a*b).natAbs=0
  ·rw[dT h0,h0,Ba];rfl
  ·have hL:(lbs br (a*b).natAbs).length≠0:=fun e=>h0 ((EJ br2).1 (List.length_eq_zero_iff.1 e))
   rw[dF h0,beq_eq_false_iff_ne];omega)) ?_
 refine Aa (A6 ?_)
 try refine Av ?_
 refine AA (X:=Unit) (fun _=>[(4,Af b4),(5,Af b5)]) (fun _=>[⟨b4,164,[.bool false, .slice none 0 0],true,none⟩,⟨b5,164,[.bool (decide (a*b<0)),BK x (lbs br (a*b).natAbs).length],true,none⟩,Cd x (lbs br (a*b).natAbs)]) (fun _=>True) ?_ ?_
 ·refine Ah I (fun h=> ?_) (fun h=> ?_)
  ·have h:(a*b).natAbs=0:=of_decide_eq_true h
   exact zB (wP I (wS 1 I I I (Aa (An () tO ⟨I,I,tO⟩ [] (by rw[dF (show¬a*b<0 by omega)];rfl)))))
  ·have h: ¬(a*b).natAbs=0:=of_decide_eq_false h
   exact zI (An () tO ⟨I,I,tO⟩ [] (by rw[<-es h];rfl))
 intro _ _
 exact zA (zB (wB 1 I I I (wS 0 I I I (Aa (zE (zO (Ax tH I (.cell 0 I I I I I) x I hx fun W hp=>As.of_hp1 hp 2 I)))))))
theorem Hq {z:Int} (h:(decDigits z.natAbs).length<=300):(itoa z).length<=301:=by
 rw[CY,List.length_append]
 have:=PD z
 omega
theorem PU {a b:Int} (h:(smI a&&smI b)=true):AX Tryz.prog 110 [str (itoa a),str (itoa b)] (.tuple #[.int .i64 a, .int .i64 b, .bool true]):=fun W=>by
 obtain⟨h1,h2⟩:=Bool.and_eq_true_iff.1 h
 have l1:(itoa a).length<=17:=of_decide_eq_true h1
 have l2:(itoa b).length<=17:=of_decide_eq_true h2
 have:=M3 a b (by omega) (by omega) W
 rw[h1,h2] at this
 exact this
theorem Q7 {a b:Int} (h:(smI a&&smI b)=false) (ha:(decDigits a.natAbs).length<=300) (hb:(decDigits b.natAbs).length<=300): ∃x y:Int,AX Tryz.prog 110 [str (itoa a),str (itoa b)] (.tuple #[.int .i64 x, .int .i64 y, .bool false]):=
 ⟨_,_,fun W=>by
  have l1:=Hq ha
  have l2:=Hq hb
  have:=M3 a b (by omega) (by omega) W
  rw[h] at this
  exact this⟩
theorem Np (a b:Int) (ha:(decDigits a.natAbs).length<=300) (hb:(decDigits b.natAbs).length<=300) (hab:(decDigits (a*b).natAbs).length<=300) (W:World) (ht:A7 W):
  Ad Tryz.prog 108 #[str (itoa a),str (itoa b)] W (fun _:Unit=> .tuple #[str (itoa (a*b)), .int .i64 0]) (fun _=>True) (fun _=>[]):=by
 have la:=FA (m:=a.natAbs) (by omega)
 have lb:=FA (m:=b.natAbs) (by omega)
 have l1:=Hq ha
 have l2:=Hq hb
 refine Ab (args:=[str (itoa a),str (itoa b)]) Tryz.func108 I I I (zA (zB (wP I (wP I (Aa (zE (zA (zA (zB (wP I (wP I (wC I I (fun W _=>HK a b ha hb W) (wP I (Aa (zE (zA (zB (wP I (wP I (Aa (zE (zS I (zI ?_)))))))))))))))))))))))
 refine zE (zA (zA (zB ?_)))
 cases hs:smI a&&smI b with
 |true=>
  refine wP I (wP I (wC I I (fun W _=>PU hs W) (wP I (wP I (wP I (wP I (wP I (wP I (wP I (Aa (zE (zA (zB (wP I (wP I (wP I (wP I (Al 26 (.int .i64 ((itoa a).length:Nat)) I (congrArg (fun n:Nat=>Value.int .i64 (n:Int)) (A3 _)) (wP I (wP I (Al 28 (.int .i64 ((itoa b).length:Nat)) I (congrArg (fun n:Nat=>Value.int .i64 (n:Int)) (A3 _)) (wP I (wV 29 (((itoa a).length+(itoa b).length:Nat):Int) I (AQ (by omega)) ?_)))))))))))))))))))))))
  refine wP I (wU 30 (decide ((itoa a).length+(itoa b).length<=18)) I (decide_eq_decide.2 (by omega)) (wP I (Aa (zE (Ah I (fun h18=> ?_) (fun h18=> ?_))))))
  ·have h18:(itoa a).length+(itoa b).length<=18:=of_decide_eq_true h18
   have hm:(a*b).natAbs<1000000000000000000:=by
    have p1:=EP a.natAbs
    have p2:=EP b.natAbs
    have q1:(decDigits a.natAbs).length<=(itoa a).length:=by rw[CY,List.length_append];omega
    have q2:(decDigits b.natAbs).length<=(itoa b).length:=by rw[CY,List.length_append];omega
    rw[Int.natAbs_mul]
    have r1:=Nat.mul_lt_mul'' p1 p2
    rw[<-Nat.pow_add] at r1
    exact Nat.lt_of_lt_of_le r1 (show _<=10^18 from Nat.pow_le_pow_right (by decide) (by omega))
   exact zA (zB (wP I (wP I (wP I (wV 34 (a*b) I (Ak (by omega) (by omega)) (wC I I (fun W hp=>Bq (a*b) (by omega) (by omega) W (ht.hp hp)) (wP I (wP I (Aa (zE (zO (zP (wR2 I I I)))))))))))))
  ·refine zI (zE (zA (zB (wP I (wD (X:=NV) I I (fun W' _=>CN a (by omega) W') ?_)))))
   intro x hx
   refine wP I (wD (X:=NV) I I (fun W' _=>CN b (by omega) W') ?_)
   intro y hy
   refine wD (X:=NV) I I (fun W' hp=>MB a b W' (some ⟨x.1,0,none⟩) (some ⟨y.1,0,none⟩) x.2.1 y.2.1 (A5.of_bx hp 0 I) (A5.of_bx hp 1 I) (by omega) (by omega)) ?_
   intro w hw
   exact wC I I (fun W' hp=>G5 (a*b) hab W' (some ⟨w.1,0,none⟩) w.2.1 (A5.of_bx hp 2 I)) (wP I (wP I (wP I (wP I (Aa (zE (zO (wR2 I I I))))))))
 |false=>
  obtain⟨x0,y0,h2⟩:=Q7 hs ha hb
  refine wP I (wP I (wC I I (fun W _=>h2 W) (wP I (wP I (wP I (wP I (wP I (wP I (wP I (Aa (zE (zA (zB (wP I (wP I ?_)))))))))))))))
  iterate 6 refine Ae I I ?_
  refine wP I (Aa (zE (zS I (zI (zE (zA (zB (wP I (wD (X:=NV) I I (fun W' _=>CN a (by omega) W') ?_)))))))))
  intro x hx
  refine wP I (wD (X:=NV) I I (fun W' _=>CN b (by omega) W') ?_)
  intro y hy
  refine wD (X:=NV) I I (fun W' hp=>MB a b W' (some ⟨x.1,0,none⟩) (some ⟨y.1,0,none⟩) x.2.1 y.2.1 (A5.of_bx hp 0 I) (A5.of_bx hp 1 I) (by omega) (by omega)) ?_
  intro w hw
  exact wC I I (fun W' hp=>G5 (a*b) hab W' (some ⟨w.1,0,none⟩) w.2.1 (A5.of_bx hp 2 I)) (wP I (wP I (wP I (wP I (Aa (zE (zO (wR2 I I I))))))))
theorem IJ {z:Int} (h: ¬okN z):Lg z= .tuple #[str [], .int .i64 4]:=if_neg h
theorem Qc (r:Nat):lv br [r]=r:=by show r+br*0=r;rw[Nat.mul_zero,Nat.add_zero]
theorem PA (W:World) (p:Option Addr) (cap a dv:Nat) (hA:A5 W p (lbs br a)) (hna:(lbs br a).length<=1000000) (hd0:0<dv) (hd1:dv<br):
  Ad Tryz.prog 291 #[slv p (lbs br a).length cap, .int .i64 (dv:Nat)] W (fun x:NV×NV=> .tuple #[BK x.1 (lbs br (a/dv)).length,BK x.2 (lbs br (a%dv)).length]) (fun x=>CR x.1 (lbs br (a/dv))/\CR x.2 (lbs br (a%dv))) (fun x=>[Cd x.1 (lbs br (a/dv)),Cd x.2 (lbs br (a%dv))]):=by
 obtain⟨K,hK⟩: ∃K,(lbs br a).length=K:=⟨_,rfl⟩
 have hd1':dv<1000000:=hd1
 have hal:=AH br2 a
 rw[hK] at hna hal
 refine Ab (args:=[slv p (lbs br a).length cap, .int .i64 (dv:Nat)]) Tryz.func291 I I I ?_
 rw[hK]
 refine zA (zB (wP I (wP I (Aa (zE (zA (zB (wP I (wP I ?_)))))))))
 refine Cf Tryz.vec162 K I I I I I I I (by simp only[maxLen];omega) (by omega) ?_
 intro g
 have ez:BR (Value.cells (.int .i64 0)).toList K=nI (List.replicate K 0)++[]:=by rw[List.append_nil];exact FE K
 rw[ez]
 refine wP I (Aa (zE (zA (zB (wP I (Aa (zE (zA (zA (zB (wP I (wP I (wP I (wV 14 ((K:Int)-1) I (Ak (by omega) (by omega)) (wP I (Aa (zE (zH ?_))))))))))))))))))
 refine Ar (X:=Nat×List Nat×Nat×Nat) (fun x=>[(0,slv p K cap),(1, .int .i64 (dv:Nat)),(6,slv (some ⟨g,0,none⟩) K K),(7, .int .i64 (x.2.2.2:Nat)),(8, .int .i64 ((x.1:Nat)-1:Int))]) (fun x=>[⟨g,3,nI x.2.1++[],true,none⟩])
  (fun x=>x.1<=K/\x.2.1.length=K/\(∀y∈x.2.1,y<br)/\lv br x.2.1=br^x.1*x.2.2.1/\a/br^x.1=x.2.2.1*dv+x.2.2.2/\x.2.2.2<dv) (fun x=>x.1) (K,List.replicate K 0,0,0) ⟨Nat.le_refl _,List.length_replicate,I0 (by decide) K,by rw[EZ];show 0=br^K*0;rw[Nat.mul_zero],by show a/br^K=0*dv+0;rw[Nat.div_eq_of_lt hal];omega,hd0⟩ ⟨rfl,rfl,rfl,rfl,rfl,trivial⟩ [] rfl ?_
 rintro⟨k,l,qh,rs⟩ ⟨hk,hl,hlb,hlv,hq,hr⟩
 have hk:k<=K:=hk
 have hl:l.length=K:=hl
 have hlv:lv br l=br^k*qh:=hlv
 have hq:a/br^k=qh*dv+rs:=hq
 have hr:rs<dv:=hr
 refine zA (zA (zB (wP I (wP I ?_))))
 cases k with
 |zero=>
  have hq:a=qh*dv+rs:=by simpa using hq
  have hlv:lv br l=qh:=by rw[hlv];simp
  have eq1:a/dv=qh:=by rw[hq,Nat.mul_comm,Nat.mul_add_div hd0,Nat.div_eq_of_lt hr,Nat.add_zero]
  have eq2:a%dv=rs:=by rw[hq,Nat.mul_comm,Nat.mul_add_mod,Nat.mod_eq_of_lt hr]
  refine wU 16 false I (dF (by show¬(((0:Nat):Int)-1≥0);omega)) (Aa (zE (zS I (zJ (zK (zK (zL (zE (zA (zB ?_))))))))))
  have hV0:(⟨some g,K,[]⟩:Vec).OK 1 l.length (nI l):=⟨EO _,(fun h=>by cases h),fun _=>⟨by show _<=K;omega,by show K<=maxLen;simp only[maxLen];omega,by show(nI l).length+0=K*1;rw[BB];omega⟩⟩
  obtain⟨j1,hV1,he1⟩:=ED hV0 hlb
  have hrb: ∀x∈[rs],x<br:=fun x hx=>by obtain rfl:=List.mem_singleton.1 hx;show x<1000000;omega
  refine wP I (Al 35 (slv (some ⟨g,0,none⟩) l.length K) I (by rw[hl]) (wC I I (fun W hp=>Dn W _ K _ (A5.of_bx hp 0 I) hlb (by omega) (by omega)) (wP I (Ao Tryz.hZ tH I I I I I I I I I I I fun bN=> ?_))))
  have hV2:(⟨some bN,1,[]⟩:Vec).OK 1 [rs].length (nI [rs]):=⟨rfl,(fun h=>by cases h),fun _=>⟨Nat.le_refl _,(by show 1<=maxLen;decide),rfl⟩⟩
  obtain⟨j2,hV3,he2⟩:=ED hV2 hrb
  refine wC I I (fun W hp=>Dn W (some ⟨bN,0,none⟩) 1 [rs] (A5.of_bx (junk:=[]) hp 1 I) hrb (by show 1<=1;omega) (by show 1<_;decide)) (wP I (wP I (Aa (zE (zO ?_)))))
  rw[hlv, <-eq1] at hV1 he1
  rw[Qc, <-eq2] at hV3 he2
  exact A0 tH I (.tmp I) (.tmp I) (((g,K,j1):NV),((bN,1,j2):NV)) (by rw[hlv, <-eq1,Qc, <-eq2]) ⟨hV1,hV3⟩ fun W hp=>As.of_hp (hp.pick (l:=[Cd (g,K,j1) (lbs br (a/dv)),Cd (bN,1,j2) (lbs br (a%dv))]) [0,1] (by decide) (by
   show some [(⟨g,3,nI l++[],true,none⟩:Bx),⟨bN,3,nI [rs]++[],true,none⟩]=some [⟨g,3,nI (lbs br (a/dv))++j1,true,none⟩,⟨bN,3,nI (lbs br (a%dv))++j2,true,none⟩]
   rw[he1, <-eq2,he2]))
 |succ k=>
  have hq:a/br^(k+1)=qh*dv+rs:=hq
  have hi:k<l.length:=by rw[hl];omega
  obtain⟨b1,o1,rfl,r1⟩:=hA.row (show k<(lbs br a).length by omega)
  have r1:=r1 k (by omega)
  obtain⟨v,hv⟩: ∃v,lim (lbs br a) k=v:=⟨_,rfl⟩
  rw[hv] at r1
  have hvb:v<br:=by rw[<-hv];exact Bn br2 (Br br2 a) _
  have hvb':v<1000000:=hvb
  have hve:v=a/br^k%br:=by rw[<-hv];exact Bl br2 a _
  obtain⟨n,hn⟩: ∃n,n=v+rs*br:=⟨_,rfl⟩
  have hn':n=v+rs*1000000:=hn
  have hn63:n<1000000000000:=by omega
  have hnq:=Re (B:=br) (d:=dv) hvb hr hn
  have hnq':n/dv<1000000:=hnq
  have hs:=Jn (B:=br) (d:=dv) (q:=qh) (r:=rs) (i:=k) hq (n:=n) (by rw[hn,hve])
  have hzero:l[k]? =some 0:=by
   rw[DA hi,Cy br2 _ hlb,hlv,Nat.pow_succ,Nat.mul_assoc,Nat.mul_div_cancel_left _ (Nat.pow_pos (by decide)),Nat.mul_mod_right]
  have hset:=HT (B:=br) (n/dv) hzero
  rw[Nat.mul_zero,Nat.add_zero,hlv,Nat.pow_succ,Nat.mul_assoc, <-Nat.mul_add] at hset
  have hrm:n%dv<dv:=Nat.mod_lt _ hd0
  refine wU 16 true I (dT (by show(((k+1:Nat):Int)-1≥0);omega)) (Aa (zE (zR I (zI (zE (zA (zH (zA (zB (wP I (wP I (wP I (wP I (wV 22 (k:Nat) I (by show((k+1:Nat):Int)-1=_;omega) (wJ ?_)))))))))))))))
  refine wL 0 I I (fun W hp=>r1.hp hp) I (wP I (wV 25 (n:Nat) I (by show w64 (w64 ((rs:Int)*((1000000:Nat):Int))+v)=_;rw[Cs (by omega),AQ (by omega),hn',Nat.add_comm]) (wP I (Aa (zE (zA (zB (wP I (wP I (wV 27 (k:Nat) I (by show((k+1:Nat):Int)-1=_;omega) (wP I (wP I (Ep I I I I I (by omega) ?_)))))))))))))
  refine wV 30 ((n/dv:Nat):Int) I (BE (by omega)) (wJ ?_)
  refine AC 0 (nI (l.set k (n/dv))++[]) tH I I I I I I I I I I (by show 0+k*1+1<=(nI l++[]).length;rw[List.append_nil,BB];omega) (C0 hi (n/dv)) ?_
  refine Aa (zE (zB (wP I (wP I (FB I I I I I (by omega) ?_)))))
  exact Al 34 (.int .i64 ((n%dv:Nat):Int)) I I (wP I (Aa (zN (zE (zB (wP I (wV 17 (k:Nat) I (by show((k+1:Nat):Int)-1=_;omega) (wP I (wV 18 ((k:Nat)-1:Int) I (Ak (by omega) (by omega)) (wP I (Aa (Aj (k,l.set k (n/dv),qh*br+n/dv,n%dv) ⟨by show k<=K;omega,by rw[List.length_set];exact hl,CW hlb hnq,by show lv br (l.set k (n/dv))=br^k*(qh*br+n/dv);rw[hset,Nat.mul_comm qh],by show a/br^k=_;exact hs,hrm⟩ (by show k<k+1;omega) ⟨I,I,I,I,I,tO⟩ [] I))))))))))))
theorem cK {W m:Nat} (h:W<br^(m+3)):((W/br^(m+2)%br)*br+W/br^(m+1)%br)*br+W/br^m%br=W/br^m:=by
 have h1:W/br^(m+1)=W/br^m/br:=by rw[Nat.pow_succ,Nat.div_div_eq_div_mul]
 have h2:W/br^(m+2)=W/br^m/br/br:=by rw[Nat.pow_succ, <-Nat.div_div_eq_div_mul,h1]
 have h3:W/br^m<br*br*br:=by
  apply Nat.div_lt_of_lt_mul
  have:br^(m+3)=br^m*(br*br*br):=by rw[Nat.pow_succ,Nat.pow_succ,Nat.pow_succ];simp[Nat.mul_assoc]
  rw[<-this];exact h
 rw[h2,h1]
 generalize W/br^m=x at h3⊢
 have h3:x<1000000*1000000*1000000:=h3
 show((x/1000000/1000000%1000000)*1000000+x/1000000%1000000)*1000000+x%1000000=x
 omega
theorem c8 {b m:Nat} (h:b<br^(m+2)):(b/br^(m+1)%br)*br+b/br^m%br=b/br^m:=by
 have h1:b/br^(m+1)=b/br^m/br:=by rw[Nat.pow_succ,Nat.div_div_eq_div_mul]
 have h3:b/br^m<br*br:=by
  apply Nat.div_lt_of_lt_mul
  have:br^(m+2)=br^m*(br*br):=by rw[Nat.pow_succ,Nat.pow_succ];simp[Nat.mul_assoc]
  rw[<-this];exact h
 rw[h1]
 generalize b/br^m=x at h3⊢
 have h3:x<1000000*1000000:=h3
 show(x/1000000%1000000)*1000000+x%1000000=x
 omega
theorem ZH {W b m g:Nat} (hg:g=W/m/(b/m+1)) (hm:0<m):g*b<=W:=by
 have h1:b<(b/m+1)*m:=Nat.lt_mul_of_div_lt (Nat.lt_succ_self _) hm
 have h2:g*(b/m+1)<=W/m:=by rw[hg];exact Nat.div_mul_le_self ..
 have h3:g*(b/m+1)*m<=W/m*m:=Nat.mul_le_mul_right _ h2
 have h4:W/m*m<=W:=Nat.div_mul_le_self ..
 have h5:g*b<=g*((b/m+1)*m):=Nat.mul_le_mul_left _ (by omega)
 rw[<-Nat.mul_assoc] at h5
 omega
theorem WV {x r:Nat} (_hx:x<br):lv br (x::lbs br r)=r*br+x:=by
 show x+br*lv br (lbs br r)=_
 rw[KL br2,Nat.mul_comm,Nat.add_comm]
theorem Pn {w b g r:Nat} (h:w=g*b+r) (hr:r<b):w/b=g/\w%b=r:=by
 have hb:0<b:=by omega
 subst h
 rw[Nat.mul_comm]
 exact⟨by rw[Nat.mul_add_div hb,Nat.div_eq_of_lt hr,Nat.add_zero],by rw[Nat.mul_add_mod,Nat.mod_eq_of_lt hr]⟩
theorem Jd (W:World) (p q:Option Addr) (cap cap2:Nat) (a b:Nat) (hb0:0<b) (hA:A5 W p (lbs br a)) (hB:A5 W q (lbs br b)) (hna:(lbs br a).length<=1000) (hnb:(lbs br b).length<=1000):
  Ad Tryz.prog 239 #[slv p (lbs br a).length cap,slv q (lbs br b).length cap2] W (fun x:NV×NV=> .tuple #[BK x.1 (lbs br (a/b)).length,BK x.2 (lbs br (a%b)).length]) (fun x=>CR x.1 (lbs br (a/b))/\CR x.2 (lbs br (a%b))) (fun x=>[Cd x.1 (lbs br (a/b)),Cd x.2 (lbs br (a%b))]):=by
 have hla:=Br br2 a
 have hlb:=Br br2 b
 have hal:=AH br2 a
 have hbl:=AH br2 b
 obtain⟨K,hK⟩: ∃n,(lbs br a).length=n:=⟨_,rfl⟩
 obtain⟨n,hn⟩: ∃n,(lbs br b).length=n:=⟨_,rfl⟩
 have hn0:n≠0:=fun e=>by
  have:=(EJ br2).1 (List.length_eq_zero_iff.1 (hn.trans e));omega
 rw[hK] at hna hal
 rw[hn] at hnb hbl
 refine Ab (args:=[slv p (lbs br a).length cap,slv q (lbs br b).length cap2]) Tryz.func239 I I I ?_
 rw[hK,hn]
 refine zA (zB (wP I (wP I (Aa (zE (zA (zA (zB (wP I (wP I (wP I ?_)))))))))))
 by_cases hn1:n=1
 ·subst hn1
  obtain⟨b1,o1,rfl,r1⟩:=hB.row (show 0<(lbs br b).length by omega)
  have r1:=r1 0 (by omega)
  obtain⟨v,hv⟩: ∃v,lim (lbs br b) 0=v:=⟨_,rfl⟩
  rw[hv] at r1
  have hvb:v<br:=by rw[<-hv];exact Bn br2 hlb _
  rw[Bl br2,Nat.pow_zero,Nat.div_one,Nat.mod_eq_of_lt (by rw[Nat.pow_one] at hbl;exact hbl)] at hv
  subst hv
  refine wU 14 true I (by simp) (Aa (zE (zR I (zA (zB (wP I (wP I (wJ ?_))))))))
  refine wL 0 I I (fun W hp=>r1.hp hp) I ?_
  refine wD (X:=NV×NV) I I (fun W' hp=>by have h:=PA W' p cap a b (hA.hp hp) (by omega) hb0 hvb;rw[hK] at h;exact h) ?_
  rintro⟨x,y⟩ ⟨h1,h2⟩
  exact wP I (wP I (wP I (wP I (Aa (zE (zO (zP (A0 tH I (.tmp I) (.tmp I) (x,y) I ⟨h1,h2⟩ fun W hp=>As.of_hp hp))))))))
 obtain⟨m,rfl⟩: ∃m,n=m+2:=⟨n-2,by omega⟩
 refine wU 14 false I (by rw[beq_eq_false_iff_ne];omega) (Aa ?_)
 obtain⟨bq,oq,rfl,rq⟩:=hB.row (show 0<(lbs br b).length by omega)
 obtain⟨u1,hu1⟩: ∃v,lim (lbs br b) (m+1)=v:=⟨_,rfl⟩
 obtain⟨u0,hu0⟩: ∃v,lim (lbs br b) m=v:=⟨_,rfl⟩
 have rq1:=rq (m+1) (by omega)
 have rq0:=rq m (by omega)
 rw[hu1] at rq1
 rw[hu0] at rq0
 have hu1b:u1<1000000:=by rw[<-hu1];exact Bn br2 hlb _
 have hu0b:u0<1000000:=by rw[<-hu0];exact Bn br2 hlb _
 rw[Bl br2] at hu1 hu0
 have ht2:=c8 hbl
 rw[hu1,hu0] at ht2
 have ht2:u1*1000000+u0=b/br^m:=ht2
 obtain⟨tp,htp⟩: ∃tp,tp=b/br^m:=⟨_,rfl⟩
 have hpm:0<br^m:=Nat.pow_pos (by decide)
 refine zE (zS I (zI (zE (zA (zB (wP I (wP I (wP I (Aa (zE (zA (zU (qP I (qP I (qP I (qV 26 ((m+1:Nat):Int) I (by show w64 (((m+2:Nat):Int)-1)=_;rw[Ak (by omega) (by omega)];omega) (qJ ?_)))))))))))))))))
 refine qL 0 I I (fun W hp=>rq1.hp hp) I (qP I (qP I (qP I (qP I (qV 32 (m:Nat) I (by show w64 (((m+2:Nat):Int)-2)=_;rw[Ak (by omega) (by omega)];omega) (qJ ?_))))))
 refine qL 0 I I (fun W hp=>rq0.hp hp) I (qP I (qV 35 (tp:Nat) I (by show w64 (w64 ((u1:Int)*((1000000:Nat):Int))+u0)=_;rw[Cs (by omega),AQ (by omega),htp,ht2]) (qP I (A8 (Aa (zE (zA (zB (wP I (wP I ?_))))))))))
 refine Cf Tryz.vec162 K I I I I I I I (by simp only[maxLen];omega) (by omega) ?_
 intro g
 have ez:BR (Value.cells (.int .i64 0)).toList K=nI (List.replicate K 0)++[]:=by rw[List.append_nil];exact FE K
 rw[ez]
 refine wP I (Aa (zE (zA (zB (EI tH I I I I I ?_)))))
 intro gr
 refine wP I (Aa (zE (zA (zA (zB (wP I (wP I (wP I (wV 42 ((K:Int)-1) I (Ak (by omega) (by omega)) (wP I (Aa (zE (zH ?_)))))))))))))
 have e0:lbs br 0=[]:=Ba
 refine Ar (X:=Nat×List Nat×Nat×Nat×NV) (fun x=>[(0,slv p K cap),(1,slv (some ⟨bq,oq,none⟩) (m+2) cap2),(6, .int .i64 ((m+2:Nat):Int)),(7, .int .i64 (tp:Nat)),(8,slv (some ⟨g,0,none⟩) K K),(9,BK x.2.2.2.2 (lbs br x.2.2.2.1).length),(10, .int .i64 ((x.1:Nat)-1:Int))]) (fun x=>[⟨g,3,nI x.2.1++[],true,none⟩,Cd x.2.2.2.2 (lbs br x.2.2.2.1)])
  (fun x=>(x.1<=K/\x.2.1.length=K/\(∀y∈x.2.1,y<br)/\lv br x.2.1=br^x.1*x.2.2.1/\a/br^x.1=x.2.2.1*b+x.2.2.2.1/\x.2.2.2.1<b)/\CR x.2.2.2.2 (lbs br x.2.2.2.1)) (fun x=>x.1) (K,List.replicate K 0,0,0,(gr,0,[])) ⟨⟨Nat.le_refl _,List.length_replicate,I0 (by decide) K,by rw[EZ];show 0=br^K*0;rw[Nat.mul_zero],by show a/br^K=0*b+0;rw[Nat.div_eq_of_lt hal];omega,hb0⟩,by show CR _ (lbs br 0);rw[e0];exact⟨rfl,(fun h=>by cases h),fun _=>⟨Nat.le_refl _,Nat.zero_le _,rfl⟩⟩⟩ ⟨rfl,rfl,rfl,rfl,rfl,by show _=some (slv _ (lbs br 0).length 0);rw[e0];rfl,rfl,trivial⟩ [] (by show _=[_,Cd _ (lbs br 0)]++[];rw[e0];rfl) ?_
 rintro⟨k,l,qh,rs,x⟩ ⟨⟨hk,hl,hllt,hlv,hq,hr⟩,hx⟩
 have hk:k<=K:=hk
 have hl:l.length=K:=hl
 have hlv:lv br l=br^k*qh:=hlv
 have hq:a/br^k=qh*b+rs:=hq
 have hr:rs<b:=hr
 have hx:CR x (lbs br rs):=hx
 refine zA (zA (zB (wP I (wP I ?_))))
 cases k with
 |zero=>
  have hq:a=qh*b+rs:=by simpa using hq
  have hlv:lv br l=qh:=by rw[hlv];simp
  obtain⟨eq1,eq2⟩:=Pn hq hr
  refine wU 44 false I (dF (by show¬(((0:Nat):Int)-1≥0);omega)) (Aa (zE (zS I (zJ (zK (zK (zL (zE (zA (zB ?_))))))))))
  have hV0:(⟨some g,K,[]⟩:Vec).OK 1 l.length (nI l):=⟨EO _,(fun h=>by cases h),fun _=>⟨by show _<=K;omega,by show K<=maxLen;simp only[maxLen];omega,by show(nI l).length+0=K*1;rw[BB];omega⟩⟩
  obtain⟨j1,hV1,he1⟩:=ED hV0 hllt
  refine wP I (Al 92 (slv (some ⟨g,0,none⟩) l.length K) I (by rw[hl]) (wC I I (fun W hp=>Dn W _ K _ (A5.of_bx hp 0 I) hllt (by omega) (by omega)) (wP I (wP I (wP I (Aa (zE (zO ?_))))))))
  rw[hlv, <-eq1] at hV1 he1
  rw[<-eq2] at hx
  exact A0 tH I (.tmp I) (.tmp I) (((g,K,j1):NV),x) (by rw[hlv, <-eq1, <-eq2]) ⟨hV1,hx⟩ fun W hp=>As.of_hp (hp.pick (l:=[Cd (g,K,j1) (lbs br (a/b)),Cd x (lbs br (a%b))]) [0,1] (by decide) (by
   show some [(⟨g,3,nI l++[],true,none⟩:Bx),Cd x (lbs br rs)]=some [⟨g,3,nI (lbs br (a/b))++j1,true,none⟩,Cd x (lbs br (a%b))]
   rw[he1,eq2]))
 |succ k=>
  have hq:a/br^(k+1)=qh*b+rs:=hq
  have hi:k<l.length:=by rw[hl];omega
  obtain⟨b1,o1,rfl,r1⟩:=hA.row (show k<(lbs br a).length by omega)
  have r1:=r1 k (by omega)
  obtain⟨v,hv⟩: ∃v,lim (lbs br a) k=v:=⟨_,rfl⟩
  rw[hv] at r1
  have hvb:v<br:=by rw[<-hv];exact Bn br2 hla _
  have hvb':v<1000000:=hvb
  have hve:v=a/br^k%br:=by rw[<-hv];exact Bl br2 a _
  obtain⟨w,hw⟩: ∃w,w=v+rs*br:=⟨_,rfl⟩
  have hlw:lv br (v::lbs br rs)=w:=by rw[WV hvb,hw,Nat.add_comm]
  have hrsb:=hr
  have hwlt:w<br*b:=by
   have:(rs+1)*br<=b*br:=Nat.mul_le_mul_right _ hr
   rw[Nat.add_mul,Nat.one_mul] at this
   rw[hw,Nat.mul_comm br b];omega
  have hwlt3:w<br^(m+3):=by
   have h1:br*b<br*br^(m+2):=Nat.mul_lt_mul_of_pos_left hbl (by decide)
   rw[show br^(m+3)=br*br^(m+2) by rw[Nat.pow_succ,Nat.mul_comm]];omega
  have hwb:w/b<br:=Nat.div_lt_of_lt_mul (by rw[Nat.mul_comm];exact hwlt)
  have hs:=Jn (B:=br) (d:=b) (q:=qh) (r:=rs) (i:=k) hq (n:=w) (by rw[hw,hve])
  have hzero:l[k]? =some 0:=by
   rw[DA hi,Cy br2 _ hllt,hlv,Nat.pow_succ,Nat.mul_assoc,Nat.mul_div_cancel_left _ (Nat.pow_pos (by decide)),Nat.mul_mod_right]
  have hset:=HT (B:=br) (w/b) hzero
  rw[Nat.mul_zero,Nat.add_zero,hlv,Nat.pow_succ,Nat.mul_assoc, <-Nat.mul_add] at hset
  have hrl:(lbs br rs).length<=m+2:=(BN br2).2 (by omega)
  have hwl:(lbs br w).length<=m+3:=(BN br2).2 hwlt3
  refine wU 44 true I (dT (by show(((k+1:Nat):Int)-1≥0);omega)) (Aa (zE (zR I (zI (zE (zA (zH (zA (zB (wP I (wP I (wV 48 (k:Nat) I (by show((k+1:Nat):Int)-1=_;omega) (wJ ?_)))))))))))))
  refine wL 0 I I (fun W hp=>r1.hp hp) I (Ao Tryz.hZ tH I I I I I I I I I I I fun bN=> ?_)
  refine wP I ?_
  refine F2 (len:=1) (V:=⟨some bN,1,[]⟩) (xs:=nI [v]) (news:=nI (lbs br rs)) 2 Tryz.vec162 rfl rfl rfl rfl rfl rfl rfl rfl rfl ⟨rfl,(fun h=>by cases h),fun _=>⟨Nat.le_refl _,(by show 1<=maxLen;decide),rfl⟩⟩ (EO _) (fun W' hp j u hj=> ?_) (fun u hu=> ?_) (by dsimp only;simp only[maxLen];omega) (by dsimp only;omega) ?_
  ·have hrow:=Ai.of_bx hp 1 rfl rfl
   have:=hrow.get j u (by show(nI (lbs br rs)++x.2.2)[j]? =_;rw[List.getElem?_append_left (List.getElem?_eq_some_iff.1 hj).1];exact hj)
   rw[Addr.add_none]
   exact this
  ·obtain⟨z,_,rfl⟩:=List.mem_map.1 hu;rfl
  intro V' hV' hV0
  obtain⟨pv,cv,jv⟩:=V'
  cases pv with
  |none=>have:=hV'.nil rfl;omega
  |some gv=>
  have ecat:nI [v]++nI (lbs br rs)=nI (v::lbs br rs):=rfl
  rw[ecat] at hV'⊢
  have hV':(⟨some gv,cv,jv⟩:Vec).OK 1 (v::lbs br rs).length (nI (v::lbs br rs)):=by rw[List.length_cons,Nat.add_comm];exact hV'
  have hclt: ∀y∈v::lbs br rs,y<br:=fun y hy=>by
   rcases List.mem_cons.1 hy with rfl|hy
   ·exact hvb
   ·exact Br br2 rs y hy
  obtain⟨jw,hVw,hew⟩:=ED hV' hclt
  rw[hlw] at hVw hew
  refine Al 53 (slv (some ⟨gv,0,none⟩) (v::lbs br rs).length cv) I (by show slv _ (1+_) _=_;rw[List.length_cons,Nat.add_comm]) (wC I I (fun W hp=>(Dn W (some ⟨gv,0,none⟩) cv _ (A5.of_bx hp 2 I) hclt (by have:=(hV'.cap (by simp)).1;exact this) (by rw[List.length_cons];omega)).cast (v':=slv (some ⟨gv,0,none⟩) (lbs br w).length cv) (by rw[hlw])) (wP I (Aa ?_)))
  obtain⟨l2,hl2⟩: ∃v,lim (lbs br w) (m+2)=v:=⟨_,rfl⟩
  obtain⟨l1,hl1⟩: ∃v,lim (lbs br w) (m+1)=v:=⟨_,rfl⟩
  obtain⟨l0,hl0⟩: ∃v,lim (lbs br w) m=v:=⟨_,rfl⟩
  have hl2b:l2<1000000:=by rw[<-hl2];exact Bn br2 (Br br2 w) _
  have hl1b:l1<1000000:=by rw[<-hl1];exact Bn br2 (Br br2 w) _
  have hl0b:l0<1000000:=by rw[<-hl0];exact Bn br2 (Br br2 w) _
  have ht3:=cK hwlt3
  rw[<-Bl br2, <-Bl br2, <-Bl br2,hl2,hl1,hl0] at ht3
  have ht3:(l2*1000000+l1)*1000000+l0=w/br^m:=ht3
  obtain⟨e,he⟩: ∃e,e=w/br^m/(b/br^m+1):=⟨_,rfl⟩
  have hest:=ZH he hpm
  have heb:e<=w/b:=(Nat.le_div_iff_mul_le hb0).2 hest
  have hebr:e<1000000:=Nat.lt_of_le_of_lt heb hwb
  have htpb:tp<1000000000000:=by rw[htp, <-ht2];omega
  have hlW: ∀ {W1:World} {bxs:List Bx},Hp W bxs W1->nth bxs 2=some (⟨gv,3,nI (v::lbs br rs)++jv,true,none⟩:Bx)->A5 W1 (some ⟨gv,0,none⟩) (lbs br w):=fun hp h2=>by rw[hew] at h2;exact A5.of_bx hp 2 h2
  refine zE (zA (zB (wP I (wP I (wC I I (fun W' hp=>Fa W' (some ⟨gv,0,none⟩) cv _ (lbs br w) (m+2) l2 (hlW hp I) I (by omega) hl2) (wP I (wP I (wP I (wP I (wV 61 ((m+1:Nat):Int) I (by show w64 (((m+2:Nat):Int)-1)=_;rw[Ak (by omega) (by omega)];omega) (wC I I (fun W' hp=>Fa W' (some ⟨gv,0,none⟩) cv _ (lbs br w) (m+1) l1 (hlW hp I) I (by omega) hl1) (wP I (wP I (wP I (wP I (wP I (wV 67 (m:Nat) I (by show w64 (((m+2:Nat):Int)-2)=_;rw[Ak (by omega) (by omega)];omega) (wC I I (fun W' hp=>Fa W' (some ⟨gv,0,none⟩) cv _ (lbs br w) m l0 (hlW hp I) I (by omega) hl0) (wP I (wV 69 ((w/br^m:Nat):Int) I (by show w64 (w64 (w64 (w64 ((l2:Int)*((1000000:Nat):Int))+l1)*((1000000:Nat):Int))+l0)=_;rw[Cs (by omega),AQ (by omega),Cs (by omega),AQ (by omega),ht3]) (wP I (wP I (wV 71 ((tp+1:Nat):Int) I (Aw (by omega)) (Ep I I I I I (by omega) ?_))))))))))))))))))))))))
  refine wV 72 (e:Nat) I (by rw[he, <-htp];exact BE (by rw[<-htp] at he;rw[<-he];omega)) (wP I (Aa (zE (zA (zB (wP I (wP I (wP I (Ao Tryz.hZ tH I I I I I I I I I I I fun bE=> ?_)))))))))
  refine wD (X:=NV) I I (fun W' hp=>by
   have h:=Jf W' (some ⟨bq,oq,none⟩) (some ⟨bE,0,none⟩) cap2 1 b [e] (fun y hy=>by obtain rfl:=List.mem_singleton.1 hy;exact hebr) (hB.hp hp) (A5.of_bx (junk:=[]) hp 3 rfl) (by omega) (by show 1<=1000000;decide)
   rw[hn,Qc] at h
   exact h) ?_
  intro xt hxt
  refine wD (X:=NV) I I (fun W' hp=>Kn W' (some ⟨gv,0,none⟩) (some ⟨xt.1,0,none⟩) cv xt.2.1 w (b*e) (by rw[Nat.mul_comm];exact hest) (hlW hp I) (A5.of_bx hp 4 I) (by omega)) ?_
  intro x1 hx1
  refine wP I (Aa (A6 ?_))
  try refine Av ?_
  refine AA (X:=NV) (fun x2=>[(0,slv (some ⟨b1,o1,none⟩) K cap),(1,slv (some ⟨bq,oq,none⟩) (m+2) cap2),(6, .int .i64 ((m+2:Nat):Int)),(7, .int .i64 (tp:Nat)),(8,slv (some ⟨g,0,none⟩) K K),(9,BK x2 (lbs br (w%b)).length),(10, .int .i64 (k:Nat)),(11, .int .i64 ((w/b:Nat):Int))]) (fun x2=>[⟨g,3,nI l++[],true,none⟩,Cd x2 (lbs br (w%b))]) (fun x2=>CR x2 (lbs br (w%b))) ?_ ?_
  ·refine zH ?_
   refine Db (X:=Nat×Nat×NV) (fun y=>[(0,slv (some ⟨b1,o1,none⟩) K cap),(1,slv (some ⟨bq,oq,none⟩) (m+2) cap2),(6, .int .i64 ((m+2:Nat):Int)),(7, .int .i64 (tp:Nat)),(8,slv (some ⟨g,0,none⟩) K K),(9,BK y.2.2 (lbs br y.2.1).length),(10, .int .i64 (k:Nat)),(11, .int .i64 (y.1:Nat))]) (fun y=>Hp W [⟨g,3,nI l++[],true,none⟩,Cd y.2.2 (lbs br y.2.1)]) (fun y=>w=y.1*b+y.2.1/\CR y.2.2 (lbs br y.2.1)) (fun y=>y.2.1) (e,w-b*e,x1) ⟨by show w=e*b+(w-b*e);rw[Nat.mul_comm b e];omega,hx1⟩ ⟨I,I,I,I,I,I,congrArg (fun z=>some (Value.int .i64 z)) (by show((k+1:Nat):Int)-1=(k:Nat);omega),I,tO⟩ (fun W hp=>hp.pick [0,5] (by decide) I) ?_
   rintro⟨e1,w1,x2⟩ ⟨hw1,hx2⟩
   have hw1:w=e1*b+w1:=hw1
   have hx2:CR x2 (lbs br w1):=hx2
   have hw1l:(lbs br w1).length<=m+3:=(BN br2).2 (by omega)
   refine zA (zA (zB (wP I (wP I ?_))))
   refine wC I I (fun W' hp=>by
    have h:=R8 W' (some ⟨x2.1,0,none⟩) (some ⟨bq,oq,none⟩) x2.2.1 cap2 w1 b (A5.of_bx hp 1 rfl) (hB.hp hp) (by omega) (by omega)
    rw[hn] at h
    exact h) ?_
   refine wP I ?_
   by_cases hge:b<=w1
   ·have hc:0<=Ol w1 b:=by unfold Ol;rw[if_neg (by omega)];split<;>decide
    have he1:e1<w/b:=by
     have h1:(e1+1)*b<=w:=by rw[Nat.add_mul,Nat.one_mul];omega
     have:=(Nat.le_div_iff_mul_le hb0).2 h1
     omega
    have he1b:e1<1000000:=Nat.lt_trans he1 hwb
    refine wU 82 true I (dT hc) (Aa (zE (zR I (zI (zE (zH (zA (zB (wP I (wP I ?_))))))))))
    refine wD (X:=NV) I I (fun W' hp=>by
     have h:=Kn W' (some ⟨x2.1,0,none⟩) (some ⟨bq,oq,none⟩) x2.2.1 cap2 w1 b hge (A5.of_bx hp 1 rfl) (hB.hp hp) (by omega)
     rw[hn] at h
     exact h) ?_
    intro x3 hx3
    exact wP I (Aa (zE (zB (wP I (wP I (wV 87 ((e1+1:Nat):Int) I (Aw (by omega)) (wP I (Aa (zN (Da (e1+1,w1-b,x3) ⟨by show w=(e1+1)*b+(w1-b);rw[Nat.add_mul,Nat.one_mul];omega,hx3⟩ (by show w1-b<w1;omega) ⟨I,I,I,I,I,I,I,I,tO⟩ (fun W hp=>hp.pick [0,2] (by decide) I)))))))))))
   ·have hc: ¬(0:Int)<=Ol w1 b:=by unfold Ol;rw[if_pos (by omega)];decide
    obtain⟨d1,d2⟩:=Pn hw1 (show w1<b by omega)
    exact wU 82 false I (dF hc) (Aa (zE (zS I (zJ (zK (zK (zL (An x2 (by show CR x2 (lbs br (w%b));rw[d2];exact hx2) ⟨I,I,I,I,I,by rw[d2];rfl,I,by rw[d1];rfl,tO⟩ [] (by rw[d2];rfl)))))))))
  intro x2 hx2
  have hx2:CR x2 (lbs br (w%b)):=hx2
  refine zB (wP I (wP I (wP I (wJ ?_))))
  refine AC 0 (nI (l.set k (w/b))++[]) tH I I I I I I I I I I (by show 0+k*1+1<=(nI l++[]).length;rw[List.append_nil,BB];omega) (C0 hi (w/b)) ?_
  exact Aa (zN (zE (zB (wP I (wP I (wV 46 ((k:Nat)-1:Int) I (Ak (by omega) (by omega)) (wP I (Aa (Aj (k,l.set k (w/b),qh*br+w/b,w%b,x2) ⟨⟨by show k<=K;omega,by rw[List.length_set];exact hl,CW hllt hwb,by show lv br (l.set k (w/b))=br^k*(qh*br+w/b);rw[hset,Nat.mul_comm qh],by show a/br^k=_;exact hs,Nat.mod_lt _ hb0⟩,hx2⟩ (by show k<k+1;omega) ⟨I,I,I,I,I,I,I,tO⟩ [] I)))))))))
theorem UO (x y:Int):Nat.gcd y.natAbs (x.tmod y).natAbs=Nat.gcd x.natAbs y.natAbs:=by
 rw[Int.natAbs_tmod,Nat.gcd_comm, <-Nat.gcd_rec,Nat.gcd_comm]
theorem Nk (a b:Int) (ha:(decDigits a.natAbs).length<=300) (hb:(decDigits b.natAbs).length<=300) (W:World) (ht:A7 W):
  Ad Tryz.prog 177 #[str (itoa a),str (itoa b)] W (fun _:Unit=> .tuple #[str (itoa ((Nat.gcd a.natAbs b.natAbs:Nat):Int)), .int .i64 0]) (fun _=>True) (fun _=>[]):=by
 have la:=FA (m:=a.natAbs) (by omega)
 have lb:=FA (m:=b.natAbs) (by omega)
 refine Ab (args:=[str (itoa a),str (itoa b)]) Tryz.func177 I I I (zA (zB (wP I (wP I (Aa (zE (zA (zA (zB (wP I (wP I (wC I I (fun W _=>HK a b ha hb W) (wP I (Aa (zE (zA (zB (wP I (wP I (Aa (zE (zS I (zI ?_)))))))))))))))))))))))
 refine zE (zA (zA (zB ?_)))
 cases hs:smI a&&smI b with
 |true=>
  obtain⟨h1,h2⟩:=Bool.and_eq_true_iff.1 hs
  have b1:=QS h1
  have b2:=QS h2
  refine wP I (wP I (wC I I (fun W _=>PU hs W) (wP I (wP I (wP I (wP I (wP I (wP I (wP I (Aa (zE (zA (zB (wP I (Aa (zE (zR I (zA (zH (Ar (X:=Int×Int) (fun x=>[(7, .int .i64 x.1),(8, .int .i64 x.2)]) (fun _=>[]) (fun x=>x.1.natAbs<100000000000000000/\x.2.natAbs<100000000000000000/\Nat.gcd x.1.natAbs x.2.natAbs=Nat.gcd a.natAbs b.natAbs) (fun x=>x.2.natAbs) (a,b) ⟨b1,b2,I⟩ ⟨I,I,tO⟩ [] I ?_))))))))))))))))))))
  rintro⟨x,y⟩ ⟨hx,hy,hg⟩
  have hx:x.natAbs<100000000000000000:=hx
  have hy:y.natAbs<100000000000000000:=hy
  have hg:Nat.gcd x.natAbs y.natAbs=Nat.gcd a.natAbs b.natAbs:=hg
  refine zA (zA (zB (wP I (wP I ?_))))
  by_cases h0:y=0
  ·refine wU 29 false I (by rw[bne_eq_false_iff_eq];exact h0) (Aa (zE (zS I (zJ (zK (zK (zL (zE (zA (zB (wP I (wP I (wP I (wV 36 (-x) I (show w64 (0-x)=_ by rw[Ak (by omega) (by omega)];omega) (wP I ?_)))))))))))))))
   refine Al 37 (.int .i64 ((Nat.gcd a.natAbs b.natAbs:Nat):Int)) I (congrArg (Value.int .i64) (by
    rw[<-hg,h0,Int.natAbs_zero,Nat.gcd_zero_right]
    show(if -x>x then -x else x)=_;split<;>omega)) ?_
   have hgl:Nat.gcd a.natAbs b.natAbs<100000000000000000:=by rw[<-hg,h0,Int.natAbs_zero,Nat.gcd_zero_right];exact hx
   exact wC I I (fun W hp=>Bq ((Nat.gcd a.natAbs b.natAbs:Nat):Int) (by omega) (by omega) W (ht.hp hp)) (wP I (wP I (Aa (zE (zO (zP (wR2 I I I)))))))
  ·refine wU 29 true I (by rw[bne_iff_ne];exact h0) (Aa (zE (zR I (zI (zE (zH (zU (qP I (qP I (qP I (DB I I I I I h0 ?_)))))))))))
   refine qP I (qP I (A8 (Aa (zN ?_))))
   have hr:(x.tmod y).natAbs<y.natAbs:=by rw[Int.natAbs_tmod];exact Nat.mod_lt _ (by omega)
   exact Aj (y,x.tmod y) ⟨hy,Nat.lt_trans hr hy,by show Nat.gcd y.natAbs (x.tmod y).natAbs=_;rw[UO];exact hg⟩ hr ⟨I,I,tO⟩ [] I
 |false=>
  obtain⟨x0,y0,h2⟩:=Q7 hs ha hb
  refine wP I (wP I (wC I I (fun W _=>h2 W) (wP I (wP I (wP I (wP I (wP I (wP I (wP I (Aa (zE (zA (zB (wP I (Aa (zE (zS I (zI (zE (zA (zB (wP I (wD (X:=NV) I I (fun W' _=>CN a (by omega) W') ?_)))))))))))))))))))))))
  intro x hx
  refine wP I (wP I (wD (X:=NV) I I (fun W' _=>CN b (by omega) W') ?_))
  intro y hy
  refine wP I (wP I (wP I (Aa (zE (zA (zH (Db (X:=(Nat×NV)×(Nat×NV)) (fun s=>[(10,BK s.1.2 (lbs br s.1.1).length),(11,BK s.2.2 (lbs br s.2.1).length)]) (fun s=>Hp W [Cd s.1.2 (lbs br s.1.1),Cd s.2.2 (lbs br s.2.1)]) (fun s=>Nat.gcd s.1.1 s.2.1=Nat.gcd a.natAbs b.natAbs/\(lbs br s.1.1).length<=101/\(lbs br s.2.1).length<=101) (fun s=>s.2.1) ((a.natAbs,x),(b.natAbs,y)) ⟨I,la,lb⟩ ⟨I,I,tO⟩ (fun W hp=>hp) ?_)))))))
  rintro⟨⟨u,x⟩,⟨v,y⟩⟩ ⟨hg,hu,hv⟩
  have hg:Nat.gcd u v=Nat.gcd a.natAbs b.natAbs:=hg
  have hu:(lbs br u).length<=101:=hu
  have hv:(lbs br v).length<=101:=hv
  refine zA (zA (zB (wP I (wP I (wP I ?_)))))
  by_cases h0:v=0
  ·have e1:Nat.gcd a.natAbs b.natAbs=u:=by rw[<-hg,h0,Nat.gcd_zero_right]
   have key: ∀e k,e=6*k->0<e->(lbs br u).length<=k->(decDigits u).length<=e:=fun e k he h0e hk=>by
    refine Cp e u (by omega) ?_
    have:=AH br2 u
    refine Nat.lt_of_lt_of_le this ?_
    rw[La];exact Nat.pow_le_pow_right (by decide) (by omega)
   have hul:=key 606 101 rfl (by decide) hu
   refine wU 47 false I (dF (by rw[h0,Ba];decide)) (Aa (zE (zS I (zJ (zK (zK (zL (zE (zA (zB (wP I (Ap Tryz.hZ tH I I I I I I I I ?_))))))))))))
   exact Al 57 (Vw ((u:Nat):Int) (some ⟨x.1,0,none⟩) x.2.1) I (by unfold Vw;rw[dF (show¬((u:Nat):Int)<0 by omega),Int.natAbs_natCast];rfl) (wC I I (fun W' hp=>Hs ((u:Nat):Int) (by rw[Int.natAbs_natCast];exact hul) W' (some ⟨x.1,0,none⟩) x.2.1 (by rw[Int.natAbs_natCast];exact A5.of_bx hp 0 I)) (wP I (wP I (Aa (zE (zO (wR2 I I (by rw[e1]))))))))
  ·have hL:(lbs br v).length≠0:=fun e=>h0 ((EJ br2).1 (List.length_eq_zero_iff.1 e))
   have hr:u%v<v:=Nat.mod_lt _ (by omega)
   refine wU 47 true I (dT (by show(((lbs br v).length:Nat):Int)>0;omega)) (Aa (zE (zR I (zI (zE (zH (zA (zB (wP I (wP I (wD (X:=NV×NV) I I (fun W' hp=>Jd W' (some ⟨x.1,0,none⟩) (some ⟨y.1,0,none⟩) x.2.1 y.2.1 u v (by omega) (A5.of_bx hp 0 I) (A5.of_bx hp 1 I) (by omega) (by omega)) ?_)))))))))))
   rintro⟨q,w⟩ ⟨hq,hw⟩
   exact wP I (wP I (wP I (wP I (wP I (Aa (zE (zB (wP I (wP I (wP I (wP I (Aa (zN (Da ((v,y),(u%v,w)) ⟨by show Nat.gcd v (u%v)=_;rw[Nat.gcd_comm, <-Nat.gcd_rec,Nat.gcd_comm];exact hg,hv,by show(lbs br (u%v)).length<=101;exact Nat.le_trans ((BN br2).2 (Nat.lt_trans hr (AH br2 v))) hv⟩ hr ⟨I,I,tO⟩ (fun W hp=>hp.pick [1,3] (by decide) I)))))))))))))))
theorem Wi (a:List UInt8):cut a [47]=(if hasPrefix a [45]=true then 45::(cut (trimPrefix a [45]) [47]).1 else(cut (trimPrefix a [45]) [47]).1,(cut (trimPrefix a [45]) [47]).2):=by
 rw[Bf,AR]
 by_cases h:a[0]? =some 45
 ·rw[if_pos h,if_pos (dT h)]
  obtain⟨t,rfl⟩: ∃t,a=45::t:=by
   cases a with
   |nil=>cases h
   |cons b t=>
    have e:b=45:=by simpa using h
    exact⟨t,by rw[e]⟩
  show cut (45::t) [47]=(45::(cut t [47]).1,(cut t [47]).2)
  rcases G9 47 t with h1|⟨x,y,rfl,h1⟩
  ·rw[ES h1,ES (show(47:UInt8)∉45::t from fun h=>by
    rcases List.mem_cons.1 h with h|h
    ·cases h
    ·exact h1 h)]
  ·rw[Gx y h1,show 45::(x++47::y)=(45::x)++47::y from rfl,Gx y (show(47:UInt8)∉45::x from fun h=>by
    rcases List.mem_cons.1 h with h|h
    ·cases h
    ·exact h1 h)]
 ·rw[if_neg h,if_neg (by rw[dF h];decide)]
theorem XW {a:List UInt8} {c:UInt8} (h:(cut a [47]).1[0]? =some c):a[0]? =some c:=by
 rcases G9 47 a with h1|⟨x,y,rfl,h1⟩
 ·rwa [ES h1] at h
 ·rw[Gx y h1] at h
  cases x with
  |nil=>cases h
  |cons b t=>exact h
theorem Wk {m:Bool} {n:List UInt8} (h:m=false->n[0]? ≠some 45):GH (if m=true then 45::n else n)=if dgB n=true/\ ¬(m=true/\n=[48]) then some (if m=true then -(AL n:Int) else AL n) else none:=by
 have hd:dgB n=true↔(ldn n=n.length/\n≠[]/\(1<n.length->n[0]? ≠some 48)):=by
  rw[Hh];exact⟨Mg,Kr⟩
 have key: ∀(x:List UInt8),hasPrefix x [45]=m->trimPrefix x [45]=n->GH x=if dgB n=true/\ ¬(m=true/\n=[48]) then some (if m=true then -(AL n:Int) else AL n) else none:=fun x h1 h2=>by
  unfold GH
  rw[h1,h2]
  by_cases hc:dgB n=true/\ ¬(m=true/\n=[48])
  ·rw[if_pos hc]
   obtain⟨c1,c2,c3⟩:=hd.1 hc.1
   rw[if_pos ⟨c1,c2,c3,hc.2⟩]
  ·rw[if_neg hc,if_neg fun h4=>hc ⟨hd.2 ⟨h4.1,h4.2.1,h4.2.2.1⟩,h4.2.2.2⟩]
 cases m with
 |true=>
  refine key _ ?_ ?_
  ·rw[if_pos rfl,Bf];rfl
  ·rw[if_pos rfl,AR];rfl
 |false=>
  have h0:=h rfl
  refine key _ ?_ ?_
  ·rw[if_neg (by decide),Bf,dF h0]
  ·rw[if_neg (by decide),AR,if_neg h0]
def O9 (m:Bool) (n d:List UInt8) (sl:Bool):Bool:= !dgB n||(sl&&(!dgB d||decide (d=[48])||decide (d=[49])))||(m&&decide (n=[48]))
theorem YH (a:List UInt8):frm a=if O9 (hasPrefix a [45]) (cut (trimPrefix a [45]) [47]).1 (cut (trimPrefix a [45]) [47]).2.1 (cut (trimPrefix a [45]) [47]).2.2=true then none
  else some (if hasPrefix a [45]=true then -(AL (cut (trimPrefix a [45]) [47]).1:Int) else AL (cut (trimPrefix a [45]) [47]).1,if (cut (trimPrefix a [45]) [47]).2.2=true then AL (cut (trimPrefix a [45]) [47]).2.1 else 1):=by
 have h1:=Wi a
 have h2:hasPrefix a [45]=false->(cut (trimPrefix a [45]) [47]).1[0]? ≠some 45:=fun hm hc=>by
  have h3:=XW hc
  rw[Bf] at hm
  have hm:=of_decide_eq_false hm
  rw[AR,if_neg hm] at h3
  exact hm h3
 have h3:=Wk h2
 unfold frm
 generalize hasPrefix a [45]=m at*
 generalize cut (trimPrefix a [45]) [47]=c at*
 obtain⟨n,d,sl⟩:=c
 rw[h1]
 simp only at h3⊢
 rw[h3]
 have hd:dgB d=true↔(ldn d=d.length/\d≠[]/\(1<d.length->d[0]? ≠some 48)):=by
  rw[Hh];exact⟨Mg,Kr⟩
 by_cases hc:dgB n=true/\ ¬(m=true/\n=[48])
 ·rw[if_pos hc]
  have e1:O9 m n d sl=(sl&&(!dgB d||decide (d=[48])||decide (d=[49]))):=by
   unfold O9
   rw[hc.1]
   have:(m&&decide (n=[48]))=false:=by
    by_cases hm:m=true
    ·rw[hm,dF fun h=>hc.2 ⟨hm,h⟩];rfl
    ·rw[show m=false by simpa using hm];rfl
   rw[this,Bool.or_false];rfl
  rw[e1]
  simp only
  cases sl with
  |false=>rfl
  |true=>
   simp only[Bool.true_eq_false,if_false,Bool.true_and,if_true]
   by_cases hk:dgB d=true/\d≠[48]/\d≠[49]
   ·obtain⟨k1,k2,k3⟩:=hd.1 hk.1
    have e0:(!dgB d||decide (d=[48])||decide (d=[49]))=false:=by rw[hk.1,dF hk.2.1,dF hk.2.2];rfl
    rw[if_pos ⟨k1,k2,k3,hk.2⟩,e0,if_neg (show¬(false=true) by decide)]
   ·rw[if_neg fun h4=>hk ⟨hd.2 ⟨h4.1,h4.2.1,h4.2.2.1⟩,h4.2.2.2⟩,if_pos]
    by_cases k1:dgB d=true
    ·by_cases k2:d=[48]
     ·rw[dT k2];simp
     ·by_cases k3:d=[49]
      ·rw[dT k3];simp
      ·exact absurd ⟨k1,k2,k3⟩ hk
    ·rw[show dgB d=false by simpa using k1];rfl
 ·rw[if_neg hc,if_pos]
  unfold O9
  by_cases k1:dgB n=true
  ·by_cases k2:m=true
   ·by_cases k3:n=[48]
    ·rw[k2,dT k3];simp
    ·exact absurd ⟨k1,fun h=>k3 h.2⟩ hc
   ·exact absurd ⟨k1,fun h=>k2 h.1⟩ hc
  ·rw[show dgB n=false by simpa using k1];rfl
theorem Me {n:List UInt8} (h:dgB n=true):n=decDigits (AL n):=S7.1 (Hh.1 h)
theorem R9 {n:List UInt8} (h:dgB n=true) (hl:n.length<=9):AL n<1000000000:=by
 have e:=Me h
 rw[e] at hl
 exact Mq hl
theorem Qn (a:List UInt8) (ha:a.length<4611686018427387904) (W:World) (ht:A7 W):
  Ad Tryz.prog 105 #[str a] W (fun _:Unit=> .int .i64 (rdR a).2) (fun _=>True) (fun _=>[]):=by
 have hfr:=YH a
 have hsv:RJ a=RJ a:=rfl
 have hcl:=UA (trimPrefix a [45])
 have htl:(trimPrefix a [45]).length<=a.length:=by rw[AR];split<;>simp
 have hmiss:(cut (trimPrefix a [45]) [47]).2.2=false->(cut (trimPrefix a [45]) [47]).2.1=[]:=fun h=>by
  rcases G9 47 (trimPrefix a [45]) with h1|⟨x,y,e,h1⟩
  ·rw[ES h1]
  ·rw[e,Gx y h1] at h;cases h
 conv at hsv=>rhs;unfold RJ
 generalize hasPrefix a [45]=m at*
 generalize cut (trimPrefix a [45]) [47]=c at*
 obtain⟨n,d,sl⟩:=c
 simp only at hfr hsv hcl hmiss
 refine Ab (args:=[str a]) Tryz.func105 I I I (zA (zB (wP I (Aa (zE (zA (zB (wP I (wC I I (fun W _=>(Gf a ha W).cast hsv) ?_)))))))))
 iterate 9 refine wP I ?_
 refine Aa ?_
 obtain⟨P1,e1⟩: ∃b,dgB n=b:=⟨_,rfl⟩
 obtain⟨P2,e2⟩: ∃b,dgB d=b:=⟨_,rfl⟩
 obtain⟨P3,e3⟩: ∃b,decide (d=[48])=b:=⟨_,rfl⟩
 obtain⟨P4,e4⟩: ∃b,decide (d=[49])=b:=⟨_,rfl⟩
 obtain⟨P5,e5⟩: ∃b,decide (n=[48])=b:=⟨_,rfl⟩
 have hB:O9 m n d sl=(!P1||(sl&&(!P2||P3||P4))||(m&&P5)):=by unfold O9;rw[e1,e2,e3,e4,e5]
 refine A6 (Av (Av (AA (X:=Unit) (fun _=>[(4,str n),(5,str d),(6, .bool sl),(41, .bool (O9 m n d sl))]) (fun _=>[]) (fun _=>True) ?_ ?_)))
 ·refine zB (wP I (wC I I (fun W _=>(I4 n (by omega) W).cast (v':= .bool P1) (by rw[e1])) (wP I (wP I (AG 19 I (fun h19=> ?_) (fun h19=> ?_))))))
  ·refine Ae I I ?_
   iterate 13 refine Ae I I ?_
   refine wP I (wP I ?_)
   iterate 5 refine Ae I I ?_
   exact wP I (Aa (An () tO ⟨I,I,I,congrArg (fun b=>some (Value.bool b)) (by rw[hB];simp_all),tO⟩ [] I))
  ·refine wP I (wP I (AG 21 I (fun h21=> ?_) (fun h21=> ?_)))
   ·refine wP I (wC I I (fun W _=>(I4 d (by omega) W).cast (v':= .bool P2) (by rw[e2])) (wP I (wP I (AG 25 I (fun h25=> ?_) (fun h25=> ?_)))))
    ·refine Ae I I ?_
     refine Ae I I ?_
     refine wP I (wP I ?_)
     iterate 2 refine Ae I I ?_
     refine wP I (wP I (wP I (wP I ?_)))
     iterate 5 refine Ae I I ?_
     exact wP I (Aa (An () tO ⟨I,I,I,congrArg (fun b=>some (Value.bool b)) (by rw[hB];simp_all),tO⟩ [] I))
    ·refine wP I (wP I (wU 27 P3 I ((AS _ _).trans e3) (wP I (wP I (AG 29 I (fun h29=> ?_) (fun h29=> ?_))))))
     ·refine Ae I I ?_
      refine Ae I I ?_
      refine wP I (wP I (wP I (wP I ?_)))
      iterate 5 refine Ae I I ?_
      exact wP I (Aa (An () tO ⟨I,I,I,congrArg (fun b=>some (Value.bool b)) (by rw[hB];simp_all),tO⟩ [] I))
     ·refine wP I (wP I (wU 31 P4 I ((AS _ _).trans e4) (wP I (wP I (wP I (wP I (AG 35 I (fun h35=> ?_) (fun h35=> ?_))))))))
      ·refine Ae I I ?_
       iterate 4 refine Ae I I ?_
       exact wP I (Aa (An () tO ⟨I,I,I,congrArg (fun b=>some (Value.bool b)) (by rw[hB];simp_all),tO⟩ [] I))
      ·refine wP I (wP I (AG 37 I (fun h37=> ?_) (fun h37=> ?_)))
       ·exact wP I (wP I (wU 39 P5 I ((AS _ _).trans e5) (wP I (wP I (Aa (An () tO ⟨I,I,I,congrArg (fun b=>some (Value.bool b)) (by rw[hB];simp_all),tO⟩ [] I))))))
       ·refine Ae I I ?_
        refine Ae I I ?_
        exact wP I (wP I (Aa (An () tO ⟨I,I,I,congrArg (fun b=>some (Value.bool b)) (by rw[hB];simp_all),tO⟩ [] I)))
   ·refine Ae I I ?_
    iterate 10 refine Ae I I ?_
    refine wP I (wP I (wP I (wP I (wP I (AG 37 I (fun h37=> ?_) (fun h37=> ?_))))))
    ·exact wP I (wP I (wU 39 P5 I ((AS _ _).trans e5) (wP I (wP I (Aa (An () tO ⟨I,I,I,congrArg (fun b=>some (Value.bool b)) (by rw[hB];simp_all),tO⟩ [] I))))))
    ·refine Ae I I ?_
     refine Ae I I ?_
     exact wP I (wP I (Aa (An () tO ⟨I,I,I,congrArg (fun b=>some (Value.bool b)) (by rw[hB];simp_all),tO⟩ [] I)))
 intro _ _
 refine Ah I (fun hbad=> ?_) (fun hbad=> ?_)
 ·rw[if_pos hbad] at hfr
  exact zA (zB (wP I (Aa (zE (zO (zP (wR1 I I (by unfold rdR;rw[hfr]))))))))
 have hbad:O9 m n d sl=false:=hbad
 rw[if_neg (by rw[hbad];decide)] at hfr
 have hn:dgB n=true:=by
  cases h:dgB n with
  |true=>rfl
  |false=>unfold O9 at hbad;rw[h] at hbad;cases hbad
 have hdl:sl=true->dgB d=true:=fun hs=>by
  cases h:dgB d with
  |true=>rfl
  |false=>unfold O9 at hbad;rw[h,hs,hn] at hbad;cases hbad
 have hna:(if m=true then -(AL n:Int) else AL n).natAbs=AL n:=by split<;>omega
 have hne:=Me hn
 have hlen1:n.length<=300↔AL n<Bi:=by
  conv=>lhs;rw[hne]
  exact H7
 have hlen2:d.length<=300↔(if sl=true then AL d else 1)<Bi:=by
  cases hs:sl with
  |true=>
   rw[if_pos rfl]
   conv=>lhs;rw[Me (hdl hs)]
   exact H7
  |false=>
   rw[hmiss hs,if_neg (by decide)]
   exact⟨fun _=>H7.1 (by rw[FQ];decide),fun _=>by decide⟩
 have hcode:(rdR a).2=if AL n<Bi/\(if sl=true then AL d else 1)<Bi then(if Nat.gcd (AL n) (if sl=true then AL d else 1)=1 then 0 else 11) else 4:=by
  unfold rdR
  rw[hfr]
  simp only[hna]
  generalize (if sl=true then AL d else 1)=k
  by_cases c1:AL n<Bi/\k<Bi
  ·rw[if_pos c1,if_pos c1]
   by_cases c2:Nat.gcd (AL n) k=1
   ·rw[if_pos c2,if_pos c2]
   ·rw[if_neg c2,if_neg c2]
  ·rw[if_neg c1,if_neg c1]
 refine zI (zE (Av (Av (AA (X:=Unit) (fun _=>[(4,str n),(5,str d),(6, .bool sl),(49, .bool (decide (¬(n.length<=300/\d.length<=300))))]) (fun _=>[]) (fun _=>True) ?_ ?_))))
 ·refine zB (wP I (wP I (Al 43 (.int .i64 (n.length:Nat)) I (congrArg (fun n:Nat=>Value.int .i64 (n:Int)) (A3 n)) (wP I ?_))))
  by_cases h1:n.length<=300
  ·exact wU 44 false I (dF (by omega)) (wP I (wP I (wP I (Al 47 (.int .i64 (d.length:Nat)) I (congrArg (fun n:Nat=>Value.int .i64 (n:Int)) (A3 d)) (wP I (wU 48 (decide (¬(n.length<=300/\d.length<=300))) I (decide_eq_decide.2 (by show((d.length:Nat):Int)>300↔_;omega)) (wP I (Aa (An () tO ⟨I,I,I,I,tO⟩ [] I)))))))))
  ·refine wU 44 true I (dT (by show((n.length:Nat):Int)>300;omega)) (wP I ?_)
   iterate 3 refine Ae I I ?_
   exact wP I (Aa (An () tO ⟨I,I,I,by rw[dT (show¬(n.length<=300/\d.length<=300) by omega)];rfl,tO⟩ [] I))
 intro _ _
 refine Ah I (fun hlong=> ?_) (fun hlong=> ?_)
 ·have hlong:=of_decide_eq_true hlong
  exact zA (zB (wP I (Aa (zE (zO (zP (wR1 I I (by rw[hcode,if_neg fun h=>hlong ⟨hlen1.2 h.1,hlen2.2 h.2⟩]))))))))
 have hlong:n.length<=300/\d.length<=300:=Decidable.byContradiction fun h=>of_decide_eq_false hlong h
 rw[if_pos ⟨hlen1.1 hlong.1,hlen2.1 hlong.2⟩] at hcode
 refine zI (zE (zA (zA (zB (wP I (wP I (Aa ?_)))))))
 cases hs:sl with
 |false=>
  have hcode:(rdR a).2=0:=by rw[hcode,hs];exact if_pos (show Nat.gcd (AL n) 1=1 from Nat.gcd_one_right _)
  exact zE (zR I (zA (zB (wP I (Aa (zE (zO (zP (wR1 I I (by rw[hcode]))))))))))
 |true=>
  have hd:=hdl hs
  have hde:=Me hd
  rw[hs,if_pos rfl] at hcode
  refine zE (zS I (zI (zE (Av (Av (AA (X:=Unit) (fun _=>[(4,str n),(5,str d),(59, .bool (decide (n.length<=9/\d.length<=9)))]) (fun _=>[]) (fun _=>True) ?_ ?_))))))
  ·refine zB (wP I (wP I (Al 53 (.int .i64 (n.length:Nat)) I (congrArg (fun n:Nat=>Value.int .i64 (n:Int)) (A3 n)) (wP I ?_))))
   by_cases h1:n.length<=9
   ·exact wU 54 true I (dT (by omega)) (wP I (wP I (wP I (Al 57 (.int .i64 (d.length:Nat)) I (congrArg (fun n:Nat=>Value.int .i64 (n:Int)) (A3 d)) (wP I (wU 58 (decide (n.length<=9/\d.length<=9)) I (decide_eq_decide.2 (by omega)) (wP I (Aa (An () tO ⟨I,I,I,tO⟩ [] I)))))))))
   ·refine wU 54 false I (dF (by omega)) (wP I ?_)
    iterate 3 refine Ae I I ?_
    exact wP I (Aa (An () tO ⟨I,I,by rw[dF (fun h:n.length<=9/\d.length<=9=>h1 h.1)];rfl,tO⟩ [] I))
  intro _ _
  refine Ah I (fun h9=> ?_) (fun h9=> ?_)
  ·obtain⟨h9,h9'⟩:=of_decide_eq_true h9
   have l1:AL n<1000000000:=R9 hn h9
   have l2:AL d<1000000000:=R9 hd h9'
   refine zA (zA (zB (wP I (wC I I (fun W _=>Cj n (by omega) (Hh.1 hn).all W) (wP I (wC I I (fun W _=>Cj d (by omega) (Hh.1 hd).all W) (wC I I (fun W _=>Ly (AL n) (AL d) (by omega) (by omega) W) (wP I ?_))))))))
   by_cases hg:Nat.gcd (AL n) (AL d)=1
   ·exact wU 65 false I (by rw[bne_eq_false_iff_eq];omega) (Aa (zE (zS I (zI (zE (zA (zB (wP I (Aa (zE (zO (zP (wR1 I I (by rw[hcode,if_pos hg]))))))))))))))
   ·exact wU 65 true I (by rw[bne_iff_ne];omega) (Aa (zE (zR I (zA (zB (wP I (Aa (zE (zO (zP (zP (wR1 I I (by rw[hcode,if_neg hg])))))))))))))
  ·have e1:n=itoa ((AL n:Nat):Int):=by rw[Fh];exact hne
   have e2:d=itoa ((AL d:Nat):Int):=by rw[Fh];exact hde
   refine zI (zE (zA (zA (zB (wP I (wP I ?_))))))
   refine wC I I (fun W1 hp=>by
    have h:=Nk ((AL n:Nat):Int) ((AL d:Nat):Int) (by rw[Int.natAbs_natCast, <-hne];exact hlong.1) (by rw[Int.natAbs_natCast, <-hde];exact hlong.2) W1 (ht.hp hp)
    rw[<-e1, <-e2,Int.natAbs_natCast,Int.natAbs_natCast,Fh] at h
    exact h) ?_
   refine wP I (wP I (wP I (wP I (wP I (Aa (zE (zA (zB (wP I (wP I ?_))))))))))
   by_cases hg:Nat.gcd (AL n) (AL d)=1
   ·exact wU 73 false I (by show(!_)=false;rw[AS,hg,FQ];rfl) (Aa (zE (zS I (zI (zE (zA (zB (wP I (Aa (zE (zO (wR1 I I (by rw[hcode,if_pos hg])))))))))))))
   ·refine Al 73 (.bool true) I (congrArg Value.bool (by
     show(!_)=true
     rw[AS,dF fun h=>hg (by have:=congrArg AL h;rw[BO] at this;exact this)];rfl)) ?_
    exact Aa (zE (zR I (zA (zB (wP I (Aa (zE (zO (zP (wR1 I I (by rw[hcode,if_neg hg])))))))))))
theorem Qr (a b c d:Int) (ha:okN a) (hb:okN b) (hc:okN c) (hd:okN d) (hab:okN (a*b)) (hcd:okN (c*d)) (W:World) (ht:A7 W):
  Ad Tryz.prog 42 #[str (itoa a),str (itoa b),str (itoa c),str (itoa d)] W (fun _:Unit=> .tuple #[str (itoa (a*b)),str (itoa (c*d)), .int .i64 0]) (fun _=>True) (fun _=>[]):=by
 refine Ab (args:=[str (itoa a),str (itoa b),str (itoa c),str (itoa d)]) Tryz.func42 I I I (zA (zB (wP I (wP I (wP I (Aa (zE (zA (zB (wP I (wP I (wC I I (fun W1 hp=>Np a b ha.dd hb.dd hab.dd W1 (ht.hp hp)) (wP I (wP I (wP I (wP I (wP I (Aa (zE (zA (zA (zB (wP I (wP I ?_))))))))))))))))))))))))
 refine Aa (zE (zS I (zI (zE (zA (zB (wP I (wP I (wC I I (fun W1 hp=>Np c d hc.dd hd.dd hcd.dd W1 (ht.hp hp)) (wP I (wP I (wP I (wP I (wP I (Aa (zE (zA (zB (wP I (wP I (wP I (wP I (wP I (wP I ?_))))))))))))))))))))))))
 exact Aa (zE (zO (wR3 I I I)))
theorem Pi {a:Int} {g:Nat} (hg:0<g) (h:(g:Int)∣a):(a/(g:Int)).natAbs=a.natAbs/g/\a.natAbs%g=0/\(a/(g:Int)<0↔a<0)/\a.tdiv (g:Int)=a/(g:Int)/\a.tmod (g:Int)=0:=by
 obtain⟨k,rfl⟩:=h
 have e1:(g:Int)*k/(g:Int)=k:=Int.mul_ediv_cancel_left _ (by omega)
 refine⟨?_, ?_, ?_, ?_, ?_⟩
 ·rw[e1,Int.natAbs_mul,Int.natAbs_natCast,Nat.mul_div_cancel_left _ hg]
 ·rw[Int.natAbs_mul,Int.natAbs_natCast,Nat.mul_mod_right]
 ·rw[e1]
  constructor
  ·intro h;exact Int.mul_neg_of_pos_of_neg (by omega) h
  ·intro h
   by_cases h1:k<0
   ·exact h1
   ·have:=Int.mul_nonneg (show(0:Int)<=(g:Int) by omega) (show 0<=k by omega);omega
 ·rw[e1];exact Int.mul_tdiv_cancel_left _ (by omega)
 ·exact Int.mul_tmod_right _ _
theorem M2 (a:Int) (g:Nat) (hg:0<g) (h:(g:Int)∣a) (ha:(decDigits a.natAbs).length<=300) (hgl:(decDigits g).length<=300) (W:World) (ht:A7 W):
  Ad Tryz.prog 268 #[str (itoa a),str (itoa (g:Int))] W (fun _:Unit=> .tuple #[str (itoa (a/(g:Int))),str [48], .int .i64 0]) (fun _=>True) (fun _=>[]):=by
 obtain⟨q1,q2,q3,q4,q5⟩:=Pi hg h
 have la:=FA (m:=a.natAbs) (by omega)
 have lg:=FA (m:=g) (by omega)
 have hgn:((g:Int)).natAbs=g:=Int.natAbs_natCast g
 have hgl2:(decDigits ((g:Int)).natAbs).length<=300:=by rw[hgn];exact hgl
 have hql:(decDigits (a/(g:Int)).natAbs).length<=300:=by
  rw[q1]
  have key: ∀e,0<e->(decDigits a.natAbs).length<=e->(decDigits (a.natAbs/g)).length<=e:=fun e he h=>Cp e _ (by omega) (Nat.lt_of_le_of_lt (Nat.div_le_self ..) (Nat.lt_of_lt_of_le (EP _) (Nat.pow_le_pow_right (by decide) h)))
  exact key 300 (by decide) ha
 have hneg:decide ((g:Int)<0)=false:=dF (by omega)
 have hg48:itoa (g:Int)≠[48]:=fun e=>by
  have:=Jq.1 e
  omega
 refine Ab (args:=[str (itoa a),str (itoa (g:Int))]) Tryz.func268 I I I (zA (zB (wP I (wP I (wP I (Aa (zE (zA (zA (zB (wP I (wP I (wC I I (fun W _=>HK a (g:Int) ha hgl2 W) (wP I (Aa (zE (zA (zB (wP I (wP I (Aa (zE (zS I ?_)))))))))))))))))))))))
 refine zI (zE (zA (zA (zB (wP I (wP I (wU 28 false I ((AS _ _).trans (dF hg48)) (Aa (zE (zS I (zI (zE (zA (zA (zB ?_)))))))))))))))
 cases hs:smI a&&smI (g:Int) with
 |true=>
  obtain⟨h1,h2⟩:=Bool.and_eq_true_iff.1 hs
  have b1:=QS h1
  have b2:=QS h2
  have b3:(a/(g:Int)).natAbs<=a.natAbs:=by rw[q1];exact Nat.div_le_self ..
  refine wP I (wP I (wC I I (fun W _=>PU hs W) (wP I (wP I (wP I (wP I (wP I (wP I (wP I (Aa (zE (zA (zB (wP I (Aa (zE (zR I (zA (zU (qP I (qP I (J8 I I I I I (by omega) ?_))))))))))))))))))))))
  refine qV 39 (a/(g:Int)) I (by rw[q4];exact Ak (by omega) (by omega)) (qP I (qP I (DB I I I I I (by omega) ?_)))
  refine qV 42 0 I q5 (qP I (qP I (A8 (Aa (zE (zA (zA (zB (wP I (wP I (Al 44 (.bool false) I I (wP I ?_))))))))))))
  iterate 5 refine Ae I I ?_
  exact wP I (Aa (zE (zS I (zI (zE (zA (zB (wP I (wC I I (fun W hp=>Bq (a/(g:Int)) (by omega) (by omega) W (ht.hp hp)) (wP I (wC I I (fun W hp=>(Bq 0 (by decide) (by decide) W (ht.hp hp)).cast (v':=str [48]) (by rw[Cx])) (wP I (wP I (wP I (Aa (zE (zO (zP (wR3 I I I)))))))))))))))))))
 |false=>
  obtain⟨x0,y0,h2⟩:=Q7 hs ha hgl2
  refine wP I (wP I (wC I I (fun W _=>h2 W) (wP I (wP I (wP I (wP I (wP I (wP I (wP I (Aa (zE (zA (zB (wP I (Aa (zE (zS I (zI (zE (zA (zB (wP I (wD (X:=NV) I I (fun W' _=>CN a (by omega) W') ?_)))))))))))))))))))))))
  intro x hx
  refine wP I (wD (X:=NV) I I (fun W' _=>CN (g:Int) (by omega) W') ?_)
  intro y hy
  refine Al 64 (.agg #[.bool false,BK y (lbs br g).length]) I (by unfold aK;rw[hneg,hgn]) ?_
  rw[hgn] at hy⊢
  refine wG I I fun _=>(wG I I fun _=>(wS 2 I I I (wS 3 I I I (Aa ?_))))
  rename_i b13 b14
  refine zE (zA (zB (wP I (wB 2 I I I (wP I (wB 3 I I I (wD (X:=NV×NV) I I (fun W' hp=>Jd W' (some ⟨x.1,0,none⟩) (some ⟨y.1,0,none⟩) x.2.1 y.2.1 a.natAbs g hg (A5.of_bx hp 0 I) (A5.of_bx hp 1 I) (by omega) (by omega)) ?_)))))))
  rintro⟨q,w⟩ ⟨hq,hw⟩
  have e0:lbs br (a.natAbs%g)=[]:=by rw[q2];exact Ba
  have hq:CR q (lbs br (a.natAbs/g)):=hq
  simp only[e0]
  refine wP I (wP I (wP I (wP I (wP I (Aa (A6 ?_))))))
  try refine Av ?_
  refine AA (X:=Nat×Nat) (fun s=>[(13,Af b13),(14,Af b14),(15,BK q (lbs br (a.natAbs/g)).length),(16,BK w 0),(17,Af s.1),(18,Af s.2)]) (fun s=>[Cd q (lbs br (a.natAbs/g)),Cd w [],⟨s.1,164,[.bool (decide (a/(g:Int)<0)),BK q (lbs br (a.natAbs/g)).length],true,none⟩,⟨s.2,164,[.bool false,BK w 0],true,none⟩]) (fun _=>True) ?_ ?_
  ·by_cases hn:a<0
   ·have hqn:a/(g:Int)<0:=q3.2 hn
    have hqL:0<(lbs br (a.natAbs/g)).length:=List.length_pos_iff.2 fun e=>by have:=(EJ br2).1 e;omega
    have e1:decide (a<0)=true:=dT hn
    have e2:decide (a/(g:Int)<0)=true:=dT hqn
    simp only[e2]
    refine zB (wP I (wB 2 I I I (wU 74 true I e1 (wP I (wB 3 I I I (Fi Tryz.underlying4 I I I I I I ?_))))))
    refine wP I (wP I (wP I (wP I (wU 81 true I (dT (by omega)) (wP I (wP I (Ap Tryz.hZ tH I I I I I I I I ?_)))))))
    refine wP I (wB 2 I I I (wU 86 true I e1 (wP I (wP I (wP I (wP I (Al 90 (.bool false) I I (wP I (wP I (Ap Tryz.hZ tH I I I I I I I I ?_))))))))))
    refine wG I I fun _=>(wG I I fun _=>(wS 6 I I I (wS 7 I I I (Aa ?_))))
    rename_i b17 b18
    exact IE (b17,b18) tO ⟨I,I,I,I,I,I,tO⟩ [4,5,6,7] (by decide) I
   ·have hqn: ¬a/(g:Int)<0:=fun h=>hn (q3.1 h)
    have e1:decide (a<0)=false:=dF hn
    have e2:decide (a/(g:Int)<0)=false:=dF hqn
    simp only[e2]
    refine zB (wP I (wB 2 I I I (wU 74 false I e1 (wP I (wB 3 I I I (Fi Tryz.underlying4 I I I I I I ?_))))))
    refine wP I ?_
    iterate 3 refine Ae I I ?_
    refine wP I (wP I (Ap Tryz.hZ tH I I I I I I I I ?_))
    refine wP I (wB 2 I I I (wU 86 false I e1 (wP I ?_)))
    iterate 3 refine Ae I I ?_
    refine wP I (wP I (Ap Tryz.hZ tH I I I I I I I I ?_))
    refine wG I I fun _=>(wG I I fun _=>(wS 6 I I I (wS 7 I I I (Aa ?_))))
    rename_i b17 b18
    exact IE (b17,b18) tO ⟨I,I,I,I,I,I,tO⟩ [4,5,6,7] (by decide) I
  rintro⟨b17,b18⟩ _
  refine zA (zA (zB (wP I (wP I (wP I (Al 96 (.bool false) I I (wP I ?_)))))))
  iterate 5 refine Ae I I ?_
  refine wP I (Aa (zE (zS I (zI (zE (zA (zB (wB 2 I I I ?_))))))))
  refine wC I I (fun W' hp=>by
   have h:=G5 (a/(g:Int)) hql W' (some ⟨q.1,0,none⟩) q.2.1
   rw[q1] at h
   exact h (A5.of_bx hp 0 I)) ?_
  refine wP I (wP I (wP I (wP I (wP I (Aa (zE (zA (zA (zB (wP I (wP I (Aa (zE (zS I (zI (zE (zA (zB (wP I (wB 3 I I I ?_))))))))))))))))))))
  refine wC I I (fun W' hp=>by
   have h:=Hs 0 (by decide+kernel) W' (some ⟨w.1,0,none⟩) w.2.1 (.inl Ba)
   rw[Cx,show(0:Int).natAbs=0 from rfl,Ba] at h
   exact h) ?_
  exact wP I (wP I (wP I (Aa (zE (zO (wR3 I I I))))))
theorem Tm {n m k:Nat} (h:n<=m) (hk:0<k) (hm:(decDigits m).length<=k):(decDigits n).length<=k:=
 Cp k n (by omega) (Nat.lt_of_le_of_lt h (Nat.lt_of_lt_of_le (EP m) (Nat.pow_le_pow_right (by decide) hm)))
theorem IC {z:Int} (h:z<0):itoa z=45::itoa (-z):=by
 unfold itoa
 rw[if_pos h,if_neg (by omega),show(-z).toNat=z.natAbs by omega]
theorem LV {z:Int} (h: ¬z<0):itoa z=decDigits z.natAbs:=by rw[CY];unfold IQ;rw[if_neg h];rfl
theorem Ub {z:Int} (h:(itoa z).length<=18):z.natAbs<1000000000000000000:=by
 rw[CY,List.length_append] at h
 exact Nat.lt_of_lt_of_le (EP _) (show _<=10^18 from Nat.pow_le_pow_right (by decide) (by omega))
theorem So (z d:Int) (hd:d≠0) (hz:okN z) (hdk:okN d) (W:World) (ht:A7 W):
  Ad Tryz.prog 226 #[str (itoa z),str (itoa d)] W (fun _:Unit=> .tuple #[str (Ac (nrm z d)), .int .i64 0]) (fun _=>True) (fun _=>[]):=by
 have lz:=Hq hz.dd
 have ld:=Hq hdk.dd
 obtain⟨c0,hc0,hc45⟩:=FY d
 obtain⟨u,hu⟩: ∃u,u=if d<0 then -z else z:=⟨_,rfl⟩
 obtain⟨e,he⟩: ∃e,e=d.natAbs:=⟨_,rfl⟩
 have he0:0<e:=by omega
 have hnr:nrm z d=mkRat u e:=by unfold nrm;rw[hu,he]
 have hua:u.natAbs=z.natAbs:=by rw[hu];split<;>omega
 have huk:okN u:=by unfold okN;rw[hua];exact hz
 have hek:okN (e:Int):=by unfold okN;rw[Int.natAbs_natCast,he];exact hdk
 have hel:(decDigits e).length<=300:=by have:=hek.dd;rwa [Int.natAbs_natCast] at this
 have hie:itoa (e:Int)=decDigits e:=Fh e
 rw[hnr]
 refine Ab (args:=[str (itoa z),str (itoa d)]) Tryz.func226 I I I (zA (zB (wP I (wP I (Aa (zE (zA (zA (zB (wP I (AZ 0 tH I I I I I I I I hc0 (wP I (wU 11 (decide (d<0)) I ((Em c0 45).trans hc45) (Aa (A6 ?_)))))))))))))))
 try refine Av ?_
 refine AA (X:=Unit) (fun _=>[(0,str (itoa u)),(1,str (itoa (e:Int)))]) (fun _=>[]) (fun _=>True) ?_ ?_
 ·refine Ah I (fun h=> ?_) (fun h=> ?_)
  ·have h:d<0:=of_decide_eq_true h
   have ed:itoa d=45::itoa (e:Int):=by rw[IC h,show -d=(e:Int) by omega]
   have eu:u= -z:=by rw[hu,if_pos h]
   obtain⟨c1,hc1,hc2⟩:=FY z
   refine zA (zB (wP I ?_))
   refine Gj 1 tH I I I I I I I I (by rw[ed,List.length_cons];omega) ?_
   refine Al 13 (str (itoa (e:Int))) I (by rw[ed];rfl) (wP I (Aa (zE (zA (zB (wP I (AZ 0 tH I I I I I I I I hc1 (wP I (wU 16 (decide (z<0)) I ((Em c1 45).trans hc2) (Aa (zE (Ah I (fun hzn=> ?_) (fun hzn=> ?_)))))))))))))
   ·have hzn:z<0:=of_decide_eq_true hzn
    refine zB (wP I ?_)
    refine Gj 1 tH I I I I I I I I (by rw[IC hzn,List.length_cons];omega) ?_
    exact wP I (Aa (An () tO ⟨by rw[IC hzn,eu];rfl,I,tO⟩ [] I))
   ·have hzn: ¬z<0:=of_decide_eq_false hzn
    refine zA (zB (wP I (wP I ?_)))
    by_cases hz0:z=0
    ·exact wU 20 false I (by show(!_)=false;rw[AS,hz0,Cx];rfl) (Aa (zE (zS I (zI (An () tO ⟨by rw[eu,hz0];rfl,I,tO⟩ [] I)))))
    ·refine wU 20 true I (by show(!_)=true;rw[AS,dF fun h=>hz0 (Jq.1 h)];rfl) (Aa (zE (zR I (zB (wP I (Cm I I I I I (a:=[45]) (b:=itoa z) (by decide) (by omega) ?_))))))
     exact wP I (Aa (An () tO ⟨by rw[eu,IC (show -z<0 by omega),Int.neg_neg];rfl,I,tO⟩ [] I))
  ·have h: ¬d<0:=of_decide_eq_false h
   exact zI (An () tO ⟨by rw[hu,if_neg h];rfl,by rw[show(e:Int)=d by omega];rfl,tO⟩ [] I)
 intro _ _
 have lu:=Hq huk.dd
 have le:=Hq hek.dd
 obtain⟨c1,hc1,hc2⟩:=FY u
 refine Av (Av (AA (X:=Unit) (fun _=>[(0,str (itoa u)),(1,str (itoa (e:Int))),(30, .bool (decide ((itoa u).length<=18/\(itoa (e:Int)).length<=18)))]) (fun _=>[]) (fun _=>True) ?_ ?_))
 ·refine zB (wP I (wP I (Al 24 (.int .i64 ((itoa u).length:Nat)) I (congrArg (fun n:Nat=>Value.int .i64 (n:Int)) (A3 _)) (wP I ?_))))
  by_cases h1:(itoa u).length<=18
  ·exact wU 25 true I (dT (by omega)) (wP I (wP I (wP I (Al 28 (.int .i64 ((itoa (e:Int)).length:Nat)) I (congrArg (fun n:Nat=>Value.int .i64 (n:Int)) (A3 _)) (wP I (wU 29 (decide ((itoa u).length<=18/\(itoa (e:Int)).length<=18)) I (decide_eq_decide.2 (by omega)) (wP I (Aa (An () tO ⟨I,I,I,tO⟩ [] I)))))))))
  ·refine wU 25 false I (dF (by omega)) (wP I ?_)
   iterate 3 refine Ae I I ?_
   exact wP I (Aa (An () tO ⟨I,I,by rw[dF (fun h:(itoa u).length<=18/\(itoa (e:Int)).length<=18=>h1 h.1)];rfl,tO⟩ [] I))
 intro _ _
 refine Ah I (fun h18=> ?_) (fun h18=> ?_)
 ·obtain⟨h1,h2⟩:=of_decide_eq_true h18
  have u18:=Ub h1
  have e18:=Ub h2
  rw[Int.natAbs_natCast] at e18
  rw[hie] at h2
  refine zA (zA (zB (wP I (AZ 0 tH I I I I I I I I hc1 (wP I (wU 33 (decide (u<0)) I ((Em c1 45).trans hc2) (Aa (zE (Ah I (fun hn=> ?_) (fun hn=> ?_))))))))))
  ·have hn:u<0:=of_decide_eq_true hn
   have eu:itoa u=45::decDigits u.natAbs:=by rw[IC hn,LV (by omega),Int.natAbs_neg]
   have hdl:(decDigits u.natAbs).length<=18:=by rw[eu,List.length_cons] at h1;omega
   refine zA (zB (wP I ?_))
   refine Gj 1 tH I I I I I I I I (by rw[eu,List.length_cons];omega) ?_
   exact Al 35 (str (decDigits u.natAbs)) I (by rw[eu];rfl) (wC I I (fun W _=>(Cj (decDigits u.natAbs) hdl (FN _).all W).cast (v':= .int .i64 (u.natAbs:Nat)) (by rw[BO])) (wP I (wV 37 u I (by show w64 (0-((u.natAbs:Nat):Int))=_;rw[Ak (by omega) (by omega)];omega) (wP I (Al 38 (str (decDigits e)) I (by rw[hie]) (wC I I (fun W _=>(Cj (decDigits e) h2 (FN _).all W).cast (v':= .int .i64 (e:Nat)) (by rw[BO])) (wC I I (fun W _=>Fu u e (by omega) he0 (by omega) W) (wP I (wP I (Aa (zE (zO (zP (zP (wR2 I I I)))))))))))))))
  ·have hn: ¬u<0:=of_decide_eq_false hn
   have eu:itoa u=decDigits u.natAbs:=LV hn
   rw[eu] at h1
   exact zI (zE (zA (zB (wP I (Al 41 (str (decDigits u.natAbs)) I (by rw[eu]) (wC I I (fun W _=>(Cj (decDigits u.natAbs) h1 (FN _).all W).cast (v':= .int .i64 u) (by rw[BO];exact congrArg (Value.int .i64) (by omega))) (wP I (Al 43 (str (decDigits e)) I (by rw[hie]) (wC I I (fun W _=>(Cj (decDigits e) h2 (FN _).all W).cast (v':= .int .i64 (e:Nat)) (by rw[BO])) (wC I I (fun W _=>Fu u e (by omega) he0 (by omega) W) (wP I (wP I (Aa (zE (zO (zP (wR2 I I I)))))))))))))))))
 obtain⟨g,hg⟩: ∃g,Nat.gcd u.natAbs e=g:=⟨_,rfl⟩
 have hg0:0<g:=by rw[<-hg];exact Nat.gcd_pos_of_pos_right _ he0
 have hgu:(g:Int)∣u:=Int.natAbs_dvd_natAbs.1 (by rw[Int.natAbs_natCast, <-hg];exact Nat.gcd_dvd_left ..)
 have hge:g∣e:=by rw[<-hg];exact Nat.gcd_dvd_right ..
 have hgle:g<=e:=Nat.le_of_dvd he0 hge
 have hgl:(decDigits g).length<=300:=Tm hgle (by decide) hel
 obtain⟨x,hx⟩: ∃x,x=u/(g:Int):=⟨_,rfl⟩
 have hxe:=Pi hg0 hgu
 have hxl:(decDigits x.natAbs).length<=300:=by
  rw[hx,hxe.1]
  exact Tm (Nat.div_le_self ..) (by decide) huk.dd
 obtain⟨y,hy⟩: ∃y,y=e/g:=⟨_,rfl⟩
 have hyl:(decDigits y).length<=300:=by
  rw[hy]
  exact Tm (Nat.div_le_self ..) (by decide) hel
 have hyI:(e:Int)/(g:Int)=(y:Int):=by rw[hy];exact(Int.natCast_ediv _ _).symm
 have hnum:Ac (mkRat u e)=if y=1 then itoa x else itoa x++[47]++decDigits y:=by
  by_cases h1:y=1
  ·rw[if_pos h1,HG (by omega) (by rw[hg, <-hy];exact h1),hg, <-hx]
  ·rw[if_neg h1,Kl (by omega) (by rw[hg, <-hy];exact h1),hg, <-hx, <-hy,Fh]
 have lx:=Hq hxl
 obtain⟨c3,hc3,hc4⟩:=FY x
 refine zI (zE (zA (zB (wP I (wP I (wC I I (fun W1 hp=>(Nk u (e:Int) huk.dd hek.dd W1 (ht.hp hp)).cast (v':= .tuple #[str (itoa (g:Int)), .int .i64 0]) (by rw[Int.natAbs_natCast,hg])) (wP I (wP I (wP I (wP I (wP I (Aa (zE (zA (zA (zB (wP I (wP I (Aa (zE (zS I (zI (zE ?_)))))))))))))))))))))))
 refine zA (zB (wP I (wP I (wC I I (fun W1 hp=>(M2 u g hg0 hgu huk.dd hgl W1 (ht.hp hp)).cast (v':= .tuple #[str (itoa x),str [48], .int .i64 0]) (by rw[hx])) (wP I (wP I (wP I (wP I (wP I (wP I (Aa (zE (zA (zA (zB (wP I (wP I (Aa (zE (zS I (zI (zE (zA ?_)))))))))))))))))))))))
 refine zB (wP I (wP I (wC I I (fun W1 hp=>(M2 (e:Int) g hg0 (Int.natCast_dvd_natCast.2 hge) hek.dd hgl W1 (ht.hp hp)).cast (v':= .tuple #[str (decDigits y),str [48], .int .i64 0]) (by rw[hyI,Fh])) (wP I (wP I (wP I (wP I (wP I (wP I (Aa (zE (zA (zA (zB (wP I (wP I (Aa (zE (zS I (zI (zE (zA (zB ?_)))))))))))))))))))))))
 refine wP I (wP I (Aa (zE (zA (zA (zB (wP I (AZ 0 tH I I I I I I I I hc3 (wP I (wU 78 (decide (x<0)) I ((Em c3 45).trans hc4) (Aa (A6 ?_))))))))))))
 try refine Av ?_
 refine AA (X:=Unit) (fun _=>[(0,str (itoa x)),(1,str (decDigits y)),(8,str (decDigits x.natAbs))]) (fun _=>[]) (fun _=>True) ?_ ?_
 ·refine Ah I (fun hn=> ?_) (fun hn=> ?_)
  ·have hn:x<0:=of_decide_eq_true hn
   have ex:itoa x=45::decDigits x.natAbs:=by rw[IC hn,LV (by omega),Int.natAbs_neg]
   refine zB (wP I ?_)
   refine Gj 1 tH I I I I I I I I (by rw[ex,List.length_cons];omega) ?_
   exact Al 80 (str (decDigits x.natAbs)) I (by rw[ex];rfl) (wP I (Aa (An () tO ⟨I,I,I,tO⟩ [] I)))
  ·have hn: ¬x<0:=of_decide_eq_false hn
   exact zI (An () tO ⟨I,I,by rw[<-LV hn];rfl,tO⟩ [] I)
 intro _ _
 refine zA (zA (zB (wP I (wP I (Al 82 (.int .i64 ((decDigits x.natAbs).length:Nat)) I (congrArg (fun n:Nat=>Value.int .i64 (n:Int)) (A3 _)) (wP I (wU 83 false I (dF (by omega)) (wP I (wP I (wP I (Al 86 (.int .i64 ((decDigits y).length:Nat)) I (congrArg (fun n:Nat=>Value.int .i64 (n:Int)) (A3 _)) (wP I (wU 87 false I (dF (by omega)) (wP I (Aa (zE (zS I (zI (zE (zA (zA (zB (wP I (wP I ?_))))))))))))))))))))))))
 by_cases h1:y=1
 ·exact wU 90 true I (by rw[AS,h1,FQ];rfl) (Aa (zE (zR I (zA (zB (wP I (wP I (wP I (Aa (zE (zO (zP (wR2 I I (by rw[hnum,if_pos h1]))))))))))))))
 ·refine wU 90 false I (by rw[AS];exact dF fun h=>h1 (by have:=congrArg AL h;rw[BO] at this;exact this)) (Aa (zE (zS I (zI (zE (zA (zB (wP I (Cm I I I I I (a:=itoa x) (b:=[47]) (by omega) (by decide) ?_)))))))))
  refine wP I ?_
  refine Cm I I I I I (by rw[List.length_append];show _+1<=_;omega) (by omega) ?_
  exact wP I (wP I (Aa (zE (zO (wR2 I I (by rw[hnum,if_neg h1]))))))
theorem Tb (n d m c:Int) (hn:okN n) (hd:okN d) (hm:okN m) (hc:okN c) (hnm:okN (n*m)) (hdc:okN (d*c)) (h0:d*c≠0) (W:World) (ht:A7 W):
  Ad Tryz.prog 228 #[str (itoa n),str (itoa d),str (itoa m),str (itoa c)] W (fun _:Unit=> .tuple #[str (Ac (nrm (n*m) (d*c))), .int .i64 0]) (fun _=>True) (fun _=>[]):=by
 refine Ab (args:=[str (itoa n),str (itoa d),str (itoa m),str (itoa c)]) Tryz.func228 I I I (zA (zB (wP I (wP I (Aa (zE (zA (zB (wP I (wP I (wP I (wP I (wC I I (fun W1 hp=>Qr n m d c hn hm hd hc hnm hdc W1 (ht.hp hp)) (wP I (wP I (wP I (wP I (wP I (wP I (wP I (Aa (zE (zA (zA ?_))))))))))))))))))))))))
 exact zB (wP I (wP I (Aa (zE (zS I (zI (zE (zA (zB (wP I (wP I (wC I I (fun W1 hp=>So (n*m) (d*c) h0 hnm hdc W1 (ht.hp hp)) (wP I (wP I (wP I (wP I (Aa (zE (zO (wR2 I I I))))))))))))))))))))
theorem KX {q:Rat} (h:okQ q):(Ac q).length<=1000:=by
 have:=AP h
 omega
theorem Pk {q:Rat} (h:okQ q) (W:World) (ht:A7 W):Ad Tryz.prog 105 #[str (Ac q)] W (fun _:Unit=> .int .i64 0) (fun _=>True) (fun _=>[]):=
 (Qn (Ac q) (by have:=KX h;omega) W ht).cast (by rw[CV h])
theorem O5 {p q:Rat} (hp':okQ p) (hq:okQ q) (W:World) (ht:A7 W):Ad Tryz.prog 39 #[str (Ac p),str (Ac q)] W (fun _:Unit=> .int .i64 0) (fun _=>True) (fun _=>[]):=by
 refine Ab (args:=[str (Ac p),str (Ac q)]) Tryz.func39 I I I (zA (zB (wP I (Aa (zE (zA (zA (zB (wP I (wC I I (fun W1 hp=>Pk hp' W1 (ht.hp hp)) (wP I (Aa (zE (zA (zB (wP I (wP I (Aa (zE (zS I (zI (zE (zA ?_)))))))))))))))))))))))
 exact zB (wP I (wC I I (fun W1 hp=>Pk hq W1 (ht.hp hp)) (wP I (Aa (zE (zO (wR1 I I I)))))))
def iN (q:Rat):Int:=if Ff q=true then q.num else 0
def iD (q:Rat):Int:=if Ff q=true then((q.den:Nat):Int) else 0
theorem Lt {q:Rat} (h:okQ q):AX Tryz.prog 40 [str (Ac q)] (.tuple #[.int .i64 (iN q), .int .i64 (iD q), .bool (Ff q)]):=fun W=>
 (TC q (by have:=KX h;omega) W).cast (by
  unfold iN iD
  cases Ff q<;>rfl)
theorem ZD {x y:Int} (hx:x.natAbs<1000000000) (hy:y.natAbs<1000000000):(x*y).natAbs<1000000000000000000:=by
 rw[Int.natAbs_mul]
 have:=Nat.mul_lt_mul'' hx hy
 omega
theorem Rg {x y:Int} (hx:x.natAbs<1000000000) (hy:y.natAbs<1000000000):w64 (x*y)=x*y:=by
 have:=ZD hx hy
 exact Ak (by omega) (by omega)
theorem Y6 {n:Nat} (h:n<1000000000):((n:Nat):Int).natAbs<1000000000:=by rw[Int.natAbs_natCast];exact h
def sh2 (p q:Rat):Bool:=Ff p&&Ff q
theorem VR {p q:Rat} (h:sh2 p q=true):iN p=p.num/\iD p=(p.den:Nat)/\iN q=q.num/\iD q=(q.den:Nat)/\p.num.natAbs<1000000000/\p.den<1000000000/\q.num.natAbs<1000000000/\q.den<1000000000:=by
 obtain⟨h1,h2⟩:=Bool.and_eq_true_iff.1 h
 obtain⟨a1,a2⟩:=Li h1
 obtain⟨b1,b2⟩:=Li h2
 exact⟨if_pos h1,if_pos h1,if_pos h2,if_pos h2,a1,a2,b1,b2⟩
theorem JS {q:Rat} (h:okQ q):AX Tryz.prog 41 [str (Ac q)] (.tuple #[str (itoa q.num),str (itoa ((q.den:Nat):Int))]):=fun W=>
 (Sq q (KX h) W).cast (by rw[Fh])
theorem T5 (p q:Rat) (h:Sz2 p q) (h0:q.num≠0) (W:World) (ht:A7 W):
  Ad Tryz.prog 158 #[str (Ac p),str (Ac q)] W (fun _:Unit=> .tuple #[str (Ac (p/q)), .int .i64 0]) (fun _=>True) (fun _=>[]):=by
 have hpn:=p.den_pos
 have hqn:=q.den_pos
 have ra:=Md p q h0
 refine Ab (args:=[str (Ac p),str (Ac q)]) Tryz.func158 I I I (zA (zB (wP I (wP I (Aa (zE (zA (zA (zB (wP I (wP I (wC I I (fun W1 hp=>O5 h.okp h.okq W1 (ht.hp hp)) (wP I (Aa (zE (zA (zB (wP I (wP I (Aa (zE (zS I (zI ?_)))))))))))))))))))))))
 refine zE (zA (zA (zB (wP I (wP I (wU 24 false I ((AS _ _).trans (dF fun e=>h0 (GY.1 e))) (Aa (zE (zS I (zI (zE (zA (zB (wP I (wC I I (fun W _=>Lt h.okp W) (wP I (wP I (wP I (wP I (wP I (wP I (wP I (Aa ?_)))))))))))))))))))))))
 refine zE (zA (zB (wP I (wC I I (fun W _=>Lt h.okq W) (wP I (wP I (wP I (wP I (wP I (wP I (wP I (Aa (A6 (Av (Av (AA (X:=Unit) (fun _=>[(0,str (Ac p)),(1,str (Ac q)),(7, .int .i64 (iN p)),(8, .int .i64 (iD p)),(10, .int .i64 (iN q)),(11, .int .i64 (iD q)),(40, .bool (sh2 p q))]) (fun _=>[]) (fun _=>True) ?_ ?_))))))))))))))))
 ·refine zB (wP I (wP I (AG 38 I (fun h38=> ?_) (fun h38=> ?_))))
  ·exact wP I (wP I (Aa (An () tO ⟨I,I,I,I,I,I,congrArg (fun b=>some (Value.bool b)) (by unfold sh2;simp_all),tO⟩ [] I)))
  ·refine Ae I I ?_
   exact wP I (Aa (An () tO ⟨I,I,I,I,I,I,congrArg (fun b=>some (Value.bool b)) (by unfold sh2;simp_all),tO⟩ [] I))
 intro _ _
 refine Ah I (fun hs=> ?_) (fun hs=> ?_)
 ·obtain⟨e1,e2,e3,e4,l1,l2,l3,l4⟩:=VR hs
  obtain⟨m,hm⟩: ∃m,m=q.num.natAbs:=⟨_,rfl⟩
  obtain⟨c,hc⟩: ∃c:Int,c=if q.num<0 then -((q.den:Nat):Int) else((q.den:Nat):Int):=⟨_,rfl⟩
  have hca:c.natAbs<1000000000:=by rw[hc];split<;>omega
  have hm9:m<1000000000:=by omega
  have m1:=ZD l1 hca
  have m3:=ZD (Y6 l2) (Y6 hm9)
  have hdd:((p.den:Nat):Int)*((m:Nat):Int)=((p.den*m:Nat):Int):=(Int.natCast_mul _ _).symm
  rw[hdd,Int.natAbs_natCast] at m3
  have hpq:0<p.den*m:=Nat.mul_pos hpn (by omega)
  have hr:mkRat (p.num*c) (p.den*m)=p/q:=by
   rw[<-ra]
   unfold nrm
   have hn1:(((p.den:Nat):Int)*q.num).natAbs=p.den*m:=by rw[Int.natAbs_mul,Int.natAbs_natCast,hm]
   rw[hn1]
   by_cases hq:q.num<0
   ·rw[if_pos (Int.mul_neg_of_pos_of_neg (by omega) hq),hc,if_pos hq,Int.mul_neg]
   ·rw[if_neg (by have:=Int.mul_nonneg (show(0:Int)<=(p.den:Nat) by omega) (show 0<=q.num by omega);omega),hc,if_neg hq]
  refine zA (zA (zB (wP I (wP I (wU 42 (decide (q.num<0)) I (by rw[e3]) (Aa (A6 ?_)))))))
  try refine Av ?_
  refine AA (X:=Unit) (fun _=>[(7, .int .i64 (iN p)),(8, .int .i64 (iD p)),(10, .int .i64 (m:Nat)),(11, .int .i64 c)]) (fun _=>[]) (fun _=>True) ?_ ?_
  ·refine Ah I (fun hq=> ?_) (fun hq=> ?_)
   ·have hq:q.num<0:=of_decide_eq_true hq
    exact zB (wP I (wP I (wV 44 (m:Nat) I (by rw[e3];show w64 (0-q.num)=_;rw[Ak (by omega) (by omega)];omega) (wP I (wP I (wV 46 c I (by rw[e4];show w64 (0-((q.den:Nat):Int))=_;rw[Ak (by omega) (by omega),hc,if_pos hq];omega) (wP I (wP I (Aa (An () tO ⟨I,I,I,I,tO⟩ [] I))))))))))
   ·have hq: ¬q.num<0:=of_decide_eq_false hq
    exact zI (An () tO ⟨I,I,congrArg (fun z=>some (Value.int .i64 z)) (by rw[e3];omega),congrArg (fun z=>some (Value.int .i64 z)) (by rw[e4,hc,if_neg hq]),tO⟩ [] I)
  intro _ _
  exact zA (zB (wP I (wP I (wP I (wV 49 (p.num*c) I (by rw[e1];exact Rg l1 hca) (wP I (wP I (wP I (wV 52 ((p.den*m:Nat):Int) I (by rw[e2, <-hdd];exact Rg (Y6 l2) (Y6 hm9)) (wC I I (fun W _=>(Fu (p.num*c) (p.den*m) (by omega) hpq (by omega) W).cast (v':=str (Ac (p/q))) (by rw[hr])) (wP I (wP I (Aa (zE (zO (zP (wR2 I I I)))))))))))))))))
 ·have hd0:((p.den:Nat):Int)*q.num≠0:=Int.mul_ne_zero (by omega) h0
  have hc2:okN (((p.den:Nat):Int)*q.num):=by rw[Int.mul_comm];exact h.c2
  refine zI (zE (zA (zB (wP I (wC I I (fun W _=>JS h.okp W) (wP I (wP I (wP I (wP I (wP I (Aa (zE (zA (zB (wP I (wC I I (fun W _=>JS h.okq W) (wP I (wP I (wP I (wP I (wP I (Aa (zE ?_)))))))))))))))))))))))
  exact zA (zB (wP I (wP I (wP I (wP I (wC I I (fun W1 hp=>(Tb p.num (p.den:Nat) (q.den:Nat) q.num h.okp.1 h.okp.2 h.okq.2 h.okq.1 h.c1 hc2 hd0 W1 (ht.hp hp)).cast (v':= .tuple #[str (Ac (p/q)), .int .i64 0]) (by rw[ra])) (wP I (wP I (wP I (wP I (Aa (zE (zO (wR2 I I I))))))))))))))
def opV (ok:Prop) [Decidable ok] (r:Rat):Value:=if ok then .tuple #[str (Ac r), .int .i64 0] else .tuple #[str [], .int .i64 4]
theorem Nu {ok:Prop} [Decidable ok] {r:Rat} (h:ok):opV ok r= .tuple #[str (Ac r), .int .i64 0]:=if_pos h
theorem SU {ok:Prop} [Decidable ok] {r:Rat} (h: ¬ok):opV ok r= .tuple #[str [], .int .i64 4]:=if_neg h
instance (z:Int):Decidable (okN z):=inferInstanceAs (Decidable (z.natAbs<Bi))
def Je (p q:Rat):Prop:=okN (p.num*(q.den:Nat))/\okN (q.num*(p.den:Nat))/\okN ((p.den:Nat)*(q.den:Nat))/\okN (p.num*(q.den:Nat)+q.num*(p.den:Nat))
instance (p q:Rat):Decidable (Je p q):=inferInstanceAs (Decidable (_/\_/\_/\_))
def H6 (p q:Rat):Prop:=okN (p.num*q.num)/\okN ((p.den:Nat)*(q.den:Nat))
def BV (p q:Rat):Prop:=okN (p.num*(q.den:Nat))/\okN (q.num*(p.den:Nat))
instance (p q:Rat):Decidable (H6 p q):=inferInstanceAs (Decidable (_/\_))
instance (p q:Rat):Decidable (BV p q):=inferInstanceAs (Decidable (_/\_))
def cmV (p q:Rat):Value:=if BV p q then .tuple #[.int .i64 (CU p q), .int .i64 0] else .tuple #[.int .i64 0, .int .i64 4]
theorem LO (p q:Rat) (hp:okQ p) (hq:okQ q) (h1: ¬okN (p.num*(q.den:Nat))) (W:World) (ht:A7 W):
  Ad Tryz.prog 85 #[CF p,CF q] W (fun _:Unit=> .tuple #[str [],str [], .int .i64 4]) (fun _=>True) (fun _=>[]):=by
 refine Ab (args:=[CF p,CF q]) Tryz.func85 I I I (zA (zB (wF I I fun _=>(wF I I fun _=>(wP I (wP I (wP I (Aa (zE (zA (zB (wP I (wB 0 I I I (wP I (wB 1 I I I (wC I I (fun W h=>(BX p.num (q.den:Nat) hp.1 hq.2 W (ht.hp h)).cast (IJ h1)) (wP I (wP I (wP I (wP I (wP I (Aa (zE ?_)))))))))))))))))))))))
 exact zA (zA (zB (wP I (wP I (Aa (zE (zR I (zA (zB (wP I (wP I (wP I (wP I (Aa (zE (zO (zP (wR3 I I I))))))))))))))))))
theorem LK (p q:Rat) (hp:okQ p) (hq:okQ q) (h1:okN (p.num*(q.den:Nat))) (h2: ¬okN (q.num*(p.den:Nat))) (W:World) (ht:A7 W):
  Ad Tryz.prog 85 #[CF p,CF q] W (fun _:Unit=> .tuple #[str (itoa (p.num*(q.den:Nat))),str [], .int .i64 4]) (fun _=>True) (fun _=>[]):=by
 refine Ab (args:=[CF p,CF q]) Tryz.func85 I I I (zA (zB (wF I I fun _=>(wF I I fun _=>(wP I (wP I (wP I (Aa (zE (zA (zB (wP I (wB 0 I I I (wP I (wB 1 I I I (wC I I (fun W h=>(BX p.num (q.den:Nat) hp.1 hq.2 W (ht.hp h)).cast (FJ h1)) (wP I (wP I (wP I (wP I (wP I (Aa (zE ?_)))))))))))))))))))))))
 refine zA (zA (zB (wP I (wP I (Aa (zE (zS I (zI (zE (zA (zB (wP I (wB 1 I I I (wP I (wB 0 I I I (wC I I (fun W h=>(BX q.num (p.den:Nat) hq.1 hp.2 W (ht.hp h)).cast (IJ h2)) (wP I (wP I (wP I (wP I (wP I (Aa (zE ?_)))))))))))))))))))))))
 exact zA (zB (wP I (wP I (wP I (wP I (wP I (wP I (Aa (zE (zO (wR3 I I I)))))))))))
theorem Iz (p q:Rat) (hp:okQ p) (hq:okQ q) (h: ¬BV p q): ∃s, ∀(W:World) (_:A7 W),
  Ad Tryz.prog 85 #[CF p,CF q] W (fun _:Unit=> .tuple #[str s,str [], .int .i64 4]) (fun _=>True) (fun _=>[]):=by
 by_cases h1:okN (p.num*(q.den:Nat))
 ·exact⟨_,fun W ht=>LK p q hp hq h1 (fun h2=>h ⟨h1,h2⟩) W ht⟩
 ·exact⟨_,fun W ht=>LO p q hp hq h1 W ht⟩
theorem Qi (p q r:Rat) (b h:Nat) (z:Int) (hp:okQ p) (hq:okQ q) (hr:nrm z ((p.den:Nat)*(q.den:Nat))=r) (hE:AO Tryz.prog h=true)
  (hop:BV p q-> ∀W,A7 W->Ad Tryz.prog h #[str (itoa (p.num*(q.den:Nat))),str (itoa (q.num*(p.den:Nat)))] W (fun _:Unit=>Lg z) (fun _=>True) (fun _=>[])) (W:World) (ht:A7 W) (hrow:Ai W b 0 [.func (.func h) #[] #[]]):
  Ad Tryz.prog 150 #[CF p,CF q,Af b] W (fun _:Unit=>if BV p q/\okN z/\okN ((p.den:Nat)*(q.den:Nat)) then .tuple #[str (Ac r), .int .i64 0] else .tuple #[str [], .int .i64 4]) (fun _=>True) (fun _=>[]):=by
 by_cases hx:BV p q
 ·by_cases hz:okN z
  ·by_cases hd:okN ((p.den:Nat)*(q.den:Nat))
   ·rw[if_pos ⟨hx,hz,hd⟩]
    exact(Ih p q b h z hp hq hx.1 hx.2 hz hd hE (fun W2 h2=>(hop hx W2 h2).cast (FJ hz)) W ht hrow).cast (by rw[hr])
   ·rw[if_neg fun e=>hd e.2.2]
    refine Ab (args:=[CF p,CF q,Af b]) Tryz.func150 I I I (zA (zB (wF I I fun _=>(wF I I fun _=>(wP I (wP I (Aa (zE (zA (zB (wB 0 I I I (wB 1 I I I (wC I I (fun W h=>Dd p q hp hq hx.1 hx.2 W (ht.hp h)) (wP I (wP I (wP I (wP I (wP I (wP I (wP I (Aa (zE (zA (zA ?_))))))))))))))))))))))))
    refine zB (wP I (wP I (Aa (zE (zS I (zI (zE (zA (zB (wL 0 I I (fun W h=>hrow.hp h) I (wP I (wP I (Bp (capt:=[]) I I I I I I hE (fun W h=>(hop hx W (ht.hp h)).cast (FJ hz)) (wP I (wP I (wP I (wP I (wP I (Aa (zE (zA (zA (zB ?_)))))))))))))))))))))))
    refine wP I (wP I (Aa (zE (zS I (zI (zE (zA (zB (wP I (wB 0 I I I (wP I (wB 1 I I I (wC I I (fun W h=>(BX (p.den:Nat) (q.den:Nat) hp.2 hq.2 W (ht.hp h)).cast (IJ hd)) (wP I (wP I (wP I (wP I (wP I (Aa (zE (zA (zA (zB ?_)))))))))))))))))))))))
    exact wP I (wP I (Aa (zE (zR I (zA (zB (wP I (wP I (wP I (Aa (zE (zO (zP (wR2 I I I))))))))))))))
  ·rw[if_neg fun e=>hz e.2.1]
   refine Ab (args:=[CF p,CF q,Af b]) Tryz.func150 I I I (zA (zB (wF I I fun _=>(wF I I fun _=>(wP I (wP I (Aa (zE (zA (zB (wB 0 I I I (wB 1 I I I (wC I I (fun W h=>Dd p q hp hq hx.1 hx.2 W (ht.hp h)) (wP I (wP I (wP I (wP I (wP I (wP I (wP I (Aa (zE (zA (zA ?_))))))))))))))))))))))))
   refine zB (wP I (wP I (Aa (zE (zS I (zI (zE (zA (zB (wL 0 I I (fun W h=>hrow.hp h) I (wP I (wP I (Bp (capt:=[]) I I I I I I hE (fun W h=>(hop hx W (ht.hp h)).cast (IJ hz)) (wP I (wP I (wP I (wP I (wP I (Aa (zE (zA (zA (zB ?_)))))))))))))))))))))))
   exact wP I (wP I (Aa (zE (zR I (zA (zB (wP I (wP I (wP I (Aa (zE (zO (zP (wR2 I I I))))))))))))))
 ·rw[if_neg fun e=>hx e.1]
  obtain⟨s,hs⟩:=Iz p q hp hq hx
  refine Ab (args:=[CF p,CF q,Af b]) Tryz.func150 I I I (zA (zB (wF I I fun _=>(wF I I fun _=>(wP I (wP I (Aa (zE (zA (zB (wB 0 I I I (wB 1 I I I (wC I I (fun W h=>hs W (ht.hp h)) (wP I (wP I (wP I (wP I (wP I (wP I (wP I (Aa (zE (zA (zA ?_))))))))))))))))))))))))
  exact zB (wP I (wP I (Aa (zE (zR I (zA (zB (wP I (wP I (wP I (Aa (zE (zO (zP (wR2 I I I)))))))))))))))
theorem VB {p q:Rat}:Je p q↔BV p q/\okN (p.num*(q.den:Nat)+q.num*(p.den:Nat))/\okN ((p.den:Nat)*(q.den:Nat)):=⟨fun h=>⟨⟨h.1,h.2.1⟩,h.2.2.2,h.2.2.1⟩,fun h=>⟨h.1.1,h.1.2,h.2.2,h.2.1⟩⟩
theorem EB {p q:Rat}:Je p (-q)↔BV p q/\okN (p.num*(q.den:Nat)-q.num*(p.den:Nat))/\okN ((p.den:Nat)*(q.den:Nat)):=by
 have e:(-q).num= -q.num:=rfl
 have d:(-q).den=q.den:=rfl
 unfold Je BV okN
 rw[e,d,Int.neg_mul,Int.natAbs_neg, <-Int.sub_eq_add_neg]
 exact⟨fun h=>⟨⟨h.1,h.2.1⟩,h.2.2.2,h.2.2.1⟩,fun h=>⟨h.1.1,h.1.2,h.2.2,h.2.1⟩⟩
theorem Y8 {a ok:Prop} [Decidable a] [Decidable ok] (h:ok↔a) (r:Rat):(if a then Value.tuple #[str (Ac r), .int .i64 0] else .tuple #[str [], .int .i64 4])=opV ok r:=by
 by_cases c:a
 ·rw[if_pos c,Nu (h.2 c)]
 ·rw[if_neg c,SU fun e=>c (h.1 e)]
theorem UK (ok:Prop) [Decidable ok] (r:Rat): ∃s e,opV ok r= .tuple #[str s, .int .i64 e]:=by unfold opV;split<;>exact⟨_,_,rfl⟩
theorem Tq {p q:Rat} (hs:smQ p/\smQ q):Je p q/\Je p (-q)/\H6 p q/\BV p q:=by
 have m1:=Dj hs.1.1 (CX q hs.2)
 have m2:=Dj hs.2.1 (CX p hs.1)
 have m3:=Dj (CX p hs.1) (CX q hs.2)
 have m4:=Dj hs.1.1 hs.2.1
 have k: ∀z:Int,z.natAbs<10^18->okN z:=fun z h=>MG (Nat.lt_trans h (by decide))
 have d1:BV p q:=⟨k _ (by omega),k _ (by omega)⟩
 exact⟨VB.2 ⟨d1,k _ (by omega),k _ (by omega)⟩,EB.2 ⟨d1,k _ (by omega),k _ (by omega)⟩,⟨k _ (by omega),k _ (by omega)⟩,d1⟩
theorem Sc (p q:Rat) (hkp:okQ p) (hkq:okQ q) (W0:World) (hv:AE W0) (ht:A7 W0):
  Ad Tryz.prog 21 #[str (Ac p),str (Ac q)] W0 (fun _:Unit=>opV (Je p (-q)) (p-q)) (fun _=>True) (fun _=>[]):=by
 obtain⟨rs,re,hr⟩:=UK (Je p (-q)) (p-q)
 have hlp:=AP hkp
 have hlq:=AP hkq
 refine Ab (args:=[str (Ac p),str (Ac q)]) Tryz.func21 I I I (zA (zB (wP I (wP I (Aa (zE (zA (zA (zB (wP I (wP I ?_)))))))))))
 have hquick: ∀W,A7 W->Ad Tryz.prog 64 #[str (Ac p),str (Ac q), .func (.func 76) #[] #[]] W (fun _:Unit=>if smQ p/\smQ q then .tuple #[str (Ac (p-q)), .bool true] else .tuple #[str [], .bool false]) (fun _=>True) (fun _=>[]):=
  fun W ht=>Ea p q (p-q) (p.num*(q.den:Nat)-q.num*(p.den:Nat)) ((p.den:Nat)*(q.den:Nat)) _ (by kernel_rfl) (by omega) (by omega) (fun hp hq=>by
   have m1:=Dj hp.1 (CX q hq)
   have m2:=Dj hq.1 (CX p hp)
   have m3:=Dj (CX p hp) (CX q hq)
   exact⟨NS _ _ _ _ hp.1 (CX p hp) hq.1 (CX q hq),DP,by omega,by omega,IB p q⟩) W ht
 by_cases hs:smQ p/\smQ q
 ·exact wC I I (fun W h=>(hquick W (ht.hp h)).cast (if_pos hs)) (wP I (wP I (wP I (wP I (wP I (Aa (zE (zA (zB (wP I (Aa (zE (zR I (zA (zB (wP I (wP I (wP I (Aa (zE (zO (zP (A0 tH I (.tmp I) (.tmp I) () (Nu (Tq hs).2.1).symm tO fun W _=>As.nil _ _)))))))))))))))))))))))
 ·refine wC I I (fun W h=>(hquick W (ht.hp h)).cast (if_neg hs)) (wP I (wP I (wP I (wP I (wP I (Aa (zE (zA (zB (wP I (Aa (zE (zS I (zI (zE (zA (zB (wP I (wP I (wD (X:=Nat) I I (fun W _=>FH 77 W) ?_))))))))))))))))))))
  intro b18 _
  exact wC I I (fun W hp=>Eb p q rs re 150 [Af b18] hkp hkq W (hv.hp hp) (ht.hp hp) (by kernel_rfl) (fun W' hb=>(Qi p q (p-q) b18 77 (p.num*(q.den:Nat)-q.num*(p.den:Nat)) hkp hkq (IB p q) (by kernel_rfl) (fun hx W2 ht2=>Mz _ _ hx.1 hx.2 W2 ht2) W' ((ht.hp hp).below hb) ((Ai.of_bx hp 0 I I).below (Nat.le_refl _) hb)).cast ((Y8 EB _).trans hr))) (wP I (wP I (wP I (wP I (Aa (zE (zO (wR2 I I hr.symm))))))))
theorem SH (p q:Rat) (hp:okQ p) (hq:okQ q) (hno: ¬H6 p q) (W:World) (ht:A7 W):
  Ad Tryz.prog 67 #[CF p,CF q] W (fun _:Unit=> .tuple #[str [], .int .i64 4]) (fun _=>True) (fun _=>[]):=by
 refine Ab (args:=[CF p,CF q]) Tryz.func67 I I I (zA (zB (wF I I fun _=>(wF I I fun _=>(wP I (wP I (Aa (zE (zA (zB (wP I (wB 0 I I I (wP I (wB 1 I I I ?_))))))))))))))
 by_cases hz:okN (p.num*q.num)
 ·refine wC I I (fun W h=>(BX p.num q.num hp.1 hq.1 W (ht.hp h)).cast (FJ hz)) (wP I (wP I (wP I (wP I (wP I (Aa (zE (zA (zA (zB (wP I (wP I (Aa (zE (zS I (zI (zE (zA (zB (wP I (wB 0 I I I (wP I (wB 1 I I I ?_)))))))))))))))))))))))
  refine wC I I (fun W h=>(BX (p.den:Nat) (q.den:Nat) hp.2 hq.2 W (ht.hp h)).cast (IJ fun hd=>hno ⟨hz,hd⟩)) (wP I (wP I (wP I (wP I (wP I (Aa (zE (zA (zA (zB (wP I (wP I (Aa (zE (zR I (zA (zB (wP I (wP I (wP I (Aa (zE (zO ?_)))))))))))))))))))))))
  exact zP (wR2 I I I)
 ·refine wC I I (fun W h=>(BX p.num q.num hp.1 hq.1 W (ht.hp h)).cast (IJ hz)) (wP I (wP I (wP I (wP I (wP I (Aa (zE (zA (zA (zB (wP I (wP I (Aa (zE (zR I (zA (zB (wP I (wP I (wP I (Aa (zE (zO ?_)))))))))))))))))))))))
  exact zP (wR2 I I I)
theorem Su (p q:Rat) (hp:okQ p) (hq:okQ q) (W:World) (ht:A7 W):
  Ad Tryz.prog 67 #[CF p,CF q] W (fun _:Unit=>opV (H6 p q) (p*q)) (fun _=>True) (fun _=>[]):=by
 by_cases h:H6 p q
 ·exact(Ng p q hp hq h.1 h.2 W ht).cast (Nu h).symm
 ·exact(SH p q hp hq h W ht).cast (SU h).symm
theorem S2 (p q:Rat) (hkp:okQ p) (hkq:okQ q) (W0:World) (hv:AE W0) (ht:A7 W0):
  Ad Tryz.prog 18 #[str (Ac p),str (Ac q)] W0 (fun _:Unit=>opV (H6 p q) (p*q)) (fun _=>True) (fun _=>[]):=by
 obtain⟨rs,re,hr⟩:=UK (H6 p q) (p*q)
 have hlp:=AP hkp
 have hlq:=AP hkq
 refine Ab (args:=[str (Ac p),str (Ac q)]) Tryz.func18 I I I (zA (zB (wP I (wP I (Aa (zE (zA (zA (zB (wP I (wP I ?_)))))))))))
 have hquick: ∀W,A7 W->Ad Tryz.prog 64 #[str (Ac p),str (Ac q), .func (.func 65) #[] #[]] W (fun _:Unit=>if smQ p/\smQ q then .tuple #[str (Ac (p*q)), .bool true] else .tuple #[str [], .bool false]) (fun _=>True) (fun _=>[]):=
  fun W ht=>Ea p q (p*q) (p.num*q.num) ((p.den:Nat)*(q.den:Nat)) _ (by kernel_rfl) (by omega) (by omega) (fun hp hq=>by
   have m1:=Dj hp.1 hq.1
   have m3:=Dj (CX p hp) (CX q hq)
   exact⟨MC _ _ _ _ hp.1 (CX p hp) hq.1 (CX q hq),DP,by omega,by omega,Kh p q⟩) W ht
 by_cases hs:smQ p/\smQ q
 ·exact wC I I (fun W h=>(hquick W (ht.hp h)).cast (if_pos hs)) (wP I (wP I (wP I (wP I (wP I (Aa (zE (zA (zB (wP I (Aa (zE (zR I (zA (zB (wP I (wP I (wP I (Aa (zE (zO (zP (A0 tH I (.tmp I) (.tmp I) () (Nu (Tq hs).2.2.1).symm tO fun W _=>As.nil _ _)))))))))))))))))))))))
 ·refine wC I I (fun W h=>(hquick W (ht.hp h)).cast (if_neg hs)) (wP I (wP I (wP I (wP I (wP I (Aa (zE (zA (zB (wP I (Aa (zE (zS I (zI (zE (zA (zB (wP I (wP I (wC I I (fun W hp=>Eb p q rs re 67 [] hkp hkq W (hv.hp hp) (ht.hp hp) (by kernel_rfl) (fun W' hb=>(Su p q hkp hkq W' ((ht.hp hp).below hb)).cast hr)) (wP I (wP I (wP I (wP I ?_))))))))))))))))))))))))
  exact Aa (zE (zO (wR2 I I hr.symm)))
def L0 (p q:Rat):Prop:=Je p (-q)
instance (p q:Rat):Decidable (L0 p q):=inferInstanceAs (Decidable (Je p (-q)))
theorem Uc {z d:Int} (hd:d≠0) (hz:okN z) (hk:okN d):okQ (nrm z d):=(H4 (k:=mxd) z hd hz hk).ok (by decide)
theorem VM {p q:Rat} (h:L0 p q):okQ (p-q):=by
 rw[<-IB]
 have h':=EB.1 h
 exact Uc DP h'.2.1 h'.2.2
theorem US {p q:Rat} (h:H6 p q):okQ (p*q):=by
 rw[<-Kh]
 exact Uc DP h.1 h.2
def okP (p:At):Prop:=okQ p.1/\okQ p.2
abbrev PtS:=List UInt8×List UInt8
def Rd (W:World) (p:Option Addr) (l:List PtS):Prop:=l=[]\/ ∃b off,p=some ⟨b,off,none⟩/\ ∀i (hi:i<l.length),Ai W b (off+i*2) [str l[i].1,str l[i].2]
theorem Rd.hp {W0 W:World} {bxs:List Bx} {p:Option Addr} {l:List PtS} (h:Rd W0 p l) (hp:Hp W0 bxs W):Rd W p l:=by
 rcases h with h|⟨b,off,e,h⟩
 ·exact Or.inl h
 ·exact Or.inr ⟨b,off,e,fun i hi=>(h i hi).hp hp⟩
def Oj:List PtS->Int
 |[]=>0
 |x::l=>if (rdR x.1).2≠0 then(rdR x.1).2 else if (rdR x.2).2≠0 then(rdR x.2).2 else Oj l
theorem Vg {l:List PtS} {i:Nat} (h:i<l.length):Oj (l.drop i)=if (rdR l[i].1).2≠0 then(rdR l[i].1).2 else if (rdR l[i].2).2≠0 then(rdR l[i].2).2 else Oj (l.drop (i+1)):=by
 rw[List.drop_eq_getElem_cons h]
 rfl
section
variable {P:Program} {N:Nat} {D:List Deferred} {ops:List Oper} {o:Oper} {rest:List Oper} {env:Env} {A A2:World->Prop} {R:Act->World->Prop}
theorem Vp (k:Nat) {d:Nat} {t e:TypeId} {m:Nat} {parts:Array (Nat×Operand)} {vs:List (Nat×Value)} (z:Value) {c:List Value} (ht:P.underlying t=some (.array m e)) (hz: ∀W,(zeroValue t).run P W= .ok z W) (hs: ∀W,(Go.sizeOf e).run P W= .ok k W)
  (hg:Ay ops N env o=some true) (hd:o.dst=some d) (ho:o.op= .build t parts) (hp:DM (evO N env) parts.toList=some vs) (hc:Gd (Jr k) z.cells.toList vs=some c)
  (h:WQ P N D ops A2 R rest ((d, .agg c.toArray)::env) A):WQ P N D ops A2 R (o::rest) env A:=
 DS hg hd (fun c e=>by rw[ho] at e;cases e) (fun ρ W hρ _=>by
  have hparts:(parts.map fun(i,x)=>(i,ρ x)).toList=vs:=by rw[<-Ee hρ hp];simp
  have hfill:=Kp hc
  simp only[Array.toArray_toList] at hfill
  have hfill':Instr.fill (fun i=>some (i*k,k)) z.cells (parts.map fun(i,x)=>(i,ρ x)).toList=some c.toArray:=by rw[hparts];exact hfill
  simp only[execOp,ho,Instr.build,Sem.run_bind,hz,Result.andThen_ok,run_underlying ht,hs,Sem.run_pure]
  rw[hfill']
  simp) h
end
section
variable {r:Option Nat} {n:Nat} {P:Program} {N:Nat} {D:List Deferred} {ops:List Oper} {Q:Exit->Act->World->Prop} {o:Oper} {rest:List Oper} {env:Env} {A A2:World->Prop} {R:Act->World->Prop}
theorem IY {ρ:Operand->Value} {t e:TypeId} {m c:Nat} {x y:Operand} {k:IntKind} {b off:Nat} {z:Int} (ht:P.underlying t=some (.array m e)) (hs: ∀W,(Go.sizeOf e).run P W= .ok c W) (ho:o.op= .indexAddr t x y)
  (hx:ρ x= .pointer (some ⟨b,off,none⟩)) (hy:ρ y= .int k z) (h0:0<=z/\z<m) (W:World):(execOp ρ o).run P W= .ok (.value (.pointer (some ⟨b,off+z.toNat*c,none⟩))) W:=by
 simp[execOp,ho,hx,hy,Instr.indexAt,Instr.sureAddr,asIntOf,run_underlying ht,hs,h0.1,h0.2,Addr.add_none]
theorem Ex {d:Nat} {t e:TypeId} {m c:Nat} {x y:Operand} {k:IntKind} {b off:Nat} {z:Int} (ht:P.underlying t=some (.array m e)) (hs: ∀W,(Go.sizeOf e).run P W= .ok c W) (hg:Ay ops N env o=some true) (hd:o.dst=some d) (ho:o.op= .indexAddr t x y)
  (hx:evO N env x=some (.pointer (some ⟨b,off,none⟩))) (hy:evO N env y=some (.int k z)) (h0:0<=z/\z<m)
  (h:WL r n P N D ops Q rest ((d, .pointer (some ⟨b,off+z.toNat*c,none⟩))::env) A):WL r n P N D ops Q (o::rest) env A:=
 CJ hg hd (fun c e=>by rw[ho] at e;cases e) (fun _ W hρ _=>IY ht hs ho (hρ _ _ hx) (hρ _ _ hy) h0 W) h
theorem By {d:Nat} {t e:TypeId} {m c:Nat} {x y:Operand} {k:IntKind} {b off:Nat} {z:Int} (ht:P.underlying t=some (.array m e)) (hs: ∀W,(Go.sizeOf e).run P W= .ok c W) (hg:Ay ops N env o=some true) (hd:o.dst=some d) (ho:o.op= .indexAddr t x y)
  (hx:evO N env x=some (.pointer (some ⟨b,off,none⟩))) (hy:evO N env y=some (.int k z)) (h0:0<=z/\z<m)
  (h:WQ P N D ops A2 R rest ((d, .pointer (some ⟨b,off+z.toNat*c,none⟩))::env) A):WQ P N D ops A2 R (o::rest) env A:=
 DS hg hd (fun c e=>by rw[ho] at e;cases e) (fun _ W hρ _=>IY ht hs ho (hρ _ _ hx) (hρ _ _ hy) h0 W) h
end
def BY (W:World) (p:Option Addr) (l:List At):Prop:=l=[]\/ ∃b off,p=some ⟨b,off,none⟩/\ ∀i (hi:i<l.length),Ai W b (off+i*2) [str (Ac l[i].1),str (Ac l[i].2)]
theorem BY.below {W W':World} {p:Option Addr} {l:List At} {n:Nat} (h:BY W p l) (hn:W.heap.size<=n) (hb:Below n W W'):BY W' p l:=by
 rcases h with h|⟨b,off,h1,h2⟩
 ·exact .inl h
 ·exact .inr ⟨b,off,h1,fun i hi=>(h2 i hi).below hn hb⟩
theorem BY.hp {W0 W:World} {bxs:List Bx} {p:Option Addr} {l:List At} (h:BY W0 p l) (hp:Hp W0 bxs W):BY W p l:=h.below (Nat.le_refl _) hp.below
theorem BY.at_ {W:World} {p:Option Addr} {l:List At} (h:BY W p l) {i:Nat} (hi:i<l.length): ∃g off,p=some ⟨g,off,none⟩/\ ∀k (hk:k<l.length),Ai W g (off+k*2) [str (Ac l[k].1),str (Ac l[k].2)]:=by
 rcases h with h|⟨g,off,e,h⟩
 ·rw[h] at hi;exact absurd hi (Nat.not_lt_zero _)
 ·exact⟨g,off,e,h⟩
abbrev ptS (q:At):PtS:=(Ac q.1,Ac q.2)
structure Xq (b:Nat) (p:Option Addr) (cap:Nat) (l:List At) (W:World):Prop where
 var:Ai W b 0 [slv p l.length cap]
 pts:BY W p l
abbrev sdV (p q:At):Value:= .agg #[str (Ac p.1),str (Ac p.2),str (Ac q.1),str (Ac q.2)]
abbrev Zw (l:List At) (k:Nat):List Value:=[.int .i64 (k:Nat),sdV (Au l k) (Au l (k+1))]
theorem Fy (p:Option Addr) (n cap:Nat) (W:World):Ad Tryz.prog 282 #[slv p n cap] W (fun b:Nat=> .func (.func 328) #[] #[Af b]) (fun _=>True) (fun b=>[⟨b,210,[slv p n cap],true,none⟩]):=by
 refine Ab (args:=[slv p n cap]) Tryz.func282 I I I (zA (zB (wF I I fun _=>(wP I (Aa ?_)))))
 rename_i b
 exact zE (zA (zB (wP I (wP I (Aa (zE (zO (Ax tH I (.tmp I) b I tO fun W1 hp=>As.of_hp hp))))))))
abbrev Ot (b:Nat) (q:At):List (Nat×Obj):=[(b, .cells (cvV q).cells 62 (0,0))]
theorem Gp (l:List At) (b1:Nat) (p:Option Addr) (cap:Nat) (hn:l.length<1099511627776):Pm Tryz.prog 328 [Af b1] l.length (Zw l) (fun _=>Xq b1 p cap l):=by
 refine⟨fun y J Jx hN hB hA hU hY W hJ=> ?_⟩
 have hdr: ∀k L W,J k L W->J k L { W with drawn:=W.drawn+1 }:=fun k L W h=>hB k L W _ h ⟨rfl,rfl,rfl,Nat.le_refl _,fun _ _=>rfl⟩
 have hp0:=(hN _ _ W hJ).1.pts
 refine CT (args:=[.func (.yield y) #[] #[],Af b1]) (J0:=J 0 []) (Jm:=fun W=> ∃L,J l.length L W) Tryz.func328 I I I hJ ?_
 refine zA (zB (wL 0 I I (fun W hp=>(hN _ _ W hp).1.var) I (wP I (wP I (Aa (zE (zH ?_)))))))
 refine Db (X:=Nat×List (Nat×Obj)) (fun s=>[(0, .func (.yield y) #[] #[]),(1,Af b1),(5,slv p l.length cap),(6, .int .i64 (l.length:Nat)),(7, .int .i64 (s.1:Nat))]) (fun s W=>J s.1 s.2 W)
  (fun s=>s.1<=l.length) (fun s=>l.length-s.1) (0,[]) (Nat.zero_le _) ⟨rfl,rfl,rfl,rfl,rfl,trivial⟩ (fun W hp=>hp) ?_
 rintro⟨i,L⟩ hi
 have hi:i<=l.length:=hi
 refine zA (zB (wP I ?_))
 by_cases hlt:i<l.length
 rotate_left
 ·refine wU 8 false I (dF (by omega)) (Aa (zE (zA (zS I (zJ (zK (zK (zL ?_))))))))
  exact Fv I fun W hp=>⟨L,by
   have e:i=l.length:=by omega
   have hp:J i L W:=hp
   rw[e] at hp
   exact hp⟩
 refine wU 8 true I (dT (by omega)) (Aa (zE (zA (zR I (zI (zE (zA (zH (zA (zB ?_))))))))))
 have hn0:0<l.length:=by omega
 have l2:(i+1)%l.length<l.length:=Nat.mod_lt _ hn0
 obtain⟨g,off,hpe,hrow⟩: ∃g off,p=some ⟨g,off,none⟩/\ ∀W k L,J k L W-> ∀j,j<l.length->Ai W g (off+j*2) [str (Ac (Au l j).1),str (Ac (Au l j).2)]:=by
  obtain⟨g,off,e,_⟩:=hp0.at_ hlt
  refine⟨g,off,e,fun W1 k L1 h1 j hj=> ?_⟩
  obtain⟨g',off',e',h2⟩:=(hN _ _ W1 h1).1.pts.at_ hj
  rw[e] at e'
  cases e'
  rw[Dk hj]
  exact h2 j hj
 subst hpe
 have hz:(l.length:Int)≠0:=by omega
 have e2:(w64 ((i:Int)+1)).tmod (l.length:Int)=(((i+1)%l.length:Nat):Int):=by
  rw[Ak (x:=(i:Int)+1) (by omega) (by omega)]
  rfl
 refine wP I (wJ ?_)
 refine wL 0 I I (fun W hp=>hrow W _ _ hp i hlt) I (KA (fun b W=>J i [(b, .cells (Value.agg #[str [],str []]).cells 62 (0,0))] W) I I I (Tryz.hZ.get I) (fun W W' b hp hb hl ho=>hA _ _ W W' b _ hp hb hl ho) fun b=> ?_)
 refine wP I (KC (cs:=[str [],str []]) (ty:=62) (fun W=>J i (Ot b (Au l i)) W) tH I I I I I I (fun W hp=>(hN _ _ W hp).2 (b,_) (List.mem_cons_self ..)) I I I (fun W W' hp hu=>hU _ _ _ _ W W' hp hu) ?_)
 refine Aa (zE (Av (QI 12 (hdr _ _) Tryz.mixed (by kernel_rfl) I ?_)))
 refine qP I (qP I (qL 0 I I (fun W hp=>show Ai W b 0 (cvV (Au l i)).cells.toList from Ai.of_block ((hN _ _ W hp).2 (b,_) (List.mem_cons_self ..))) I (qL 0 I I (fun W hp=>(hN _ _ W hp).1.var) I (qP I (qP I (qL 0 I I (fun W hp=>(hN _ _ W hp).1.var) I (qP I (DB I I I I I hz ?_))))))))
 refine qV 20 (((i+1)%l.length:Nat):Int) I e2 (qJ ?_)
 refine qL 0 I I (fun W hp=>hrow W _ _ hp ((i+1)%l.length) l2) I (Vp 2 (.agg #[str [],str [],str [],str []]) Tryz.underlying321 (fun W=>by kernel_rfl) Tryz.sizeOf62 I I I I I ?_)
 refine A8 ?_
 have hYk: ∀W,J i (Ot b (Au l i)) W->YieldAt (Fw none) 0 Tryz.prog y (Zw l i).toArray W fun e W'=>(e= .returned (.bool true)/\J (i+1) (Ot b (Au l i)) W')\/(e= .returned (.bool false)/\Jx W'):=fun W h=>hY _ _ W hlt h
 unfold Zw at hYk
 rw[<-KG l (i+1)] at hYk
 refine Eo (A1:=fun W=>J (i+1) (Ot b (Au l i)) W) (A2:=Jx) I I I I I I hYk ?_ ?_
 rotate_left
 ·exact wP I (Aa (zE (zR I (zO (zQ (zP (zP (zQ (Ce I (fun W h=>h))))))))))
 exact wP I (Aa (zE (zS I (zI (zN (zE (zB (wP I (wV 26 ((i+1:Nat):Int) I (Aw (by omega)) (wP I (Aa (Da (i+1,Ot b (Au l i)) hlt (by show l.length-(i+1)<l.length-i;omega) ⟨I,I,I,I,I,tO⟩ (fun W hp=>hp)))))))))))))
theorem Mj (W:World) (p:Option Addr) (cap:Nat) (l:List PtS) (hA:Rd W p l) (hn:l.length<4611686018427387904) (hs: ∀x∈l,x.1.length<=4000000000/\x.2.length<=4000000000) (hv:AE W) (ht:A7 W):
  Ad Tryz.prog 318 #[slv p l.length cap] W (fun _:Unit=> .int .i64 (Oj l)) (fun _=>True) (fun _=>[]):=by
 refine Ab (args:=[slv p l.length cap]) Tryz.func318 I I I (zA (zB (wP I (Aa (zE (zA (zA (zB (wP I (wP I (wP I (Aa (zE (zH (Ar (X:=Nat) (fun i=>[(2, .int .i64 0),(8,slv p l.length cap),(9, .int .i64 (l.length:Nat)),(10, .int .i64 (i:Nat))]) (fun _=>[]) (fun i=>i<=l.length/\Oj l=Oj (l.drop i)) (fun i=>l.length-i) 0 ⟨Nat.zero_le _,I⟩ ⟨I,I,I,I,tO⟩ [] I ?_)))))))))))))))
 rintro i ⟨hi,he⟩
 have hi:i<=l.length:=hi
 have he:Oj l=Oj (l.drop i):=he
 refine zA (zB (wP I ?_))
 by_cases hlt:i<l.length
 rotate_left
 ·exact wU 11 false I (dF (by omega)) (Aa (zE (zA (zS I (zJ (zK (zK (zL (zE (zA (zB (wP I (Aa (zE (zO (wR1 I I (by rw[he,List.drop_of_length_le (by omega)];rfl)))))))))))))))))
 refine wU 11 true I (dT (by omega)) (Aa (zE (zA (zR I (zI (zE (zA (zH (zA (zB ?_))))))))))
 obtain⟨b,off,rfl,hrow⟩: ∃b off,p=some ⟨b,off,none⟩/\ ∀i (hi:i<l.length),Ai W b (off+i*2) [str l[i].1,str l[i].2]:=by
  rcases hA with h|h
  ·rw[h] at hlt;exact absurd hlt (by simp)
  ·exact h
 have hr:=hrow i hlt
 have hz:=hs l[i] (List.getElem_mem _)
 rw[Vg hlt] at he
 obtain⟨⟨x,y⟩,hx⟩: ∃x,x=l[i]:=⟨_,rfl⟩
 rw[<-hx] at hr hz he
 simp only at hr hz he
 refine wJ ?_
 refine wL 0 I I (fun W1 hp=>hr.hp hp) I (wG I I fun _=>(wS 0 I I I (Aa (zE (zA (zB (wP I (wB 0 I I I (wP I (wB 0 I I I (Ao Tryz.hZ tH I I I I I I I I I I I fun bS=> ?_)))))))))))
 refine wP I (wP I (Aa ?_))
 rename_i b4
 refine zE (zH (Ar (X:=Nat) (fun k=>[(2, .int .i64 0),(8,slv (some ⟨b,off,none⟩) l.length cap),(9, .int .i64 (l.length:Nat)),(10, .int .i64 (i:Nat)),(18,slv (some ⟨bS,0,none⟩) 2 2),(19, .int .i64 2),(20, .int .i64 (k:Nat))]) (fun _=>[⟨b4,62,[str x,str y],true,none⟩,⟨bS,25,[str x,str y],true,none⟩]) (fun k=>k=0\/k=1/\(rdR x).2=0\/k=2/\(rdR x).2=0/\(rdR y).2=0) (fun k=>2-k) 0 (Or.inl I) ⟨I,I,I,I,I,I,I,tO⟩ [] I ?_))
 rintro k (rfl|⟨rfl,h1⟩|⟨rfl,h1,h2⟩)
 ·refine zA (zB (wP I (Aa (zE (zA (zR I (zI (zE (zA (zH (zA (zB (wI I I (by decide) (by decide) (wB 1 I I I (wP I (Aa (zE (zA (zB (wP I (wC I I (fun W1 hp=>Bz x hz.1 W1 (hv.hp hp) (ht.hp hp)) (wP I (Aa ?_)))))))))))))))))))))))
  refine zE (zA (zB (wP I (wP I ?_))))
  by_cases h1:(rdR x).2=0
  rotate_left
  ·refine wU 27 true I (bne_iff_ne.2 h1) (Aa (zE (zR I (zA (zB (wP I (wP I (Aa (zE (zO (zQ (zP (zP (zQ (zQ (zP (zP (zQ (zP ?_)))))))))))))))))))
   rw[if_pos h1] at he
   exact wR1 I I (by rw[he])
  exact wU 27 false I (bne_eq_false_iff_eq.2 h1) (Aa (zE (zS I (zI (zN (zE (zB (wP I (wP I (Aa (Aj 1 (Or.inr (Or.inl ⟨I,h1⟩)) (by decide) ⟨I,I,I,I,I,I,I,tO⟩ [] I)))))))))))
 ·rw[if_neg (fun h=>h h1)] at he
  refine zA (zB (wP I (Aa (zE (zA (zR I (zI (zE (zA (zH (zA (zB (wI I I (by decide) (by decide) (wB 1 I I I (wP I (Aa (zE (zA (zB (wP I (wC I I (fun W1 hp=>Bz y hz.2 W1 (hv.hp hp) (ht.hp hp)) (wP I (Aa ?_)))))))))))))))))))))))
  refine zE (zA (zB (wP I (wP I ?_))))
  by_cases h2:(rdR y).2=0
  rotate_left
  ·refine wU 27 true I (bne_iff_ne.2 h2) (Aa (zE (zR I (zA (zB (wP I (wP I (Aa (zE (zO (zQ (zP (zP (zQ (zQ (zP (zP (zQ (zP ?_)))))))))))))))))))
   rw[if_pos h2] at he
   exact wR1 I I (by rw[he])
  exact wU 27 false I (bne_eq_false_iff_eq.2 h2) (Aa (zE (zS I (zI (zN (zE (zB (wP I (wP I (Aa (Aj 2 (Or.inr (Or.inr ⟨I,h1,h2⟩)) (by decide) ⟨I,I,I,I,I,I,I,tO⟩ [] I)))))))))))
 ·rw[if_neg (fun h=>h h1),if_neg (fun h=>h h2)] at he
  exact zA (zB (wP I (Aa (zE (zA (zS I (zJ (zK (zK (zL (zN (zE (zB (wP I (wV 30 ((i+1:Nat):Int) I (Aw (by omega)) (wP I (Aa (Aj (i+1) ⟨hlt,he⟩ (by show l.length-(i+1)<l.length-i;omega) ⟨I,I,I,I,tO⟩ [_,_] I))))))))))))))))))
def Ko (k:Nat) (l:List At):Prop:= ∀p∈l,szQ p.1 k/\szQ p.2 k
theorem Ko.at_ {k:Nat} {l:List At} (h:Ko k l) (h0:0<l.length) (i:Nat):szQ (Au l i).1 k/\szQ (Au l i).2 k:=h _ (IF h0 i)
theorem UC {p q r:At} {k:Nat} (hp:szQ p.1 k/\szQ p.2 k) (hq:szQ q.1 k/\szQ q.2 k) (hr:szQ r.1 k/\szQ r.2 k) (hk:k<=36):aE p q r:=by
 have a:=hq.1.sub hp.1
 have b:=hr.2.sub hp.2
 have c:=hq.2.sub hp.2
 have d:=hr.1.sub hp.1
 exact⟨sz2 hq.1 hp.1 (by omega),sz2 hr.2 hp.2 (by omega),sz2 hq.2 hp.2 (by omega),sz2 hr.1 hp.1 (by omega),sz2 a b (by omega),sz2 c d (by omega),sz2 (a.mul b) (c.mul d) (by omega)⟩
theorem ZL {x y:Rat} (h:y<x):CU x y=1:=by
 have h1:=Nv x y
 rw[dT h] at h1
 have h2:=of_decide_eq_true h1
 rcases Hg x y with e|e|e<;>omega
theorem Wg {p q r:At} (h:0<EX p q r):Ta p q r=1:=ZL (by unfold EX at h;grind)
theorem Xv {l:List At} (h:ID l) {k i:Nat} (hk:k<l.length) (hi:i<l.length) (h1:i≠k) (h2:i≠(k+1)%l.length):Ta (Au l k) (Au l (k+1)) (Au l i)=1:=by
 refine Wg (FX.sideS h hk hi h1 ?_ ?_)
 ·intro e
  rw[e,Nat.mod_eq_of_lt (by omega)] at h2
  exact h2 I
 ·rintro⟨e,e2⟩
  rw[e,e2,Nat.mod_self] at h2
  exact h2 I
theorem EK {W0 W:World} {bxs:List Bx} (hp:Hp W0 bxs W) (k:Nat) {c:Nat} (h:bxs[k]? =some ⟨c,317,[.int .i64 0],true,none⟩):D7 W c:=
 (hp.own.cell k _ h (c,_) (List.mem_cons_self ..)).1
theorem BY.b {W:World} {p:Option Addr} {l:List At} (h:BY W p l):Rd W p (l.map ptS):=by
 rcases h with e|⟨g,off,e,hr⟩
 ·exact .inl (by rw[e];rfl)
 ·refine .inr ⟨g,off,e,fun i hi=> ?_⟩
  rw[List.getElem_map]
  exact hr i (by rw[List.length_map] at hi;exact hi)
theorem Ut: ∀ {l:List At},(∀p∈l,okQ p.1/\okQ p.2)->Oj (l.map ptS)=0
 |[],_=>rfl
 |p::l,h=>by
  obtain⟨h1,h2⟩:=h p (List.mem_cons_self ..)
  show(if (rdR (Ac p.1)).2≠0 then _ else if (rdR (Ac p.2)).2≠0 then _ else Oj (l.map ptS))=0
  rw[CV h1,CV h2,if_neg (fun h=>h rfl),if_neg (fun h=>h rfl)]
  exact Ut fun q hq=>h q (List.mem_cons_of_mem _ hq)
theorem H8 (W:World) (p:Option Addr) (cap:Nat) (l:List At) (hA:BY W p l) (hn:l.length<=100000) (hk: ∀p∈l,okQ p.1/\okQ p.2) (hv:AE W) (ht:A7 W):
  Ad Tryz.prog 318 #[slv p l.length cap] W (fun _:Unit=> .int .i64 0) (fun _=>True) (fun _=>[]):=by
 have h:=Mj W p cap (l.map ptS) hA.b (by rw[List.length_map];omega) (fun x hx=>by
  obtain⟨q,hq,rfl⟩:=List.mem_map.1 hx
  have h1:=AP (hk q hq).1
  have h2:=AP (hk q hq).2
  show(Ac q.1).length<=_/\(Ac q.2).length<=_
  omega) hv ht
 rwa [Ut hk,List.length_map] at h
theorem Q9 (l:List At) (hP:ID l) (h3:3<=l.length) (hn:l.length<=4096) (hs:Ko 36 l) (p:Option Addr) (cap:Nat) (W:World) (hA:BY W p l) (hv:AE W) (ht:A7 W):
  Ad Tryz.prog 281 #[slv p l.length cap] W (fun _:Unit=> .int .i64 0) (fun _=>True) (fun _=>[]):=by
 have hn0:0<l.length:=by omega
 have hz:(l.length:Int)≠0:=by omega
 refine Ab (args:=[slv p l.length cap]) Tryz.func281 I I I (zA (zB (wF I I fun _=>(wG I I fun _=>(Aa ?_)))))
 rename_i b1 b2
 refine zE (zA (zH (zA (zB (wB 0 I I I (wP I (wP I (wU 13 false I (dF (by omega)) (wP I (Aa (zE (zS I (zA (zB (wB 0 I I I (wP I (wP I (wU 17 false I (dF (by omega)) (wP I (Aa (zE (zS I (zI ?_)))))))))))))))))))))))
 refine zN (zE (zA (zA (zB (wB 0 I I I (wC I I (fun W1 hp=>H8 W1 p cap l (hA.hp hp) (by omega) (fun q hq=>⟨(hs q hq).1.ok (by decide),(hs q hq).2.ok (by decide)⟩) (hv.hp hp) (ht.hp hp)) (wP I (Aa (zE (zA (zB (wP I (wP I (Aa (zE (zS I (zI (zE (zA (zB (Ap Tryz.hZ tH I I I I I I I I ?_)))))))))))))))))))))
 refine wF I I fun _=>(wG I I fun _=>(wG I I fun _=>(wS 3 I I I (wS 4 I I I (Aa ?_)))))
 rename_i bC b4 b5
 refine zE (zA (zA (zB (wB 0 I I I (wD (X:=Nat) I I (fun W1 _=>Fy p l.length cap W1) ?_)))))
 intro bp _
 refine Aa (zE (zH ?_))
 refine EE (X:=Unit) (fun _=>[⟨b1,210,[slv p l.length cap],true,none⟩,⟨b2,28,[.int .i64 0],true,none⟩,⟨bC,317,[.int .i64 0],true,none⟩,⟨b4,315,[Af bC],true,none⟩,⟨b5,4,[.bool false],true,none⟩,⟨bp,210,[slv p l.length cap],true,none⟩])
  (fun _ _=>True) (fun _ _=>False) () rfl (by kernel_rfl) (Gp l bp p cap (by omega)) (fun _=>rfl)
  trivial [] rfl (fun k x W1 _ hp=>⟨Ai.of_bx hp 5 rfl rfl,hA.hp hp⟩) ?_ ?_ (fun _ _ _ _ _ h=>h.elim)
 ·rintro k ⟨⟩ d l' rec L hk _ hrec
  have hk:k<l.length:=hk
  refine zA (zB (wP I (Aa (zE (zB (wG I I fun _=>(wS 9 I I I (Aa ?_))))))))
  rename_i b7
  refine BJ 8 hrec I ?_
  refine Bv (zA (zB (wB 1 I I I (wP I (wP I (Aa (zE (zH ?_))))))))
  refine Ar (X:=Nat) (fun i=>[(1,Af b1),(2,Af b2),(4,Af b4),(5,Af b5),(6, .int .i64 (k:Nat)),(7,Af b7),(29,slv p l.length cap),(30, .int .i64 (l.length:Nat)),(31, .int .i64 (i:Nat))])
   (fun _=>[AU L,⟨b1,210,[slv p l.length cap],true,none⟩,⟨b2,28,[.int .i64 0],true,none⟩,⟨bC,317,[.int .i64 0],true,none⟩,⟨b4,315,[Af bC],true,none⟩,⟨b5,4,[.bool false],true,none⟩,⟨bp,210,[slv p l.length cap],true,none⟩,BG d,Be l' rec .busy none,⟨b7,321,(sdV (Au l k) (Au l (k+1))).cells.toList,true,none⟩])
   (fun i=>i<=l.length) (fun i=>l.length-i) 0 (Nat.zero_le _) ⟨rfl,rfl,rfl,rfl,rfl,rfl,rfl,rfl,rfl,trivial⟩ [] rfl ?_
  intro i hi
  have hi:i<=l.length:=hi
  refine zA (zB (wP I ?_))
  by_cases hlt:i<l.length
  rotate_left
  ·exact wU 32 false I (dF (by omega)) (Aa (zE (zA (zS I (zJ (zK (zK (zL (zN (Bk 8 () hrec I tO [_] I))))))))))
  refine wU 32 true I (dT (by omega)) (Aa (zE (zA (zR I (zI (zE (zA (zH (zA (zB ?_))))))))))
  obtain⟨g,off,hpe,hrow⟩:=hA.at_ hlt
  have hrow:=hrow i hlt
  rw[<-Dk hlt] at hrow
  subst hpe
  refine wP I (wJ ?_)
  refine wL 0 I I (fun W1 hp=>hrow.hp hp) I (wG I I fun _=>(wP I (wS 10 I I I (Aa ?_))))
  rename_i b9
  refine zE (zA (zA (zB (wP I (wP I (wP I ?_))))))
  by_cases h1:i=k
  ·refine wU 38 false I (bne_eq_false_iff_eq.2 (by omega)) (wP I ?_)
   iterate 7 refine Ae I I ?_
   refine wP I (wP I ?_)
   iterate 8 refine Ae I I ?_
   refine wP I (Aa (zE (zS I (zI (zE (zA (zB (wB 4 I I I (AM I I I I ?_)))))))))
   exact wP I (wB 3 I I I (wP I (Aa (zE (zS I (zI (zN (zE (zB (wP I (wV 67 ((i+1:Nat):Int) I (Aw (by omega)) (wP I (Aa (Aj (i+1) hlt (by show l.length-(i+1)<l.length-i;omega) ⟨I,I,I,I,I,I,I,I,I,tO⟩ [_] I))))))))))))))
  refine wU 38 true I (bne_iff_ne.2 (by omega)) (wP I (wP I (wP I (wP I (wV 42 ((k+1:Nat):Int) I (Aw (by omega)) (wB 1 I I I (wP I (FB I I I I I hz ?_))))))))
  refine wV 45 (((k+1)%l.length:Nat):Int) I I (wP I ?_)
  by_cases h2:i=(k+1)%l.length
  ·refine wU 46 false I (bne_eq_false_iff_eq.2 (by omega)) (wP I (wP I ?_))
   iterate 8 refine Ae I I ?_
   refine wP I (Aa (zE (zS I (zI (zE (zA (zB (wB 4 I I I (AM I I I I ?_)))))))))
   exact wP I (wB 3 I I I (wP I (Aa (zE (zS I (zI (zN (zE (zB (wP I (wV 67 ((i+1:Nat):Int) I (Aw (by omega)) (wP I (Aa (Aj (i+1) hlt (by show l.length-(i+1)<l.length-i;omega) ⟨I,I,I,I,I,I,I,I,I,tO⟩ [_] I))))))))))))))
  refine wU 46 true I (bne_iff_ne.2 (by omega)) (wP I (wP I (wB 4 I I I (Ex Tryz.underlying321 Tryz.sizeOf62 I I I I I ⟨by decide,by decide⟩ (wB 9 I I I (Ex Tryz.underlying321 Tryz.sizeOf62 I I I I I ⟨by decide,by decide⟩ (wB 9 I I I (wB 10 I I I (wC I I (fun W1 hp=>(QY bC (Au l k) (Au l (k+1)) (Au l i) (UC (hs.at_ hn0 _) (hs.at_ hn0 _) (hs.at_ hn0 _) (by decide)) W1 (EK hp 3 I) (hv.hp hp) (ht.hp hp)).cast (v':= .int .i64 1) (by rw[Xv hP hk hlt h1 h2])) (wP I (wP I (Aa (zE (zS I (zI (zE (zA (zB (wB 4 I I I (AM I I I I ?_))))))))))))))))))))
  exact wP I (wB 3 I I I (wP I (Aa (zE (zS I (zI (zN (zE (zB (wP I (wV 67 ((i+1:Nat):Int) I (Aw (by omega)) (wP I (Aa (Aj (i+1) hlt (by show l.length-(i+1)<l.length-i;omega) ⟨I,I,I,I,I,I,I,I,I,tO⟩ [_] I))))))))))))))
 ·rintro⟨⟩ d l' rec _
  refine zN (zE (zA (zA (zB (wB 4 I I I (Aa (zE (zS I (zI (zE (zA (zB (wS 1 I I I (Aa (zE (zO (Ci 6 I ?_)))))))))))))))))
  exact Ax tH I (.cell 1 I I I I I) () I tO fun W _=>As.nil _ _
structure Nq (W:World) (p:Option Addr) (l:List At):Prop where
 poly:ID l
 n3:3<=l.length
 n:l.length<=4096
 sz:Ko 36 l
 m:BY W p l
 v:AE W
 t:A7 W
theorem Nq.hp {W0 W:World} {bxs:List Bx} {p:Option Addr} {l:List At} (h:Nq W0 p l) (hp:Hp W0 bxs W):Nq W p l:=⟨h.poly,h.n3,h.n,h.sz,h.m.hp hp,h.v.hp hp,h.t.hp hp⟩
theorem Nq.chk {W:World} {p:Option Addr} {l:List At} (h:Nq W p l) (cap:Nat):Ad Tryz.prog 281 #[slv p l.length cap] W (fun _:Unit=> .int .i64 0) (fun _=>True) (fun _=>[]):=
 Q9 l h.poly h.n3 h.n h.sz p cap W h.m h.v h.t
theorem OH (l:List At) (p:Option Addr) (cap:Nat) (W:World) (h:Nq W p l):
  Ad Tryz.prog 287 #[slv p l.length cap, .slice none 0 0] W (fun _:Unit=> .int .i64 0) (fun _=>True) (fun _=>[]):=by
 refine Ab (args:=[slv p l.length cap, .slice none 0 0]) Tryz.func287 I I I (zA (zB (wP I (Aa (zE (zA (zA (zB (wP I (wC I I (fun W1 hp=>(h.hp hp).chk cap) (wP I (Aa (zE (zS I (zI (zE (zA (zA (zB (wP I (wP I (wP I (Aa ?_)))))))))))))))))))))))
 refine zE (zH (Ar (X:=Unit) (fun _=>[(1, .slice none 0 0),(4, .int .i64 0),(12, .int .i64 0),(13, .int .i64 0)]) (fun _=>[]) (fun _=>True) (fun _=>0) () tO ⟨I,I,I,I,tO⟩ [] I ?_))
 intro _ _
 refine zA (zB (wP I (Aa (zE (zA (zS I (zJ (zK (zK (zL (zE (zA (zA (zB (wP I (wP I (wP I (wP I ?_))))))))))))))))))
 iterate 4 refine Ae I I ?_
 refine wP I (wP I ?_)
 iterate 4 refine Ae I I ?_
 exact wP I (Aa (zE (zS I (zI (zE (zA (zB (wP I (Aa (zE (zO (wR1 I I I))))))))))))
structure aW (f:Eu) (q:At):Prop where
 m1:Sz2 f.a q.1
 m2:Sz2 f.b q.2
 s:Sz2 (f.a*q.1) (f.b*q.2)
 d:Sz2 (f.a*q.1+f.b*q.2) f.c
structure Oi (b4 b5 b6 b7 c:Nat) (f:Eu) (W:World):Prop where
 r4:Ai W b4 0 [Af c]
 r5:Ai W b5 0 [str (Ac f.a)]
 r6:Ai W b6 0 [str (Ac f.b)]
 r7:Ai W b7 0 [str (Ac f.c)]
 k:D7 W c
 v:AE W
 t:A7 W
theorem D7.below {W W':World} {c n:Nat} (h:D7 W c) (hn:W.heap.size<=n) (hb:Below n W W'):D7 W' c:=
 (hb.block c (Nat.lt_of_lt_of_le (Array.getElem?_eq_some_iff.1 h).1 hn)).trans h
theorem Oi.below {b4 b5 b6 b7 c:Nat} {f:Eu} {W W':World} (h:Oi b4 b5 b6 b7 c f W) (hb:Below W.heap.size W W'):Oi b4 b5 b6 b7 c f W':=
 ⟨h.r4.below (Nat.le_refl _) hb,h.r5.below (Nat.le_refl _) hb,h.r6.below (Nat.le_refl _) hb,h.r7.below (Nat.le_refl _) hb,h.k.below (Nat.le_refl _) hb,h.v.below hb,h.t.below hb⟩
theorem Oi.hp {b4 b5 b6 b7 c:Nat} {f:Eu} {W0 W:World} {bxs:List Bx} (h:Oi b4 b5 b6 b7 c f W0) (hp:Hp W0 bxs W):Oi b4 b5 b6 b7 c f W:=h.below hp.below
theorem Kw (c:Nat) (f:Eu) (W:World):Ad Tryz.prog 331 #[Af c,str (Ac f.a),str (Ac f.b),str (Ac f.c)] W
  (fun x:Nat×Nat×Nat×Nat=> .func (.func 361) #[] #[Af x.1,Af x.2.1,Af x.2.2.1,Af x.2.2.2]) (fun _=>True)
  (fun x=>[⟨x.1,315,[Af c],true,none⟩,⟨x.2.1,25,[str (Ac f.a)],true,none⟩,⟨x.2.2.1,25,[str (Ac f.b)],true,none⟩,⟨x.2.2.2,25,[str (Ac f.c)],true,none⟩]):=by
 refine Ab (args:=[Af c,str (Ac f.a),str (Ac f.b),str (Ac f.c)]) Tryz.func331 I I I (zA (zB (wF I I fun _=>(wF I I fun _=>(wF I I fun _=>(wF I I fun _=>(wP I (Aa ?_))))))))
 rename_i b4 b5 b6 b7
 exact zE (zA (zB (wP I (wP I (Aa (zE (zO (Ax tH I (.tmp I) (b4,b5,b6,b7) I tO fun W1 hp=>As.of_hp hp))))))))
theorem Gw (b4 b5 b6 b7 c:Nat) (f:Eu) (q:At) (hz:aW f q) (W:World) (hL:Oi b4 b5 b6 b7 c f W):
  Ad Tryz.prog 361 #[cvV q,Af b4,Af b5,Af b6,Af b7] W (fun _:Unit=>str (Ac (f.at q))) (fun _=>True) (fun _=>[]):=by
 refine Ab (args:=[cvV q,Af b4,Af b5,Af b6,Af b7]) Tryz.func361 I I I (zA (zB (wF I I fun _=>(wP I (Aa (zE (zA (zU (qL 0 I I (fun W1 hp=>(hL.hp hp).r4) I (qL 0 I I (fun W1 hp=>(hL.hp hp).r5) I (qP I (qB 0 I I I (qC I I (fun W1 hp=>CD c f.a q.1 hz.m1 W1 (hL.hp hp).k (hL.hp hp).v (hL.hp hp).t) (qL 0 I I (fun W1 hp=>(hL.hp hp).r4) I (qL 0 I I (fun W1 hp=>(hL.hp hp).r6) I (qP I (qB 0 I I I (qC I I (fun W1 hp=>CD c f.b q.2 hz.m2 W1 (hL.hp hp).k (hL.hp hp).v (hL.hp hp).t) (qP I (qP I (A8 (Aa (zE ?_)))))))))))))))))))))))
 exact zA (zU (qL 0 I I (fun W1 hp=>(hL.hp hp).r4) I (qL 0 I I (fun W1 hp=>(hL.hp hp).r4) I (qP I (qP I (qC I I (fun W1 hp=>FD c (f.a*q.1) (f.b*q.2) hz.s W1 (hL.hp hp).k (hL.hp hp).v (hL.hp hp).t) (qL 0 I I (fun W1 hp=>(hL.hp hp).r7) I (qC I I (fun W1 hp=>Co c (f.a*q.1+f.b*q.2) f.c hz.d W1 (hL.hp hp).k (hL.hp hp).v (hL.hp hp).t) (qP I (A8 (Aa (zE (zO (wR1 I I I))))))))))))))
abbrev vsC (l:List Rat):List Value:=l.map fun q=>str (Ac q)
theorem Yq (a b:List Rat):vsC (a++b)=vsC a++vsC b:=List.map_append
theorem G6 (l:List At) (F:At->Rat) (g:Nat) (capt:List Value) (hE:AO Tryz.prog g=true) (hn:l.length<=4096) (p:Option Addr) (cap:Nat) (W:World) (hA:BY W p l)
  (hg: ∀q∈l, ∀W1,Below W.heap.size W W1->Ad Tryz.prog g ([cvV q]++capt).toArray W1 (fun _:Unit=>str (Ac (F q))) (fun _=>True) (fun _=>[])):
  Ad Tryz.prog 330 #[slv p l.length cap, .func (.func g) #[] capt.toArray] W (fun V:Vec=>V.val l.length) (fun V=>V.OK 1 l.length (vsC (l.map F))) (fun V=>[V.bx 25 (vsC (l.map F))]):=by
 refine Ab (args:=[slv p l.length cap, .func (.func g) #[] capt.toArray]) Tryz.func330 I I I (zA (zB (wP I (Aa (zE (zA (zB (wP I (Aa (zE (zA (zA (zB (wP I (wP I (wP I (Aa (zE (zH (CI ?_))))))))))))))))))))
 refine Ar (X:=Nat×Vec) (fun s=>[(1, .func (.func g) #[] capt.toArray),(5,s.2.val s.1),(8,slv p l.length cap),(9, .int .i64 (l.length:Nat)),(10, .int .i64 (s.1:Nat))])
  (fun s=>[s.2.bx 25 (vsC ((l.take s.1).map F))]) (fun s=>s.1<=l.length/\s.2.OK 1 s.1 (vsC ((l.take s.1).map F))) (fun s=>l.length-s.1) (0,Vec.empty) ⟨Nat.zero_le _,Vec.OK.empty 1⟩ ⟨rfl,rfl,rfl,rfl,rfl,trivial⟩ [] rfl ?_
 rintro⟨i,V⟩ ⟨hi,hV⟩
 have hi:i<=l.length:=hi
 have hV:V.OK 1 i (vsC ((l.take i).map F)):=hV
 refine zA (zB (wP I ?_))
 by_cases hlt:i<l.length
 ·refine wU 11 true I (dT (by omega)) (Aa (zE (zA (zR I (zI (zE (zA (zH (zA (zB ?_))))))))))
  obtain⟨gp,off,hpe,hrow⟩:=hA.at_ hlt
  have hrow:=hrow i hlt
  have hq:=hg l[i] (List.getElem_mem hlt)
  have hsu:(l.take (i+1)).map F=(l.take i).map F++[F l[i]]:=by
   rw[List.take_add_one,List.getElem?_eq_getElem hlt,List.map_append];rfl
  obtain⟨q,hqe⟩: ∃q,q=l[i]:=⟨_,rfl⟩
  rw[<-hqe] at hrow hq hsu
  subst hpe
  refine wJ ?_
  refine wL 0 I I (fun W1 hp=>hrow.hp hp) I (wG I I fun _=>(wS 1 I I I (Aa (zE (zB (wP I (wP I (wB 1 I I I (Bp (capt:=capt) I I I I I I hE (fun W1 hp=>hq W1 hp.below) (Ao Tryz.hZ tH I I I I I I I I I I I fun bS=> ?_))))))))))
  refine AK (V:=V) (len:=i) (xs:=vsC ((l.take i).map F)) 0 2 Tryz.vec63 (i+1) (vsC ((l.take (i+1)).map F)) I I I I I I I I I I I hV I I I (by rw[hsu,Yq];rfl) (by simp only[maxLen];omega) (by omega) I ?_
  intro gV cV jV hV1
  exact wP I (Aa (zN (zE (zB (wP I (wV 20 ((i+1:Nat):Int) I (Aw (by omega)) (wP I (Aa (Aj (i+1,⟨some gV,cV,jV⟩) ⟨hlt,hV1⟩ (by show l.length-(i+1)<l.length-i;omega) ⟨I,I,I,I,I,tO⟩ _ I)))))))))
 have e:i=l.length:=by omega
 subst e
 have et:l.take l.length=l:=List.take_of_length_le (Nat.le_refl _)
 rw[et] at hV
 refine wU 11 false I (dF (by omega)) (Aa (zE (zA (zS I (zJ (zK (zK (zL (zE (zA (zB (wP I (wP I (Aa (zE (zO ?_))))))))))))))))
 exact Ax tH I (.tmp I) V I hV fun W1 hp=>by
  have hp:Hp W [V.bx 25 (vsC ((l.take l.length).map F))] W1:=hp
  rw[et] at hp
  exact As.of_hp hp
section
variable {r:Option Nat} {n:Nat} {P:Program} {N:Nat} {D:List Deferred} {ops:List Oper} {Q:Exit->Act->World->Prop} {o:Oper} {rest:List Oper} {env:Env} {A:World->Prop}
theorem Nr {W:World} {t ty e:TypeId} {size bytes:Nat} {z:Value} (hty:VecTy P t e size bytes z) {b:Option Addr} {k c c':Nat} (hk:k<=c):
  (Builtin.append_ #[t,t] ty #[.slice b k c, .slice none 0 c']).run P W= .ok (.slice b k c) W:=by
 obtain⟨i,hi,hz,hsz,hby⟩:=hty.hi
 have hs:(Go.sizeOf e).run P W= .ok i.size W:=by simp[sizeOf,typeInfo,hi]
 cases b<;>simp[Builtin.append_,run_underlying hty.ht,hs,hk,Builtin.lenOf,Builtin.firstCells,storeCells]
theorem Kq {d:Nat} {t e:TypeId} {size bytes:Nat} {z:Value} (hty:VecTy P t e size bytes z) {c:Call} {s x:Operand} {b:Option Addr} {k cp cp':Nat}
  (hg:Ay ops N env o=some true) (hd:o.dst=some d) (ho:o.op= .call c) (hc:c.callee= .builtin .append) (ha:c.args= #[s,x]) (hat:c.argTypes= #[t,t])
  (hs:evO N env s=some (.slice b k cp)) (hx:evO N env x=some (.slice none 0 cp')) (hk:k<=cp)
  (h:WL r n P N D ops Q rest ((d, .slice b k cp)::env) A):WL r n P N D ops Q (o::rest) env A:= .mk fun act W h2 h3 hp=>by
 refine BC hg h2 (fun c e=>by rw[ho] at e;cases e) ?_
 have hr:=Nr (P:=P) (W:=W) (ty:=o.type) hty (b:=b) (c':=cp') hk
 have e1:c.args.map (ov env act).eval= #[.slice b k cp, .slice none 0 cp']:=by rw[ha];simp[A9 h2 _ _ hs,A9 h2 _ _ hx]
 have:(execOp (ov env act).eval o).run P W= .ok (.value (.slice b k cp)) W:=by
  simp only[execOp,ho,resolve,hc,invoke,builtin,e1,hat,Sem.run_bind,Sem.run_pure,Result.andThen_ok,hr]
 rw[this]
 simp only[Oper.uponIn,hd]
 exact h.out act W h2 h3 hp
end
def Zv (V:Vec):Option Addr:=V.p.map fun g=>⟨g,0,none⟩
def XU (V:Vec):Nat:=match V.p with
 |none=>0
 |some _=>V.cap
theorem Mc {V:Vec} {size n:Nat} {xs:List Value} (h:V.OK size n xs):V.val n= .slice (Zv V) n (XU V):=by
 obtain⟨p,cap,junk⟩:=V
 cases p with
 |none=>rw[h.nil rfl];rfl
 |some g=>rfl
theorem Wl {V:Vec} {size n:Nat} {xs:List Value} (h:V.OK size n xs):n<=XU V:=by
 obtain⟨p,cap,junk⟩:=V
 cases p with
 |none=>rw[h.nil rfl];exact Nat.le_refl _
 |some g=>exact(h.cap (by simp)).1
def MV (W:World) (p:Option Addr) (cs:List Value):Prop:=cs=[]\/ ∃b off,p=some ⟨b,off,none⟩/\Ai W b off cs
theorem MV.none {W:World} {l:List Value} (h:MV W none l):l=[]:=by
 rcases h with h|⟨b,off,e,_⟩
 ·exact h
 ·cases e
def T2p (n0 n1:Nat):Nat->Nat
 |0=>0
 |1=>n0
 |_=>n0+n1
def C2p (c0 c1:List Value):Nat->List Value
 |0=>[]
 |1=>c0
 |_=>c0++c1
theorem PR (W:World) (m:Nat) (hm:m<=1000000):Ad Tryz.prog 317 #[.slice none 0 0, .int .i64 (m:Nat)] W (fun V:Vec=>V.val 0) (fun V=>V.OK 2 0 []/\(0<m->V.p≠none)) (fun V=>[V.bx 62 []]):=by
 refine Ab (args:=[.slice none 0 0, .int .i64 (m:Nat)]) Tryz.func317 I I I (zA (zB (wP I (Aa (zE (zA (zA (zB (wP I (wP I (Aa (zE (zS I (zI (zE (zA (zA (zB ?_))))))))))))))))))
 iterate 8 refine wP I ?_
 refine Aa (zE (zA (zB (wP I (wP I (Aa (zE ?_)))))))
 have e14:w64 ((m:Int)-w64 (0-0))=m:=by
  have:w64 (0-0)=0:=rfl
  rw[this];exact(Ak (by omega) (by omega)).trans (by omega)
 refine AY 16 _ I (show Value.bool (decide (w64 ((m:Int)-w64 (0-0))>0))= .bool (decide (0<m)) by rw[e14];congr 1;simp) ?_
 refine Ah I (fun h=> ?_) (fun h=> ?_)
 ·have h:0<m:=by simpa using h
  refine zB (wP I (wP I (wP I (B6 0 tH I I I I I I I I (Nat.le_refl _) ?_))))
  refine wP I ?_
  refine HW Tryz.vec210 (ku:= .i64) (by kernel_rfl) m I I I I I I I I e14 h (by simp only[maxLen];omega) (by omega) ?_
  intro V hV hp hj
  refine wP I (wP I ?_)
  obtain⟨p,cap,junk⟩:=V
  cases p with
  |none=>exact absurd rfl hp
  |some g=>
  refine B6 (a:=some ⟨g,0,none⟩) (len:=m) (cap:=cap) 0 tH I I I I I I I I (Nat.zero_le _) ?_
  refine wP I (Aa (zE (zA (zB (wP I (wP I (Aa (zE (zO ?_)))))))))
  obtain⟨h1,h2,h3⟩:=hV.cap (by simp)
  refine Ax tH rfl (.tmp rfl) (⟨some g,cap,BR [.string ⟨#[]⟩, .string ⟨#[]⟩] m++junk⟩:Vec) rfl ⟨⟨rfl,(fun h=>by cases h),fun _=>⟨Nat.zero_le _,h2, ?_⟩⟩,fun _=>by simp⟩ fun W hp=>As.of_hp1 hp 0 rfl
  show 0+(BR _ m++junk).length=cap*2
  rw[List.length_append,Nat.zero_add]
  exact h3
 ·have h:m=0:=by simp at h;omega
  subst h
  exact zI (zE (zA (zB (wP rfl (wP rfl (Aa (zE (zO (Ax tH rfl (.tmp rfl) Vec.empty rfl ⟨Vec.OK.empty 2,fun h=>absurd h (Nat.lt_irrefl _)⟩ fun W hp=>Own.one (fun p hp=>by cases hp) List.nodup_nil)))))))))
theorem Dp (W:World) (b cap:Nat) (p0 p1:Option Addr) (n0 n1 k0 k1:Nat) (c0 c1:List Value) (hrow:Ai W b 0 [.slice p0 n0 k0, .slice p1 n1 k1]) (h0:MV W p0 c0) (h1:MV W p1 c1) (l0:c0.length=n0*2) (l1:c1.length=n1*2)
  (o0: ∀u∈c0,u.oneCell'=true) (o1: ∀u∈c1,u.oneCell'=true) (b0:n0<=100000) (b1:n1<=100000):
  Ad Tryz.prog 278 #[.slice (some ⟨b,0,none⟩) 2 cap] W (fun V:Vec=>V.val (n0+n1)) (fun V=>V.OK 2 (n0+n1) (c0++c1)) (fun V=>[V.bx 62 (c0++c1)]):=by
 refine Ab (args:=[.slice (some ⟨b,0,none⟩) 2 cap]) Tryz.func278 I I I (zA (zB (wP I (Aa (zE (zA (zB (wP I (Aa (zE (zA (zA (zB (wP I (wP I (wP I (Aa (zE (zH ?_)))))))))))))))))))
 refine Ar (X:=Nat) (fun k=>[(0, .slice (some ⟨b,0,none⟩) 2 cap),(3, .int .i64 (T2p n0 n1 k:Nat)),(9, .slice (some ⟨b,0,none⟩) 2 cap),(10, .int .i64 2),(11, .int .i64 (k:Nat))]) (fun _=>[])
  (fun k=>k<=2) (fun k=>2-k) 0 (Nat.zero_le _) ⟨rfl,rfl,rfl,rfl,rfl,trivial⟩ [] rfl ?_
 intro i hi
 have hi:i=0\/i=1\/i=2:=by have:i<=2:=hi;omega
 rcases hi with rfl|rfl|rfl
 ·refine zA (zB (wP I (Aa (zE (zA (zR I (zI (zE (zA (zH (zA (zB (wJ ?_)))))))))))))
  refine wL 0 I I (fun W hp=>hrow.hp hp) I (wP I (Aa (zE (zA (zB (wP I (wP I (wP I (wP I (wV 18 (T2p n0 n1 1:Nat) I (show w64 ((T2p n0 n1 0:Nat)+(n0:Nat))=(T2p n0 n1 1:Nat) by have hT0:T2p n0 n1 0=0:=I;have hT1:T2p n0 n1 1=n0:=I;rw[Ak (by omega) (by omega)];omega) (wP I (Aa (zE (zA (zB (wP I (wP I (Aa (zE (zS I (zI (zN (zE ?_)))))))))))))))))))))))
  exact zB (wP I (wP I (Aa (Aj 1 (by decide) (by decide) ⟨I,I,I,I,I,tO⟩ [] I))))
 ·refine zA (zB (wP I (Aa (zE (zA (zR I (zI (zE (zA (zH (zA (zB (wJ ?_)))))))))))))
  refine wL 1 I I (fun W hp=>hrow.hp hp) I (wP I (Aa (zE (zA (zB (wP I (wP I (wP I (wP I (wV 18 (T2p n0 n1 2:Nat) I (show w64 ((T2p n0 n1 1:Nat)+(n1:Nat))=(T2p n0 n1 2:Nat) by have hT0:T2p n0 n1 1=n0:=I;have hT1:T2p n0 n1 2=n0+n1:=I;rw[Ak (by omega) (by omega)];omega) (wP I (Aa (zE (zA (zB (wP I (wP I (Aa (zE (zS I (zI (zN (zE ?_)))))))))))))))))))))))
  exact zB (wP I (wP I (Aa (Aj 2 (by decide) (by decide) ⟨I,I,I,I,I,tO⟩ [] I))))
 refine zA (zB (wP I (Aa (zE (zA (zS I (zJ (zK (zK (zL (zE (zA (zB (wP I (wD (X:=Vec) I I (fun W _=>PR W (n0+n1) (by omega)) ?_)))))))))))))))
 rintro V0 ⟨hV0,hV0p⟩
 refine wP I (Aa (zE (zA (zA (zB (wP I (wP I (wP I (Aa (zE (zH ?_)))))))))))
 refine Ar (X:=Nat×Vec) (fun x=>[(6,x.2.val (T2p n0 n1 x.1)),(25, .slice (some ⟨b,0,none⟩) 2 cap),(26, .int .i64 2),(27, .int .i64 (x.1:Nat))]) (fun x=>[x.2.bx 62 (C2p c0 c1 x.1)])
  (fun x=>x.1<=2/\x.2.OK 2 (T2p n0 n1 x.1) (C2p c0 c1 x.1)) (fun x=>2-x.1) (0,V0) ⟨Nat.zero_le _,hV0⟩ ⟨rfl,rfl,rfl,rfl,trivial⟩ [] rfl ?_
 rintro⟨i,V⟩ ⟨hi,hV⟩
 have hi:i=0\/i=1\/i=2:=by have:i<=2:=hi;omega
 rcases hi with rfl|rfl|rfl
 ·have hV:V.OK 2 (T2p n0 n1 0) (C2p c0 c1 0):=hV
  have hT0:T2p n0 n1 0=0:=rfl
  have hT1:T2p n0 n1 1=n0:=rfl
  refine zA (zB (wP I (Aa (zE (zA (zR I (zI (zE (zA (zH (zA (zB (wJ ?_)))))))))))))
  refine wL 0 I I (fun W hp=>hrow.hp hp) I (wP I (Aa (zE (zB (wP I (wP I ?_))))))
  cases p0 with
  |none=>
   have hc:=h0.none
   have hn0:n0=0:=by rw[hc,List.length_nil] at l0;omega
   refine Al 31 (.slice (Zv V) (T2p n0 n1 0) (XU V)) I (Mc hV) (Al 32 (.slice none 0 k0) I (by rw[hn0]) (Kq Tryz.vec210 I I I I I I I I (Wl hV) ?_))
   refine Al 33 (V.val (T2p n0 n1 0)) I (Mc hV).symm ?_
   have eT:T2p n0 n1 0=T2p n0 n1 1:=by omega
   have eC:C2p c0 c1 0=C2p c0 c1 1:=by show[]=c0;rw[hc]
   rw[eT,eC] at hV
   rw[eT,eC]
   exact wP I (Aa (zN (zE (zB (wP I (wP I (Aa (Aj (1,V) ⟨by show 1<=2;decide,hV⟩ (by show 2-1<2-0;decide) ⟨I,I,I,I,tO⟩ [] I))))))))
  |some a=>
   refine F2 (len:=T2p n0 n1 0) (V:=V) 0 Tryz.vec210 I I I I I I I I I hV l0 (fun W hp j u hj=> ?_) o0 (by simp only[maxLen];omega) (by omega) ?_
   ·obtain⟨ab,ao,asp⟩:=a
    rcases h0 with h|⟨b',off',e,h⟩
    ·rw[h] at hj;simp at hj
    ·cases e
     rw[Addr.add_none]
     exact(h.hp hp).get j u hj
   intro V' hV' _
   have eT:T2p n0 n1 0+n0=T2p n0 n1 1:=by omega
   have eC:C2p c0 c1 0++c0=C2p c0 c1 1:=rfl
   rw[eT,eC] at hV'
   rw[eT,eC]
   exact wP I (Aa (zN (zE (zB (wP I (wP I (Aa (Aj (1,V') ⟨by show 1<=2;decide,hV'⟩ (by show 2-1<2-0;decide) ⟨I,I,I,I,tO⟩ [] I))))))))
 ·have hV:V.OK 2 (T2p n0 n1 1) (C2p c0 c1 1):=hV
  have hT0:T2p n0 n1 1=n0:=rfl
  have hT1:T2p n0 n1 2=n0+n1:=rfl
  refine zA (zB (wP I (Aa (zE (zA (zR I (zI (zE (zA (zH (zA (zB (wJ ?_)))))))))))))
  refine wL 1 I I (fun W hp=>hrow.hp hp) I (wP I (Aa (zE (zB (wP I (wP I ?_))))))
  cases p1 with
  |none=>
   have hc:=h1.none
   have hn0:n1=0:=by rw[hc,List.length_nil] at l1;omega
   refine Al 31 (.slice (Zv V) (T2p n0 n1 1) (XU V)) I (Mc hV) (Al 32 (.slice none 0 k1) I (by rw[hn0]) (Kq Tryz.vec210 I I I I I I I I (Wl hV) ?_))
   refine Al 33 (V.val (T2p n0 n1 1)) I (Mc hV).symm ?_
   have eT:T2p n0 n1 1=T2p n0 n1 2:=by omega
   have eC:C2p c0 c1 1=C2p c0 c1 2:=by show c0=c0++c1;rw[hc];simp
   rw[eT,eC] at hV
   rw[eT,eC]
   exact wP I (Aa (zN (zE (zB (wP I (wP I (Aa (Aj (2,V) ⟨by show 2<=2;decide,hV⟩ (by show 2-2<2-1;decide) ⟨I,I,I,I,tO⟩ [] I))))))))
  |some a=>
   refine F2 (len:=T2p n0 n1 1) (V:=V) 0 Tryz.vec210 I I I I I I I I I hV l1 (fun W hp j u hj=> ?_) o1 (by simp only[maxLen];omega) (by omega) ?_
   ·obtain⟨ab,ao,asp⟩:=a
    rcases h1 with h|⟨b',off',e,h⟩
    ·rw[h] at hj;simp at hj
    ·cases e
     rw[Addr.add_none]
     exact(h.hp hp).get j u hj
   intro V' hV' _
   have eT:T2p n0 n1 1+n1=T2p n0 n1 2:=by omega
   have eC:C2p c0 c1 1++c1=C2p c0 c1 2:=rfl
   rw[eT,eC] at hV'
   rw[eT,eC]
   exact wP I (Aa (zN (zE (zB (wP I (wP I (Aa (Aj (2,V') ⟨by show 2<=2;decide,hV'⟩ (by show 2-2<2-1;decide) ⟨I,I,I,I,tO⟩ [] I))))))))
 exact zA (zB (wP I (Aa (zE (zA (zS I (zJ (zK (zK (zL (zE (zA (zB (wP I (wP I (Aa (zE (zO (Ax tH I (.tmp I) V I hV fun W hp=>As.of_hp1 hp 0 I)))))))))))))))))))
end
end Go.Proofs.YtndkgionklmdfaaGreatDoor
