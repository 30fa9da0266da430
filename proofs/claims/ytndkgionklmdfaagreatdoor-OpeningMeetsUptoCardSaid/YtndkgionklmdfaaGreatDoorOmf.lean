/-
  Lemmas that the theorem openingMeets_upto_card needs (part 6 of 7).
-/
import Derived.Test.YtndkgionklmdfaaGreatDoorOme
set_option maxHeartbeats 64000000
namespace Go.Proofs.YtndkgionklmdfaaGreatDoor
section
open Go Go.RowKit Go.Am Go.Lib
set_option maxRecDepth 10000
-- BOXES 6
-- CODE2
structure LR (W:World) (p:Option Addr) (l:List An):Prop where
 poly:HI l
 n3:3≤l.length
 n:l.length≤4096
 sz:IV 36 l
 m:BH W p l
 v:AE W
 t:A6 W
theorem LR.hp {W0 W:World} {bxs:List Bx} {p:Option Addr} {l:List An} (h:LR W0 p l) (hp:Hp W0 bxs W):LR W p l:=⟨h.poly,h.n3,h.n,h.sz,h.m.hp hp,h.v.hp hp,h.t.hp hp⟩
theorem LR.chk {W:World} {p:Option Addr} {l:List An} (h:LR W p l) (cap:Nat):Ad Tryz.prog 281 #[slv p l.length cap] W (fun _:Unit=> .int .i64 0) (fun _=>True) (fun _=>[]):=
 OW l h.poly h.n3 h.n h.sz p cap W h.m h.v h.t
theorem M9 (l:List An) (p:Option Addr) (cap:Nat) (W:World) (h:LR W p l):
  Ad Tryz.prog 287 #[slv p l.length cap, .slice none 0 0] W (fun _:Unit=> .int .i64 0) (fun _=>True) (fun _=>[]):=by
 refine Ab (args:=[slv p l.length cap, .slice none 0 0]) Tryz.func287 I I I ?_
 refine zA (zB (wP I (Aa (zE (zA (zA (zB (wP I (wC I I (fun W1 hp=>(h.hp hp).chk cap) (wP I (Aa (zE (zS I ?_)))))))))))))
 refine zI (zE (zA (zA (zB (wP I (wP I (wP I (Aa (zE (zH ?_))))))))))
 refine At (X:=Unit) (fun _=>[(1, .slice none 0 0),(4, .int .i64 0),(12, .int .i64 0),(13, .int .i64 0)]) (fun _=>[]) (fun _=>True) (fun _=>0) () tO ⟨I,I,I,I,tO⟩ [] I ?_
 intro _ _
 refine zA (zB (wP I (Aa (zE (zA (zS I (zJ (zK (zK (zL (zE (zA (zA ?_)))))))))))))
 refine zB (wP I (wP I (wP I (wP I ?_))))
 iterate 4 refine Af I I ?_
 refine wP I (wP I ?_)
 iterate 4 refine Af I I ?_
 exact wP I (Aa (zE (zS I (zI (zE (zA (zB (wP I (Aa (zE (zO (wR1 I I I))))))))))))
structure Ym (f:DX) (q:An):Prop where
 m1:Sz2 f.a q.1
 m2:Sz2 f.b q.2
 s:Sz2 (f.a*q.1) (f.b*q.2)
 d:Sz2 (f.a*q.1+f.b*q.2) f.c
structure M3 (b4 b5 b6 b7 c:Nat) (f:DX) (W:World):Prop where
 r4:Ag W b4 0 [Ai c]
 r5:Ag W b5 0 [str (Ac f.a)]
 r6:Ag W b6 0 [str (Ac f.b)]
 r7:Ag W b7 0 [str (Ac f.c)]
 k:Dh W c
 v:AE W
 t:A6 W
theorem Dh.below {W W':World} {c n:Nat} (h:Dh W c) (hn:W.heap.size≤n) (hb:Below n W W'):Dh W' c:=
 (hb.block c (Nat.lt_of_lt_of_le (Array.getElem?_eq_some_iff.1 h).1 hn)).trans h
theorem M3.below {b4 b5 b6 b7 c:Nat} {f:DX} {W W':World} (h:M3 b4 b5 b6 b7 c f W) (hb:Below W.heap.size W W'):M3 b4 b5 b6 b7 c f W':=
 ⟨h.r4.below (Nat.le_refl _) hb,h.r5.below (Nat.le_refl _) hb,h.r6.below (Nat.le_refl _) hb,h.r7.below (Nat.le_refl _) hb,h.k.below (Nat.le_refl _) hb,h.v.below hb,h.t.below hb⟩
theorem M3.hp {b4 b5 b6 b7 c:Nat} {f:DX} {W0 W:World} {bxs:List Bx} (h:M3 b4 b5 b6 b7 c f W0) (hp:Hp W0 bxs W):M3 b4 b5 b6 b7 c f W:=h.below hp.below
theorem IX (c:Nat) (f:DX) (W:World):Ad Tryz.prog 331 #[Ai c,str (Ac f.a),str (Ac f.b),str (Ac f.c)] W
  (fun x:Nat×Nat×Nat×Nat=> .func (.func 361) #[] #[Ai x.1,Ai x.2.1,Ai x.2.2.1,Ai x.2.2.2]) (fun _=>True)
  (fun x=>[⟨x.1,315,[Ai c],true,none⟩,⟨x.2.1,25,[str (Ac f.a)],true,none⟩,⟨x.2.2.1,25,[str (Ac f.b)],true,none⟩,⟨x.2.2.2,25,[str (Ac f.c)],true,none⟩]):=by
 refine Ab (args:=[Ai c,str (Ac f.a),str (Ac f.b),str (Ac f.c)]) Tryz.func331 I I I ?_
 refine zA (zB ?_)
 (refine Al rfl rfl rfl rfl ?_;intro)
 (refine Al rfl rfl rfl rfl ?_;intro)
 (refine Al rfl rfl rfl rfl ?_;intro)
 (refine Al rfl rfl rfl rfl ?_;intro)
 refine wP I (Aa ?_)
 rename_i b4 b5 b6 b7
 exact zE (zA (zB (wP I (wP I (Aa (zE (zO (Aw tH I (.tmp I) (b4,b5,b6,b7) I tO fun W1 hp=>Ap.of_hp hp))))))))
theorem FE (b4 b5 b6 b7 c:Nat) (f:DX) (q:An) (hz:Ym f q) (W:World) (hL:M3 b4 b5 b6 b7 c f W):
  Ad Tryz.prog 361 #[cvV q,Ai b4,Ai b5,Ai b6,Ai b7] W (fun _:Unit=>str (Ac (f.at q))) (fun _=>True) (fun _=>[]):=by
 refine Ab (args:=[cvV q,Ai b4,Ai b5,Ai b6,Ai b7]) Tryz.func361 I I I ?_
 refine zA (zB ?_)
 (refine Al rfl rfl rfl rfl ?_;intro)
 refine wP I (Aa (zE (zA (zU (qL 0 I I (fun W1 hp=>(hL.hp hp).r4) I (qL 0 I I (fun W1 hp=>(hL.hp hp).r5) I (qP I (qB 0 I I I (qC I I (fun W1 hp=>Cn c f.a q.1 hz.m1 W1 (hL.hp hp).k (hL.hp hp).v (hL.hp hp).t) (qL 0 I I (fun W1 hp=>(hL.hp hp).r4) I (qL 0 I I (fun W1 hp=>(hL.hp hp).r6) I (qP I (qB 0 I I I ?_)))))))))))))
 refine qC I I (fun W1 hp=>Cn c f.b q.2 hz.m2 W1 (hL.hp hp).k (hL.hp hp).v (hL.hp hp).t) (qP I (qP I (A7 (Aa (zE (zA (zU (qL 0 I I (fun W1 hp=>(hL.hp hp).r4) I (qL 0 I I (fun W1 hp=>(hL.hp hp).r4) I (qP I (qP I (qC I I (fun W1 hp=>Fb c (f.a*q.1) (f.b*q.2) hz.s W1 (hL.hp hp).k (hL.hp hp).v (hL.hp hp).t) (qL 0 I I (fun W1 hp=>(hL.hp hp).r7) I ?_)))))))))))))
 exact qC I I (fun W1 hp=>BV c (f.a*q.1+f.b*q.2) f.c hz.d W1 (hL.hp hp).k (hL.hp hp).v (hL.hp hp).t) (qP I (A7 (Aa (zE (zO (wR1 I I I))))))
abbrev vsC (l:List Rat):List Value:=l.map fun q=>str (Ac q)
theorem Vu (a b:List Rat):vsC (a++b)=vsC a++vsC b:=List.map_append
theorem FD (l:List An) (F:An→Rat) (g:Nat) (capt:List Value) (hE:AJ Tryz.prog g=true) (hn:l.length≤4096) (p:Option Addr) (cap:Nat) (W:World) (hA:BH W p l)
  (hg: ∀q∈l, ∀W1,Below W.heap.size W W1→Ad Tryz.prog g ([cvV q]++capt).toArray W1 (fun _:Unit=>str (Ac (F q))) (fun _=>True) (fun _=>[])):
  Ad Tryz.prog 330 #[slv p l.length cap, .func (.func g) #[] capt.toArray] W (fun V:Vec=>V.val l.length) (fun V=>V.OK 1 l.length (vsC (l.map F))) (fun V=>[V.bx 25 (vsC (l.map F))]):=by
 refine Ab (args:=[slv p l.length cap, .func (.func g) #[] capt.toArray]) Tryz.func330 I I I ?_
 refine zA (zB (wP I (Aa (zE (zA (zB (wP I (Aa (zE (zA (zA (zB (wP I (wP I (wP I ?_)))))))))))))))
 refine Aa (zE (zH ?_))
 refine C6 ?_
 refine At (X:=Nat×Vec) (fun s=>[(1, .func (.func g) #[] capt.toArray),(5,s.2.val s.1),(8,slv p l.length cap),(9, .int .i64 (l.length:Nat)),(10, .int .i64 (s.1:Nat))])
  (fun s=>[s.2.bx 25 (vsC ((l.take s.1).map F))]) (fun s=>s.1≤l.length∧s.2.OK 1 s.1 (vsC ((l.take s.1).map F))) (fun s=>l.length-s.1) (0,Vec.empty) ⟨Nat.zero_le _,Vec.OK.empty 1⟩ ⟨rfl,rfl,rfl,rfl,rfl,trivial⟩ [] rfl ?_
 rintro⟨i,V⟩ ⟨hi,hV⟩
 have hi:i≤l.length:=hi
 have hV:V.OK 1 i (vsC ((l.take i).map F)):=hV
 refine zA (zB (wP I ?_))
 by_cases hlt:i<l.length
 ·refine wU 11 true I (dT (by omega)) (Aa (zE (zA (zR I (zI (zE (zA (zH (zA (zB ?_))))))))))
  obtain⟨gp,off,hpe,hrow⟩:=hA.at_ hlt
  have hrow:=hrow i hlt
  have hq:=hg l[i] (List.getElem_mem hlt)
  have hsu:(l.take (i+1)).map F=(l.take i).map F++[F l[i]]:=by
   rw[List.take_add_one,List.getElem?_eq_getElem hlt,List.map_append];rfl
  obtain⟨q,hqe⟩: ∃q,q=l[i]:=⟨_,rfl⟩
  rw[←hqe] at hrow hq hsu
  subst hpe
  refine wJ ?_
  refine wL 0 I I (fun W1 hp=>hrow.hp hp) I ?_
  (refine Ae Tryz.hZ rfl rfl rfl rfl ?_;intro)
  refine wS 1 I I I (Aa (zE (zB (wP I (wP I (wB 1 I I I ?_))))))
  refine Bc (capt:=capt) I I I I I I hE (fun W1 hp=>hq W1 hp.below) ?_
  refine As Tryz.hZ tH I I I I I I I I I I I fun bS=> ?_
  refine AL (V:=V) (len:=i) (xs:=vsC ((l.take i).map F)) 0 2 Tryz.vec63 (i+1) (vsC ((l.take (i+1)).map F)) I I I I I I I I I I I hV I I I (by rw[hsu,Vu];rfl) (by simp only[maxLen];omega) (by omega) I ?_
  intro gV cV jV hV1
  exact wP I (Aa (zN (zE (zB (wP I (wV 20 ((i+1:Nat):Int) I (A0 (by omega)) (wP I (Aa (Ak (i+1,⟨some gV,cV,jV⟩) ⟨hlt,hV1⟩ (by show l.length-(i+1)<l.length-i;omega) ⟨I,I,I,I,I,tO⟩ _ I)))))))))
 have e:i=l.length:=by omega
 subst e
 have et:l.take l.length=l:=List.take_of_length_le (Nat.le_refl _)
 rw[et] at hV
 refine wU 11 false I (dF (by omega)) (Aa (zE (zA (zS I (zJ (zK (zK (zL (zE (zA (zB (wP I (wP I ?_)))))))))))))
 refine Aa (zE (zO ?_))
 exact Aw tH I (.tmp I) V I hV fun W1 hp=>by
  have hp:Hp W [V.bx 25 (vsC ((l.take l.length).map F))] W1:=hp
  rw[et] at hp
  exact Ap.of_hp hp
section
variable {r:Option Nat} {n:Nat} {P:Program} {N:Nat} {D:List Deferred} {ops:List Oper} {Q:Exit→Act→World→Prop} {o:Oper} {rest:List Oper} {env:Env} {A:World→Prop}
theorem Lx {W:World} {t ty e:TypeId} {size bytes:Nat} {z:Value} (hty:VecTy P t e size bytes z) {b:Option Addr} {k c c':Nat} (hk:k≤c):
  (Builtin.append_ #[t,t] ty #[.slice b k c, .slice none 0 c']).run P W= .ok (.slice b k c) W:=by
 obtain⟨i,hi,hz,hsz,hby⟩:=hty.hi
 have hs:(Go.sizeOf e).run P W= .ok i.size W:=by simp[sizeOf,typeInfo,hi]
 cases b<;>simp[Builtin.append_,run_underlying hty.ht,hs,hk,Builtin.lenOf,Builtin.firstCells,storeCells]
theorem IW {d:Nat} {t e:TypeId} {size bytes:Nat} {z:Value} (hty:VecTy P t e size bytes z) {c:Call} {s x:Operand} {b:Option Addr} {k cp cp':Nat}
  (hg:Ax ops N env o=some true) (hd:o.dst=some d) (ho:o.op= .call c) (hc:c.callee= .builtin .append) (ha:c.args= #[s,x]) (hat:c.argTypes= #[t,t])
  (hs:evO N env s=some (.slice b k cp)) (hx:evO N env x=some (.slice none 0 cp')) (hk:k≤cp)
  (h:WL r n P N D ops Q rest ((d, .slice b k cp)::env) A):WL r n P N D ops Q (o::rest) env A:= .mk fun act W h2 h3 hp=>by
 refine B0 hg h2 (fun c e=>by rw[ho] at e;cases e) ?_
 have hr:=Lx (P:=P) (W:=W) (ty:=o.type) hty (b:=b) (c':=cp') hk
 have e1:c.args.map (ov env act).eval= #[.slice b k cp, .slice none 0 cp']:=by rw[ha];simp[A3 h2 _ _ hs,A3 h2 _ _ hx]
 have:(execOp (ov env act).eval o).run P W= .ok (.value (.slice b k cp)) W:=by
  simp only[execOp,ho,resolve,hc,invoke,builtin,e1,hat,Sem.run_bind,Sem.run_pure,Result.andThen_ok,hr]
 rw[this]
 simp only[Oper.uponIn,hd]
 exact h.out act W h2 h3 hp
end
def XF (V:Vec):Option Addr:=V.p.map fun g=>⟨g,0,none⟩
def Wo (V:Vec):Nat:=match V.p with
 |none=>0
 |some _=>V.cap
theorem KG {V:Vec} {size n:Nat} {xs:List Value} (h:V.OK size n xs):V.val n= .slice (XF V) n (Wo V):=by
 obtain⟨p,cap,junk⟩:=V
 cases p with
 |none=>rw[h.nil rfl];rfl
 |some g=>rfl
theorem Vc {V:Vec} {size n:Nat} {xs:List Value} (h:V.OK size n xs):n≤Wo V:=by
 obtain⟨p,cap,junk⟩:=V
 cases p with
 |none=>rw[h.nil rfl];exact Nat.le_refl _
 |some g=>exact(h.cap (by simp)).1
def M0 (W:World) (p:Option Addr) (cs:List Value):Prop:=cs=[]∨ ∃b off,p=some ⟨b,off,none⟩∧Ag W b off cs
theorem M0.none {W:World} {l:List Value} (h:M0 W none l):l=[]:=by
 rcases h with h|⟨b,off,e,_⟩
 ·exact h
 ·cases e
-- BOXES 3
def T2p (n0 n1:Nat):Nat→Nat
 |0=>0
 |1=>n0
 |_=>n0+n1
def C2p (c0 c1:List Value):Nat→List Value
 |0=>[]
 |1=>c0
 |_=>c0++c1
theorem OF (W:World) (m:Nat) (hm:m≤1000000):Ad Tryz.prog 317 #[.slice none 0 0, .int .i64 (m:Nat)] W (fun V:Vec=>V.val 0) (fun V=>V.OK 2 0 []∧(0<m→V.p≠none)) (fun V=>[V.bx 62 []]):=by
 refine Ab (args:=[.slice none 0 0, .int .i64 (m:Nat)]) Tryz.func317 I I I ?_
 refine zA (zB (wP I (Aa (zE (zA (zA (zB (wP I (wP I (Aa (zE (zS I (zI ?_)))))))))))))
 refine zE (zA (zA (zB ?_)))
 iterate 8 refine wP I ?_
 refine Aa (zE (zA (zB (wP I (wP I (Aa (zE ?_)))))))
 have e14:w64 ((m:Int)-w64 (0-0))=m:=by
  have:w64 (0-0)=0:=rfl
  rw[this];exact(Ar (by omega) (by omega)).trans (by omega)
 refine AR 16 _ I (show Value.bool (decide (w64 ((m:Int)-w64 (0-0))>0))= .bool (decide (0<m)) by rw[e14];congr 1;simp) ?_
 refine Aj I (fun h=> ?_) (fun h=> ?_)
 ·have h:0<m:=by simpa using h
  refine zB (wP I (wP I (wP I ?_)))
  refine B9 0 tH I I I I I I I I (Nat.le_refl _) ?_
  refine wP I ?_
  refine GR Tryz.vec210 (ku:= .i64) (by kernel_rfl) m I I I I I I I I e14 h (by simp only[maxLen];omega) (by omega) ?_
  intro V hV hp hj
  refine wP I (wP I ?_)
  obtain⟨p,cap,junk⟩:=V
  cases p with
  |none=>exact absurd rfl hp
  |some g=>
  refine B9 (a:=some ⟨g,0,none⟩) (len:=m) (cap:=cap) 0 tH I I I I I I I I (Nat.zero_le _) ?_
  refine wP I (Aa (zE (zA (zB (wP I (wP I (Aa (zE (zO ?_)))))))))
  obtain⟨h1,h2,h3⟩:=hV.cap (by simp)
  refine Aw tH rfl (.tmp rfl) (⟨some g,cap,BL [.string ⟨#[]⟩, .string ⟨#[]⟩] m++junk⟩:Vec) rfl ⟨⟨rfl,(fun h=>by cases h),fun _=>⟨Nat.zero_le _,h2, ?_⟩⟩,fun _=>by simp⟩ fun W hp=>Ap.of_hp1 hp 0 rfl
  show 0+(BL _ m++junk).length=cap*2
  rw[List.length_append,Nat.zero_add]
  exact h3
 ·have h:m=0:=by simp at h;omega
  subst h
  exact zI (zE (zA (zB (wP rfl (wP rfl (Aa (zE (zO (Aw tH rfl (.tmp rfl) Vec.empty rfl ⟨Vec.OK.empty 2,fun h=>absurd h (Nat.lt_irrefl _)⟩ fun W hp=>Own.one (fun p hp=>by cases hp) List.nodup_nil)))))))))
theorem CQ (W:World) (b cap:Nat) (p0 p1:Option Addr) (n0 n1 k0 k1:Nat) (c0 c1:List Value) (hrow:Ag W b 0 [.slice p0 n0 k0, .slice p1 n1 k1]) (h0:M0 W p0 c0) (h1:M0 W p1 c1) (l0:c0.length=n0*2) (l1:c1.length=n1*2)
  (o0: ∀u∈c0,u.oneCell'=true) (o1: ∀u∈c1,u.oneCell'=true) (b0:n0≤100000) (b1:n1≤100000):
  Ad Tryz.prog 278 #[.slice (some ⟨b,0,none⟩) 2 cap] W (fun V:Vec=>V.val (n0+n1)) (fun V=>V.OK 2 (n0+n1) (c0++c1)) (fun V=>[V.bx 62 (c0++c1)]):=by
 refine Ab (args:=[.slice (some ⟨b,0,none⟩) 2 cap]) Tryz.func278 I I I ?_
 refine zA (zB (wP I (Aa (zE (zA (zB (wP I (Aa (zE (zA (zA (zB (wP I (wP I (wP I ?_)))))))))))))))
 refine Aa (zE (zH ?_))
 refine At (X:=Nat) (fun k=>[(0, .slice (some ⟨b,0,none⟩) 2 cap),(3, .int .i64 (T2p n0 n1 k:Nat)),(9, .slice (some ⟨b,0,none⟩) 2 cap),(10, .int .i64 2),(11, .int .i64 (k:Nat))]) (fun _=>[])
  (fun k=>k≤2) (fun k=>2-k) 0 (Nat.zero_le _) ⟨rfl,rfl,rfl,rfl,rfl,trivial⟩ [] rfl ?_
 intro i hi
 have hi:i=0∨i=1∨i=2:=by have:i≤2:=hi;omega
 rcases hi with rfl|rfl|rfl
 ·refine zA (zB (wP I (Aa (zE (zA (zR I (zI (zE (zA (zH (zA (zB ?_))))))))))))
  refine wJ ?_
  refine wL 0 I I (fun W hp=>hrow.hp hp) I (wP I (Aa (zE (zA (zB (wP I (wP I (wP I (wP I (wV 18 (T2p n0 n1 1:Nat) I (show w64 ((T2p n0 n1 0:Nat)+(n0:Nat))=(T2p n0 n1 1:Nat) by have hT0:T2p n0 n1 0=0:=I;have hT1:T2p n0 n1 1=n0:=I;rw[Ar (by omega) (by omega)];omega) (wP I (Aa (zE ?_)))))))))))))
  exact zA (zB (wP I (wP I (Aa (zE (zS I (zI (zN (zE (zB (wP I (wP I (Aa (Ak 1 (by decide) (by decide) ⟨I,I,I,I,I,tO⟩ [] I))))))))))))))
 ·refine zA (zB (wP I (Aa (zE (zA (zR I (zI (zE (zA (zH (zA (zB ?_))))))))))))
  refine wJ ?_
  refine wL 1 I I (fun W hp=>hrow.hp hp) I (wP I (Aa (zE (zA (zB (wP I (wP I (wP I (wP I (wV 18 (T2p n0 n1 2:Nat) I (show w64 ((T2p n0 n1 1:Nat)+(n1:Nat))=(T2p n0 n1 2:Nat) by have hT0:T2p n0 n1 1=n0:=I;have hT1:T2p n0 n1 2=n0+n1:=I;rw[Ar (by omega) (by omega)];omega) (wP I (Aa (zE ?_)))))))))))))
  exact zA (zB (wP I (wP I (Aa (zE (zS I (zI (zN (zE (zB (wP I (wP I (Aa (Ak 2 (by decide) (by decide) ⟨I,I,I,I,I,tO⟩ [] I))))))))))))))
 refine zA (zB (wP I (Aa (zE (zA (zS I (zJ (zK (zK (zL (zE (zA (zB ?_)))))))))))))
 refine wP I ?_
 refine wD (X:=Vec) I I (fun W _=>OF W (n0+n1) (by omega)) ?_
 rintro V0 ⟨hV0,hV0p⟩
 refine wP I (Aa (zE (zA (zA (zB (wP I (wP I (wP I (Aa (zE (zH ?_)))))))))))
 refine At (X:=Nat×Vec) (fun x=>[(6,x.2.val (T2p n0 n1 x.1)),(25, .slice (some ⟨b,0,none⟩) 2 cap),(26, .int .i64 2),(27, .int .i64 (x.1:Nat))]) (fun x=>[x.2.bx 62 (C2p c0 c1 x.1)])
  (fun x=>x.1≤2∧x.2.OK 2 (T2p n0 n1 x.1) (C2p c0 c1 x.1)) (fun x=>2-x.1) (0,V0) ⟨Nat.zero_le _,hV0⟩ ⟨rfl,rfl,rfl,rfl,trivial⟩ [] rfl ?_
 rintro⟨i,V⟩ ⟨hi,hV⟩
 have hi:i=0∨i=1∨i=2:=by have:i≤2:=hi;omega
 rcases hi with rfl|rfl|rfl
 ·have hV:V.OK 2 (T2p n0 n1 0) (C2p c0 c1 0):=hV
  have hT0:T2p n0 n1 0=0:=rfl
  have hT1:T2p n0 n1 1=n0:=rfl
  refine zA (zB (wP I (Aa (zE (zA (zR I (zI (zE (zA (zH (zA (zB ?_))))))))))))
  refine wJ ?_
  refine wL 0 I I (fun W hp=>hrow.hp hp) I (wP I (Aa (zE (zB (wP I (wP I ?_))))))
  cases p0 with
  |none=>
   have hc:=h0.none
   have hn0:n0=0:=by rw[hc,List.length_nil] at l0;omega
   refine Ay 31 (.slice (XF V) (T2p n0 n1 0) (Wo V)) I (KG hV) ?_
   refine Ay 32 (.slice none 0 k0) I (by rw[hn0]) ?_
   refine IW Tryz.vec210 I I I I I I I I (Vc hV) ?_
   refine Ay 33 (V.val (T2p n0 n1 0)) I (KG hV).symm ?_
   have eT:T2p n0 n1 0=T2p n0 n1 1:=by omega
   have eC:C2p c0 c1 0=C2p c0 c1 1:=by show[]=c0;rw[hc]
   rw[eT,eC] at hV
   rw[eT,eC]
   exact wP I (Aa (zN (zE (zB (wP I (wP I (Aa (Ak (1,V) ⟨by show 1≤2;decide,hV⟩ (by show 2-1<2-0;decide) ⟨I,I,I,I,tO⟩ [] I))))))))
  |some a=>
   refine Gg (len:=T2p n0 n1 0) (V:=V) 0 Tryz.vec210 I I I I I I I I I hV l0 (fun W hp j u hj=> ?_) o0 (by simp only[maxLen];omega) (by omega) ?_
   ·obtain⟨ab,ao,asp⟩:=a
    rcases h0 with h|⟨b',off',e,h⟩
    ·rw[h] at hj;simp at hj
    ·cases e
     rw[Addr.add_none]
     exact(h.hp hp).get j u hj
   intro V' hV' _
   have eT:T2p n0 n1 0+n0=T2p n0 n1 1:=by omega
   have eC:C2p c0 c1 0++c0=C2p c0 c1 1:=rfl
   rw[eT,eC] at hV'
   rw[eT,eC]
   exact wP I (Aa (zN (zE (zB (wP I (wP I (Aa (Ak (1,V') ⟨by show 1≤2;decide,hV'⟩ (by show 2-1<2-0;decide) ⟨I,I,I,I,tO⟩ [] I))))))))
 ·have hV:V.OK 2 (T2p n0 n1 1) (C2p c0 c1 1):=hV
  have hT0:T2p n0 n1 1=n0:=rfl
  have hT1:T2p n0 n1 2=n0+n1:=rfl
  refine zA (zB (wP I (Aa (zE (zA (zR I (zI (zE (zA (zH (zA (zB ?_))))))))))))
  refine wJ ?_
  refine wL 1 I I (fun W hp=>hrow.hp hp) I (wP I (Aa (zE (zB (wP I (wP I ?_))))))
  cases p1 with
  |none=>
   have hc:=h1.none
   have hn0:n1=0:=by rw[hc,List.length_nil] at l1;omega
   refine Ay 31 (.slice (XF V) (T2p n0 n1 1) (Wo V)) I (KG hV) ?_
   refine Ay 32 (.slice none 0 k1) I (by rw[hn0]) ?_
   refine IW Tryz.vec210 I I I I I I I I (Vc hV) ?_
   refine Ay 33 (V.val (T2p n0 n1 1)) I (KG hV).symm ?_
   have eT:T2p n0 n1 1=T2p n0 n1 2:=by omega
   have eC:C2p c0 c1 1=C2p c0 c1 2:=by show c0=c0++c1;rw[hc];simp
   rw[eT,eC] at hV
   rw[eT,eC]
   exact wP I (Aa (zN (zE (zB (wP I (wP I (Aa (Ak (2,V) ⟨by show 2≤2;decide,hV⟩ (by show 2-2<2-1;decide) ⟨I,I,I,I,tO⟩ [] I))))))))
  |some a=>
   refine Gg (len:=T2p n0 n1 1) (V:=V) 0 Tryz.vec210 I I I I I I I I I hV l1 (fun W hp j u hj=> ?_) o1 (by simp only[maxLen];omega) (by omega) ?_
   ·obtain⟨ab,ao,asp⟩:=a
    rcases h1 with h|⟨b',off',e,h⟩
    ·rw[h] at hj;simp at hj
    ·cases e
     rw[Addr.add_none]
     exact(h.hp hp).get j u hj
   intro V' hV' _
   have eT:T2p n0 n1 1+n1=T2p n0 n1 2:=by omega
   have eC:C2p c0 c1 1++c1=C2p c0 c1 2:=rfl
   rw[eT,eC] at hV'
   rw[eT,eC]
   exact wP I (Aa (zN (zE (zB (wP I (wP I (Aa (Ak (2,V') ⟨by show 2≤2;decide,hV'⟩ (by show 2-2<2-1;decide) ⟨I,I,I,I,tO⟩ [] I))))))))
 refine zA (zB (wP I (Aa (zE (zA (zS I (zJ (zK (zK (zL (zE (zA (zB ?_)))))))))))))
 exact wP I (wP I (Aa (zE (zO (Aw tH I (.tmp I) V I hV fun W hp=>Ap.of_hp1 hp 0 I)))))
-- BOXES 6
-- CODE2
structure Ya (p q:An) (u v:Rat):Prop where
 s:Sz2 u v
 d:Sz2 u (u-v)
 nz:(u-v).num≠0
 x1:Sz2 q.1 p.1
 x2:Sz2 (u/(u-v)) (q.1-p.1)
 x3:Sz2 p.1 (u/(u-v)*(q.1-p.1))
 y1:Sz2 q.2 p.2
 y2:Sz2 (u/(u-v)) (q.2-p.2)
 y3:Sz2 p.2 (u/(u-v)*(q.2-p.2))
theorem Rm (c:Nat) (p q:An) (u v:Rat) (hz:Ya p q u v) (W:World) (hc:Dh W c) (hv:AE W) (ht:A6 W):
  Ad Tryz.prog 333 #[Ai c,cvV p,cvV q,str (Ac u),str (Ac v)] W (fun _:Unit=>cvV (QM (u/(u-v)) p q)) (fun _=>True) (fun _=>[]):=by
 refine Ab (args:=[Ai c,cvV p,cvV q,str (Ac u),str (Ac v)]) Tryz.func333 I I I ?_
 refine zA (zB ?_)
 (refine Al rfl rfl rfl rfl ?_;intro)
 (refine Al rfl rfl rfl rfl ?_;intro)
 (refine Ae Tryz.hZ rfl rfl rfl rfl ?_;intro)
 refine Aa (zE (zA (zB ?_)))
 iterate 5 refine wP I ?_
 refine wC I I (fun W hp=>BV c u v hz.s W (hc.hp hp) (hv.hp hp) (ht.hp hp)) (wC I I (fun W hp=>Le c u (u-v) hz.d hz.nz W (hc.hp hp) (hv.hp hp) (ht.hp hp)) (wP I (Aa (zE (zA (zU (qP I (qP I (qB 0 I I I (qP I (qP I (qP I (qP I ?_)))))))))))))
 refine qB 1 I I I (qP I (qB 0 I I I (qC I I (fun W hp=>BV c q.1 p.1 hz.x1 W (hc.hp hp) (hv.hp hp) (ht.hp hp)) (qC I I (fun W hp=>Cn c (u/(u-v)) (q.1-p.1) hz.x2 W (hc.hp hp) (hv.hp hp) (ht.hp hp)) (qC I I (fun W hp=>Fb c p.1 (u/(u-v)*(q.1-p.1)) hz.x3 W (hc.hp hp) (hv.hp hp) (ht.hp hp)) (qP I (A7 (Aa (zE (zA (zU (qP I (qP I ?_)))))))))))))
 refine qB 0 I I I (qP I (qP I (qP I (qP I (qB 1 I I I (qP I (qB 0 I I I (qC I I (fun W hp=>BV c q.2 p.2 hz.y1 W (hc.hp hp) (hv.hp hp) (ht.hp hp)) (qC I I (fun W hp=>Cn c (u/(u-v)) (q.2-p.2) hz.y2 W (hc.hp hp) (hv.hp hp) (ht.hp hp)) (qC I I (fun W hp=>Fb c p.2 (u/(u-v)*(q.2-p.2)) hz.y3 W (hc.hp hp) (hv.hp hp) (ht.hp hp)) (qP I (A7 (Aa ?_)))))))))))))
 refine zE (zA (zB (wP I (wP I ?_))))
 refine Au Tryz.hZ tH I I I I I I I I ?_
 exact wS 2 I I I (Aa (zE (zO (Aw tH I (.cell 2 I I I I I) () I tO fun W _=>Ap.nil _ _))))
theorem NR (q:Rat):decide (FX q<0)=decide (q<0):=by
 refine decide_eq_decide.2 ?_
 have h:q.num<0↔q<0:=by rw[←Rat.not_le, ←Rat.num_nonneg];omega
 rw[←h]
 unfold FX
 split
 ·omega
 ·split<;>omega
theorem OI (q:Rat) (W:World):Ad Tryz.prog 334 #[str (Ac q)] W (fun _:Unit=> .bool (decide (q<0))) (fun _=>True) (fun _=>[]):=by
 refine Ab (args:=[str (Ac q)]) Tryz.func334 I I I ?_
 refine zA (zB (wP I (Aa (zE (zA (zB (wP I (wC I I (fun W hp=>Hg q W) (wP I (wU 5 (decide (q<0)) I (NR q) (wP I (Aa (zE ?_)))))))))))))
 exact zO (wR1 I I I)
theorem SH {α:Type} {p:α→Bool} {l:List α} {i:Nat} (hi:i<l.length):(l.drop i).any p=(p l[i]||(l.drop (i+1)).any p):=by
 rw[List.drop_eq_getElem_cons hi,List.any_cons]
theorem MH (g:Nat) (hE:AJ Tryz.prog g=true) (F:Rat→Bool) (hg: ∀q W,Ad Tryz.prog g #[str (Ac q)] W (fun _:Unit=> .bool (F q)) (fun _=>True) (fun _=>[])) (l:List Rat) (hn:l.length≤100000) (p:Option Addr) (cap:Nat) (W:World) (hS:E9 W p (l.map Ac)):
  Ad Tryz.prog 222 #[slv p l.length cap, .func (.func g) #[] #[]] W (fun z:Int=> .int .i64 z) (fun z=>0≤z↔l.any F=true) (fun _=>[]):=by
 refine Ab (args:=[slv p l.length cap, .func (.func g) #[] #[]]) Tryz.func222 I I I ?_
 refine zA (zB (wP I (Aa (zE (zA (zA (zB (wP I (wP I (wP I (Aa (zE (zH ?_)))))))))))))
 refine At (X:=Nat) (fun i=>[(0,slv p l.length cap),(1, .func (.func g) #[] #[]),(6,slv p l.length cap),(7, .int .i64 (l.length:Nat)),(8, .int .i64 (i:Nat))]) (fun _=>[]) (fun i=>i≤l.length∧l.any F=(l.drop i).any F) (fun i=>l.length-i) 0 ⟨Nat.zero_le _,by rw[List.drop_zero]⟩ ⟨I,I,I,I,I,tO⟩ [] I ?_
 intro i hi
 obtain⟨hi,hA⟩:i≤l.length∧l.any F=(l.drop i).any F:=hi
 refine zA (zB (wP I ?_))
 by_cases hlt:i<l.length
 rotate_left
 ·refine wU 9 false I (dF (by omega)) (Aa (zE (zA (zS I (zJ (zK (zK (zL (zE (zA (zB (wP I (Aa ?_)))))))))))))
  refine zE (zO ?_)
  rw[List.drop_of_length_le (by omega)] at hA
  exact Aw tH I (.tmp I) (-1:Int) I (by rw[hA];exact⟨fun h=>absurd h (by decide),fun h=>absurd (show false=true from h) (by decide)⟩) fun W _=>Ap.nil _ _
 refine wU 9 true I (dT (by omega)) (Aa (zE (zA (zR I (zI (zE (zA (zH (zA (zB ?_))))))))))
 obtain⟨b,off,rfl,hrow⟩:=hS.row (i:=i) (by rw[List.length_map];exact hlt)
 have hr:=hrow i (by rw[List.length_map];exact hlt)
 rw[List.getElem_map] at hr
 rw[SH hlt] at hA
 obtain⟨q,hq⟩: ∃q,q=l[i]:=⟨_,rfl⟩
 rw[←hq] at hr hA
 refine wP I (wP I (Aa (zE (zA (zB (wP I (wP I (wP I ?_))))))))
 refine wJ ?_
 refine wL 0 I I (fun W1 hp=>hr.hp hp) I ?_
 refine Bc (capt:=[]) I I I I I I hE (fun W1 _=>hg q W1) ?_
 refine Aa (zE ?_)
 refine Aj I (fun hc=> ?_) (fun hc=> ?_)
 ·have hc:F q=true:=hc
  exact zA (zB (wP I (wP I (Aa (zE (zO (zQ (zP (zP (zQ (zP (Aw tH I (.tmp I) ((i:Nat):Int) I ⟨fun _=>by rw[hA,hc];rfl,fun _=>by omega⟩ fun W _=>Ap.nil _ _))))))))))))
 ·have hc:F q=false:=hc
  rw[hc,Bool.false_or] at hA
  exact zI (zN (zE (zB (wP I (wV 18 ((i+1:Nat):Int) I (A0 (by omega)) (wP I (Aa (Ak (i+1) ⟨hlt,hA⟩ (by show l.length-(i+1)<l.length-i;omega) ⟨I,I,I,I,I,tO⟩ [] I))))))))
theorem J8 (g:Nat) (hE:AJ Tryz.prog g=true) (F:Rat→Bool) (hg: ∀q W,Ad Tryz.prog g #[str (Ac q)] W (fun _:Unit=> .bool (F q)) (fun _=>True) (fun _=>[])) (l:List Rat) (hn:l.length≤100000) (p:Option Addr) (cap:Nat) (W:World) (hS:E9 W p (l.map Ac)):
  Ad Tryz.prog 153 #[slv p l.length cap, .func (.func g) #[] #[]] W (fun _:Unit=> .bool (l.any F)) (fun _=>True) (fun _=>[]):=by
 refine Ab (args:=[slv p l.length cap, .func (.func g) #[] #[]]) Tryz.func153 I I I ?_
 refine zA (zB (wP I (Aa (zE (zA (zB (wP I (wP I ?_))))))))
 refine wD (X:=Int) I I (fun W1 hp=>MH g hE F hg l hn p cap W1 (hS.hp hp)) ?_
 intro z hz
 have hz:0≤z↔l.any F=true:=hz
 refine wP I ?_
 refine Ay 8 (.bool (l.any F)) I (congrArg Value.bool (by
  cases h:l.any F with
  |true=>exact dT (hz.2 h)
  |false=>exact dF fun h2=>by rw[hz.1 h2] at h;cases h)) ?_
 exact wP I (Aa (zE (zO (wR1 I I I))))
theorem Sa (p q:Rat):(p<q∧C9 p q= -1)∨(p=q∧C9 p q=0)∨(q<p∧C9 p q=1):=by
 have h1:=BT p q
 have h2:=Mc p q
 rcases GF p q with e|e|e<;>rw[e] at h1 h2⊢
 ·exact .inl ⟨of_decide_eq_true h1.symm,I⟩
 ·refine .inr (.inl ⟨?_,I⟩)
  have a:=of_decide_eq_false h1.symm
  have b:=of_decide_eq_false h2.symm
  exact Rat.le_antisymm (Rat.not_lt.1 b) (Rat.not_lt.1 a)
 ·exact .inr (.inr ⟨of_decide_eq_true h2.symm,I⟩)
theorem S2 (p q:An):decide (J6 p q<0)=E5 p q:=by
 unfold J6 E5
 have h1:=Sa p.1 q.1
 have h2:=Sa p.2 q.2
 rcases h1 with⟨a,e⟩|⟨a,e⟩|⟨a,e⟩
 ·rw[e,if_neg (by decide),dT a];rfl
 ·rw[e,if_pos rfl,BT,dF (show¬p.1<q.1 by grind),dT a,Bool.false_or,Bool.true_and]
 ·rw[e,if_neg (by decide),dF (show¬p.1<q.1 by grind),dF (show¬p.1=q.1 by grind)];rfl
abbrev ptC (l:List An):List Value:=l.flatMap fun q=>[str (Ac q.1),str (Ac q.2)]
theorem Cy (a b:List An):ptC (a++b)=ptC a++ptC b:=List.flatMap_append
theorem Bv (l:List An):(ptC l).length=l.length*2:=by
 induction l with
 |nil=>rfl
 |cons p l ih=>show(ptC l).length+1+1=(l.length+1)*2;rw[ih];omega
theorem EH (l:List An): ∀u∈ptC l,u.oneCell'=true:=fun u hu=>by
 obtain⟨q,_,h⟩:=List.mem_flatMap.1 hu
 rcases List.mem_cons.1 h with rfl|h
 ·rfl
 ·obtain rfl:=List.mem_singleton.1 h;rfl
theorem CX {W:World} {g off:Nat} {a b:List Value} (h:Ag W g off (a++b)):Ag W g off a:=⟨h.lt,fun k u hu=>h.get k u (by rw[List.getElem?_append_left (List.getElem?_eq_some_iff.1 hu).1];exact hu)⟩
theorem JQ {W:World} {g off:Nat} {a b:List Value} (h:Ag W g off (a++b)):Ag W g (off+a.length) b:=⟨h.lt,fun k u hu=>by
 have:=h.get (a.length+k) u (by rw[List.getElem?_append_right (by omega),Nat.add_sub_cancel_left];exact hu)
 rwa [←Nat.add_assoc] at this⟩
theorem TU {l:List An} {i:Nat} (hi:i<l.length):ptC l=ptC (l.take i)++([str (Ac l[i].1),str (Ac l[i].2)]++ptC (l.drop (i+1))):=by
 conv=>lhs;rw[←List.take_append_drop i l,List.drop_eq_getElem_cons hi,Cy]
 rfl
theorem BH.of_row {W:World} {g off:Nat} {l:List An} {junk:List Value} (h:Ag W g off (ptC l++junk)):BH W (some ⟨g,off,none⟩) l:= .inr ⟨g,off,rfl,fun i hi=>by
 have h1:=CX h
 rw[TU hi] at h1
 have h2:=CX (JQ h1)
 rwa [Bv,List.length_take,Nat.min_eq_left (Nat.le_of_lt hi)] at h2⟩
theorem ON (c:Nat) (l:List An) (k:Nat) (hk:k≤149) (hs:IV k l) (h0:0<l.length) (hn:l.length≤100000) (g cap:Nat) (hcap:l.length≤cap) (W:World) (hrow:Ag W g 0 (ptC l)) (hc:Dh W c) (hv:AE W) (ht:A6 W):
  Ad Tryz.prog 335 #[Ai c,slv (some ⟨g,0,none⟩) l.length cap] W (fun V:Vec=>V.val l.length) (fun V=>V.OK 2 l.length (ptC (CP l))) (fun V=>[V.bx 62 (ptC (CP l))]):=by
 have hrow':Ag W g 0 (ptC l++[]):=by rw[List.append_nil];exact hrow
 have hA:=BH.of_row hrow'
 have hr: ∀i,i<l.length→Ag W g (0+i*2) [str (Ac (Ao l i).1),str (Ac (Ao l i).2)]:=fun i hi=>by
  obtain⟨g',off',e,h⟩:=hA.at_ hi
  cases e
  rw[CS hi]
  exact h i hi
 have hlst: ∀i,i≤l.length→Cj l i<l.length:=fun i hi=>by
  rcases(Kp l i).1 with e|e<;>omega
 refine Ab (args:=[Ai c,slv (some ⟨g,0,none⟩) l.length cap]) Tryz.func335 I I I ?_
 refine zA (zB (wP I (Aa (zE (zA (zB (wP I (Aa (zE (zA (zA (zB (wP I ?_)))))))))))))
 refine Aa (zE (zH ?_))
 have e1:Cj l 1=0:=by show(if E5 (Ao l 0) (Ao l 0)=true then 0 else 0)=0;split<;>rfl
 refine At (X:=Nat) (fun i=>[(0,Ai c),(1,slv (some ⟨g,0,none⟩) l.length cap),(5, .int .i64 (Cj l i:Nat)),(6, .int .i64 (i:Nat))]) (fun _=>[]) (fun i=>1≤i∧i≤l.length) (fun i=>l.length-i) 1 ⟨Nat.le_refl _,h0⟩ ⟨I,I,congrArg (fun n:Nat=>some (Value.int .i64 (n:Int))) e1.symm,I,tO⟩ [] I ?_
 intro i hi
 obtain⟨hi1,hi⟩:1≤i∧i≤l.length:=hi
 have hls:=hlst i hi
 refine zA (zA (zB (wP I (wP I (wP I (wP I ?_))))))
 by_cases hlt:i<l.length
 ·refine wU 10 true I (dT (by omega)) (Aa (zE (zR I (zI (zE (zA (zH (zA (zU ?_)))))))))
  have hsu:Cj l (i+1)=if E5 (Ao l i) (Ao l (Cj l i))=true then i else Cj l i:=rfl
  have zi:=hs.at_ h0 i
  have zj:=hs.at_ h0 (Cj l i)
  refine qP I (qP I (qP I ?_))
  refine qJ ?_
  refine qL 0 I I (fun W1 hp=>(hr i hlt).hp hp) I (qP I (qP I ?_))
  refine qJ ?_
  refine qL 0 I I (fun W1 hp=>(hr (Cj l i) hls).hp hp) I (qC I I (fun W1 hp=>Qs c (Ao l i) (Ao l (Cj l i)) (sz2 zi.1 zj.1 (by omega)) (sz2 zi.2 zj.2 (by omega)) W1 (hc.hp hp) (hv.hp hp) (ht.hp hp)) (qP I (qU 23 (E5 (Ao l i) (Ao l (Cj l i))) I (S2 _ _) (A7 (Aa (zE ?_))))))
  refine Aj I (fun hc2=> ?_) (fun hc2=> ?_)
  ·have hc2:E5 (Ao l i) (Ao l (Cj l i))=true:=hc2
   rw[if_pos hc2] at hsu
   exact zB (wP I (wP I (Aa (zN (zE (zB (wP I (wP I (wV 12 ((i+1:Nat):Int) I (A0 (by omega)) (wP I (Aa (Ak (i+1) ⟨by omega,hlt⟩ (by show l.length-(i+1)<l.length-i;omega) ⟨I,I,congrArg (fun n:Nat=>some (Value.int .i64 (n:Int))) hsu.symm,I,tO⟩ [] I))))))))))))
  ·have hc2:E5 (Ao l i) (Ao l (Cj l i))=false:=hc2
   rw[hc2,if_neg (by decide)] at hsu
   exact zI (zN (zE (zB (wP I (wP I (wV 12 ((i+1:Nat):Int) I (A0 (by omega)) (wP I (Aa (Ak (i+1) ⟨by omega,hlt⟩ (by show l.length-(i+1)<l.length-i;omega) ⟨I,I,congrArg (fun n:Nat=>some (Value.int .i64 (n:Int))) hsu.symm,I,tO⟩ [] I)))))))))
 have e:i=l.length:=by omega
 subst e
 obtain⟨m,hm⟩: ∃m,m=Cj l l.length:=⟨_,rfl⟩
 rw[←hm] at hls
 rw[←hm]
 have hB:CP l=l.drop m++l.take m:=by rw[hm];rfl
 have hBC:ptC (CP l)=ptC (l.drop m)++ptC (l.take m):=by rw[hB,Cy]
 have hl1:(l.drop m).length=l.length-m:=List.length_drop
 have hl2:(l.take m).length=m:=by rw[List.length_take];omega
 have hsplit:ptC l=ptC (l.take m)++ptC (l.drop m):=by rw[←Cy,List.take_append_drop]
 have ra:Ag W g 0 (ptC (l.take m)):=by rw[hsplit] at hrow;exact CX hrow
 have rb:Ag W g (m*2) (ptC (l.drop m)):=by
  rw[hsplit] at hrow
  have:=JQ hrow
  rwa [Bv,hl2,Nat.zero_add] at this
 refine wU 10 false I (dF (by omega)) (Aa (zE (zS I (zJ (zK (zK (zL (zE (A9 ?_)))))))))
 refine AZ (X:= { V:Vec//V.OK 2 l.length (ptC (CP l)) }) [true,true,false,true,true,false,false,false,false] (fun V=>[(4,V.1.val l.length)]) (fun V=>[V.1.bx 62 (ptC (CP l))])
  5 [] Tryz.mixed (by kernel_rfl) ?_ ?_
 ·refine qP I (qP I (qP I (qP I (Ca (wX ?_)))))
  refine RS.cons ?_ (RS.cons ?_ (RS.nil))
  ·refine Eg m tH I I I I I I I I (by omega) (by omega) ?_;refine Ay 27 (.slice (some ⟨g,m*2,none⟩) (l.length-m) (cap-m)) I (by rw[if_neg (by omega),Nat.zero_add]) ?_
   refine Aa (Ah (wX (wZ ?_)))
   refine B9 m tH I I I I I I I I (by omega) ?_
   refine Aa (Ah (wX (wZ ?_)))
   refine As Tryz.hZ tH I I I I I I I I I I I fun bL1=> ?_
   refine Aa (Ah (wX (wZ ?_)))
   refine wD (X:=Vec) rfl rfl (fun W1 hp=>CQ W1 bL1 2 (some ⟨g,m*2,none⟩) (some ⟨g,0,none⟩) (l.length-m) m (cap-m) cap (ptC (l.drop m)) (ptC (l.take m)) (Ag.of_bx hp 0 rfl rfl) (.inr ⟨g,m*2,rfl,rb.hp hp⟩) (.inr ⟨g,0,rfl,ra.hp hp⟩) (by rw[Bv,hl1]) (by rw[Bv,hl2]) (EH _) (EH _) (by omega) (by omega)) ?_;intro V1 hV1;refine Ay 32 (V1.val l.length) rfl (by rw[show l.length-m+m=l.length by omega]) ?_
   refine Aa (Ah (wX (wZ (wP I (Aa (Ah ?_))))))
   rw[show l.length-m+m=l.length by omega, ←hBC] at hV1;rw[←hBC];first|refine AF rfl (by((repeat (first|refine AK.same ?_|refine AK.off rfl ?_));exact trivial)) ?_|refine AS rfl (by kernel_rfl) ?_
   exact Az ⟨V1,hV1⟩ ⟨I,tO⟩ [1] (by decide) I
  ·refine B9 m tH I I I I I I I I (by omega) ?_
   refine Aa (Ah (wX (wZ ?_)))
   refine Eg m tH I I I I I I I I (by omega) (by omega) ?_;refine Ay 27 (.slice (some ⟨g,m*2,none⟩) (l.length-m) (cap-m)) I (by rw[if_neg (by omega),Nat.zero_add]) ?_
   refine Aa (Ah (wX (wZ ?_)))
   refine As Tryz.hZ tH I I I I I I I I I I I fun bL1=> ?_
   refine Aa (Ah (wX (wZ ?_)))
   refine wD (X:=Vec) rfl rfl (fun W1 hp=>CQ W1 bL1 2 (some ⟨g,m*2,none⟩) (some ⟨g,0,none⟩) (l.length-m) m (cap-m) cap (ptC (l.drop m)) (ptC (l.take m)) (Ag.of_bx hp 0 rfl rfl) (.inr ⟨g,m*2,rfl,rb.hp hp⟩) (.inr ⟨g,0,rfl,ra.hp hp⟩) (by rw[Bv,hl1]) (by rw[Bv,hl2]) (EH _) (EH _) (by omega) (by omega)) ?_;intro V1 hV1;refine Ay 32 (V1.val l.length) rfl (by rw[show l.length-m+m=l.length by omega]) ?_
   refine Aa (Ah (wX (wZ (wP I (Aa (Ah ?_))))))
   rw[show l.length-m+m=l.length by omega, ←hBC] at hV1;rw[←hBC];first|refine AF rfl (by((repeat (first|refine AK.same ?_|refine AK.off rfl ?_));exact trivial)) ?_|refine AS rfl (by kernel_rfl) ?_
   exact Az ⟨V1,hV1⟩ ⟨I,tO⟩ [1] (by decide) I
 rintro⟨V,hV⟩
 exact zE (zO (Aw tH I (.tmp I) V I hV fun W1 hp=>Ap.of_hp hp))
-- BOXES 12
-- CODE2
theorem NC (q:Rat):decide (FX q≤0)=decide (q≤0):=by
 refine decide_eq_decide.2 ?_
 have h:0<q.num↔0<q:=by
  have h1:0≤q.num↔0≤q:=Rat.num_nonneg
  have h2:q.num=0↔q=0:=Rat.num_eq_zero
  constructor
  ·intro h
   exact Rat.lt_of_le_of_ne (h1.1 (by omega)) (fun e=>by rw[←e] at h;exact absurd h (by decide))
  ·intro h
   have a:=h1.2 (Rat.le_of_lt h)
   have b:q.num≠0:=fun e=>by rw[h2.1 e] at h;exact Rat.lt_irrefl h
   omega
 rw[←Rat.not_lt, ←h]
 unfold FX
 split
 ·omega
 ·split<;>omega
theorem IZ (q:Rat):FX q= -1∨FX q=0∨FX q=1:=by
 unfold FX
 split
 ·exact .inr (.inl I)
 ·split
  ·exact .inl I
  ·exact .inr (.inr I)
theorem Vv (u v:Rat):decide (w64 (FX u*FX v)<0)=decide (u*v<0):=by
 have hu:=NR u
 have hu2:=NC u
 have hv:=NR v
 have hv2:=NC v
 rw[decide_eq_decide] at hu hu2 hv hv2
 rw[decide_eq_decide,M1]
 have hw:w64 (FX u*FX v)=FX u*FX v:=by
  rcases IZ u with a|a|a<;>rcases IZ v with b|b|b<;>rw[a,b]<;>rfl
 rw[hw]
 rw[show 0<v↔ ¬v≤0 from Rat.not_le.symm,show 0<u↔ ¬u≤0 from Rat.not_le.symm, ←hu, ←hu2, ←hv, ←hv2]
 rcases IZ u with a|a|a<;>rcases IZ v with b|b|b<;>rw[a,b]<;>decide
theorem WU {W0 W:World} {bxs:List Bx} (hp:Hp W0 bxs W) (k:Nat) {g:Nat} {l:List Rat} {junk:List Value} {i:Nat} (hk:nth bxs k=some ⟨g,25,vsC l++junk,true,none⟩) (hi:i<l.length):Ag W g (0+i*1) [str (Ac l[i])]:=by
 have h:=CX (Ag.of_bx hp k hk rfl)
 refine⟨h.lt,fun m u hu=> ?_⟩
 cases m with
 |zero=>
  obtain rfl:str (Ac l[i])=u:=by simpa using hu
  have:=h.get i (str (Ac l[i])) (by rw[List.getElem?_map,List.getElem?_eq_getElem hi];rfl)
  rw[Nat.zero_add,Nat.mul_one,Nat.add_zero]
  rwa [Nat.zero_add] at this
 |succ m=>simp at hu
structure ClZ (f:DX) (l:List An):Prop where
 v: ∀q∈l,Ym f q
 c: ∀i,i<l.length→f.at (Ao l i)*f.at (Ao l (i+1))<0→Ya (Ao l i) (Ao l (i+1)) (f.at (Ao l i)) (f.at (Ao l (i+1)))
 o:IV 149 (Cc f l)
def E1 (f:DX) (l:List An) (k:Nat):List An:=(Dv (Ao l) k f).map (SG (Ao l))
def Gb (f:DX) (l:List An) (k:Nat):List An:=E1 f l k++(if f.at (Ao l k)≤0 then[Ao l k] else[])
theorem Ns (f:DX) (l:List An) (k:Nat):E1 f l (k+1)=Gb f l k++(if f.at (Ao l k)*f.at (Ao l (k+1))<0 then[QM (f.at (Ao l k)/(f.at (Ao l k)-f.at (Ao l (k+1)))) (Ao l k) (Ao l (k+1))] else[]):=by
 unfold E1 Gb
 rw[O0,OM,List.append_assoc]
 rfl
theorem Hc (f:DX) (l:List An): ∀k,(E1 f l k).length≤2*k
 |0=>Nat.le_refl _
 |k+1=>by
  have ih:=Hc f l k
  rw[Ns]
  unfold Gb
  rw[List.length_append,List.length_append]
  have a:(if f.at (Ao l k)≤0 then[Ao l k] else[]).length≤1:=by split<;>simp
  have b:(if f.at (Ao l k)*f.at (Ao l (k+1))<0 then[QM (f.at (Ao l k)/(f.at (Ao l k)-f.at (Ao l (k+1)))) (Ao l k) (Ao l (k+1))] else[]).length≤1:=by split<;>simp
  omega
theorem U3 (f:DX) (l:List An) (k:Nat):(Gb f l k).length≤2*k+1:=by
 unfold Gb
 have:=Hc f l k
 rw[List.length_append]
 have a:(if f.at (Ao l k)≤0 then[Ao l k] else[]).length≤1:=by split<;>simp
 omega
theorem VQ (f:DX) (l:List An):(l.map f.at).any (fun q=>decide (q<0))=JS f l:=by
 unfold JS
 rw[List.any_map];rfl
abbrev ckB (b c:Nat):Bx:=⟨b,315,[Ai c],true,none⟩
abbrev lsB (b:Nat) (v:Value):Bx:=⟨b,210,[v],true,none⟩
abbrev nmB (b:Nat) (v:Value):Bx:=⟨b,63,[v],true,none⟩
theorem PW (c:Nat) (f:DX) (l:List An) (hz:ClZ f l) (hP:HI l) (h3:3≤l.length) (hn:l.length≤4096) (p:Option Addr) (cap:Nat) (W:World) (hA:BH W p l) (hc:Dh W c) (hv:AE W) (ht:A6 W):
  Ad Tryz.prog 284 #[Ai c,slv p l.length cap,str (Ac f.a),str (Ac f.b),str (Ac f.c)] W (fun V:Vec=>V.val (FM f l).length) (fun V=>V.OK 2 (FM f l).length (ptC (FM f l))) (fun V=>[V.bx 62 (ptC (FM f l))]):=by
 have hn0:0<l.length:=by omega
 have hzz:(l.length:Int)≠0:=by omega
 have hvl:(l.map f.at).length=l.length:=List.length_map _
 refine Ab (args:=[Ai c,slv p l.length cap,str (Ac f.a),str (Ac f.b),str (Ac f.c)]) Tryz.func284 I I I ?_
 refine zA (zB ?_)
 (refine Al rfl rfl rfl rfl ?_;intro)
 (refine Al rfl rfl rfl rfl ?_;intro)
 refine wP I (Aa ?_)
 rename_i b5 b6
 refine zE (A9 ?_)
 refine AZ (X:= { s:Nat×Vec//s.2.OK 1 l.length (vsC (l.map f.at)) }) [true,true,true,true,true,false,false,false,false] (fun s=>[(5,Ai b5),(6,Ai b6),(11,Ai s.1.1)]) (fun s=>[ckB b5 c,lsB b6 (slv p l.length cap),nmB s.1.1 (s.1.2.val l.length),s.1.2.bx 25 (vsC (l.map f.at))])
  4 [ckB b5 c,lsB b6 (slv p l.length cap)] Tryz.mixed (by kernel_rfl) ?_ ?_
 ·refine qB 1 I I I (qB 0 I I I (qP I (qP I (qP I (Ca (wX ?_))))))
  refine RS.cons ?_ (RS.cons ?_ (RS.nil))
  ·refine wD (X:=Nat×Nat×Nat×Nat) rfl rfl (fun W1 _=>IX c f W1) ?_;rintro⟨v4,v5,v6,v7⟩ _
   refine Aa (Ah (wX ?_))
   refine RS.cons ?_ (RS.cons ?_ (RS.nil))
   ·refine wD (X:=Vec) rfl rfl (fun W1 hp=>FD l f.at 361 [Ai v4,Ai v5,Ai v6,Ai v7] (by kernel_rfl) hn p cap W1 (hA.hp hp) (fun q hq W2 hb=>FE v4 v5 v6 v7 c f q (hz.v q hq) W2 (M3.below (by first|exact⟨Ag.of_bx hp 2 rfl rfl,Ag.of_bx hp 3 rfl rfl,Ag.of_bx hp 4 rfl rfl,Ag.of_bx hp 5 rfl rfl,hc.hp hp,hv.hp hp,ht.hp hp⟩|exact⟨Ag.of_bx hp 3 rfl rfl,Ag.of_bx hp 4 rfl rfl,Ag.of_bx hp 5 rfl rfl,Ag.of_bx hp 6 rfl rfl,hc.hp hp,hv.hp hp,ht.hp hp⟩) hb))) ?_;rintro⟨pV1,cV1,jV1⟩ hV1;obtain⟨gV1,rfl⟩: ∃g,pV1=some g:=Option.ne_none_iff_exists'.1 (fun e=>absurd (hV1.nil e) (by omega))
    refine Aa (Ah (wX (wZ ?_)))
    refine Ae Tryz.hZ rfl rfl rfl rfl ?_;intro b11
    refine Aa (Ah (wX (wZ (wS 7 I I I (Aa (Ah ?_))))))
    refine AF I (by((repeat (first|refine AK.same ?_|refine AK.off I ?_));exact tO)) ?_
    exact Az (⟨(b11,⟨some gV1,cV1,jV1⟩),hV1⟩: { s:Nat×Vec//s.2.OK 1 l.length (vsC (l.map f.at)) }) ⟨I,I,I,tO⟩ [0,1,7,6] (by decide) I
   ·refine Ae Tryz.hZ rfl rfl rfl rfl ?_;intro b11
    refine Aa (Ah (wX (wZ ?_)))
    refine wD (X:=Vec) rfl rfl (fun W1 hp=>FD l f.at 361 [Ai v4,Ai v5,Ai v6,Ai v7] (by kernel_rfl) hn p cap W1 (hA.hp hp) (fun q hq W2 hb=>FE v4 v5 v6 v7 c f q (hz.v q hq) W2 (M3.below (by first|exact⟨Ag.of_bx hp 2 rfl rfl,Ag.of_bx hp 3 rfl rfl,Ag.of_bx hp 4 rfl rfl,Ag.of_bx hp 5 rfl rfl,hc.hp hp,hv.hp hp,ht.hp hp⟩|exact⟨Ag.of_bx hp 3 rfl rfl,Ag.of_bx hp 4 rfl rfl,Ag.of_bx hp 5 rfl rfl,Ag.of_bx hp 6 rfl rfl,hc.hp hp,hv.hp hp,ht.hp hp⟩) hb))) ?_;rintro⟨pV1,cV1,jV1⟩ hV1;obtain⟨gV1,rfl⟩: ∃g,pV1=some g:=Option.ne_none_iff_exists'.1 (fun e=>absurd (hV1.nil e) (by omega))
    refine Aa (Ah (wX (wZ (wS 6 I I I (Aa (Ah ?_))))))
    refine AF I (by((repeat (first|refine AK.same ?_|refine AK.off I ?_));exact tO)) ?_
    exact Az (⟨(b11,⟨some gV1,cV1,jV1⟩),hV1⟩: { s:Nat×Vec//s.2.OK 1 l.length (vsC (l.map f.at)) }) ⟨I,I,I,tO⟩ [0,1,6,7] (by decide) I
  ·refine Ae Tryz.hZ rfl rfl rfl rfl ?_;intro b11
   refine Aa (Ah (wX (wZ ?_)))
   refine wD (X:=Nat×Nat×Nat×Nat) rfl rfl (fun W1 _=>IX c f W1) ?_;rintro⟨v4,v5,v6,v7⟩ _
   refine Aa (Ah (wX (wZ ?_)))
   refine wD (X:=Vec) rfl rfl (fun W1 hp=>FD l f.at 361 [Ai v4,Ai v5,Ai v6,Ai v7] (by kernel_rfl) hn p cap W1 (hA.hp hp) (fun q hq W2 hb=>FE v4 v5 v6 v7 c f q (hz.v q hq) W2 (M3.below (by first|exact⟨Ag.of_bx hp 2 rfl rfl,Ag.of_bx hp 3 rfl rfl,Ag.of_bx hp 4 rfl rfl,Ag.of_bx hp 5 rfl rfl,hc.hp hp,hv.hp hp,ht.hp hp⟩|exact⟨Ag.of_bx hp 3 rfl rfl,Ag.of_bx hp 4 rfl rfl,Ag.of_bx hp 5 rfl rfl,Ag.of_bx hp 6 rfl rfl,hc.hp hp,hv.hp hp,ht.hp hp⟩) hb))) ?_;rintro⟨pV1,cV1,jV1⟩ hV1;obtain⟨gV1,rfl⟩: ∃g,pV1=some g:=Option.ne_none_iff_exists'.1 (fun e=>absurd (hV1.nil e) (by omega))
   refine Aa (Ah (wX (wZ (wS 2 I I I (Aa (Ah ?_))))))
   refine AF I (by((repeat (first|refine AK.same ?_|refine AK.off I ?_));exact tO)) ?_
   exact Az (⟨(b11,⟨some gV1,cV1,jV1⟩),hV1⟩: { s:Nat×Vec//s.2.OK 1 l.length (vsC (l.map f.at)) }) ⟨I,I,I,tO⟩ [0,1,2,7] (by decide) I
 rintro⟨⟨b11,⟨pV,cV,jV⟩⟩,hV⟩
 obtain⟨gV,rfl⟩: ∃g,pV=some g:=by
  cases pV with
  |none=>have:=hV.nil rfl;omega
  |some g=>exact⟨g,rfl⟩
 have hcapV:=(hV.cap (by simp)).1
 refine zE (zA (zA (zB (wB 0 I I I ?_))))
 refine AG I I I I ?_
 refine wP I (wL 0 I I (fun W1 hp=>(hc.hp hp).row) I (wP I (Aa (zE (zS I (zI (zE (zA (zB ?_)))))))))
 (refine Ae Tryz.hZ rfl rfl rfl rfl ?_;intro)
 refine Aa ?_
 rename_i b12
 refine zE (zA (zA (zB (wB 1 I I I ?_))))
 refine wD (X:=Nat) I I (fun W1 _=>EF p l.length cap W1) ?_
 intro bp _
 refine Aa (zE (zH ?_))
 refine C6 ?_
 refine El (X:=Nat×Vec) (fun x=>[ckB b5 c,lsB b6 (slv p l.length cap),nmB b11 (.slice (some ⟨gV,0,none⟩) l.length cV),⟨gV,25,vsC (l.map f.at)++jV,true,none⟩,lsB b12 (x.2.val (E1 f l x.1).length),lsB bp (slv p l.length cap),x.2.bx 62 (ptC (E1 f l x.1))])
  (fun j x=>x.1=j∧x.2.OK 2 (E1 f l x.1).length (ptC (E1 f l x.1))) (fun _ _=>False) (0,Vec.empty) rfl (by kernel_rfl) (Fv l bp p cap (by omega)) (fun _=>rfl)
  ⟨rfl,Vec.OK.empty 2⟩ [] rfl (fun k x W1 _ hp=>⟨Ag.of_bx hp 5 rfl rfl,hA.hp hp⟩) ?_ ?_ (fun _ _ _ _ _ h=>h.elim)
 ·rintro k ⟨k',O⟩ d l' rec L hk ⟨e1,hO⟩ hrec
  obtain rfl:k'=k:=e1
  have hk:k'<l.length:=hk
  have hO:O.OK 2 (E1 f l k').length (ptC (E1 f l k')):=hO
  have hol:=Hc f l k'
  have hml:=U3 f l k'
  have hsl:=Hc f l (k'+1)
  have hk2:(k'+1)%l.length<l.length:=Nat.mod_lt _ hn0
  have ev: ∀i (hi:i<l.length),(l.map f.at)[i]'(by rw[hvl];exact hi)=f.at (Ao l i):=fun i hi=>by rw[List.getElem_map,CS hi]
  have hr1: ∀ {W0 W1:World} {bxs:List Bx} (hp:Hp W0 bxs W1) (m:Nat) (hm:nth bxs m=some ⟨gV,25,vsC (l.map f.at)++jV,true,none⟩),Ag W1 gV (0+k'*1) [str (Ac (f.at (Ao l k')))]:=fun hp m hm=>by
   have:=WU hp m hm (i:=k') (by rw[hvl];exact hk)
   rwa [ev k' hk] at this
  have hr2: ∀ {W0 W1:World} {bxs:List Bx} (hp:Hp W0 bxs W1) (m:Nat) (hm:nth bxs m=some ⟨gV,25,vsC (l.map f.at)++jV,true,none⟩),Ag W1 gV (0+((k'+1)%l.length)*1) [str (Ac (f.at (Ao l (k'+1))))]:=fun hp m hm=>by
   have:=WU hp m hm (i:=(k'+1)%l.length) (by rw[hvl];exact hk2)
   rwa [ev _ hk2,JY] at this
  obtain⟨u,hu⟩: ∃u,u=f.at (Ao l k'):=⟨_,rfl⟩
  obtain⟨v,hvv⟩: ∃v,v=f.at (Ao l (k'+1)):=⟨_,rfl⟩
  have hsu:=Ns f l k'
  have hmu:Gb f l k'=E1 f l k'++(if u≤0 then[Ao l k'] else[]):=by rw[hu];rfl
  have hcz:=hz.c k' hk
  rw[←hu, ←hvv] at hsu hcz
  rw[←hu] at hr1
  rw[←hvv] at hr2
  refine zA (zB (wP I (Aa (zE (zB ?_)))))
  (refine Ae Tryz.hZ rfl rfl rfl rfl ?_;intro)
  refine wS 10 I I I (Aa ?_)
  rename_i b14
  refine B5 9 hrec I ?_
  refine Bt (zA (zU (qB 3 I I I (qP I ?_))))
  refine qJ ?_
  refine qL 0 I I (fun W1 hp=>hr1 hp 4 I) I (qC I I (fun W1 _=>Hg u W1) (qB 3 I I I (qP I (qP I (qV 40 ((k'+1:Nat):Int) I (A0 (by omega)) (qB 2 I I I (qP I ?_)))))))
  refine E6 I I I I I hzz ?_
  refine Ek 43 (.int .i64 (((k'+1)%l.length:Nat):Int)) I I ?_
  refine qJ ?_
  refine qL 0 I I (fun W1 hp=>hr2 hp 4 I) I (qC I I (fun W1 _=>Hg v W1) (qP I (qP I (A7 (Aa (zE (zA (zA (zB (wP I (wP I (wU 48 (decide (u≤0)) I (NC u) (Aa ?_)))))))))))))
  refine AH ?_
  refine Be (X:=Vec) (fun _=>[(5,Ai b5),(6,Ai b6),(11,Ai b11),(12,Ai b12),(13, .int .i64 (k':Nat)),(14,Ai b14),(15, .int .i64 (FX u)),(16, .int .i64 (FX v))])
   (fun O=>[AP L,ckB b5 c,lsB b6 (slv p l.length cap),nmB b11 (.slice (some ⟨gV,0,none⟩) l.length cV),⟨gV,25,vsC (l.map f.at)++jV,true,none⟩,lsB b12 (O.val (Gb f l k').length),lsB bp (slv p l.length cap),O.bx 62 (ptC (Gb f l k')),Bw d,AU l' rec .busy none,⟨b14,321,(sdV (Ao l k') (Ao l (k'+1))).cells.toList,true,none⟩])
   (fun O=>O.OK 2 (Gb f l k').length (ptC (Gb f l k'))) ?_ ?_
  ·refine Aj I (fun hc1=> ?_) (fun hc1=> ?_)
   ·rw[if_pos (of_decide_eq_true hc1)] at hmu
    have hlm:(E1 f l k').length+1=(Gb f l k').length:=by rw[hmu,List.length_append];rfl
    refine zB (wB 5 I I I ?_)
    refine DP Tryz.underlying321 Tryz.sizeOf62 I I I I I ⟨by decide,by decide⟩ ?_
    refine wB 10 I I I ?_
    refine As Tryz.hZ tH I I I I I I I I I I I fun bS=> ?_
    refine AL (V:=O) (len:=(E1 f l k').length) (xs:=ptC (E1 f l k')) 7 11 Tryz.vec210 (Gb f l k').length (ptC (Gb f l k')) I I I I I I I I I I I hO I I hlm (by rw[hmu,Cy];rfl) (by simp only[maxLen];omega) (by omega) I ?_
    intro gO cO jO hO1
    exact wS 5 I I I (Aa (A5 ⟨some gO,cO,jO⟩ hO1 ⟨I,I,I,I,I,I,I,I,tO⟩ [_] I))
   ·rw[if_neg (of_decide_eq_false hc1),List.append_nil] at hmu
    exact zI (A5 O (by rw[hmu];exact hO) ⟨I,I,I,I,I,I,I,I,tO⟩ [] (by rw[hmu];rfl))
  intro O1 hO1
  have hO1:O1.OK 2 (Gb f l k').length (ptC (Gb f l k')):=hO1
  refine zA (zB (wP I (wP I (wP I (wP I (wU 57 (decide (u*v<0)) I (Vv u v) (Aa (zE ?_))))))))
  refine Aj I (fun hc2=> ?_) (fun hc2=> ?_)
  ·have hc2':u*v<0:=of_decide_eq_true hc2
   rw[if_pos hc2'] at hsu
   have hlm:(Gb f l k').length+1=(E1 f l (k'+1)).length:=by rw[hsu,List.length_append];rfl
   refine AZ (X:= { O:Vec//O.OK 2 (E1 f l (k'+1)).length (ptC (E1 f l (k'+1))) }) [true,true,true,true,true,true,true,true,true,true,true,true,true,true,true,true,true,true,true,false,false,false] (fun _=>[(5,Ai b5)])
    (fun O=>[AP L,ckB b5 c,lsB b6 (slv p l.length cap),nmB b11 (.slice (some ⟨gV,0,none⟩) l.length cV),⟨gV,25,vsC (l.map f.at)++jV,true,none⟩,lsB b12 (O.1.val (E1 f l (k'+1)).length),lsB bp (slv p l.length cap),O.1.bx 62 (ptC (E1 f l (k'+1))),Bw d,AU l' rec .busy none])
    3 [AP L,ckB b5 c,lsB b6 (slv p l.length cap),nmB b11 (.slice (some ⟨gV,0,none⟩) l.length cV),⟨gV,25,vsC (l.map f.at)++jV,true,none⟩,lsB b12 (O1.val (Gb f l k').length),lsB bp (slv p l.length cap),O1.bx 62 (ptC (Gb f l k')),Bw d,AU l' rec .busy none,⟨b14,321,(sdV (Ao l k') (Ao l (k'+1))).cells.toList,true,none⟩] Tryz.mixed (by kernel_rfl) ?_ ?_
   ·refine qB 5 I I I (qB 1 I I I ?_)
    refine Bn Tryz.underlying321 Tryz.sizeOf62 I I I I I ⟨by decide,by decide⟩ ?_
    refine qB 10 I I I ?_
    refine Bn Tryz.underlying321 Tryz.sizeOf62 I I I I I ⟨by decide,by decide⟩ ?_
    refine qB 10 I I I (qB 3 I I I (qP I ?_))
    refine qJ ?_
    refine qL 0 I I (fun W1 hp=>hr1 hp 4 I) I (qB 3 I I I (qP I (qP I (qV 70 ((k'+1:Nat):Int) I (A0 (by omega)) (qB 2 I I I (qP I ?_))))))
    refine E6 I I I I I hzz ?_
    refine Ek 73 (.int .i64 (((k'+1)%l.length:Nat):Int)) I I ?_
    refine qJ ?_
    refine qL 0 I I (fun W1 hp=>hr2 hp 4 I) I (qC I I (fun W1 hp=>Rm c (Ao l k') (Ao l (k'+1)) u v (hcz hc2') W1 (hc.hp hp) (hv.hp hp) (ht.hp hp)) (Ca (wX (wZ ?_))))
    refine As Tryz.hZ tH I I I I I I I I I I I fun bS=> ?_
    refine Aa (Ah (wX (wZ ?_)))
    refine AL (V:=O1) (len:=(Gb f l k').length) (xs:=ptC (Gb f l k')) 7 11 Tryz.vec210 (E1 f l (k'+1)).length (ptC (E1 f l (k'+1))) rfl rfl rfl rfl rfl rfl rfl rfl rfl rfl rfl hO1 rfl rfl hlm (by rw[hsu,Cy];rfl) (by simp only[maxLen];omega) (by omega) rfl ?_;intro gO cO jO hO2
    refine Aa (Ah (wY (wZ (wS 5 I I I (Aa (Ah ?_))))))
    refine AS I (by kernel_rfl) ?_
    exact Az (⟨⟨some gO,cO,jO⟩,hO2⟩: { O:Vec//O.OK 2 (E1 f l (k'+1)).length (ptC (E1 f l (k'+1))) }) ⟨I,tO⟩ [0,1,2,3,4,5,6,7,8,9] (by decide) I
   rintro⟨O2,hO2⟩
   exact zN (Ba 9 (k'+1,O2) hrec I ⟨I,hO2⟩ [] I)
  ·rw[if_neg (of_decide_eq_false hc2),List.append_nil] at hsu
   exact zI (zN (Ba 9 (k'+1,O1) hrec I ⟨I,by show O1.OK 2 (E1 f l (k'+1)).length (ptC (E1 f l (k'+1)));rw[hsu];exact hO1⟩ [_] (by rw[hsu];rfl)))
 ·rintro⟨k',O⟩ d l' rec ⟨e1,hO⟩
  obtain rfl:k'=l.length:=e1
  have hO:O.OK 2 (Cc f l).length (ptC (Cc f l)):=hO
  have hoe:E1 f l l.length=Cc f l:=rfl
  have hol:=Hc f l l.length
  rw[hoe] at hol
  rw[hoe]
  refine zN (zE (zA (zA (zB (wB 0 I I I ?_)))))
  refine AG I I I I ?_
  refine wP I (wL 0 I I (fun W1 hp=>(hc.hp hp).row) I (wP I (wP I (wB 2 I I I ?_))))
  refine wC I I (fun W1 hp=>(by
   have h:=J8 334 (by kernel_rfl) (fun q=>decide (q<0)) OI (l.map f.at) (by rw[hvl];omega) (some ⟨gV,0,none⟩) cV W1 (.inr ⟨gV,0,rfl,by
    have:=CX (Ag.of_bx hp 3 rfl rfl:Ag W1 gV 0 (vsC (l.map f.at)++jV))
    rw[List.map_map];exact this⟩)
   rwa [hvl,VQ] at h)) ?_
  cases hneg:JS f l with
  |false=>
   refine wP I (wP I (Aa (zE (zR I (zA (zB (wP I (Aa (zE (zO (zP ?_)))))))))))
   refine BN 7 I ?_
   have e0:FM f l=[]:=by unfold FM;rw[hneg];rfl
   exact Aw tH I (.tmp I) Vec.empty (by rw[e0];rfl) (by rw[e0];exact Vec.OK.empty 2) fun W1 hp=>by
    rw[e0]
    exact Own.one (fun p hp=>by cases hp) List.nodup_nil
  |true=>
   have e0:FM f l=CP (Cc f l):=by unfold FM;rw[hneg];rfl
   have hlb:(CP (Cc f l)).length=(Cc f l).length:=R6 (Tx _)
   obtain⟨q,hq,hqn⟩:=Rd.1 hneg
   have hpos:0<(Cc f l).length:=by
    obtain⟨i,hi,e⟩:=EQ hq
    have:=Vt hP hi (by rw[e];exact hqn)
    rw[P0]
    omega
   obtain⟨pO,cO,jO⟩:=O
   obtain⟨gO,rfl⟩: ∃g,pO=some g:=Option.ne_none_iff_exists'.1 (fun e=>absurd (hO.nil e) (by omega))
   have hcO:=(hO.cap (by simp)).1
   refine wP I (wP I (Aa (zE (zS I (zI (zE (zA (zB (wB 0 I I I (wB 4 I I I ?_))))))))))
   refine wD (X:=Vec) I I (fun W1 hp=>ON c (Cc f l) 149 (by decide) hz.o hpos (by omega) gO cO hcO W1 (CX (Ag.of_bx hp 6 I I:Ag W1 gO 0 (ptC (Cc f l)++jO))) (hc.hp hp) (hv.hp hp) (ht.hp hp)) ?_
   intro V2 hV2
   have hV2:V2.OK 2 (Cc f l).length (ptC (CP (Cc f l))):=hV2
   refine wP I (Aa (zE (zO ?_)))
   refine BN 7 I ?_
   exact Aw tH I (.tmp I) V2 (by rw[e0,hlb]) (by rw[e0,hlb];exact hV2) fun W1 hp=>by
    rw[e0]
    exact Ap.of_hp (hp.pick (l:=[V2.bx 62 (ptC (CP (Cc f l)))]) [9] (by decide) I)
-- BOXES 12
-- CODE2
theorem Nm : ∃ f1 f2 : Field, (Tryz.prog.fieldsOf 62).toList = [f1, f2] ∧ (f1.name ≠ "_" ∧ f1.type = 25 ∧ f1.offset = 0) ∧ (f2.name ≠ "_" ∧ f2.type = 25 ∧ f2.offset = 1) := by
 unfold Program.fieldsOf;rw[Tryz.underlying62]
 exact⟨_,_,I,⟨by decide,I,I⟩,⟨by decide,I,I⟩⟩
theorem Xu (W:World) (a b c d:List UInt8):(binOp .eql 62 (.agg #[str a,str b]) (.agg #[str c,str d])).run Tryz.prog W= .ok (.bool (decide (a=c∧b=d))) W:=by
 rw[run_eql_struct,run_equalIn_agg W 9999 62 _ _ (by kernel_rfl) (by kernel_rfl)]
 obtain⟨f1,f2,hf,⟨n1,t1,o1⟩,⟨n2,t2,o2⟩⟩:=Nm
 rw[hf]
 have e: ∀(x y:List UInt8) W,(Op.equalIn 9999 25 (str x) (str y)).run Tryz.prog W= .ok (decide (x=y)) W:=fun x y W=>by
  rw[run_equalIn_string W 9998 25 _ _ Tryz.underlying25,AX]
 by_cases h1:a=c<;>by_cases h2:b=d<;>simp[Op.eqFields,part,Tryz.isAgg25,e,h1,h2,n1,n2,t1,t2,o1,o2]
theorem Xf (W:World) (a b c d:List UInt8):(binOp .neq 62 (.agg #[str a,str b]) (.agg #[str c,str d])).run Tryz.prog W= .ok (.bool (!decide (a=c∧b=d))) W:=by
 rw[run_neq_struct,run_equalIn_agg W 9999 62 _ _ (by kernel_rfl) (by kernel_rfl)]
 obtain⟨f1,f2,hf,⟨n1,t1,o1⟩,⟨n2,t2,o2⟩⟩:=Nm
 rw[hf]
 have e: ∀(x y:List UInt8) W,(Op.equalIn 9999 25 (str x) (str y)).run Tryz.prog W= .ok (decide (x=y)) W:=fun x y W=>by
  rw[run_equalIn_string W 9998 25 _ _ Tryz.underlying25,AX]
 by_cases h1:a=c<;>by_cases h2:b=d<;>simp[Op.eqFields,part,Tryz.isAgg25,e,h1,h2,n1,n2,t1,t2,o1,o2]
section
variable {r:Option Nat} {n:Nat} {N:Nat} {D:List Deferred} {ops:List Oper} {Q:Exit→Act→World→Prop} {o:Oper} {rest:List Oper} {env:Env} {A A2:World→Prop} {R:Act→World→Prop}
theorem N7 (a b c d:List UInt8) {t:Nat} {u:TypeId} {x y:Operand} (hg:Ax ops N env o=some true) (hd:o.dst=some t) (ho:o.op= .binOp .eql 62 x y u)
  (hx:evO N env x=some (.agg #[str a,str b])) (hy:evO N env y=some (.agg #[str c,str d]))
  (h:WQ Tryz.prog N D ops A2 R rest ((t, .bool (decide (a=c∧b=d)))::env) A):WQ Tryz.prog N D ops A2 R (o::rest) env A:=
 DV hg hd (fun c e=>by rw[ho] at e;cases e) (fun _ W hρ _=>by
  have hm:Tryz.prog.eqGuardType Tryz.prog.depth 62=false:=by kernel_rfl
  simp[execOp,ho,hρ _ _ hx,hρ _ _ hy,run_eqGuard_agg W .eql 62 x y _ _ hm,Xu]) h
theorem W8 (a b c d:List UInt8) {t:Nat} {u:TypeId} {x y:Operand} (hg:Ax ops N env o=some true) (hd:o.dst=some t) (ho:o.op= .binOp .neq 62 x y u)
  (hx:evO N env x=some (.agg #[str a,str b])) (hy:evO N env y=some (.agg #[str c,str d]))
  (h:WQ Tryz.prog N D ops A2 R rest ((t, .bool (!decide (a=c∧b=d)))::env) A):WQ Tryz.prog N D ops A2 R (o::rest) env A:=
 DV hg hd (fun c e=>by rw[ho] at e;cases e) (fun _ W hρ _=>by
  have hm:Tryz.prog.eqGuardType Tryz.prog.depth 62=false:=by kernel_rfl
  simp[execOp,ho,hρ _ _ hx,hρ _ _ hy,run_eqGuard_agg W .neq 62 x y _ _ hm,Xf]) h
end
-- BOXES 12
-- CODE2
theorem Vh {N:Nat} {D:List Deferred} {Q:Exit→Act→World→Prop} {ex:Exit} {env:Env} {W0:World} {bxs bxs':List Bx} (e:bxs=bxs') (h:NE N D Q ex env (Hp W0 bxs')):NE N D Q ex env (Hp W0 bxs):=e▸h
theorem Wm:Ac 2=[50]:=(congrArg Ac (show(2:Rat)=q2 2 1 by decide+kernel)).trans ns2
structure Yp (p q:An):Prop where
 x:Sz2 p.1 q.2
 y:Sz2 q.1 p.2
 s:Sz2 (p.1*q.2) (q.1*p.2)
theorem Pm (c:Nat) (p q:An) (hz:Yp p q) (W:World) (hc:Dh W c) (hv:AE W) (ht:A6 W):
  Ad Tryz.prog 288 #[Ai c,sdV p q] W (fun _:Unit=>str (Ac (Tv p q))) (fun _=>True) (fun _=>[]):=by
 refine Ab (args:=[Ai c,sdV p q]) Tryz.func288 I I I ?_
 refine zA (zB ?_)
 (refine Al rfl rfl rfl rfl ?_;intro)
 refine wP I (Aa (zE (zA (zU (qP I ?_)))))
 refine Bn Tryz.underlying321 Tryz.sizeOf62 I I I I I ⟨by decide,by decide⟩ ?_
 refine qP I (qB 0 I I I ?_)
 refine Bn Tryz.underlying321 Tryz.sizeOf62 I I I I I ⟨by decide,by decide⟩ ?_
 refine qP I (qB 0 I I I (qC I I (fun W hp=>Cn c p.1 q.2 hz.x W (hc.hp hp) (hv.hp hp) (ht.hp hp)) (qP I ?_)))
 refine Bn Tryz.underlying321 Tryz.sizeOf62 I I I I I ⟨by decide,by decide⟩ ?_
 refine qP I (qB 0 I I I ?_)
 refine Bn Tryz.underlying321 Tryz.sizeOf62 I I I I I ⟨by decide,by decide⟩ ?_
 refine qP I (qB 0 I I I (qC I I (fun W hp=>Cn c q.1 p.2 hz.y W (hc.hp hp) (hv.hp hp) (ht.hp hp)) (qP I (qP I (A7 (Aa (zE (zA (zB (wP I (wP I (wP I (wC I I (fun W hp=>BV c (p.1*q.2) (q.1*p.2) hz.s W (hc.hp hp) (hv.hp hp) (ht.hp hp)) ?_)))))))))))))
 exact wP I (Aa (zE (zO (wR1 I I I))))
def crK (l:List An) (k:Nat):Rat:=Rf (fun i=>Tv (Ao l i) (Ao l (i+1))) k
theorem UR (l:List An) (k:Nat):crK l (k+1)=crK l k+Tv (Ao l k) (Ao l (k+1)):=rfl
structure ArZ (l:List An):Prop where
 d: ∀i,i<l.length→Yp (Ao l i) (Ao l (i+1))
 s: ∀i,i<l.length→Sz2 (crK l i) (Tv (Ao l i) (Ao l (i+1)))
 h:Sz2 (NL l) 2
abbrev caB (c:Nat):Bx:=⟨c,317,[.int .i64 0],true,none⟩
abbrev nuB (b:Nat) (q:Rat):Bx:=⟨b,25,[str (Ac q)],true,none⟩
theorem PV (l:List An) (hz:ArZ l) (p:Option Addr) (cap:Nat) (W:World) (h:LR W p l):
  Ad Tryz.prog 236 #[slv p l.length cap] W (fun _:Unit=> .tuple #[str (Ac (NL l/2)), .int .i64 0]) (fun _=>True) (fun _=>[]):=by
 have hn:=h.n
 refine Ab (args:=[slv p l.length cap]) Tryz.func236 I I I ?_
 refine zA (zB (wP I (wP I (Aa (zE (zA (zA (zB (wP I (wC I I (fun W1 hp=>M9 l p cap W1 (h.hp hp)) (wP I (Aa (zE ?_)))))))))))))
 refine zA (zB (wP I (wP I (Aa (zE (zS I (zI (zE (zA (zB ?_))))))))))
 refine Au Tryz.hZ tH I I I I I I I I ?_
 (refine Al rfl rfl rfl rfl ?_;intro)
 (refine Ae Tryz.hZ rfl rfl rfl rfl ?_;intro)
 (refine Ae Tryz.hZ rfl rfl rfl rfl ?_;intro)
 refine wS 1 I I I (wS 2 I I I (Aa ?_))
 rename_i bC b5 b6
 refine Vh (bxs':=[caB bC,ckB b5 bC,nuB b6 (crK l 0)]) (by show _=[caB bC,ckB b5 bC,nuB b6 0];rw[nuB,BE];rfl) ?_
 refine zE (zA (zA (zB (wP I ?_))))
 refine wD (X:=Nat) I I (fun W1 _=>EF p l.length cap W1) ?_
 intro bp _
 refine Aa (zE (zH ?_))
 refine El (X:=Nat) (fun k=>[caB bC,ckB b5 bC,nuB b6 (crK l k),lsB bp (slv p l.length cap)])
  (fun j x=>x=j) (fun _ _=>False) 0 rfl (by kernel_rfl) (Fv l bp p cap (by omega)) (fun _=>rfl)
  rfl [] rfl (fun k x W1 _ hp=>⟨Ag.of_bx hp 3 rfl rfl,(h.hp hp).m⟩) ?_ ?_ (fun _ _ _ _ _ h=>h.elim)
 ·rintro k k' d l' rec L hk e1 hrec
  obtain rfl:k'=k:=e1
  have hk:k'<l.length:=hk
  have hsu:=UR l k'
  refine zB ?_
  (refine Ae Tryz.hZ rfl rfl rfl rfl ?_;intro)
  refine wS 7 I I I (Aa ?_)
  rename_i b8
  refine B5 6 hrec I ?_
  refine Bt ?_
  refine AZ (X:=Unit) [true,true,true,true,true,true,false] (fun _=>[(5,Ai b5)]) (fun _=>[AP L,caB bC,ckB b5 bC,nuB b6 (crK l (k'+1)),lsB bp (slv p l.length cap),Bw d,AU l' rec .busy none])
   1 [AP L,caB bC,ckB b5 bC,nuB b6 (crK l k'),lsB bp (slv p l.length cap),Bw d,AU l' rec .busy none,⟨b8,321,(sdV (Ao l k') (Ao l (k'+1))).cells.toList,true,none⟩] Tryz.mixed (by kernel_rfl) ?_ ?_
  ·refine qB 2 I I I (qB 3 I I I (qB 2 I I I (qB 7 I I I (qC I I (fun W1 hp=>Pm bC (Ao l k') (Ao l (k'+1)) (hz.d k' hk) W1 (Er hp 1 I) (h.hp hp).v (h.hp hp).t) (qC I I (fun W1 hp=>Fb bC (crK l k') (Tv (Ao l k') (Ao l (k'+1))) (hz.s k' hk) W1 (Er hp 1 I) (h.hp hp).v (h.hp hp).t) (Ca ?_))))))
   rw[←hsu]
   refine wX (wZ (wS 3 I I I (Aa (Ah ?_))))
   refine AS I (by kernel_rfl) ?_
   exact Az () ⟨I,tO⟩ [0,1,2,3,4,5,6] (by decide) I
  intro _
  exact zN (Ba 6 (k'+1) hrec I I [] I)
 ·rintro k' d l' rec e1
  obtain rfl:k'=l.length:=e1
  refine zN (zE (zA (zA (zB (wB 1 I I I (wB 2 I I I (wC I I (fun W1 hp=>(by have:=Le bC (NL l) 2 hz.h (by decide) W1 (Er hp 0 I) (h.hp hp).v (h.hp hp).t;rwa [Wm] at this)) (wP I (Aa (zE (zA (zB (wB 1 I I I ?_)))))))))))))
  refine AG I I I I ?_
  refine wP I (wB 0 I I I (wP I (Aa (zE (zR I (zA (zB (wP I (wP I (wP I (Aa (zE (zO ?_)))))))))))))
  refine zP ?_
  refine BN 4 I ?_
  exact wR2 I I I
-- BOXES 12
-- CODE2
abbrev ptB (b:Nat) (a c:List UInt8):Bx:=⟨b,62,[str a,str c],true,none⟩
-- BOXES 3
-- CODE2
section
variable {P:Program} {W0:World} {N:Nat} {D:List Deferred} {ops:List Oper} {o:Oper} {rest:List Oper} {env:Env} {bxs:List Bx} {A2:World→Prop} {R:Act→World→Prop}
theorem Nb {ρ:Operand→Value} {c:Call} {f:Operand} {g:Nat} {first vs:List Value} {W:World} (ho:o.op= .call c) (hc:c.callee= .value f) (hf:ρ f= .func (.func g) first.toArray #[]) (ha:c.args.map ρ=vs.toArray) (hE:AJ P g=true):
  (execOp ρ o).run P W= .ok (.enter g (first++vs).toArray) W:=by
 simp only[execOp,ho,resolve,hc,hf,ha,Sem.run_bind,Deferred.ofValue,Sem.run_pure,Result.andThen_ok,invoke,F6 hE]
 simp
theorem UY {c:Call} {f:Operand} {g d:Nat} {first vs:List Value} {v:Value}
  (hg:Ax ops N env o=some true) (hd:o.dst=some d) (ho:o.op= .call c) (hc:c.callee= .value f) (hf:evO N env f=some (.func (.func g) first.toArray #[])) (ha:BK (evO N env) c.args.toList=some vs) (hE:AJ P g=true)
  (hC: ∀W,Hp W0 bxs W→Ad P g (first++vs).toArray W (fun _:Unit=>v) (fun _=>True) (fun _=>[]))
  (h:WQ P N D ops A2 R rest ((d,v)::env) (Hp W0 bxs)):WQ P N D ops A2 R (o::rest) env (Hp W0 bxs):=
 KB hd (fun a W h1 _ hp=>by
  unfold OpS
  rw[DC h1 hg,if_pos rfl]
  refine⟨fun c e=>(by rw[ho] at e;cases e), .inr ⟨g,_,Nb ho hc (A3 h1 _ _ hf) (DM (A3 h1) ha) hE,(hC W hp).out.mono ?_⟩⟩
  rintro e W' ⟨x,he,_,hb,_⟩
  exact⟨he,hp.grow hb,hb⟩) h
end
theorem Ru (x:Nat) (h:x≤18446744073709551615) (W:World):Ad Tryz.prog 358 #[.int .u64 (x:Nat)] W (fun _:Unit=> .int .i64 (Lib.bitLen x)) (fun _=>True) (fun _=>[]):=by
 refine Ad.of1 ((Go.Proofs.Any.bits_Len (P:=Tryz.prog) (ρ:=Tryz.lays125_ren) { Tryz.lays125 with } (x:Int) W (by omega) (by omega)).mono ?_)
 rintro e w' ⟨rfl,rfl⟩
 exact⟨I,Below.refl _ _⟩
abbrev lsF (c:Nat):Value:= .func (.func 323) #[Ai c] #[]
abbrev B6 (g:Nat) (l:List An) (junk:List Value):Bx:=⟨g,62,ptC l++junk,true,none⟩
-- BOXES 3
-- CODE2
def GN (x:An):List An→List An
 |[]=>[x]
 |y::l=>if E5 x y=true then x::y::l else y::GN x l
def Ci (l:List An):List An:=l.foldl (fun s x=>GN x s) []
theorem QG (x:An): ∀l,(GN x l).length=l.length+1
 |[]=>rfl
 |y::l=>by
  unfold GN
  split
  ·rfl
  ·rw[List.length_cons,QG x l];rfl
theorem Mt {x y:An}: ∀ {l:List An},y∈GN x l↔y=x∨y∈l
 |[]=>by simp[GN]
 |z::l=>by
  unfold GN
  split
  ·simp
  ·rw[List.mem_cons,Mt (l:=l),List.mem_cons]
   constructor
   ·rintro(h|h|h)
    ·exact .inr (.inl h)
    ·exact .inl h
    ·exact .inr (.inr h)
   ·rintro(h|h|h)
    ·exact .inr (.inl h)
    ·exact .inl h
    ·exact .inr (.inr h)
theorem Kl {a b c:An} (h1: ¬BU b a) (h2: ¬BU c b): ¬BU c a:=fun h=>by
 rcases JA a b with d|d|d
 ·exact h2 (PM h d)
 ·subst d;exact h2 h
 ·exact h1 d
abbrev SrC (l:List An):Prop:=l.Pairwise fun a b=> ¬BU b a
theorem Pw {x:An}: ∀ {l:List An},SrC l→SrC (GN x l)
 |[],_=>List.pairwise_cons.2 ⟨fun _ h=>absurd h List.not_mem_nil,List.Pairwise.nil⟩
 |y::l,h=>by
  have⟨h1,h2⟩:=List.pairwise_cons.1 h
  unfold GN
  split
  ·rename_i c
   have c:=CO.1 c
   refine List.pairwise_cons.2 ⟨fun z hz=> ?_,h⟩
   rcases List.mem_cons.1 hz with rfl|hz
   ·exact Ij c
   ·exact Kl (Ij c) (h1 z hz)
  ·rename_i c
   refine List.pairwise_cons.2 ⟨fun z hz=> ?_,Pw h2⟩
   rcases Mt.1 hz with rfl|hz
   ·exact fun d=>c (CO.2 d)
   ·exact h1 z hz
theorem HJ: ∀(l s:List An),SrC s→SrC (l.foldl (fun s x=>GN x s) s)∧(l.foldl (fun s x=>GN x s) s).length=s.length+l.length∧ ∀y,y∈l.foldl (fun s x=>GN x s) s↔y∈s∨y∈l
 |[],s,h=>⟨h,rfl,fun y=>by simp⟩
 |x::l,s,h=>by
  obtain⟨a,b,c⟩:=HJ l (GN x s) (Pw h)
  refine⟨a,by rw[List.foldl_cons,b,QG,List.length_cons];omega,fun y=> ?_⟩
  rw[List.foldl_cons,c,Mt,List.mem_cons]
  constructor
  ·rintro((h|h)|h)
   ·exact .inr (.inl h)
   ·exact .inl h
   ·exact .inr (.inr h)
  ·rintro(h|h|h)
   ·exact .inl (.inr h)
   ·exact .inl (.inl h)
   ·exact .inr h
theorem Qv (l:List An):SrC (Ci l):=(HJ l [] List.Pairwise.nil).1
theorem LP (l:List An):(Ci l).length=l.length:=by
 have:=(HJ l [] List.Pairwise.nil).2.1
 rw[List.length_nil,Nat.zero_add] at this;exact this
theorem PT {l:List An} {y:An}:y∈Ci l↔y∈l:=by
 have:=(HJ l [] List.Pairwise.nil).2.2 y
 exact this.trans (by simp)
theorem Tm (l:List An) {i:Nat} (hi:i<l.length):Ci (l.take (i+1))=GN l[i] (Ci (l.take i)):=by
 rw[Ci,List.take_add_one,List.getElem?_eq_getElem hi,List.foldl_append];rfl
theorem Mj {x:An}: ∀(s:List An) (j:Nat),j≤s.length→(∀y∈s.take j, ¬BU x y)→(∀y∈s.drop j,BU x y)→GN x s=s.take j++x::s.drop j
 |[],j,hj,_,_=>by
  obtain rfl:j=0:=by simpa using hj
  rfl
 |y::l,0,_,_,h2=>by
  unfold GN
  rw[if_pos (CO.2 (h2 y (List.mem_cons_self ..)))];rfl
 |y::l,j+1,hj,h1,h2=>by
  unfold GN
  rw[if_neg (fun c=>h1 y (by simp) (CO.1 c)),Mj l j (by simpa using hj) (fun z hz=>h1 z (by simp[hz])) (fun z hz=>h2 z (by simpa using hz))]
  rfl
theorem TG {x:An} {s:List An} {j:Nat} (hs:SrC s) (hj:j≤s.length) (h2: ∀y∈s.drop j,BU x y) (h1: ∀(h:0<j), ¬BU x s[j-1]):GN x s=s.take j++x::s.drop j:=by
 refine Mj s j hj (fun y hy=> ?_) h2
 obtain⟨k,hk,rfl⟩:=List.getElem_of_mem hy
 have hk':k<j:=by simp at hk;omega
 rw[List.getElem_take]
 have h3:=h1 (by omega)
 by_cases e:k=j-1
 ·subst e;exact h3
 ·exact Kl (List.pairwise_iff_getElem.1 hs k (j-1) (by omega) (by omega) (by omega)) h3
theorem RD (l:List An):Ci (l.take 1)++l.drop 1=l:=by
 cases l with
 |nil=>rfl
 |cons x l=>rfl
abbrev JC (c:Nat) (x y:An) (W:World):Prop:=Ad Tryz.prog 323 #[Ai c,cvV x,cvV y] W (fun _:Unit=> .int .i64 (J6 x y)) (fun _=>True) (fun _=>[])
theorem Rg (c:Nat) (W:World) (g cap:Nat) (l:List An) (junk:List Value) (hn:l.length<4611686018427387904) (hg:W.heap[g]? =some (.cells (ptC l++junk).toArray 62 (0,0)))
  (hf: ∀W',GM W W' g→ ∀x∈l, ∀y∈l,JC c x y W'):
  Calls Tryz.prog 373 #[.slice (some ⟨g,0,none⟩) l.length cap, .int .i64 0, .int .i64 (l.length:Nat),lsF c] W fun e W'=> ∃x:Unit,e= .returned ((fun _=> .tuple #[]) x)∧True∧Lz W W' g ((fun _=>g) x) ((fun _=> .cells (ptC (Ci l)++junk).toArray 62 (0,0)) x):=by
 have key:Calls Tryz.prog 373 [.slice (some ⟨g,0,none⟩) l.length cap, .int .i64 0, .int .i64 (l.length:Nat),lsF c].toArray W fun e W'=> ∃x:Unit,e= .returned ((fun _=> .tuple #[]) x)∧(fun _=>True) x∧Below (AT W).heap.size (AT W) W'∧Ap (AT W) W' ((fun _=>[AP (Av W g),B6 g (Ci l) junk]) x):=by
  refine C7 (X:=Unit) (val:=fun _=> .tuple #[]) (Φ:=fun _=>True) (nb:=fun _=>[AP (Av W g),B6 g (Ci l) junk]) (Hp.enterT (B:=B6 g l junk) I hg) Tryz.func373 I I I ?_
  refine zA (zB (wP I (wP I (wP I (Aa (zE (zH ?_)))))))
  refine At (X:=Nat) (fun i=>[(0, .slice (some ⟨g,0,none⟩) l.length cap),(1, .int .i64 0),(2, .int .i64 (l.length:Nat)),(3,lsF c),(8, .int .i64 (i:Nat))]) (fun i=>[AP (Av W g),B6 g (Ci (l.take i)++l.drop i) junk])
   (fun i=>1≤i∧(i≤l.length∨i=1)) (fun i=>l.length+1-i) 1 ⟨Nat.le_refl _, .inr rfl⟩ ⟨rfl,rfl,rfl,rfl,rfl,trivial⟩ [] (by rw[RD];rfl) ?_
  rintro i ⟨hi1,hi2⟩
  refine zA (zA (zB (wP I (wP I (wP I ?_)))))
  by_cases hlt:i<l.length
  rotate_left
  ·refine wU 14 false I (dF (by omega)) (Aa (zE (zS I (zJ (zK (zK (zL ?_)))))))
   have e:Ci (l.take i)++l.drop i=Ci l:=by rw[List.take_of_length_le (by omega),List.drop_of_length_le (by omega),List.append_nil]
   refine Sj (X:=Unit) (val:=fun _=> .tuple #[]) (Φ:=fun _=>True) (nb:=fun _=>[AP (Av W g),B6 g (Ci l) junk]) (fn:=Tryz.f373) tH I () I tO fun W1 hp=> ?_
   rw[e] at hp
   exact(hp.pick (l:=[AP (Av W g),B6 g (Ci l) junk]) [0,1] (by decide) I).own
  refine wU 14 true I (dT (by omega)) (Aa (zE (zR I (zI (zE (zA (zH (zA (zB (wP I (wP I (Aa (zE ?_)))))))))))))
  refine zH ?_
  obtain⟨s,hs⟩: ∃s,s=Ci (l.take i):=⟨_,rfl⟩
  obtain⟨x,hx⟩: ∃x,x=l[i]:=⟨_,rfl⟩
  obtain⟨rr,hr⟩: ∃rr,rr=l.drop (i+1):=⟨_,rfl⟩
  have hsl:s.length=i:=by rw[hs,LP,List.length_take];omega
  have hsort:SrC s:=hs▸Qv _
  have hdrop:l.drop i=x::rr:=by rw[hx,hr];exact List.drop_eq_getElem_cons hlt
  have hrl:rr.length=l.length-(i+1):=by rw[hr,List.length_drop]
  have hxl:x∈l:=hx▸List.getElem_mem hlt
  have hsm: ∀y∈s,y∈l:=fun y hy=>by rw[hs] at hy;exact List.mem_of_mem_take (PT.1 hy)
  have hnext: ∀j,j≤s.length→(∀y∈s.drop j,BU x y)→(∀(h:0<j), ¬BU x s[j-1]!)→s.take j++x::s.drop j++rr=Ci (l.take (i+1))++l.drop (i+1):=fun j h1 h2 h3=>by
   rw[Tm l hlt, ←hs, ←hx, ←hr,TG hsort h1 h2 fun h=>by have:=h3 h;rwa [getElem!_pos s (j-1) (by omega)] at this]
  refine At (X:=Nat) (fun j=>[(0, .slice (some ⟨g,0,none⟩) l.length cap),(1, .int .i64 0),(2, .int .i64 (l.length:Nat)),(3,lsF c),(8, .int .i64 (i:Nat)),(9, .int .i64 (j:Nat))]) (fun j=>[AP (Av W g),B6 g (s.take j++x::s.drop j++rr) junk])
   (fun j=>j≤s.length∧ ∀y∈s.drop j,BU x y) (fun j=>j) i ⟨by omega,by rw[←hsl,List.drop_length];exact fun y hy=>absurd hy List.not_mem_nil⟩ ⟨rfl,rfl,rfl,rfl,rfl,rfl,trivial⟩ [] (by rw[←hs,hdrop, ←hsl,List.take_length,List.drop_length,List.append_assoc];rfl) ?_
  rintro j ⟨hj,hgt⟩
  have hj:j≤s.length:=hj
  have hgt: ∀y∈s.drop j,BU x y:=hgt
  refine zA (zA (zU (qP I (qP I (qP I ?_)))))
  cases j with
  |zero=>
   refine Ek 20 (.bool false) I I ?_
   refine qP I ?_
   iterate 12 refine BM I I ?_
   refine qP I (A7 (Aa (zE (zS I (zJ (zK (zK (zL (zN (zE (zB (wP I (wP I ?_)))))))))))))
   refine wV 16 ((i+1:Nat):Int) I (A0 (by omega)) (wP I (Aa ?_))
   refine Ak (i+1) ⟨by show 1≤i+1;omega, .inl hlt⟩ (by show l.length+1-(i+1)<l.length+1-i;omega) ⟨I,I,I,I,I,tO⟩ [] ?_
   rw[hnext 0 hj hgt fun h=>absurd h (by decide)];rfl
  |succ m=>
   have hm:m<s.length:=hj
   obtain⟨y,hy⟩: ∃y,y=s[m]:=⟨_,rfl⟩
   have hyl:y∈l:=hsm y (hy▸List.getElem_mem hm)
   have e1:s.take (m+1)=s.take m++[y]:=by rw[List.take_add_one,List.getElem?_eq_getElem hm,hy];rfl
   have e2:s.drop m=y::s.drop (m+1):=by rw[hy];exact List.drop_eq_getElem_cons hm
   have e3:s[m+1-1]! =y:=by rw[Nat.add_sub_cancel,getElem!_pos s m hm,hy]
   have hA:(ptC (s.take m)).length=m*2:=by rw[Bv,List.length_take,Nat.min_eq_left (by omega)]
   obtain⟨C,hC⟩: ∃C,C=ptC (s.drop (m+1)++rr)++junk:=⟨_,rfl⟩
   have row1:ptC (s.take (m+1)++x::s.drop (m+1)++rr)++junk=ptC (s.take m)++([str (Ac y.1),str (Ac y.2),str (Ac x.1),str (Ac x.2)]++C):=by rw[e1,hC];simp[ptC,List.flatMap_append]
   have row2:ptC (s.take m++x::s.drop m++rr)++junk=ptC (s.take m)++([str (Ac x.1),str (Ac x.2),str (Ac y.1),str (Ac y.2)]++C):=by rw[e2,hC];simp[ptC,List.flatMap_append]
   refine qU 20 true I (dT (by omega)) (qP I (qP I (qP I (qP I ?_))))
   refine qJ ?_
   refine qL 0 I I (fun W1 hp=>show Ag W1 g (0+(m+1)*2) [str (Ac x.1),str (Ac x.2)] from Gu hp 1 (A:=ptC (s.take m)++[str (Ac y.1),str (Ac y.2)]) (C:=C) I (by rw[row1];simp) (by rw[List.length_append,hA];simp only[List.length_cons,List.length_nil];omega)) I (qP I (qP I (qP I (qV 29 (m:Nat) I (show w64 (((m+1:Nat):Int)-1)=_ by rw[Ar (by omega) (by omega)];omega) ?_))))
   refine qJ ?_
   refine qL 0 I I (fun W1 hp=>show Ag W1 g (0+m*2) [str (Ac y.1),str (Ac y.2)] from Gu hp 1 (A:=ptC (s.take m)) (C:=[str (Ac x.1),str (Ac x.2)]++C) I (by rw[row1];simp) (by rw[hA];simp)) I ?_
   refine UY (first:=[Ai c]) I I I I I I (by kernel_rfl) (fun W1 hp=>hf W1 (IS hg ⟨_,List.mem_cons_self ..⟩ hp) x hxl y hyl) ?_
   refine qP I (qU 33 (E5 x y) I (S2 x y) (qP I (A7 (Aa (zE ?_)))))
   refine Aj I (fun h=> ?_) (fun h=> ?_)
   rotate_left
   ·have hc: ¬BU x y:=fun d=>by rw[CO.2 d] at h;cases h
    refine zJ (zK (zK (zL (zN (zE (zB (wP I (wP I (wV 16 ((i+1:Nat):Int) I (A0 (by omega)) (wP I (Aa ?_)))))))))))
    refine Ak (i+1) ⟨by show 1≤i+1;omega, .inl hlt⟩ (by show l.length+1-(i+1)<l.length+1-i;omega) ⟨I,I,I,I,I,tO⟩ [] ?_
    rw[hnext (m+1) hj hgt fun _=>by rw[e3];exact hc];rfl
   have hc:BU x y:=CO.1 h
   clear h
   refine XW (bxs':=[AP (Av W g),⟨g,62,ptC (s.take m)++([str (Ac y.1),str (Ac y.2),str (Ac x.1),str (Ac x.2)]++C),true,none⟩]) (by rw[←row1]) ?_
   refine zI (zE (A9 (Bt ?_)))
   repeat refine A9 ?_
   refine AZ (X:=Unit) [true,true,false,false,false,true,true,true,true,true,true,true,true,true,true,false,false,false] (fun _=>[(0, .slice (some ⟨g,0,none⟩) l.length cap),(1, .int .i64 0),(2, .int .i64 (l.length:Nat)),(3,lsF c),(8, .int .i64 (i:Nat)),(9, .int .i64 ((m+1:Nat):Int))]) (fun _=>[AP (Av W g),⟨g,62,ptC (s.take m)++([str (Ac x.1),str (Ac x.2),str (Ac y.1),str (Ac y.2)]++C),true,none⟩])
    6 [AP (Av W g),⟨g,62,ptC (s.take m)++([str (Ac y.1),str (Ac y.2),str (Ac x.1),str (Ac x.2)]++C),true,none⟩] Tryz.mixed (by kernel_rfl) ?_ ?_
   ·refine qP I (qP I (qP I (qP I (qP I (qV 44 (m:Nat) I (show w64 (((m+1:Nat):Int)-1)=_ by rw[Ar (by omega) (by omega)];omega) ?_)))))
    refine qJ ?_
    refine qL 0 I I (fun W1 hp=>show Ag W1 g (0+m*2) [str (Ac y.1),str (Ac y.2)] from Gu hp 1 (A:=ptC (s.take m)) (C:=[str (Ac x.1),str (Ac x.2)]++C) I (by simp) (by rw[hA];simp)) I (qP I (qP I ?_))
    refine qJ ?_
    refine qL 0 I I (fun W1 hp=>show Ag W1 g (0+(m+1)*2) [str (Ac x.1),str (Ac x.2)] from Gu hp 1 (A:=ptC (s.take m)++[str (Ac y.1),str (Ac y.2)]) (C:=C) I (by simp) (by rw[List.length_append,hA];simp only[List.length_cons,List.length_nil];omega)) I ?_
    refine qJ ?_
    refine Ca ?_
    have h1:Bz (ptC (s.take m)++([str (Ac y.1),str (Ac y.2),str (Ac x.1),str (Ac x.2)]++C)) (0+(m+1)*2) (cvV y).cells.toList=ptC (s.take m)++([str (Ac y.1),str (Ac y.2),str (Ac y.1),str (Ac y.2)]++C):=by
     rw[show 0+(m+1)*2=(ptC (s.take m)).length+2 by rw[hA];omega,EM];rfl
    have h2:Bz (ptC (s.take m)++([str (Ac y.1),str (Ac y.2),str (Ac y.1),str (Ac y.2)]++C)) (0+m*2) (cvV x).cells.toList=ptC (s.take m)++([str (Ac x.1),str (Ac x.2),str (Ac y.1),str (Ac y.2)]++C):=by
     rw[show 0+m*2=(ptC (s.take m)).length+0 by rw[hA];omega,EM];rfl
    have h3:0+(m+1)*2+2≤(ptC (s.take m)++([str (Ac y.1),str (Ac y.2),str (Ac x.1),str (Ac x.2)]++C)).length:=by rw[List.length_append,hA,List.length_append];simp only[List.length_cons,List.length_nil];omega
    have h4:0+m*2+2≤(ptC (s.take m)++([str (Ac y.1),str (Ac y.2),str (Ac y.1),str (Ac y.2)]++C)).length:=by rw[List.length_append,hA,List.length_append];simp only[List.length_cons,List.length_nil];omega
    refine wX ?_
    refine RS.cons ?_ (RS.cons ?_ (RS.cons ?_ (RS.nil)))
    ·refine wP I (Aa (Ah (wX ?_)))
     refine RS.cons ?_ (RS.cons ?_ (RS.nil))
     ·refine wP I (Aa (Ah (wX ?_)))
      refine RS.cons ?_ (RS.cons ?_ (RS.nil))
      ·refine wP I (Aa (Ah (wX (wZ ?_))))
       refine AD 1 _ tH I I I I I I I I I I h3 h1 ?_
       refine Aa (Ah (wY (wZ ?_)))
       refine wV 41 (m:Nat) I (show w64 (((m+1:Nat):Int)-1)=_ by rw[Ar (by omega) (by omega)];omega) ?_;(first|refine wJ ?_|refine qJ ?_)
       refine Aa (Ah (wY (wZ ?_)))
       refine AD 1 _ tH I I I I I I I I I I h4 h2 ?_
       refine Aa (Ah ?_)
       refine AS I (by kernel_rfl) ?_
       exact Az () ⟨I,I,I,I,I,I,tO⟩ [0,1] (by decide) I
      ·refine AD 1 _ tH I I I I I I I I I I h3 h1 ?_
       refine Aa (Ah (wY (wZ (wP I (Aa (Ah (wY (wZ ?_))))))))
       refine wV 41 (m:Nat) I (show w64 (((m+1:Nat):Int)-1)=_ by rw[Ar (by omega) (by omega)];omega) ?_;(first|refine wJ ?_|refine qJ ?_)
       refine Aa (Ah (wY (wZ ?_)))
       refine AD 1 _ tH I I I I I I I I I I h4 h2 ?_
       refine Aa (Ah ?_)
       refine AS I (by kernel_rfl) ?_
       exact Az () ⟨I,I,I,I,I,I,tO⟩ [0,1] (by decide) I
     ·refine AD 1 _ tH I I I I I I I I I I h3 h1 ?_
      refine Aa (Ah (wY (wZ (wP I (Aa (Ah (wY (wZ (wP I (Aa (Ah (wY (wZ ?_)))))))))))))
      refine wV 41 (m:Nat) I (show w64 (((m+1:Nat):Int)-1)=_ by rw[Ar (by omega) (by omega)];omega) ?_;(first|refine wJ ?_|refine qJ ?_)
      refine Aa (Ah (wY (wZ ?_)))
      refine AD 1 _ tH I I I I I I I I I I h4 h2 ?_
      refine Aa (Ah ?_)
      refine AS I (by kernel_rfl) ?_
      exact Az () ⟨I,I,I,I,I,I,tO⟩ [0,1] (by decide) I
    ·refine wP I (Aa (Ah (wX ?_)))
     refine RS.cons ?_ (RS.cons ?_ (RS.cons ?_ (RS.nil)))
     ·refine wP I (Aa (Ah (wX ?_)))
      refine RS.cons ?_ (RS.cons ?_ (RS.nil))
      ·refine wP I (Aa (Ah (wX (wZ ?_))))
       refine AD 1 _ tH I I I I I I I I I I h3 h1 ?_
       refine Aa (Ah (wY (wZ ?_)))
       refine wV 41 (m:Nat) I (show w64 (((m+1:Nat):Int)-1)=_ by rw[Ar (by omega) (by omega)];omega) ?_;(first|refine wJ ?_|refine qJ ?_)
       refine Aa (Ah (wY (wZ ?_)))
       refine AD 1 _ tH I I I I I I I I I I h4 h2 ?_
       refine Aa (Ah ?_)
       refine AS I (by kernel_rfl) ?_
       exact Az () ⟨I,I,I,I,I,I,tO⟩ [0,1] (by decide) I
      ·refine AD 1 _ tH I I I I I I I I I I h3 h1 ?_
       refine Aa (Ah (wY (wZ (wP I (Aa (Ah (wY (wZ ?_))))))))
       refine wV 41 (m:Nat) I (show w64 (((m+1:Nat):Int)-1)=_ by rw[Ar (by omega) (by omega)];omega) ?_;(first|refine wJ ?_|refine qJ ?_)
       refine Aa (Ah (wY (wZ ?_)))
       refine AD 1 _ tH I I I I I I I I I I h4 h2 ?_
       refine Aa (Ah ?_)
       refine AS I (by kernel_rfl) ?_
       exact Az () ⟨I,I,I,I,I,I,tO⟩ [0,1] (by decide) I
     ·refine wP I (Aa (Ah (wX ?_)))
      refine RS.cons ?_ (RS.cons ?_ (RS.nil))
      ·refine wP I (Aa (Ah (wX (wZ ?_))))
       refine AD 1 _ tH I I I I I I I I I I h3 h1 ?_
       refine Aa (Ah (wY (wZ ?_)))
       refine wV 41 (m:Nat) I (show w64 (((m+1:Nat):Int)-1)=_ by rw[Ar (by omega) (by omega)];omega) ?_;(first|refine wJ ?_|refine qJ ?_)
       refine Aa (Ah (wY (wZ ?_)))
       refine AD 1 _ tH I I I I I I I I I I h4 h2 ?_
       refine Aa (Ah ?_)
       refine AS I (by kernel_rfl) ?_
       exact Az () ⟨I,I,I,I,I,I,tO⟩ [0,1] (by decide) I
      ·refine AD 1 _ tH I I I I I I I I I I h3 h1 ?_
       refine Aa (Ah (wY (wZ (wP I (Aa (Ah (wY (wZ ?_))))))))
       refine wV 41 (m:Nat) I (show w64 (((m+1:Nat):Int)-1)=_ by rw[Ar (by omega) (by omega)];omega) ?_;(first|refine wJ ?_|refine qJ ?_)
       refine Aa (Ah (wY (wZ ?_)))
       refine AD 1 _ tH I I I I I I I I I I h4 h2 ?_
       refine Aa (Ah ?_)
       refine AS I (by kernel_rfl) ?_
       exact Az () ⟨I,I,I,I,I,I,tO⟩ [0,1] (by decide) I
     ·refine AD 1 _ tH I I I I I I I I I I h3 h1 ?_
      refine Aa (Ah (wY ?_))
      refine RS.cons ?_ (RS.cons ?_ (RS.nil))
      ·refine wP I (Aa (Ah (wY (wZ (wP I (Aa (Ah (wY (wZ ?_)))))))))
       refine wV 41 (m:Nat) I (show w64 (((m+1:Nat):Int)-1)=_ by rw[Ar (by omega) (by omega)];omega) ?_;(first|refine wJ ?_|refine qJ ?_)
       refine Aa (Ah (wY (wZ ?_)))
       refine AD 1 _ tH I I I I I I I I I I h4 h2 ?_
       refine Aa (Ah ?_)
       refine AS I (by kernel_rfl) ?_
       exact Az () ⟨I,I,I,I,I,I,tO⟩ [0,1] (by decide) I
      ·refine wP I (Aa (Ah (wY (wZ (wP I (Aa (Ah (wY (wZ ?_)))))))))
       refine wV 41 (m:Nat) I (show w64 (((m+1:Nat):Int)-1)=_ by rw[Ar (by omega) (by omega)];omega) ?_;(first|refine wJ ?_|refine qJ ?_)
       refine Aa (Ah (wY (wZ ?_)))
       refine AD 1 _ tH I I I I I I I I I I h4 h2 ?_
       refine Aa (Ah ?_)
       refine AS I (by kernel_rfl) ?_
       exact Az () ⟨I,I,I,I,I,I,tO⟩ [0,1] (by decide) I
    ·refine AD 1 _ tH I I I I I I I I I I h3 h1 ?_
     refine Aa (Ah (wY ?_))
     refine RS.cons ?_ (RS.cons ?_ (RS.nil))
     ·refine wP I (Aa (Ah (wY (wZ (wP I (Aa (Ah (wY (wZ (wP I (Aa (Ah (wY ?_)))))))))))))
      refine wZ ?_
      refine wV 41 (m:Nat) I (show w64 (((m+1:Nat):Int)-1)=_ by rw[Ar (by omega) (by omega)];omega) ?_;(first|refine wJ ?_|refine qJ ?_)
      refine Aa (Ah (wY (wZ ?_)))
      refine AD 1 _ tH I I I I I I I I I I h4 h2 ?_
      refine Aa (Ah ?_)
      refine AS I (by kernel_rfl) ?_
      exact Az () ⟨I,I,I,I,I,I,tO⟩ [0,1] (by decide) I
     ·refine wP I (Aa (Ah (wY ?_)))
      refine RS.cons ?_ (RS.cons ?_ (RS.nil))
      ·refine wP I (Aa (Ah (wY (wZ (wP I (Aa (Ah (wY (wZ ?_)))))))))
       refine wV 41 (m:Nat) I (show w64 (((m+1:Nat):Int)-1)=_ by rw[Ar (by omega) (by omega)];omega) ?_;(first|refine wJ ?_|refine qJ ?_)
       refine Aa (Ah (wY (wZ ?_)))
       refine AD 1 _ tH I I I I I I I I I I h4 h2 ?_
       refine Aa (Ah ?_)
       refine AS I (by kernel_rfl) ?_
       exact Az () ⟨I,I,I,I,I,I,tO⟩ [0,1] (by decide) I
      ·refine wP I (Aa (Ah (wY (wZ (wP I (Aa (Ah (wY (wZ ?_)))))))))
       refine wV 41 (m:Nat) I (show w64 (((m+1:Nat):Int)-1)=_ by rw[Ar (by omega) (by omega)];omega) ?_;(first|refine wJ ?_|refine qJ ?_)
       refine Aa (Ah (wY (wZ ?_)))
       refine AD 1 _ tH I I I I I I I I I I h4 h2 ?_
       refine Aa (Ah ?_)
       refine AS I (by kernel_rfl) ?_
       exact Az () ⟨I,I,I,I,I,I,tO⟩ [0,1] (by decide) I
   intro _
   refine zN (zE (zB (wP I (wP I (wV 36 (m:Nat) I (show w64 (((m+1:Nat):Int)-1)=_ by rw[Ar (by omega) (by omega)];omega) (wP I (Aa ?_)))))))
   refine Ak m ⟨by show m≤s.length;omega,fun z hz=> ?_⟩ (by show m<m+1;omega) ⟨I,I,I,I,I,I,tO⟩ [] (by rw[←row2];rfl)
   rw[e2] at hz
   rcases List.mem_cons.1 hz with rfl|hz
   ·exact hc
   ·exact hgt z hz
 refine key.mono ?_
 rintro e W' ⟨x,he,_,hb,hn'⟩
 exact⟨x,he,tO,G8 hg I hb hn'⟩
theorem Rs (c:Nat) (W:World) (g cap:Nat) (l:List An) (junk:List Value) (z:Int) (hn:l.length≤12) (hg:W.heap[g]? =some (.cells (ptC l++junk).toArray 62 (0,0)))
  (hf: ∀W',GM W W' g→ ∀x∈l, ∀y∈l,JC c x y W'):
  Calls Tryz.prog 357 #[.slice (some ⟨g,0,none⟩) l.length cap, .int .i64 0, .int .i64 (l.length:Nat), .int .i64 z,lsF c] W fun e W'=> ∃x:Unit,e= .returned ((fun _=> .tuple #[]) x)∧True∧Lz W W' g ((fun _=>g) x) ((fun _=> .cells (ptC (Ci l)++junk).toArray 62 (0,0)) x):=by
 have key:Calls Tryz.prog 357 [.slice (some ⟨g,0,none⟩) l.length cap, .int .i64 0, .int .i64 (l.length:Nat), .int .i64 z,lsF c].toArray W fun e W'=> ∃x:Unit,e= .returned ((fun _=> .tuple #[]) x)∧(fun _=>True) x∧Below (AT W).heap.size (AT W) W'∧Ap (AT W) W' ((fun _=>[AP (Av W g),B6 g (Ci l) junk]) x):=by
  refine C7 (X:=Unit) (val:=fun _=> .tuple #[]) (Φ:=fun _=>True) (nb:=fun _=>[AP (Av W g),B6 g (Ci l) junk]) (Hp.enterT (B:=B6 g l junk) I hg) Tryz.func357 I I I ?_
  refine zA (zB (wP I (Aa (zE (zA (zB (wP I (Aa (zE (zH ?_))))))))))
  refine At (X:=Unit) (fun _=>[(0, .slice (some ⟨g,0,none⟩) l.length cap),(1, .int .i64 0),(2, .int .i64 (l.length:Nat)),(3, .int .i64 z),(4,lsF c)]) (fun _=>[AP (Av W g),B6 g l junk]) (fun _=>True) (fun _=>0) () tO ⟨I,I,I,I,I,tO⟩ [] I ?_
  intro _ _
  refine zH (zA (zB (wP I (wP I (wP I (wV 23 (l.length:Nat) I (show w64 ((l.length:Nat)-0)=_ by rw[Ar (by omega) (by omega)];omega) (wP I (Aa (zE (zA (zA (zB (wP I (wP I ?_))))))))))))))
  refine wU 25 true I (dT (by omega)) (Aa (zE (zR I (zA (zB (wP I (wP I (wP I (wP I ?_)))))))))
  refine Ex (X:=Unit) (val:=fun _=> .tuple #[]) (Φ:=fun _=>True) (capt:=[]) 1 (B:=B6 g l junk) (L1:=[]) (L2:=[]) (b:=g) (ob:= .cells (ptC l++junk).toArray 62 (0,0)) (fun _=>B6 g (Ci l) junk) (g':=fun _=>g) (o':=fun _=> .cells (ptC (Ci l)++junk).toArray 62 (0,0))
   rfl rfl rfl rfl rfl rfl (by kernel_rfl) rfl rfl (fun _ _=>rfl) (fun W1 hp=>Rg c W1 g cap l junk (by omega) (hp.own.cell 1 _ rfl (g, .cells (ptC l++junk).toArray 62 (0,0)) (List.mem_cons_self ..)).1 (fun W2 hk=>hf W2 ((IS hg ⟨_,List.mem_cons_self ..⟩ hp).trans hk))) (fun _ _=> ?_)
  refine Aa (zE (zO (zP (zQ (zP (zQ ?_))))))
  refine W9 (X:=Unit) (val:=fun _=> .tuple #[]) (Φ:=fun _=>True) (nb:=fun _=>[AP (Av W g),B6 g (Ci l) junk]) (fn:=Tryz.f357) tH I () I tO fun W1 hp=> ?_
  exact(hp.pick (l:=[AP (Av W g),B6 g (Ci l) junk]) [0,1] (by decide) I).own
 refine key.mono ?_
 rintro e W' ⟨x,he,_,hb,hn'⟩
 exact⟨x,he,tO,G8 hg I hb hn'⟩
theorem Xa {n:Nat} (h:n≤12):IntKind.u64.wrap (n:Nat)=(n:Int):=by
 simp only[IntKind.wrap,IntKind.signed,IntKind.bits]
 simp
 omega
theorem Pn (c:Nat) (W:World) (g cap:Nat) (l:List An) (junk:List Value) (hn:l.length≤12) (hg:W.heap[g]? =some (.cells (ptC l++junk).toArray 62 (0,0)))
  (hf: ∀W',GM W W' g→ ∀x∈l, ∀y∈l,JC c x y W'):
  Calls Tryz.prog 322 #[.slice (some ⟨g,0,none⟩) l.length cap,lsF c] W fun e W'=> ∃x:Unit,e= .returned ((fun _=> .tuple #[]) x)∧True∧Lz W W' g ((fun _=>g) x) ((fun _=> .cells (ptC (Ci l)++junk).toArray 62 (0,0)) x):=by
 have key:Calls Tryz.prog 322 [.slice (some ⟨g,0,none⟩) l.length cap,lsF c].toArray W fun e W'=> ∃x:Unit,e= .returned ((fun _=> .tuple #[]) x)∧(fun _=>True) x∧Below (AT W).heap.size (AT W) W'∧Ap (AT W) W' ((fun _=>[AP (Av W g),B6 g (Ci l) junk]) x):=by
  refine C7 (X:=Unit) (val:=fun _=> .tuple #[]) (Φ:=fun _=>True) (nb:=fun _=>[AP (Av W g),B6 g (Ci l) junk]) (Hp.enterT (B:=B6 g l junk) I hg) Tryz.func322 I I I ?_
  refine zA (zB (wP I (wP I (wP I (Aa (zE (zB (wP I (wP I (wP I ?_))))))))))
  refine Rp (k:= .u64) (kt:= .i64) (by kernel_rfl) (by kernel_rfl) I I I I ?_
  refine Ay 10 (.int .u64 (l.length:Nat)) I (congrArg (Value.int .u64) (Xa hn)) ?_
  refine Bc (capt:=[]) I I I I I I (by kernel_rfl) (fun W _=>Ru l.length (by omega) W) ?_
  refine wP I ?_
  refine Ex (X:=Unit) (val:=fun _=> .tuple #[]) (Φ:=fun _=>True) (capt:=[]) 1 (B:=B6 g l junk) (L1:=[]) (L2:=[]) (b:=g) (ob:= .cells (ptC l++junk).toArray 62 (0,0)) (fun _=>B6 g (Ci l) junk) (g':=fun _=>g) (o':=fun _=> .cells (ptC (Ci l)++junk).toArray 62 (0,0))
   rfl rfl rfl rfl rfl rfl (by kernel_rfl) rfl rfl (fun _ _=>rfl) (fun W1 hp=>Rs c W1 g cap l junk _ hn (hp.own.cell 1 _ rfl (g, .cells (ptC l++junk).toArray 62 (0,0)) (List.mem_cons_self ..)).1 (fun W2 hk=>hf W2 ((IS hg ⟨_,List.mem_cons_self ..⟩ hp).trans hk))) (fun _ _=> ?_)
  refine Aa ?_
  refine Sj (X:=Unit) (val:=fun _=> .tuple #[]) (Φ:=fun _=>True) (nb:=fun _=>[AP (Av W g),B6 g (Ci l) junk]) (fn:=Tryz.f322) tH I () I tO fun W1 hp=> ?_
  exact(hp.pick (l:=[AP (Av W g),B6 g (Ci l) junk]) [0,1] (by decide) I).own
 refine key.mono ?_
 rintro e W' ⟨x,he,_,hb,hn'⟩
 exact⟨x,he,tO,G8 hg I hb hn'⟩
-- BOXES 3
-- CODE2
section
variable {r:Option Nat} {n:Nat} {P:Program} {W0:World} {N:Nat} {D:List Deferred} {ops:List Oper} {Q:Exit→Act→World→Prop} {o:Oper} {rest:List Oper} {env:Env} {bxs:List Bx}
theorem UB (k:Nat) {t e:TypeId} {z:Value} (ht:P.underlying t=some (.slice e)) (hz: ∀W,(zeroValue e).run P W= .ok z W) {c:Call} {x:Operand} {B:Bx} {off m cp:Nat}
  (hg:Ax ops N env o=some true) (hd:o.dst=none) (ho:o.op= .call c) (hc:c.callee= .builtin .clear) (ha:c.args= #[x]) (hat:c.argTypes= #[t])
  (hk:nth bxs k=some B) (hon:B.row=true) (hx:evO N env x=some (.slice (some ⟨B.b,off,none⟩) m cp)) (h1:CF (BL z.cells.toList m)=true) (hfit:off+(BL z.cells.toList m).length≤B.cells.length)
  (h:WL r n P N D ops Q rest env (Hp W0 (bxs.set k { B with cells:=Bz B.cells off (BL z.cells.toList m) }))):WL r n P N D ops Q (o::rest) env (Hp W0 bxs):= .mk fun a W ha' hd' hp=>by
 rw[Bb] at hk
 refine B0 hg ha' (fun c e=>by rw[ho] at e;cases e) ?_
 have h3:=(hp.at_ _ _ hk (Bx.row_on hon).1).1
 rw[(Bx.row_on hon).2] at h3
 obtain⟨W',hr,hu⟩:=Fe (P:=P) (o:=off) (BL z.cells.toList m) 0 B.cells W h3 (by omega) h1
 have e1:c.args.map (ov env a).eval= #[.slice (some ⟨B.b,off,none⟩) m cp]:=by rw[ha];simp[A3 ha' _ _ hx]
 have hrun:(Builtin.clear_ #[t] o.type #[.slice (some ⟨B.b,off,none⟩) m cp]).run P W= .ok (.tuple #[]) W':=by
  cases m with
  |zero=>
   have e0:BL z.cells.toList 0=[]:=rfl
   rw[e0] at hr
   simp[storeCells] at hr
   simp[Builtin.clear_,run_underlying ht,hr]
  |succ m=>simp[Builtin.clear_,run_underlying ht,hz,FT,hr]
 have:(execOp (ov env a).eval o).run P W= .ok (.value (.tuple #[])) W':=by
  simp only[execOp,ho,resolve,hc,invoke,builtin,e1,hat,Sem.run_bind,Sem.run_pure,Result.andThen_ok,hrun]
 rw[this]
 simp only[Oper.uponIn,hd]
 rw[Nat.add_zero] at hu
 exact h.out a W' ha' hd' (hp.upd hk hon hu)
end
def Ed (l:List An):Nat→List An
 |0=>[]
 |n+1=>if 0<n∧l[n]? =l[n-1]? then Ed l n else Ed l n++(l[n]?).toList
abbrev Gw (l:List An):List An:=Ed l l.length
theorem Q0 (l:List An): ∀n,(Ed l n).length≤n
 |0=>Nat.le_refl _
 |n+1=>by
  have ih:=Q0 l n
  unfold Ed
  split
  ·omega
  ·rw[List.length_append]
   have:(l[n]?).toList.length≤1:=by cases l[n]? <;>simp
   omega
theorem JI {l:List An} {n:Nat} (h0:0<n) (h:l[n]? =l[n-1]?):Ed l (n+1)=Ed l n:=by
 show(if 0<n∧l[n]? =l[n-1]? then Ed l n else _)=_
 rw[if_pos ⟨h0,h⟩]
theorem LX {l:List An} {n:Nat} (hn:n<l.length) (h: ¬(0<n∧l[n]? =l[n-1]?)):Ed l (n+1)=Ed l n++[l[n]]:=by
 show(if 0<n∧l[n]? =l[n-1]? then _ else Ed l n++(l[n]?).toList)=_
 rw[if_neg h,List.getElem?_eq_getElem hn];rfl
theorem Pk (l:List An):Ed l 1=l.take 1:=by
 cases l with
 |nil=>rfl
 |cons x l=>rfl
theorem Nl {l:List An} (hs:SrC l): ∀n,n≤l.length→(Ed l n).Pairwise BU∧(∀x,x∈Ed l n↔x∈l.take n)
 |0,_=>⟨List.Pairwise.nil,fun x=>by simp[Ed]⟩
 |n+1,hn=>by
  obtain⟨a,b⟩:=Nl hs n (by omega)
  have hn':n<l.length:=hn
  have et:l.take (n+1)=l.take n++[l[n]]:=by rw[List.take_add_one,List.getElem?_eq_getElem hn'];rfl
  by_cases h:0<n∧l[n]? =l[n-1]?
  ·rw[JI h.1 h.2]
   refine⟨a,fun x=> ?_⟩
   rw[b,et,List.mem_append,List.mem_singleton]
   refine⟨.inl,fun h2=> ?_⟩
   rcases h2 with h2|rfl
   ·exact h2
   ·have e:l[n]=l[n-1]'(by omega):=by
     have:=h.2
     rw[List.getElem?_eq_getElem hn',List.getElem?_eq_getElem (by omega)] at this
     exact Option.some.inj this
    rw[e]
    exact List.mem_iff_getElem.2 ⟨n-1,by rw[List.length_take];omega,by rw[List.getElem_take]⟩
  ·rw[LX hn' h]
   refine⟨List.pairwise_append.2 ⟨a,List.pairwise_cons.2 ⟨fun _ h=>absurd h List.not_mem_nil,List.Pairwise.nil⟩,fun x hx y hy=> ?_⟩,fun x=> ?_⟩
   ·obtain rfl:=List.mem_singleton.1 hy
    obtain⟨i,hi,rfl⟩:=List.mem_iff_getElem.1 ((b x).1 hx)
    rw[List.length_take] at hi
    rw[List.getElem_take]
    have hp:=List.pairwise_iff_getElem.1 hs
    have h1:=hp i n (by omega) hn' (by omega)
    rcases JA l[i] l[n] with d|d|d
    ·exact d
    ·exfalso
     refine h ⟨by omega, ?_⟩
     rw[List.getElem?_eq_getElem hn',List.getElem?_eq_getElem (show n-1<l.length by omega)]
     congr 1
     by_cases ei:i=n-1
     ·subst ei;exact d.symm
     ·have h2:=hp i (n-1) (by omega) (by omega) (by omega)
      have h3:=hp (n-1) n (by omega) hn' (by omega)
      rw[d] at h2
      rcases JA l[n] (l[n-1]'(by omega)) with d2|d2|d2
      ·exact absurd d2 h3
      ·exact d2
      ·exact absurd d2 h2
    ·exact absurd d h1
   ·rw[et,List.mem_append,List.mem_append,b]
theorem TC {l:List An} (hs:SrC l):(Gw l).Pairwise BU∧ ∀x,x∈Gw l↔x∈l:=by
 have:=Nl hs l.length (Nat.le_refl _)
 rw[List.take_length] at this
 exact this
theorem NP {x y:An}:decide (Ac x.1=Ac y.1∧Ac x.2=Ac y.2)=decide (x=y):=decide_eq_decide.2 ⟨fun h=>Prod.ext (IE.1 h.1) (IE.1 h.2),fun h=>by rw[h];exact⟨rfl,rfl⟩⟩
theorem O3 {W0 W:World} {bxs:List Bx} (hp:Hp W0 bxs W) (k:Nat) {g:Nat} {l:List An} {junk:List Value} (hk:nth bxs k=some (B6 g l junk)) {i:Nat} (hi:i<l.length):Ag W g (0+i*2) [str (Ac l[i].1),str (Ac l[i].2)]:=by
 obtain⟨g',off',e,h⟩:=(BH.of_row (Ag.of_bx hp k hk rfl)).at_ hi
 cases e
 exact h i hi
theorem S3: ∀m,CF (BL (Value.agg #[str [],str []]).cells.toList m)=true
 |0=>rfl
 |m+1=>by
  have ih:=S3 m
  show CF (str []::str []::BL _ m)=true
  exact ih
theorem St (m:Nat):(BL (Value.agg #[str [],str []]).cells.toList m).length=m*2:=Fy _ m
theorem Kf (W:World) (g cap:Nat) (l:List An) (junk:List Value) (hn:l.length≤100000) (hcap:l.length≤cap) (hg:W.heap[g]? =some (.cells (ptC l++junk).toArray 62 (0,0))):
  Calls Tryz.prog 279 #[.slice (some ⟨g,0,none⟩) l.length cap] W fun e W'=> ∃x:List Value,e= .returned ((fun _=> .slice (some ⟨g,0,none⟩) (Gw l).length cap) x)∧True∧Lz W W' g ((fun _=>g) x) ((fun x=> .cells (ptC (Gw l)++x).toArray 62 (0,0)) x):=by
 have key:Calls Tryz.prog 279 [.slice (some ⟨g,0,none⟩) l.length cap].toArray W fun e W'=> ∃x:List Value,e= .returned ((fun _=> .slice (some ⟨g,0,none⟩) (Gw l).length cap) x)∧(fun _=>True) x∧Below (AT W).heap.size (AT W) W'∧Ap (AT W) W' ((fun x=>[AP (Av W g),B6 g (Gw l) x]) x):=by
  refine C7 (X:=List Value) (val:=fun _=> .slice (some ⟨g,0,none⟩) (Gw l).length cap) (Φ:=fun _=>True) (nb:=fun x=>[AP (Av W g),B6 g (Gw l) x]) (Hp.enterT (B:=B6 g l junk) I hg) Tryz.func279 I I I ?_
  refine zA (zB (wP I (Aa (zE (zA (zA (zB (wP I (wP I (wP I ?_))))))))))
  by_cases hlt:l.length<2
  ·have e:Gw l=l:=by
    rcases(show l.length=0∨l.length=1 by omega) with e|e
    ·rw[Gw,e,List.length_eq_zero_iff.1 e];rfl
    ·rw[Gw,e,Pk,List.take_of_length_le (by omega)]
   refine wU 8 true I (dT (by omega)) (Aa (zE (zR I (zA (zB (wP I (wP I (Aa (zE (zO (zP ?_)))))))))))
   rw[e]
   exact Aw tH I (.tmp I) junk I tO fun W1 hp=>(hp.pick (l:=[AP (Av W g),B6 g l junk]) [0,1] (by decide) I).own
  refine wU 8 false I (dF (by omega)) (Aa (zE (zS I (zI (zE (zA (zA (zB (wP I (Aa (zE (zH ?_))))))))))))
  refine At (X:=Nat) (fun i=>[(0, .slice (some ⟨g,0,none⟩) l.length cap),(3, .int .i64 (i:Nat))]) (fun _=>[AP (Av W g),B6 g l junk]) (fun i=>1≤i∧i≤l.length∧Ed l i=l.take i) (fun i=>l.length-i) 1 ⟨Nat.le_refl _,by omega,Pk l⟩ ⟨I,I,tO⟩ [] I ?_
  rintro i ⟨hi1,hi2,hc⟩
  have hi1:1≤i:=hi1
  have hi2:i≤l.length:=hi2
  have hc:Ed l i=l.take i:=hc
  refine zA (zA (zB (wP I (wP I (wP I (wP I ?_))))))
  by_cases hi:i<l.length
  rotate_left
  ·obtain rfl:i=l.length:=by omega
   have e:Gw l=l:=by rw[Gw,hc,List.take_length]
   refine wU 13 false I (dF (by omega)) (Aa (zE (zS I (zJ (zK (zK (zL (zE (zA (zB (wP I (wP I (Aa ?_)))))))))))))
   refine zE (zO ?_)
   rw[e]
   exact Aw tH I (.tmp I) junk I tO fun W1 hp=>(hp.pick (l:=[AP (Av W g),B6 g l junk]) [0,1] (by decide) I).own
  refine wU 13 true I (dT (by omega)) (Aa (zE (zR I (zI (zE (zA (zH (zA (zU ?_)))))))))
  have hm:i-1<l.length:=by omega
  obtain⟨x,hx⟩: ∃x,x=l[i]:=⟨_,rfl⟩
  obtain⟨y,hy⟩: ∃y,y=l[i-1]:=⟨_,rfl⟩
  have ex:l[i]? =some x:=by rw[List.getElem?_eq_getElem hi,hx]
  have ey:l[i-1]? =some y:=by rw[List.getElem?_eq_getElem hm,hy]
  have rx: ∀ {W1:World},Hp (AT W) [AP (Av W g),B6 g l junk] W1→Ag W1 g (0+i*2) [str (Ac x.1),str (Ac x.2)]:=fun hp=>by rw[hx];exact O3 hp 1 rfl hi
  have ry: ∀ {W1:World},Hp (AT W) [AP (Av W g),B6 g l junk] W1→Ag W1 g (0+(i-1)*2) [str (Ac y.1),str (Ac y.2)]:=fun hp=>by rw[hy];exact O3 hp 1 rfl hm
  refine qP I (qP I ?_)
  refine qJ ?_
  refine qL 0 I I (fun W1 hp=>rx hp) I (qP I (qP I (qP I (qV 22 ((i-1:Nat):Int) I (show w64 ((i:Int)-1)=_ by rw[Ar (by omega) (by omega)];omega) ?_))))
  refine qJ ?_
  refine qL 0 I I (fun W1 hp=>ry hp) I ?_
  refine N7 (Ac x.1) (Ac x.2) (Ac y.1) (Ac y.2) I I I I I ?_
  refine qU 25 (decide (x=y)) I NP (A7 (Aa (zE ?_)))
  refine Aj I (fun hxy=> ?_) (fun hxy=> ?_)
  rotate_left
  ·have hne:x≠y:=of_decide_eq_false hxy
   refine zI (zN (zE (zB (wP I (wP I (wV 15 ((i+1:Nat):Int) I (A0 (by omega)) (wP I (Aa ?_))))))))
   exact Ak (i+1) ⟨by omega,hi,by
    rw[LX hi (fun h=>hne (by rw[ex,ey] at h;exact Option.some.inj h.2)),hc,List.take_add_one,List.getElem?_eq_getElem hi];rfl⟩ (by show l.length-(i+1)<l.length-i;omega) ⟨rfl,rfl,trivial⟩ [] rfl
  have hxe:x=y:=of_decide_eq_true hxy
  have hsame:Ed l (i+1)=l.take i:=by rw[JI (by omega) (by rw[ex,ey,hxe]),hc]
  refine zA (zB (wP I (wP I ?_)))
  refine Eg i tH I I I I I I I I (by omega) hcap ?_
  refine Ay 28 (.slice (some ⟨g,0+i*2,none⟩) (l.length-i) (cap-i)) I (by rw[if_neg (by omega)]) ?_
  refine wP I (Aa (zE (zA (zA (zB (wP I (Aa (zE (zH ?_)))))))))
  refine At (X:=Nat) (fun k=>[(0, .slice (some ⟨g,0,none⟩) l.length cap),(3, .int .i64 ((Ed l (i+k)).length:Nat)),(4, .slice (some ⟨g,0+i*2,none⟩) (l.length-i) (cap-i)),(5, .int .i64 (k:Nat))]) (fun k=>[AP (Av W g),B6 g (Ed l (i+k)++l.drop (Ed l (i+k)).length) junk])
   (fun k=>1≤k∧i+k≤l.length∧1≤(Ed l (i+k)).length∧(Ed l (i+k)).length+1≤i+k) (fun k=>l.length-i-k) 1 ⟨Nat.le_refl _,hi,by rw[hsame,List.length_take];omega,by rw[hsame,List.length_take];omega⟩ ⟨rfl,by rw[hsame,List.length_take,Nat.min_eq_left (by omega)];rfl,rfl,rfl,trivial⟩ [] (by rw[hsame,List.length_take,Nat.min_eq_left (by omega),List.take_append_drop];rfl) ?_
  rintro k ⟨hk1,hk2,hk3,hk4⟩
  have hk1:1≤k:=hk1
  have hk2:i+k≤l.length:=hk2
  have hk3:1≤(Ed l (i+k)).length:=hk3
  have hk4:(Ed l (i+k)).length+1≤i+k:=hk4
  obtain⟨C,hC⟩: ∃C,C=Ed l (i+k):=⟨_,rfl⟩
  rw[←hC] at hk3 hk4
  rw[←hC]
  have hlen:(C++l.drop C.length).length=l.length:=by rw[List.length_append,List.length_drop];omega
  refine zA (zA (zB (wP I (wP I (wP I (wP I ?_))))))
  by_cases hlk:k<l.length-i
  ·refine wU 32 true I (dT (by omega)) (Aa (zE (zR I (zI (zE (zA (zH (zA (zU ?_)))))))))
   have old: ∀j (hj:j<l.length),C.length≤j→(C++l.drop C.length)[j]'(by rw[hlen];exact hj)=l[j]:=fun j hj h=>by
    rw[List.getElem_append_right h,List.getElem_drop]
    congr 1;omega
   have h1:i+k<l.length:=by omega
   have h2:i+k-1<l.length:=by omega
   obtain⟨u,hu⟩: ∃u,u=l[i+k]:=⟨_,rfl⟩
   obtain⟨v,hv⟩: ∃v,v=l[i+k-1]:=⟨_,rfl⟩
   have eu:l[i+k]? =some u:=by rw[List.getElem?_eq_getElem h1,hu]
   have ev:l[i+k-1]? =some v:=by rw[List.getElem?_eq_getElem h2,hv]
   have ru: ∀ {W1:World},Hp (AT W) [AP (Av W g),B6 g (C++l.drop C.length) junk] W1→Ag W1 g (0+i*2+k*2) [str (Ac u.1),str (Ac u.2)]:=fun hp=>by
    have:=O3 hp 1 rfl (i:=i+k) (by rw[hlen];exact h1)
    rw[old _ h1 (by omega), ←hu] at this
    rwa [show 0+i*2+k*2=0+(i+k)*2 by omega]
   have rv: ∀ {W1:World},Hp (AT W) [AP (Av W g),B6 g (C++l.drop C.length) junk] W1→Ag W1 g (0+i*2+(k-1)*2) [str (Ac v.1),str (Ac v.2)]:=fun hp=>by
    have:=O3 hp 1 rfl (i:=i+k-1) (by rw[hlen];exact h2)
    rw[old _ h2 (by omega), ←hv] at this
    rwa [show 0+i*2+(k-1)*2=0+(i+k-1)*2 by omega]
   refine qP I (qP I ?_)
   refine qJ ?_
   refine qL 0 I I (fun W1 hp=>ru hp) I (qP I (qP I (qP I (qV 41 ((k-1:Nat):Int) I (show w64 ((k:Int)-1)=_ by rw[Ar (by omega) (by omega)];omega) ?_))))
   refine qJ ?_
   refine qL 0 I I (fun W1 hp=>rv hp) I ?_
   refine W8 (Ac u.1) (Ac u.2) (Ac v.1) (Ac v.2) I I I I I ?_
   refine Ek 44 (.bool (!decide (u=v))) I (congrArg (fun b=>Value.bool (!b)) NP) ?_
   refine A7 (Aa (zE ?_))
   refine Aj I (fun huv=> ?_) (fun huv=> ?_)
   ·have hne:u≠v:=fun e=>by rw[e,dT rfl] at huv;cases huv
    have hnew:Ed l (i+(k+1))=C++[u]:=by
     rw[show i+(k+1)=i+k+1 by omega,LX h1 (fun h=>hne (by rw[eu,ev] at h;exact Option.some.inj h.2)), ←hC,hu]
    have hd:l.drop C.length=l[C.length]'(by omega)::l.drop (C.length+1):=List.drop_eq_getElem_cons (by omega)
    have hs1:Bz (ptC (C++l.drop C.length)++junk) (0+C.length*2) (cvV u).cells.toList=ptC (C++[u]++l.drop (C++[u]).length)++junk:=by
     rw[hd,Cy,List.append_assoc,show 0+C.length*2=(ptC C).length+0 by rw[Bv];omega,EM]
     simp only[List.length_append,List.length_cons,List.length_nil,Nat.zero_add,Cy,List.append_assoc]
     rfl
    have hs2:0+C.length*2+2≤(ptC (C++l.drop C.length)++junk).length:=by rw[List.length_append,Bv,hlen];omega
    refine zA (zB (wP I (wP I (wP I (wP I ?_)))))
    refine wJ ?_
    refine wL 0 I I (fun W1 hp=>ru hp) I ?_
    refine wJ ?_
    refine AD 1 _ tH I I I I I I I I I I hs2 hs1 ?_
    refine Aa (zE (zB (wP I (wP I (wV 53 ((C.length+1:Nat):Int) I (A0 (by omega)) (wP I (Aa (zN (zE (zB (wP I (wP I (wV 34 ((k+1:Nat):Int) I (A0 (by omega)) ?_)))))))))))))
    exact wP I (Aa (Ak (k+1) ⟨by omega,by omega,by rw[hnew,List.length_append];omega,by rw[hnew,List.length_append,List.length_singleton];omega⟩ (by show l.length-i-(k+1)<l.length-i-k;omega) ⟨I,by rw[hnew,List.length_append];rfl,I,I,tO⟩ [] (by rw[hnew];rfl)))
   ·have he:u=v:=by
     cases hd:decide (u=v) with
     |true=>exact of_decide_eq_true hd
     |false=>rw[hd] at huv;cases huv
    have hsm:Ed l (i+(k+1))=C:=by rw[show i+(k+1)=i+k+1 by omega,JI (by omega) (by rw[eu,ev,he]), ←hC]
    exact zI (zN (zE (zB (wP I (wP I (wV 34 ((k+1:Nat):Int) I (A0 (by omega)) (wP I (Aa (Ak (k+1) ⟨by omega,by omega,by rw[hsm];exact hk3,by rw[hsm];omega⟩ (by show l.length-i-(k+1)<l.length-i-k;omega) ⟨I,by rw[hsm];rfl,I,I,tO⟩ [] (by rw[hsm];rfl))))))))))
  have ek:i+k=l.length:=by omega
  rw[ek] at hC
  have hCC:Gw l=C:=hC.symm
  refine wU 32 false I (dF (by omega)) (Aa (zE (zS I (zJ (zK (zK (zL (zE (zA (zB ?_))))))))))
  have hd1:(ptC (l.drop C.length)).length=(l.length-C.length)*2:=by rw[Bv,List.length_drop]
  refine wP I (wP I ?_)
  refine Eg C.length tH I I I I I I I I (by omega) hcap ?_
  refine Ay 56 (.slice (some ⟨g,0+C.length*2,none⟩) (l.length-C.length) (cap-C.length)) I (by rw[if_neg (by omega)]) ?_
  refine UB 1 (e:=62) (z:= .agg #[str [],str []]) Tryz.underlying210 Tryz.zeroValue62 I I I I I I I I I (S3 _) (by rw[St];show 0+C.length*2+_≤(ptC (C++l.drop C.length)++junk).length;rw[List.length_append,Bv,hlen];omega) ?_
  refine Aa (zE (zA (zB (wP I (wP I ?_)))))
  refine B9 C.length tH I I I I I I I I (by omega) ?_
  refine wP I (Aa (zE (zO (zQ (zP (zP (zQ (zP ?_))))))))
  have hs3:Bz (ptC (C++l.drop C.length)++junk) (0+C.length*2) (BL (Value.agg #[str [],str []]).cells.toList (l.length-C.length))=ptC C++(BL (Value.agg #[str [],str []]).cells.toList (l.length-C.length)++junk):=by
   rw[Cy,List.append_assoc,show 0+C.length*2=(ptC C).length by rw[Bv];omega]
   exact R8 (ptC C) (ptC (l.drop C.length)) junk _ (by rw[hd1,St])
  rw[hCC]
  exact Aw tH I (.tmp I) (BL (Value.agg #[str [],str []]).cells.toList (l.length-C.length)++junk) I tO fun W1 hp=>by
   rw[show[AP (Av W g),B6 g (C++l.drop C.length) junk].set 1 _=[AP (Av W g),(⟨g,62,Bz (ptC (C++l.drop C.length)++junk) (0+C.length*2) (BL (Value.agg #[str [],str []]).cells.toList (l.length-C.length)),true,none⟩:Bx)] from rfl,hs3] at hp
   exact(hp.pick (l:=[AP (Av W g),B6 g C (BL (Value.agg #[str [],str []]).cells.toList (l.length-C.length)++junk)]) [0,1] (by decide) I).own
 refine key.mono ?_
 rintro e W' ⟨x,he,_,hb,hn'⟩
 exact⟨x,he,tO,G8 hg I hb hn'⟩
theorem BH.cells {W:World} {p:Option Addr} {l:List An} (h:BH W p l):M0 W p (ptC l):=by
 rcases h with rfl|⟨b,off,e,h⟩
 ·exact .inl I
 ·by_cases h0:l=[]
  ·exact .inl (by rw[h0];rfl)
  refine .inr ⟨b,off,e, ?_⟩
  have hpos:0<l.length:=List.length_pos_iff.2 h0
  refine⟨(h 0 hpos).lt,fun m u hu=> ?_⟩
  have hm:m<l.length*2:=by rw[←Bv];exact(List.getElem?_eq_some_iff.1 hu).1
  have hi:m/2<l.length:=by omega
  have hr:=h (m/2) hi
  have hd:=TU hi
  rw[hd,List.getElem?_append_right (by rw[Bv,List.length_take];omega),Bv,List.length_take,Nat.min_eq_left (by omega),List.getElem?_append_left (by show _<2;omega)] at hu
  have:=hr.get (m-m/2*2) u hu
  rwa [show off+m/2*2+(m-m/2*2)=off+m by omega] at this
theorem M4 (W:World) (p:Option Addr) (cap:Nat) (l:List An) (hn:l.length≤100000) (hA:BH W p l) (hne:l≠[]):
  Ad Tryz.prog 321 #[slv p l.length cap] W (fun V:Vec=>V.val l.length) (fun V=>V.OK 2 l.length (ptC l)∧V.p≠none) (fun V=>[V.bx 62 (ptC l)]):=by
 have hc:=hA.cells
 obtain⟨b,off,rfl,hR⟩: ∃b off,p=some ⟨b,off,none⟩∧Ag W b off (ptC l):=by
  rcases hc with h|h
  ·exfalso
   have h2:l.length*2=0:=by rw[←Bv,h];rfl
   exact hne (List.length_eq_zero_iff.1 (by omega))
  ·exact h
 refine Ab (args:=[slv (some ⟨b,off,none⟩) l.length cap]) Tryz.func321 I I I ?_
 refine zA (zB (wP I (Aa (zE (zA (zA (zB (wP I ?_))))))))
 refine Vg tH I I I I I I I ?_
 refine zC (zE (zS I (zI (zE (zA (zB ?_))))))
 refine MJ tH I I I I I ?_
 intro g
 refine wP I ?_
 refine Gg (len:=0) (V:=⟨some g,0,[]⟩) (xs:=[]) 0 Tryz.vec210 rfl rfl rfl rfl rfl rfl rfl rfl rfl ⟨rfl,(fun h=>by cases h),fun _=>⟨Nat.le_refl _,Nat.zero_le _,rfl⟩⟩ (Bv l) (fun W hp j u hj=> ?_) (EH _) (by simp only[maxLen];omega) (by omega) ?_
 ·rw[Addr.add_none]
  exact((hR.hp hp).get j u hj)
 intro V hV hp0
 refine wP I (Aa (zE (zO ?_)))
 have e0:0+l.length=l.length:=Nat.zero_add _
 rw[e0,List.nil_append] at hV
 exact Aw tH I (.tmp I) V (by rw[e0]) ⟨hV,fun h=>hne (List.length_eq_zero_iff.1 (hp0 h))⟩ fun W hp=>Ap.of_hp1 hp 0 I
-- BOXES 4
-- CODE2
theorem Px (W:World) (g:Nat) (a b:Int) (h:Ag W g 0 [.int .i64 a, .int .i64 b]):
  Ad Tryz.prog 275 #[.slice (some ⟨g,0,none⟩) 2 2] W (fun _:Unit=> .int .i64 (if a=0 then b else a)) (fun _=>True) (fun _=>[]):=by
 refine Ab (args:=[.slice (some ⟨g,0,none⟩) 2 2]) Tryz.func275 I I I ?_
 have h0:Ag W g (0+0*1) [.int .i64 a]:=⟨h.lt,fun j u hu=>h.get j u (by cases j with|zero=>exact hu|succ j=>cases hu)⟩
 have h1:Ag W g (0+1*1) [.int .i64 b]:=⟨h.lt,fun j u hu=>by
  cases j with
  |zero=>exact h.get 1 u hu
  |succ j=>cases hu⟩
 refine zA (zB (wP I (Aa (zE (zA (zB (wP I (Aa (zE (zA (zA (zB (wP I (wP I (wP I ?_)))))))))))))))
 refine Aa (zE (zH ?_))
 refine At (X:=Nat) (fun k=>[(3, .int .i64 0),(6, .slice (some ⟨g,0,none⟩) 2 2),(7, .int .i64 2),(8, .int .i64 (k:Nat))]) (fun _=>[]) (fun k=>k≤2∧(0<k→a=0)∧(1<k→b=0)) (fun k=>2-k) 0 ⟨by omega,fun h=>absurd h (by omega),fun h=>absurd h (by omega)⟩ ⟨I,I,I,I,tO⟩ [] I ?_
 rintro k ⟨hk,ha,hb⟩
 refine zA (zB (wP I (Aa (zE (zA ?_)))))
 refine Aj I (fun h=> ?_) (fun h=> ?_)
 rotate_left
 ·have e:k=2:=by have h':decide ((k:Int)<2)=false:=h;rw[decide_eq_false_iff_not] at h';omega
  exact zJ (zK (zK (zL (zE (zA (zB (wP I (wP I (Aa (zE (zO (wR1 I I (by rw[if_pos (ha (by omega)),hb (by omega)])))))))))))))
 have hk:k<2:=by have h':decide ((k:Int)<2)=true:=h;rw[decide_eq_true_iff] at h';omega
 clear h
 rcases(show k=0∨k=1 by omega) with rfl|rfl
 ·refine zI (zE (zA (zH (zA (zB ?_)))))
  refine wJ ?_
  refine wL 0 I I (fun W hp=>h0.hp hp) I (wP I (Aa (zE (zA (zB (wP I (wP I (wP I (Aa (zE ?_))))))))))
  refine Aj I (fun hx=> ?_) (fun hx=> ?_)
  ·have hx:a≠0:=by have h':(a !=0)=true:=hx;simpa using h'
   exact zA (zB (wP I (wP I (Aa (zE (zO (zQ (zP (zP (zQ (zP (wR1 I I (by rw[if_neg hx])))))))))))))
  ·have hx:a=0:=by have h':(a !=0)=false:=hx;simpa using h'
   exact zI (zN (zE (zB (wP I (wP I (Aa (Ak 1 ⟨by omega,fun _=>hx,fun h=>absurd h (by omega)⟩ (by omega) ⟨I,I,I,I,tO⟩ [] I)))))))
 ·have ha:=ha (by omega)
  refine zI (zE (zA (zH (zA (zB ?_)))))
  refine wJ ?_
  refine wL 0 I I (fun W hp=>h1.hp hp) I (wP I (Aa (zE (zA (zB (wP I (wP I (wP I (Aa (zE ?_))))))))))
  refine Aj I (fun hx=> ?_) (fun hx=> ?_)
  ·exact zA (zB (wP I (wP I (Aa (zE (zO (zQ (zP (zP (zQ (zP (wR1 I I (by rw[if_pos ha])))))))))))))
  ·have hx:b=0:=by have h':(b !=0)=false:=hx;simpa using h'
   exact zI (zN (zE (zB (wP I (wP I (Aa (Ak 2 ⟨by omega,fun _=>ha,fun _=>hx⟩ (by omega) ⟨I,I,I,I,tO⟩ [] I)))))))
theorem PQ (p q:An) (zp:szQ p.1 8∧szQ p.2 8) (zq:szQ q.1 8∧szQ q.2 8) (W:World) (hv:AE W) (ht:A6 W):
  Ad Tryz.prog 274 #[cvV p,cvV q] W (fun _:Unit=> .int .i64 (J6 p q)) (fun _=>True) (fun _=>[]):=by
 refine Ab (args:=[cvV p,cvV q]) Tryz.func274 I I I ?_
 refine zA (zB ?_)
 (refine Al rfl rfl rfl rfl ?_;intro)
 (refine Al rfl rfl rfl rfl ?_;intro)
 refine wP I (Aa ?_)
 rename_i b2 b3
 refine zE (zA (zU (qP I (qB 0 I I I (qP I (qB 1 I I I (qC I I (fun W hp=>CC p.1 q.1 (sz2 zp.1 zq.1 (by decide)) W (hv.hp hp) (ht.hp hp)) (qP I (qB 0 I I I (qP I (qB 1 I I I (qC I I (fun W hp=>CC p.2 q.2 (sz2 zp.2 zq.2 (by decide)) W (hv.hp hp) (ht.hp hp)) (A7 ?_)))))))))))))
 (refine As Tryz.hZ tH rfl rfl rfl rfl rfl rfl rfl rfl rfl rfl rfl ?_;intro)
 rename_i b15
 exact wC I I (fun W hp=>Px W b15 (C9 p.1 q.1) (C9 p.2 q.2) (Ag.of_bx hp 2 I I)) (wP I (Aa (zE (zO (wR1 I I I)))))
theorem Qn (l:List An) (h0:0<l.length) (hn:l.length≤4096) (hz: ∀x∈l,szQ x.1 8∧szQ x.2 8) (hm: ∀k (hk:k<l.length), ¬J6 l[k] l[0]<0) (p:Option Addr) (cap:Nat) (W:World) (hA:BH W p l) (hv:AE W) (ht:A6 W):
  Ad Tryz.prog 277 #[slv p l.length cap, .func (.func 274) #[] #[]] W (fun _:Unit=>cvV l[0]) (fun _=>True) (fun _=>[]):=by
 obtain⟨bq,oq,rfl,hrq⟩:=hA.at_ h0
 obtain⟨x,hx⟩: ∃x,x=l[0]:=⟨_,rfl⟩
 have hr0:=hrq 0 h0
 have zx:=hz _ (List.getElem_mem h0)
 rw[←hx] at hr0 zx hm⊢
 refine Ab (args:=[slv (some ⟨bq,oq,none⟩) l.length cap, .func (.func 274) #[] #[]]) Tryz.func277 I I I ?_
 refine zA (zB ?_)
 (refine Ae Tryz.hZ rfl rfl rfl rfl ?_;intro)
 refine Aa ?_
 rename_i b4
 refine zE (zA (zA (zB (wP I (wP I (wP I (Aa (zE ?_))))))))
 refine Aj I (fun h=> ?_) (fun h=> ?_)
 ·have h':decide (((l.length:Nat):Int)<1)=true:=h
  rw[decide_eq_true_iff] at h';omega
 clear h
 refine zI (zE (zA (zB (wP I ?_))))
 refine wJ ?_
 refine wL 0 I I (fun W hp=>hr0.hp hp) I ?_
 (refine Ae Tryz.hZ rfl rfl rfl rfl ?_;intro)
 refine wS 1 I I I (Aa ?_)
 rename_i b5
 refine zE (zA (zA (zB (wP I (Aa (zE (zH ?_)))))))
 refine At (X:=Nat) (fun k=>[(0,slv (some ⟨bq,oq,none⟩) l.length cap),(1, .func (.func 274) #[] #[]),(4, .pointer (some ⟨b4,0,none⟩)),(5, .pointer (some ⟨b5,0,none⟩)),(6, .int .i64 ((k+1:Nat):Int))]) (fun k=>[⟨b4,62,[str [],str []],true,none⟩,⟨b5,62,(cvV x).cells.toList,true,none⟩])
  (fun k=>k<l.length) (fun k=>l.length-k) 0 h0 ⟨rfl,rfl,rfl,rfl,rfl,trivial⟩ [] rfl ?_
 intro k hk
 refine zA (zA (zB (wP I (wP I (wP I (wP I (Aa (zE ?_))))))))
 refine Aj I (fun h=> ?_) (fun h=> ?_)
 rotate_left
 ·exact zJ (zK (zK (zL (zE (zA (zB (wB 1 I I I (wS 0 I I I (Aa (zE (zO (Aw tH I (.cell 0 I I I I I) () I tO fun W _=>Ap.nil _ _))))))))))))
 have hk1:k+1<l.length:=by have h':decide (((k+1:Nat):Int)<(l.length:Nat))=true:=h;rw[decide_eq_true_iff] at h';omega
 clear h
 have zk:=hz _ (List.getElem_mem hk1)
 have hmk:=hm (k+1) hk1
 have hrk:=hrq (k+1) hk1
 obtain⟨y,hy⟩: ∃y,y=l[k+1]:=⟨_,rfl⟩
 rw[←hy] at zk hmk hrk
 refine zI (zE (zA (zH (zA (zU (qP I (qP I (qP I ?_))))))))
 refine qJ ?_
 refine qL 0 I I (fun W hp=>hrk.hp hp) I (qB 1 I I I ?_)
 refine Ga (capt:=[]) I I I I I I (by kernel_rfl) (fun W hp=>PQ y x zk zx W (hv.hp hp) (ht.hp hp)) ?_
 refine qP I (A7 (Aa (zE ?_)))
 refine Aj I (fun hq=> ?_) (fun hq=> ?_)
 ·exact absurd (of_decide_eq_true hq) hmk
 exact zI (zN (zE (zB (wP I (wP I (wV 19 ((k+1+1:Nat):Int) I (A0 (by omega)) (wP I (Aa (Ak (k+1) hk1 (by show l.length-(k+1)<l.length-k;omega) ⟨I,I,I,I,I,tO⟩ [] I)))))))))
theorem Lp (l:List An) (h0:0<l.length) (hn:l.length≤100000) (p:Option Addr) (cap:Nat) (W:World) (hA:BH W p l):
  Ad Tryz.prog 276 #[slv p l.length cap,cvV l[0]] W (fun _:Unit=> .int .i64 0) (fun _=>True) (fun _=>[]):=by
 obtain⟨g,off,rfl,hrow⟩:=hA.at_ h0
 have hr:=hrow 0 h0
 obtain⟨q,hq⟩: ∃q,q=l[0]:=⟨_,rfl⟩
 rw[←hq] at hr⊢
 refine Ab (args:=[slv (some ⟨g,off,none⟩) l.length cap,cvV q]) Tryz.func276 I I I ?_
 refine zA (zB ?_)
 (refine Al rfl rfl rfl rfl ?_;intro)
 refine wP I (Aa ?_)
 rename_i b3
 refine zE (zA (zA (zB (wP I (wP I (wP I (Aa (zE (zH ?_)))))))))
 refine At (X:=Unit) (fun _=>[(0,slv (some ⟨g,off,none⟩) l.length cap),(3,Ai b3),(7, .int .i64 (l.length:Nat)),(8, .int .i64 ((0:Nat):Int))]) (fun _=>[⟨b3,62,(cvV q).cells.toList,true,none⟩]) (fun _=>True) (fun _=>0) () tO ⟨I,I,I,I,tO⟩ [] I ?_
 intro _ _
 refine zA (zB (wP I (wU 9 true I (dT (by omega)) (Aa (zE (zA (zR I (zI (zE (zA (zH (zA (zB ?_)))))))))))))
 refine wP I (wP I (Aa (zE (A9 (zU (qB 0 I I I (qP I (qP I ?_))))))))
 refine qJ ?_
 refine qL 0 I I (fun W1 hp=>hr.hp hp) I ?_
 refine N7 (Ac q.1) (Ac q.2) (Ac q.1) (Ac q.2) I I I I I ?_
 refine qU 16 true I (by simp) (A7 (Aa (zE (zR I (zA (zB (wP I (wP I (Aa (zE (zO (zQ (zP (zP ?_))))))))))))))
 exact zQ (zP (wR1 I I I))
-- BOXES 3
-- CODE2
abbrev Vi (ix:Nat→Nat) (P:Nat→An) (k:Nat):List Value:=[.int .i64 (ix k:Nat),cvV (P k)]
theorem R0 (p:Option Addr) (n cap:Nat) (W:World):Ad Tryz.prog 326 #[slv p n cap] W (fun b:Nat=> .func (.func 359) #[] #[Ai b]) (fun _=>True) (fun b=>[⟨b,210,[slv p n cap],true,none⟩]):=by
 refine Ab (args:=[slv p n cap]) Tryz.func326 I I I ?_
 refine zA (zB ?_)
 (refine Al rfl rfl rfl rfl ?_;intro)
 refine wP I (Aa ?_)
 rename_i b
 exact zE (zA (zB (wP I (wP I (Aa (zE (zO (Aw tH I (.tmp I) b I tO fun W1 hp=>Ap.of_hp hp))))))))
theorem Ql (p:Option Addr) (n cap:Nat) (W:World):Ad Tryz.prog 327 #[slv p n cap] W (fun b:Nat=> .func (.func 360) #[] #[Ai b]) (fun _=>True) (fun b=>[⟨b,210,[slv p n cap],true,none⟩]):=by
 refine Ab (args:=[slv p n cap]) Tryz.func327 I I I ?_
 refine zA (zB ?_)
 (refine Al rfl rfl rfl rfl ?_;intro)
 refine wP I (Aa ?_)
 rename_i b
 exact zE (zA (zB (wP I (wP I (Aa (zE (zO (Aw tH I (.tmp I) b I tO fun W1 hp=>Ap.of_hp hp))))))))
theorem Ts (l:List An) (b1:Nat) (p:Option Addr) (cap:Nat) (hn:l.length<1099511627776):N0 Tryz.prog 359 [Ai b1] l.length (Vi (fun k=>k) (Ao l)) (fun _=>UH b1 p cap l):=by
 refine⟨fun y J Jx hN hB hA hU hY W hJ=> ?_⟩
 have hp0:=(hN _ _ W hJ).1.pts
 refine C8 (args:=[.func (.yield y) #[] #[],Ai b1]) (J0:=J 0 []) (Jm:=fun W=> ∃L,J l.length L W) Tryz.func359 I I I hJ ?_
 refine zA (zB (wL 0 I I (fun W hp=>(hN _ _ W hp).1.var) I (wP I (wP I (Aa (zE (zH ?_)))))))
 refine Do (X:=Nat×List (Nat×Obj)) (fun s=>[(0, .func (.yield y) #[] #[]),(1,Ai b1),(5,slv p l.length cap),(6, .int .i64 (l.length:Nat)),(7, .int .i64 (s.1:Nat))]) (fun s W=>J s.1 s.2 W)
  (fun s=>s.1≤l.length) (fun s=>l.length-s.1) (0,[]) (Nat.zero_le _) ⟨rfl,rfl,rfl,rfl,rfl,trivial⟩ (fun W hp=>hp) ?_
 rintro⟨i,L⟩ hi
 have hi:i≤l.length:=hi
 refine zA (zB (wP I ?_))
 by_cases hlt:i<l.length
 rotate_left
 ·refine wU 8 false I (dF (by omega)) (Aa (zE (zA (zS I (zJ (zK (zK (zL ?_))))))))
  exact EG I fun W hp=>⟨L,by
   have e:i=l.length:=by omega
   have hp:J i L W:=hp
   rw[e] at hp
   exact hp⟩
 refine wU 8 true I (dT (by omega)) (Aa (zE (zA (zR I (zI (zE (zA (zH (zA (zB ?_))))))))))
 obtain⟨g,off,hpe,hrow⟩: ∃g off,p=some ⟨g,off,none⟩∧ ∀W k L,J k L W→ ∀j,j<l.length→Ag W g (off+j*2) [str (Ac (Ao l j).1),str (Ac (Ao l j).2)]:=by
  obtain⟨g,off,e,_⟩:=hp0.at_ hlt
  refine⟨g,off,e,fun W1 k L1 h1 j hj=> ?_⟩
  obtain⟨g',off',e',h2⟩:=(hN _ _ W1 h1).1.pts.at_ hj
  rw[e] at e'
  cases e'
  rw[CS hj]
  exact h2 j hj
 subst hpe
 refine wP I ?_
 refine wJ ?_
 refine wL 0 I I (fun W hp=>hrow W _ _ hp i hlt) I ?_
 refine JD (fun b W=>J i [(b, .cells (Value.agg #[str [],str []]).cells 62 (0,0))] W) I I I (Tryz.hZ.get I) (fun W W' b hp hb hl ho=>hA _ _ W W' b _ hp hb hl ho) fun b=> ?_
 refine wP I ?_
 refine Ka (cs:=[str [],str []]) (ty:=62) (fun W=>J i (MG b (Ao l i)) W) tH I I I I I I (fun W hp=>(hN _ _ W hp).2 (b,_) (List.mem_cons_self ..)) I I I (fun W W' hp hu=>hU _ _ _ _ W W' hp hu) ?_
 refine Aa (zE (zA (zB (wP I (wP I (wL 0 I I (fun W hp=>show Ag W b 0 (cvV (Ao l i)).cells.toList from Ag.of_block ((hN _ _ W hp).2 (b,_) (List.mem_cons_self ..))) I ?_))))))
 have hYk: ∀W,J i (MG b (Ao l i)) W→YieldAt (Fw none) 0 Tryz.prog y (Vi (fun k=>k) (Ao l) i).toArray W fun e W'=>(e= .returned (.bool true)∧J (i+1) (MG b (Ao l i)) W')∨(e= .returned (.bool false)∧Jx W'):=fun W h=>hY _ _ W hlt h
 refine Ec (A1:=fun W=>J (i+1) (MG b (Ao l i)) W) (A2:=Jx) I I I I I I hYk ?_ ?_
 rotate_left
 ·exact wP I (Aa (zE (zR I (zO (zQ (zP (zP (zQ (BO I (fun W h=>h))))))))))
 exact wP I (Aa (zE (zS I (zI (zN (zE (zB (wP I (wV 17 ((i+1:Nat):Int) I (A0 (by omega)) (wP I (Aa (Dn (i+1,MG b (Ao l i)) hlt (by show l.length-(i+1)<l.length-i;omega) ⟨I,I,I,I,I,tO⟩ (fun W hp=>hp)))))))))))))
theorem Rj (l:List An) (b1:Nat) (p:Option Addr) (cap:Nat) (hn:l.length<1099511627776):N0 Tryz.prog 360 [Ai b1] l.length (Vi (fun k=>l.length-1-k) (fun k=>Ao l (l.length-1-k))) (fun _=>UH b1 p cap l):=by
 refine⟨fun y J Jx hN hB hA hU hY W hJ=> ?_⟩
 have hp0:=(hN _ _ W hJ).1.pts
 refine C8 (args:=[.func (.yield y) #[] #[],Ai b1]) (J0:=J 0 []) (Jm:=fun W=> ∃L,J l.length L W) Tryz.func360 I I I hJ ?_
 refine zA (zB (wL 0 I I (fun W hp=>(hN _ _ W hp).1.var) I (wP I (wP I (wV 6 ((l.length:Int)-1-(0:Nat)) I (show w64 ((l.length:Int)-1)=_ by rw[Ar (by omega) (by omega)];omega) (wP I (Aa (zE (zH ?_)))))))))
 refine Do (X:=Nat) (fun k=>[(0, .func (.yield y) #[] #[]),(1,Ai b1),(3, .int .i64 ((l.length:Int)-1-(k:Nat)))]) (fun k W=>J k [] W)
  (fun k=>k≤l.length) (fun k=>l.length-k) 0 (Nat.zero_le _) ⟨rfl,rfl,rfl,trivial⟩ (fun W hp=>hp) ?_
 intro k hk
 have hk:k≤l.length:=hk
 refine zA (zA (zB (wP I (wP I ?_))))
 by_cases hlt:k<l.length
 rotate_left
 ·refine wU 8 false I (dF (by omega)) (Aa (zE (zS I (zJ (zK (zK (zL ?_)))))))
  exact EG I fun W hp=>⟨[],by
   have e:k=l.length:=by omega
   have hp:J k [] W:=hp
   rw[e] at hp
   exact hp⟩
 refine wU 8 true I (dT (by omega)) (Aa (zE (zR I (zI (zE (zA (zH (zA (zB ?_)))))))))
 obtain⟨g,off,hpe,hrow⟩: ∃g off,p=some ⟨g,off,none⟩∧ ∀W k L,J k L W→ ∀j,j<l.length→Ag W g (off+j*2) [str (Ac (Ao l j).1),str (Ac (Ao l j).2)]:=by
  obtain⟨g,off,e,_⟩:=hp0.at_ hlt
  refine⟨g,off,e,fun W1 k L1 h1 j hj=> ?_⟩
  obtain⟨g',off',e',h2⟩:=(hN _ _ W1 h1).1.pts.at_ hj
  rw[e] at e'
  cases e'
  rw[CS hj]
  exact h2 j hj
 subst hpe
 have ej:(l.length:Int)-1-(k:Nat)=((l.length-1-k:Nat):Int):=by omega
 have hj:l.length-1-k<l.length:=by omega
 refine wP I (wP I (wV 12 ((l.length-1-k:Nat):Int) I ej (wL 0 I I (fun W hp=>(hN _ _ W hp).1.var) I (wP I (wV 14 ((l.length-1-k:Nat):Int) I ej ?_)))))
 refine wJ ?_
 refine wL 0 I I (fun W hp=>hrow W _ _ hp (l.length-1-k) hj) I ?_
 have hYk: ∀W,J k [] W→YieldAt (Fw none) 0 Tryz.prog y (Vi (fun k=>l.length-1-k) (fun k=>Ao l (l.length-1-k)) k).toArray W fun e W'=>(e= .returned (.bool true)∧J (k+1) [] W')∨(e= .returned (.bool false)∧Jx W'):=fun W h=>hY _ _ W hlt h
 refine Ec (A1:=fun W=>J (k+1) [] W) (A2:=Jx) I I I I I I hYk ?_ ?_
 rotate_left
 ·exact wP I (Aa (zE (zR I (zO (zQ (zP (zP (zQ (BO I (fun W h=>h))))))))))
 exact wP I (Aa (zE (zS I (zI (zN (zE (zB (wP I (wP I (wV 10 ((l.length:Int)-1-((k+1:Nat):Int)) I (show w64 ((l.length:Int)-1-(k:Nat)-1)=_ by rw[Ar (by omega) (by omega)];omega) (wP I (Aa (Dn (k+1) hlt (by show l.length-(k+1)<l.length-k;omega) ⟨I,I,I,tO⟩ (fun W hp=>hp))))))))))))))
-- BOXES 6
-- CODE2
def CM (P:Nat→An):Nat→List An
 |0=>[]
 |k+1=>P k::Cl (P k) (CM P k)
theorem Io (p:An):Cl p []=[]:=by simp[Cl]
theorem Im (p b:An):Cl p [b]=[b]:=by simp[Cl]
theorem I1 {p a b:An} {t:List An} (h:Ey a b p≤0):Cl p (b::a::t)=Cl p (a::t):=by rw[Cl,if_pos h]
theorem Ho {p a b:An} {t:List An} (h: ¬Ey a b p≤0):Cl p (b::a::t)=b::a::t:=by rw[Cl,if_neg h]
theorem Iy (p:An): ∀r,(Cl p r).length≤r.length
 |[]=>by rw[Io];exact Nat.le_refl _
 |[b]=>by rw[Im];exact Nat.le_refl _
 |b::a::t=>by
  by_cases h:Ey a b p≤0
  ·rw[I1 h]
   have:=Iy p (a::t)
   simp only[List.length_cons] at this⊢
   omega
  ·rw[Ho h];exact Nat.le_refl _
theorem Mo {p x:An}: ∀ {r:List An},x∈Cl p r→x∈r
 |[],h=>by rwa [Io] at h
 |[b],h=>by rwa [Im] at h
 |b::a::t,h=>by
  by_cases c:Ey a b p≤0
  ·rw[I1 c] at h
   exact List.mem_cons_of_mem _ (Mo h)
  ·rwa [Ho c] at h
theorem Hj (P:Nat→An): ∀k,(CM P k).length≤k
 |0=>Nat.le_refl _
 |k+1=>by
  have h1:=Hj P k
  have h2:=Iy (P k) (CM P k)
  show(Cl (P k) (CM P k)).length+1≤k+1
  omega
theorem P7 {P:Nat→An} {x:An}: ∀ {k:Nat},x∈CM P k→ ∃i,i<k∧x=P i
 |0,h=>absurd h List.not_mem_nil
 |k+1,h=>by
  rcases List.mem_cons.1 h with rfl|h
  ·exact⟨k,by omega,I⟩
  ·obtain⟨i,hi,e⟩:=P7 (Mo h)
   exact⟨i,by omega,e⟩
theorem N4 (l:List An): ∀(P:Nat→An),(∀i (h:i<l.length),P i=l[i])→CM P l.length=DL l:=by
 have key: ∀(m:List An) (r:List An) (P:Nat→An) (j:Nat),CM P j=r→(∀i (h:i<m.length),P (j+i)=m[i])→CM P (j+m.length)=m.foldl (fun r p=>p::Cl p r) r:=by
  intro m
  induction m with
  |nil=>exact fun r P j h _=>h
  |cons x m ih=>
   intro r P j h hP
   have e0:P j=x:=hP 0 (by simp)
   rw[List.length_cons,show j+(m.length+1)=j+1+m.length by omega]
   rw[List.foldl_cons]
   refine ih _ P (j+1) ?_ fun i hi=> ?_
   ·show P j::Cl (P j) (CM P j)=_
    rw[e0,h]
   ·have:=hP (i+1) (by rw[List.length_cons];omega)
    rw[show j+1+i=j+(i+1) by omega,this];rfl
 intro P hP
 have:=key l [] P 0 rfl (fun i h=>by rw[Nat.zero_add];exact hP i h)
 rwa [Nat.zero_add] at this
theorem Pi (l:List An):CM (Ao l) l.length=DL l:=N4 l _ fun _ h=>CS h
theorem Qd (l:List An):CM (fun k=>Ao l (l.length-1-k)) l.length=DL l.reverse:=by
 have:=N4 l.reverse (fun k=>Ao l (l.length-1-k)) fun i h=>by
  rw[List.length_reverse] at h
  show Ao l (l.length-1-i)=_
  rw[CS (by omega),List.getElem_reverse]
 rwa [List.length_reverse] at this
theorem Wd (p q r:An):decide (Rc p q r≤0)=decide (Ey p q r≤0):=by
 unfold Rc
 rw[ND]
 exact decide_eq_decide.2 (by unfold Ey;constructor<;>intro h<;>grind)
abbrev JB (c:Nat) (x y z:An) (W:World):Prop:=Ad Tryz.prog 325 #[Ai c,cvV x,cvV y,cvV z] W (fun _:Unit=> .int .i64 (Rc x y z)) (fun _=>True) (fun _=>[])
theorem RO (a b:An) (t:List An) (j:List Value):ptC (b::a::t).reverse++j=ptC t.reverse++([str (Ac a.1),str (Ac a.2)]++([str (Ac b.1),str (Ac b.2)]++j)):=by
 rw[List.reverse_cons,List.reverse_cons,Cy,Cy,List.append_assoc,List.append_assoc];rfl
theorem Sx (b:An) (t:List An) (j:List Value):ptC t.reverse++(ptC [b]++j)=ptC (b::t).reverse++j:=by
 rw[List.reverse_cons,Cy,List.append_assoc]
theorem RR {g cap:Nat} {j:List Value} {b:An} {t:List An} (h:(⟨some g,cap,j⟩:Vec).OK 2 (b::t).length (ptC (b::t).reverse)):(⟨some g,cap,ptC [b]++j⟩:Vec).OK 2 t.length (ptC t.reverse):=by
 obtain⟨h1,h2,h3⟩:=h.cap (by simp)
 refine⟨by rw[Bv,List.length_reverse],(fun e=>by cases e),fun _=>⟨?_,h2, ?_⟩⟩
 ·have h1:t.length+1≤cap:=h1
  show t.length≤cap
  omega
 ·rw[Bv,List.length_reverse] at h3
  show(ptC t.reverse).length+(ptC [b]++j).length=cap*2
  have h3:(t.length+1)*2+j.length=cap*2:=h3
  rw[Bv,List.length_reverse,List.length_append]
  show t.length*2+(2+j.length)=cap*2
  omega
theorem Kn (bk c gf:Nat) (lb:List Value) (hE:AJ Tryz.prog gf=true) (m:Nat) (ix:Nat→Nat) (P:Nat→An) (Need:Nat→World→Prop) (hI:N0 Tryz.prog gf lb m (Vi ix P) Need) (h0:0<m) (hm:m≤4096) (W:World) (hk:Ag W bk 0 [Ai c])
  (hN: ∀k W1,Below W.heap.size W W1→Need k W1) (hL: ∀i j k,i<m→j<m→k<m→ ∀W1,Below W.heap.size W W1→JB c (P i) (P j) (P k) W1):
  Ad Tryz.prog 324 #[.func (.func gf) #[] lb.toArray,Ai bk] W (fun V:Vec=>V.val ((CM P m).length-1)) (fun V=>V.OK 2 ((CM P m).length-1) (ptC (CM P m).tail.reverse)∧V.p≠none) (fun V=>[V.bx 62 (ptC (CM P m).tail.reverse)]):=by
 obtain⟨S,hS⟩: ∃S,S=CM P m:=⟨_,rfl⟩
 rw[←hS]
 refine Ab (args:=[.func (.func gf) #[] lb.toArray,Ai bk]) Tryz.func324 I I I ?_
 refine zA (zB (wP I (Aa (zE (zA (zB ?_))))))
 (refine Ae Tryz.hZ rfl rfl rfl rfl ?_;intro)
 refine Aa ?_
 rename_i b4
 refine zE (zA (zA (zB (wP I (Aa (zE (zH ?_)))))))
 refine C6 ?_
 refine El (X:=Nat×Vec) (fun x=>[lsB b4 (x.2.val (CM P x.1).length),x.2.bx 62 (ptC (CM P x.1).reverse)])
  (fun j x=>x.1=j∧x.2.OK 2 (CM P x.1).length (ptC (CM P x.1).reverse)) (fun _ _=>False) (0,Vec.empty) rfl hE hI (fun _=>rfl)
  ⟨rfl,Vec.OK.empty 2⟩ [] rfl (fun k x W1 _ hp=>hN k W1 hp.below) ?_ ?_ (fun _ _ _ _ _ h=>h.elim)
 ·rintro k ⟨k',O⟩ d l' rec L hk1 ⟨e1,hO⟩ hrec
  obtain rfl:k'=k:=e1
  have hk1:k'<m:=hk1
  have hO:O.OK 2 (CM P k').length (ptC (CM P k').reverse):=hO
  have hlen:=Hj P k'
  have hsu:CM P (k'+1)=P k'::Cl (P k') (CM P k'):=rfl
  have hmem: ∀x∈CM P k', ∃i,i<m∧x=P i:=fun x hx=>by
   obtain⟨i,hi,e⟩:=P7 hx
   exact⟨i,by omega,e⟩
  obtain⟨r1,hr1⟩: ∃r1,r1=Cl (P k') (CM P k'):=⟨_,rfl⟩
  have hlr:r1.length≤(CM P k').length:=by rw[hr1];exact Iy _ _
  rw[←hr1] at hsu
  refine zB ?_
  (refine Ae Tryz.hZ rfl rfl rfl rfl ?_;intro)
  refine wS 5 I I I (Aa ?_)
  rename_i b6
  refine B5 4 hrec I ?_
  refine Bt ?_
  refine FO (X:=Vec) (fun _=>[(1,Ai bk),(4,Ai b4),(6,Ai b6)]) (fun O=>[AP L,lsB b4 (O.val r1.length),O.bx 62 (ptC r1.reverse),Bw d,AU l' rec .busy none,ptB b6 (Ac (P k').1) (Ac (P k').2)]) (fun O=>O.OK 2 r1.length (ptC r1.reverse)) ?_ ?_
  ·refine zH ?_
   refine At (X:=List An×Vec) (fun _=>[(1,Ai bk),(4,Ai b4),(6,Ai b6)]) (fun s=>[AP L,lsB b4 (s.2.val s.1.length),s.2.bx 62 (ptC s.1.reverse),Bw d,AU l' rec .busy none,ptB b6 (Ac (P k').1) (Ac (P k').2)])
    (fun s=>Cl (P k') s.1=r1∧(∀x∈s.1,x∈CM P k')∧s.1.length≤4096∧s.2.OK 2 s.1.length (ptC s.1.reverse)) (fun s=>s.1.length) (CM P k',O) ⟨hr1.symm,fun _ h=>h,by show(CM P k').length≤4096;omega,hO⟩ ⟨rfl,rfl,rfl,trivial⟩ [] rfl ?_
   rintro⟨r,⟨pO,cO,jO⟩⟩ ⟨i1,i2,i3,i4⟩
   have i1:Cl (P k') r=r1:=i1
   have i2: ∀x∈r,x∈CM P k':=i2
   have i3:r.length≤4096:=i3
   have i4:(⟨pO,cO,jO⟩:Vec).OK 2 r.length (ptC r.reverse):=i4
   rcases r with _|⟨b,_|⟨a,t⟩⟩
   ·obtain rfl:r1=[]:=by rw[←i1,Io]
    cases pO with
    |none=>
     refine zA (zA (zU (qB 1 I I I (qP I (qP I ?_)))))
     refine Ek 12 (.bool false) I I ?_
     refine qP I ?_
     iterate 16 refine BM I I ?_
     exact qP I (A7 (Aa (zE (zS I (zJ (zK (zK (zL (A5 (⟨none,cO,jO⟩:Vec) i4 ⟨I,I,I,tO⟩ [] I)))))))))
    |some g=>
     refine zA (zA (zU (qB 1 I I I (qP I (qP I ?_)))))
     refine Ek 12 (.bool false) I I ?_
     refine qP I ?_
     iterate 16 refine BM I I ?_
     exact qP I (A7 (Aa (zE (zS I (zJ (zK (zK (zL (A5 (⟨some g,cO,jO⟩:Vec) i4 ⟨I,I,I,tO⟩ [] I)))))))))
   ·obtain rfl:r1=[b]:=by rw[←i1,Im]
    cases pO with
    |none=>exact absurd (i4.nil rfl) (by simp)
    |some g=>
    refine zA (zA (zU (qB 1 I I I (qP I (qP I ?_)))))
    refine Ek 12 (.bool false) I I ?_
    refine qP I ?_
    iterate 16 refine BM I I ?_
    exact qP I (A7 (Aa (zE (zS I (zJ (zK (zK (zL (A5 (⟨some g,cO,jO⟩:Vec) i4 ⟨I,I,I,tO⟩ [] I)))))))))
   ·cases pO with
    |none=>exact absurd (i4.nil rfl) (by simp)
    |some g=>
    have i3:t.length+1+1≤4096:=i3
    have el:(b::a::t).length=t.length+2:=rfl
    obtain⟨ia,ha,ea⟩:=hmem a (i2 a (by simp))
    obtain⟨ib,hb,eb⟩:=hmem b (i2 b (by simp))
    have hleft: ∀W1,Below W.heap.size W W1→JB c a b (P k') W1:=fun W1 h=>by rw[ea,eb];exact hL ia ib k' ha hb hk1 W1 h
    have hA:(ptC t.reverse).length=t.length*2:=by rw[Bv,List.length_reverse]
    refine zA (zA (zU (qB 1 I I I (qP I (qP I (qU 12 true I (dT (by rw[el];omega)) (qP I (qL 0 I I (fun W1 hp=>hk.hp hp) I (qB 1 I I I (qB 1 I I I (qP I (qP I (qV 18 ((t.length:Nat):Int) I (show w64 (((b::a::t).length:Int)-2)=_ by rw[el,Ar (by omega) (by omega)];omega) ?_)))))))))))))
    refine qI I I (by omega) (by rw[el];omega) (qL 0 I I (fun W1 hp=>show Ag W1 g (0+t.length*2) [str (Ac a.1),str (Ac a.2)] from Gu hp 2 (A:=ptC t.reverse) (C:=[str (Ac b.1),str (Ac b.2)]++jO) I (RO a b t jO) (by rw[hA];omega)) I (qB 1 I I I (qB 1 I I I (qP I (qP I (qV 24 ((t.length+1:Nat):Int) I (show w64 (((b::a::t).length:Int)-1)=_ by rw[el,Ar (by omega) (by omega)];omega) (qI I I (by omega) (by rw[el];omega) (qL 0 I I (fun W1 hp=>show Ag W1 g (0+(t.length+1)*2) [str (Ac b.1),str (Ac b.2)] from Gu hp 2 (A:=ptC t.reverse++[str (Ac a.1),str (Ac a.2)]) (C:=jO) I ((RO a b t jO).trans (by rw[List.append_assoc])) (by rw[List.length_append,hA];show 0+(t.length+1)*2=t.length*2+2;omega)) I (qB 5 I I I (qC I I (fun W1 hp=>hleft W1 hp.below) (qP I (qU 29 (decide (Ey a b (P k')≤0)) I (Wd a b (P k')) (qP I ?_)))))))))))))
    refine A7 (Aa (zE ?_))
    refine Aj I (fun hc=> ?_) (fun hc=> ?_)
    ·have hc':Ey a b (P k')≤0:=of_decide_eq_true hc
     refine zI (zE (zH (zB (wB 1 I I I (wB 1 I I I (wP I (wP I (wV 34 ((t.length+1:Nat):Int) I (show w64 (((b::a::t).length:Int)-1)=_ by rw[el,Ar (by omega) (by omega)];omega) ?_))))))))
     refine B9 (t.length+1) tH I I I I I I I I (by have h2:t.length+2≤cO:=(i4.cap (by simp)).1;show t.length+1≤cO;omega) ?_
     refine wS 1 I I I (Aa (zN ?_))
     exact Ak (a::t,(⟨some g,cO,ptC [b]++jO⟩:Vec)) ⟨by rw[←i1,I1 hc'],fun x hx=>i2 x (List.mem_cons_of_mem _ hx),by show t.length+1≤4096;omega,RR i4⟩ (by show t.length+1<t.length+1+1;omega) ⟨I,I,I,tO⟩ []
      (by show _=[AP L,lsB b4 (.slice (some ⟨g,0,none⟩) (t.length+1) cO),(⟨g,62,ptC (a::t).reverse++(ptC [b]++jO),true,none⟩:Bx),Bw d,AU l' rec .busy none,ptB b6 (Ac (P k').1) (Ac (P k').2)];rw[Sx];rfl)
    ·have hc': ¬Ey a b (P k')≤0:=of_decide_eq_false hc
     obtain rfl:r1=b::a::t:=by rw[←i1,Ho hc']
     exact zJ (zK (zK (zL (A5 (⟨some g,cO,jO⟩:Vec) i4 ⟨I,I,I,tO⟩ [] I))))
  ·intro O1 hO1
   have hO1:O1.OK 2 r1.length (ptC r1.reverse):=hO1
   refine zB (wB 1 I I I (wB 5 I I I ?_))
   refine As Tryz.hZ tH I I I I I I I I I I I fun bS=> ?_
   refine AL (V:=O1) (len:=r1.length) (xs:=ptC r1.reverse) 2 6 Tryz.vec210 (r1.length+1) (ptC (P k'::r1).reverse) I I I I I I I I I I I hO1 I I I (by rw[List.reverse_cons,Cy];rfl) (by simp only[maxLen];omega) (by omega) I ?_
   intro gO cO jO hO2
   exact wS 1 I I I (Aa (zN (Ba 4 (k'+1,(⟨some gO,cO,jO⟩:Vec)) hrec I ⟨I,by show(⟨some gO,cO,jO⟩:Vec).OK 2 (CM P (k'+1)).length (ptC (CM P (k'+1)).reverse);rw[hsu];exact hO2⟩ [_,_] (by rw[hsu];rfl))))
 ·rintro⟨k',⟨pO,cO,jO⟩⟩ d l' rec ⟨e1,hO⟩
  obtain rfl:k'=m:=e1
  have hO:(⟨pO,cO,jO⟩:Vec).OK 2 (CM P k').length (ptC (CM P k').reverse):=hO
  have hlen:=Hj P k'
  have hne:S≠[]:=by
   obtain⟨j,rfl⟩: ∃j,k'=j+1:=⟨k'-1,by omega⟩
   rw[hS]
   exact List.cons_ne_nil _ _
  rw[←hS] at hO hlen
  rw[←hS]
  clear hS
  obtain⟨b,t,rfl⟩: ∃b t,S=b::t:=by
   cases S with
   |nil=>exact absurd rfl hne
   |cons b t=>exact⟨b,t,rfl⟩
  cases pO with
  |none=>exact absurd (hO.nil rfl) (by simp)
  |some g=>
  have hlen:t.length+1≤k':=hlen
  have el:(b::t).length=t.length+1:=rfl
  refine zN (zE (zA (zB (wB 0 I I I (wB 0 I I I (wP I (wP I (wV 43 (t.length:Nat) I (show w64 (((b::t).length:Int)-1)=_ by rw[el,Ar (by omega) (by omega)];omega) ?_))))))))
  refine B9 t.length tH I I I I I I I I (by have h2:t.length+1≤cO:=(hO.cap (by simp)).1;show t.length≤cO;omega) ?_
  refine wP I (Aa (zE (zO ?_)))
  refine BN 2 I ?_
  exact Aw tH I (.tmp I) (⟨some g,cO,ptC [b]++jO⟩:Vec) I ⟨RR hO,by simp⟩ fun W1 hp=>by
   have h1:=hp.pick (l:=[(⟨g,62,ptC (b::t).reverse++jO,true,none⟩:Bx)]) [1] (by decide) rfl
   rw[←Sx] at h1
   exact Ap.of_hp h1
-- BOXES 5
theorem K1 (p q:Rat) (hkp:okQ p) (hkq:okQ q) (h:BD p q) (W0:World) (hv:AE W0) (ht:A6 W0):
  Ad Tryz.prog 159 #[str (Ac p),str (Ac q)] W0 (fun _:Unit=> .tuple #[.int .i64 (Mb (p.num*(q.den:Nat)) (q.num*(p.den:Nat))), .int .i64 0]) (fun _=>True) (fun _=>[]):=by
 have hlp:=AO hkp
 have hlq:=AO hkq
 refine Ab (args:=[str (Ac p),str (Ac q)]) Tryz.func159 I I I ?_
 refine zA (zB (wP I (wP I (Aa (AH (A9 ?_))))))
 refine Be (X:=Unit) (fun _=>[(0,str (Ac p)),(1,str (Ac q)),(4, .int .i64 0),(5, .int .i64 0)]) (fun _=>[]) (fun _=>True) ?_ ?_
 ·refine zA (zB (wP I ?_))
  by_cases hp:smQ p
  ·refine wC I I (fun W _=>(AI (Ac p) (by omega) W).cast ((B8 p).trans (if_pos hp))) (wP I (wP I (wP I ?_)))
   (refine Ae Tryz.hZ rfl rfl rfl rfl ?_;intro)
   refine wS 0 I I I (wP I (Aa ?_))
   rename_i b6
   refine zE (zA (zB (wP I (Aa (zE (zR I (zA (zB (wP I ?_)))))))))
   by_cases hq:smQ q
   ·refine wC I I (fun W _=>(AI (Ac q) (by omega) W).cast ((B8 q).trans (if_pos hq))) (wP I (wP I (wP I ?_)))
    (refine Ae Tryz.hZ rfl rfl rfl rfl ?_;intro)
    refine wS 1 I I I (wP I (Aa ?_))
    rename_i b8
    refine zE (zA (zB (wP I (Aa (zE (zR I (zA (zB (wP I (wB 0 I I I (wP I (wB 1 I I I (wP I ?_)))))))))))))
    exact wV 31 (p.num*(q.den:Nat)) I (Cd hp.1 (CA q hq)) (wP I (wB 1 I I I (wP I (wB 0 I I I (wP I (wV 36 (q.num*(p.den:Nat)) I (Cd hq.1 (CA p hp)) (wC I I (fun W _=>I0 _ _ W) (wP I (wP I (Aa (zE (zO (zP (wR2 I I I))))))))))))))
   ·refine wC I I (fun W _=>(AI (Ac q) (by omega) W).cast ((B8 q).trans (if_neg hq))) (wP I (wP I (wP I ?_)))
    (refine Ae Tryz.hZ rfl rfl rfl rfl ?_;intro)
    exact wS 1 I I I (wP I (Aa (zE (zA (zB (wP I (Aa (zE (zS I (zI (A5 () tO ⟨I,I,I,I,tO⟩ _ I)))))))))))
  ·refine wC I I (fun W _=>(AI (Ac p) (by omega) W).cast ((B8 p).trans (if_neg hp))) (wP I (wP I (wP I ?_)))
   (refine Ae Tryz.hZ rfl rfl rfl rfl ?_;intro)
   exact wS 0 I I I (wP I (Aa (zE (zA (zB (wP I (Aa (zE (zS I (zI (A5 () tO ⟨I,I,I,I,tO⟩ _ I)))))))))))
 ·intro _ _
  refine zA (zB (wP I (wC I I (fun W hp=>(BP (Ac p) (by omega) W (hv.hp hp) (ht.hp hp)).cast (Gn hkp)) (wP I (wP I (wP I ?_))))))
  (refine Ae Tryz.hZ rfl rfl rfl rfl ?_;intro)
  refine wS 0 I I I (wP I (Aa ?_))
  rename_i b10
  refine zE (zA (zA (zB (wP I (wP I (Aa (zE (zS I (zI (zE (zA (zB (wP I ?_)))))))))))))
  refine wC I I (fun W hp=>(BP (Ac q) (by omega) W (hv.hp hp) (ht.hp hp)).cast (Gn hkq)) (wP I (wP I (wP I ?_)))
  (refine Ae Tryz.hZ rfl rfl rfl rfl ?_;intro)
  refine wS 1 I I I (wP I (Aa ?_))
  rename_i b12
  refine zE (zA (zA (zB (wP I (wP I (Aa (zE (zS I (zI (zE (zA (zB (wB 0 I I I ?_)))))))))))))
  refine wB 1 I I I (wC I I (fun W hp=>CD p q hkp hkq h.1 h.2 W (ht.hp hp)) ?_)
  iterate 7 refine wP I ?_
  refine Aa (zE (zA (zA (zB (wP I (wP I (Aa (zE (zS I (zI (zE (zA (zB ?_)))))))))))))
  exact wP I (wP I (wC I I (fun W _=>Hi _ _ h.1 h.2 W) (wP I (wP I (wP I (wP I (Aa (zE (zO (wR2 I I I))))))))))
theorem K0 (p q:Rat) (hkp:okQ p) (hkq:okQ q) (hno: ¬BD p q) (W0:World) (hv:AE W0) (ht:A6 W0):
  Ad Tryz.prog 159 #[str (Ac p),str (Ac q)] W0 (fun _:Unit=> .tuple #[.int .i64 0, .int .i64 4]) (fun _=>True) (fun _=>[]):=by
 obtain⟨s,hs⟩:=Hv p q hkp hkq hno
 have hlp:=AO hkp
 have hlq:=AO hkq
 refine Ab (args:=[str (Ac p),str (Ac q)]) Tryz.func159 I I I ?_
 refine zA (zB (wP I (wP I (Aa (AH (A9 ?_))))))
 refine Be (X:=Unit) (fun _=>[(0,str (Ac p)),(1,str (Ac q)),(4, .int .i64 0),(5, .int .i64 0)]) (fun _=>[]) (fun _=>True) ?_ ?_
 ·refine zA (zB (wP I ?_))
  by_cases hp:smQ p
  ·refine wC I I (fun W _=>(AI (Ac p) (by omega) W).cast ((B8 p).trans (if_pos hp))) (wP I (wP I (wP I ?_)))
   (refine Ae Tryz.hZ rfl rfl rfl rfl ?_;intro)
   refine wS 0 I I I (wP I (Aa ?_))
   rename_i b6
   refine zE (zA (zB (wP I (Aa (zE (zR I (zA (zB (wP I ?_)))))))))
   by_cases hq:smQ q
   ·exact absurd (RG ⟨hp,hq⟩).2.2.2 hno
   ·refine wC I I (fun W _=>(AI (Ac q) (by omega) W).cast ((B8 q).trans (if_neg hq))) (wP I (wP I (wP I ?_)))
    (refine Ae Tryz.hZ rfl rfl rfl rfl ?_;intro)
    exact wS 1 I I I (wP I (Aa (zE (zA (zB (wP I (Aa (zE (zS I (zI (A5 () tO ⟨I,I,I,I,tO⟩ _ I)))))))))))
  ·refine wC I I (fun W _=>(AI (Ac p) (by omega) W).cast ((B8 p).trans (if_neg hp))) (wP I (wP I (wP I ?_)))
   (refine Ae Tryz.hZ rfl rfl rfl rfl ?_;intro)
   exact wS 0 I I I (wP I (Aa (zE (zA (zB (wP I (Aa (zE (zS I (zI (A5 () tO ⟨I,I,I,I,tO⟩ _ I)))))))))))
 ·intro _ _
  refine zA (zB (wP I (wC I I (fun W hp=>(BP (Ac p) (by omega) W (hv.hp hp) (ht.hp hp)).cast (Gn hkp)) (wP I (wP I (wP I ?_))))))
  (refine Ae Tryz.hZ rfl rfl rfl rfl ?_;intro)
  refine wS 0 I I I (wP I (Aa ?_))
  rename_i b10
  refine zE (zA (zA (zB (wP I (wP I (Aa (zE (zS I (zI (zE (zA (zB (wP I ?_)))))))))))))
  refine wC I I (fun W hp=>(BP (Ac q) (by omega) W (hv.hp hp) (ht.hp hp)).cast (Gn hkq)) (wP I (wP I (wP I ?_)))
  (refine Ae Tryz.hZ rfl rfl rfl rfl ?_;intro)
  refine wS 1 I I I (wP I (Aa ?_))
  rename_i b12
  refine zE (zA (zA (zB (wP I (wP I (Aa (zE (zS I (zI (zE (zA (zB (wB 0 I I I ?_)))))))))))))
  refine wB 1 I I I (wC I I (fun W hp=>hs W (ht.hp hp)) ?_)
  iterate 7 refine wP I ?_
  refine Aa (zE (zA (zA (zB (wP I (wP I (Aa (zE (zR I (zA (zB (wP I (wP I (wP I ?_))))))))))))))
  exact Aa (zE (zO (zP (wR2 I I I))))
theorem K3 (p q:Rat) (hkp:okQ p) (hkq:okQ q) (W0:World) (hv:AE W0) (ht:A6 W0):
  Ad Tryz.prog 159 #[str (Ac p),str (Ac q)] W0 (fun _:Unit=>cmV p q) (fun _=>True) (fun _=>[]):=by
 by_cases h:BD p q
 ·exact(K1 p q hkp hkq h W0 hv ht).cast (by rw[cmV,if_pos h,Mw])
 ·exact(K0 p q hkp hkq h W0 hv ht).cast (by rw[cmV,if_neg h])
-- BOXES 8
-- CODE2
def erI:Bool→Int
 |true=>4
 |false=>0
abbrev caE (c:Nat) (s:Bool):Bx:=⟨c,317,[.int .i64 (erI s)],true,none⟩
abbrev caO (s:Bool):Obj:= .cells #[.int .i64 (erI s)] 317 (0,0)
structure KcP (c:Nat) (s:Bool) (W:World):Prop where
 o:W.heap[c]? =some (caO s)
 k: ∀W',GM W W' c→AE W'∧A6 W'
theorem GM.refl (W:World) (g:Nat):GM W W g:=⟨rfl,rfl,rfl,Nat.le_refl _,fun _ _ _=>rfl⟩
theorem KcP.v {c:Nat} {s:Bool} {W:World} (h:KcP c s W):AE W:=(h.k W (GM.refl W c)).1
theorem KcP.t {c:Nat} {s:Bool} {W:World} (h:KcP c s W):A6 W:=(h.k W (GM.refl W c)).2
theorem KcP.at_ {c:Nat} {s s1:Bool} {W W1:World} {bs:List Bx} (h:KcP c s W) (hp:Hp (AT W) (AP (Av W c)::caE c s1::bs) W1):KcP c s1 W1:=
 ⟨(hp.own.cell 1 (caE c s1) rfl (c,caO s1) (List.mem_cons_self ..)).1,fun _ h2=>h.k _ ((IS h.o ⟨_,List.mem_cons_self ..⟩ (Hp.take (bxs:=[AP (Av W c),caE c s1]) (nb:=bs) hp)).trans h2)⟩
theorem KcP.of {c:Nat} {s:Bool} {W0 W:World} {bxs:List Bx} (hp:Hp W0 bxs W) (k:Nat) (hk:nth bxs k=some (caE c s)) (hv:AE W0) (ht:A6 W0):KcP c s W:=by
 rw[Bb] at hk
 have hc:=hp.own.cell k _ hk (c,caO s) (List.mem_cons_self ..)
 exact⟨hc.1,fun W2 h2=>⟨hv.below (h2.below hp.below hc.2),ht.below (h2.below hp.below hc.2)⟩⟩
theorem FG {c:Nat} {s1:Bool} {W W1:World} {bs:List Bx} (hp:Hp (AT W) (AP (Av W c)::caE c s1::bs) W1):Ap (AT W) W1 [AP (Av W c),caE c s1]:=
 (Hp.take (bxs:=[AP (Av W c),caE c s1]) (nb:=bs) hp).own
structure BY (g:Nat) (vs:List Value) (c:Nat) {X:Type} (st:X→Bool) (val:X→Value) (Φ:X→Prop) (W:World):Prop where
 out:Calls Tryz.prog g vs.toArray W fun e W'=> ∃x,e= .returned (val x)∧Φ x∧Lz W W' c c (caO (st x))
theorem BY.enter {N c:Nat} {s:Bool} {f:Nat} {fn:Func} {cd:Code} {args:List Value} {X:Type} {st:X→Bool} {val:X→Value} {Φ:X→Prop} {W:World} (h:KcP c s W) (hf:Tryz.prog.funcs[f]? =some fn) (hb:fn.body=some cd) (hN:fn.ntmps=N) (hl:Nat.ble args.length N=true)
  (hw:WC none 0 Tryz.prog N [] cd (Gt Tryz.prog fn (AT W) val Φ (fun x=>[AP (Av W c),caE c (st x)])) (J2 0 args) (Hp (AT W) [AP (Av W c),caE c s])):BY f args c st val Φ W:=by
 have key:=C7 (X:=X) (val:=val) (Φ:=Φ) (nb:=fun x=>[AP (Av W c),caE c (st x)]) (Hp.enterT (B:=caE c s) rfl h.o) hf hb hN hl hw
 refine⟨key.mono ?_⟩
 rintro e W' ⟨x,he,hx,hb,hn⟩
 exact⟨x,he,hx,G8 h.o I hb hn⟩
theorem BY.same {g c:Nat} {vs:List Value} {s:Bool} {v:Value} {W:World} (h:BY g vs c (fun _:Unit=>s) (fun _=>v) (fun _=>True) W) (ho:W.heap[c]? =some (caO s)):Ad Tryz.prog g vs.toArray W (fun _:Unit=>v) (fun _=>True) (fun _=>[]):=by
 refine⟨h.out.mono ?_⟩
 rintro e W' ⟨x,he,_,hn⟩
 refine⟨x,he,tO,⟨hn.os,hn.tape,hn.output,hn.size,fun i hi=> ?_⟩,Ap.nil _ _⟩
 by_cases e:i=c
 ·subst e;exact hn.new.trans ho.symm
 ·exact hn.old i e hi
section
variable {r:Option Nat} {n:Nat} {W0:World} {N:Nat} {D:List Deferred} {ops:List Oper} {Q:Exit→Act→World→Prop} {o:Oper} {rest:List Oper} {env:Env} {bxs:List Bx}
theorem Qq (k c:Nat) {s:Bool} {cl:Call} {f:Operand} {g d:Nat} {vs:List Value} {X:Type} {st:X→Bool} {val:X→Value} {Φ:X→Prop} (hg:Ax ops N env o=some true) (hd:o.dst=some d) (ho:o.op= .call cl) (hc:cl.callee= .value f) (hf:evO N env f=some (.func (.func g) #[] #[])) (ha:BK (evO N env) cl.args.toList=some vs) (hE:AJ Tryz.prog g=true)
  (hk:nth bxs k=some (caE c s)) (hC: ∀W,Hp W0 bxs W→BY g vs c st val Φ W)
  (h: ∀x,Φ x→WL r n Tryz.prog N D ops Q rest ((d,val x)::env) (Hp W0 (bxs.set k (caE c (st x))))):WL r n Tryz.prog N D ops Q (o::rest) env (Hp W0 bxs):=
 Ex (X:=X) (val:=val) (Φ:=Φ) (capt:=[]) k (B:=caE c s) (L1:=[]) (L2:=[]) (b:=c) (ob:=caO s) (fun x=>caE c (st x)) (g':=fun _=>c) (o':=fun x=>caO (st x))
  hg hd ho hc hf ha hE hk rfl (fun _ _=>rfl) (fun W hp=>by rw[List.append_nil];exact(hC W hp).out) h
theorem BZ (k c:Nat) {s s':Bool} {v:Value} {cl:Call} {f:Operand} {g d:Nat} {vs:List Value} (hg:Ax ops N env o=some true) (hd:o.dst=some d) (ho:o.op= .call cl) (hc:cl.callee= .value f) (hf:evO N env f=some (.func (.func g) #[] #[])) (ha:BK (evO N env) cl.args.toList=some vs) (hE:AJ Tryz.prog g=true)
  (hk:nth bxs k=some (caE c s)) (hC: ∀W,Hp W0 bxs W→BY g vs c (fun _:Unit=>s') (fun _=>v) (fun _=>True) W)
  (h:WL r n Tryz.prog N D ops Q rest ((d,v)::env) (Hp W0 (bxs.set k (caE c s')))):WL r n Tryz.prog N D ops Q (o::rest) env (Hp W0 bxs):=
 Qq k c hg hd ho hc hf ha hE hk hC (fun _ _=>h)
end
@[irreducible] def opR (ok : Prop) [Decidable ok] (r : Rat) (s : Bool) : Rat × Bool := match s with
 |true=>(0,true)
 |false=>if ok then(r,false) else(0,true)
theorem UA {ok:Prop} [Decidable ok] {r:Rat}:opR ok r true=(0,true):=by unfold opR;rfl
theorem Fh {ok:Prop} [Decidable ok] {r:Rat} (h:ok):opR ok r false=(r,false):=by unfold opR;exact if_pos h
theorem UG {ok:Prop} [Decidable ok] {r:Rat} (h: ¬ok):opR ok r false=(0,true):=by unfold opR;exact if_neg h
theorem WK:okQ 0:=by
 have h:szQ 0 1:=by unfold szQ;decide+kernel
 exact h.ok (by decide)
theorem Vq {ok:Prop} [Decidable ok] {r:Rat} {s:Bool} (h:ok→okQ r):okQ (opR ok r s).1:=by
 cases s with
 |true=>rw[UA];exact WK
 |false=>
  by_cases c:ok
  ·rw[Fh c];exact h c
  ·rw[UG c];exact WK
def kSb (s:Bool) (p q:Rat):Rat×Bool:=opR (Ks p q) (p-q) s
def kMu (s:Bool) (p q:Rat):Rat×Bool:=opR (GJ p q) (p*q) s
theorem NX (s:Bool) (p q:Rat):okQ (kSb s p q).1:=Vq SR
theorem TP (s:Bool) (p q:Rat):okQ (kMu s p q).1:=Vq SP
@[irreducible] def kOr (s : Bool) (p q : Rat) : Int × Bool := match s with
 |true=>(0,true)
 |false=>if BD p q then(C9 p q,false) else(0,true)
theorem WV {p q:Rat}:kOr true p q=(0,true):=by unfold kOr;rfl
theorem Sp {p q:Rat} (h:BD p q):kOr false p q=(C9 p q,false):=by unfold kOr;exact if_pos h
theorem WH {p q:Rat} (h: ¬BD p q):kOr false p q=(0,true):=by unfold kOr;exact if_neg h
theorem SM (c g:Nat) (a b:List UInt8) (W:World) (h:KcP c true W):
  BY 329 [Ai c, .func (.func g) #[] #[],str a,str b] c (fun _:Unit=>true) (fun _=>str [48]) (fun _=>True) W:=by
 refine BY.enter h Tryz.func329 I I I ?_
 refine zA (zB (wP I (Aa (zE (zA (zA (zB (wP I ?_))))))))
 refine AG I I I I ?_
 exact wP I (wB 1 I I I (wP I (Aa (zE (zR I (zA (zB (wP I (Aa (zE (zO (zP (Aw tH I (.tmp I) () I tO fun W1 hp=>FG hp)))))))))))))
theorem PZ (c g:Nat) (a b v:List UInt8) (z:Bool) (W:World) (h:KcP c false W) (hE:AJ Tryz.prog g=true)
  (hg: ∀W1,AE W1→A6 W1→Ad Tryz.prog g #[str a,str b] W1 (fun _:Unit=> .tuple #[str v, .int .i64 (erI z)]) (fun _=>True) (fun _=>[])):
  BY 329 [Ai c, .func (.func g) #[] #[],str a,str b] c (fun _:Unit=>z) (fun _=>if z=true then str [48] else str v) (fun _=>True) W:=by
 refine BY.enter h Tryz.func329 I I I ?_
 refine zA (zB (wP I (Aa (zE (zA (zA (zB (wP I ?_))))))))
 refine AG I I I I ?_
 refine wP I (wB 1 I I I (wP I (Aa (zE (zS I (zI (zE (zA (zB (wP I (wP I (wP I ?_))))))))))))
 refine Bc (capt:=[]) I I I I I I hE (fun W1 hp=>hg W1 (h.at_ (bs:=[]) hp).v (h.at_ (bs:=[]) hp).t) ?_
 iterate 5 refine wP I ?_
 refine Aa (zE (zA (zA (zB (wP I (wP I ?_))))))
 refine AG I I I I ?_
 refine wP I (wS 1 I I I (Aa (zE (zA (zB ?_)))))
 cases z with
 |true=>
  exact wP I (wP I (Aa (zE (zR I (zA (zB (wP I (Aa (zE (zO (zP (Aw tH I (.tmp I) () I tO fun W1 hp=>FG hp))))))))))))
 |false=>
  exact wP I (wP I (Aa (zE (zS I (zI (zE (zA (zB (wP I (wP I (Aa (zE (zO (Aw tH I (.tmp I) () I tO fun W1 hp=>FG hp))))))))))))))
theorem LI (c g:Nat) (a b:List UInt8) (ok:Prop) [Decidable ok] (r:Rat) (s:Bool) (W:World) (h:KcP c s W) (hE:AJ Tryz.prog g=true)
  (hg: ∀W1,AE W1→A6 W1→Ad Tryz.prog g #[str a,str b] W1 (fun _:Unit=>opV ok r) (fun _=>True) (fun _=>[])):
  BY 329 [Ai c, .func (.func g) #[] #[],str a,str b] c (fun _:Unit=>(opR ok r s).2) (fun _=>str (Ac (opR ok r s).1)) (fun _=>True) W:=by
 cases s with
 |true=>
  rw[UA]
  show BY _ _ c _ (fun _=>str (Ac 0)) _ W
  rw[BE]
  exact SM c g a b W h
 |false=>
  by_cases k:ok
  ·rw[Fh k]
   exact PZ c g a b (Ac r) false W h hE fun W1 hv ht=>(hg W1 hv ht).cast (L9 k)
  ·rw[UG k]
   show BY _ _ c _ (fun _=>str (Ac 0)) _ W
   rw[BE]
   exact PZ c g a b [] true W h hE fun W1 hv ht=>(hg W1 hv ht).cast (Ri k)
abbrev He (g:Nat) (vs:List Value) (c:Nat) (x:Rat×Bool) (W:World):Prop:=BY g vs c (fun _:Unit=>x.2) (fun _=>str (Ac x.1)) (fun _=>True) W
theorem Fz (c:Nat) (s:Bool) (p q:Rat) (hp:okQ p) (hq:okQ q) (W:World) (h:KcP c s W):He 283 [Ai c,str (Ac p),str (Ac q)] c (kSb s p q) W:=by
 refine BY.enter h Tryz.func283 I I I ?_
 refine zA (zB (wP I (Aa (zE (zA (zB (wP I (wP I (wP I ?_)))))))))
 refine BZ 1 c I I I I I I (by kernel_rfl) I (fun W1 hp1=>LI c 21 (Ac p) (Ac q) (Ks p q) (p-q) s W1 (h.at_ (bs:=[]) hp1) (by kernel_rfl) (fun W2 hv ht=>QE p q hp hq W2 hv ht)) ?_
 exact wP I (Aa (zE (zO (Aw tH I (.tmp I) () I tO fun W1 hp=>FG hp))))
theorem Km (c:Nat) (s:Bool) (p q:Rat) (hp:okQ p) (hq:okQ q) (W:World) (h:KcP c s W):He 286 [Ai c,str (Ac p),str (Ac q)] c (kMu s p q) W:=by
 refine BY.enter h Tryz.func286 I I I ?_
 refine zA (zB (wP I (Aa (zE (zA (zB (wP I (wP I (wP I ?_)))))))))
 refine BZ 1 c I I I I I I (by kernel_rfl) I (fun W1 hp1=>LI c 18 (Ac p) (Ac q) (GJ p q) (p*q) s W1 (h.at_ (bs:=[]) hp1) (by kernel_rfl) (fun W2 hv ht=>Qt p q hp hq W2 hv ht)) ?_
 exact wP I (Aa (zE (zO (Aw tH I (.tmp I) () I tO fun W1 hp=>FG hp))))
abbrev Ip (g:Nat) (vs:List Value) (c:Nat) (x:Int×Bool) (W:World):Prop:=BY g vs c (fun _:Unit=>x.2) (fun _=> .int .i64 x.1) (fun _=>True) W
theorem Ep (c:Nat) (s:Bool) (p q:Rat) (hp:okQ p) (hq:okQ q) (W:World) (h:KcP c s W):Ip 356 [Ai c,str (Ac p),str (Ac q)] c (kOr s p q) W:=by
 cases s with
 |true=>
  rw[WV]
  refine BY.enter h Tryz.func356 I I I ?_
  refine zA (zB (wP I (Aa (zE (zA (zA (zB (wP I ?_))))))))
  refine AG I I I I ?_
  exact wP I (wB 1 I I I (wP I (Aa (zE (zR I (zA (zB (wP I (Aa (zE (zO (zP (Aw tH I (.tmp I) () I tO fun W1 hp=>FG hp)))))))))))))
 |false=>
  have one: ∀(v:Int) (z:Bool),cmV p q= .tuple #[.int .i64 v, .int .i64 (erI z)]→Ip 356 [Ai c,str (Ac p),str (Ac q)] c (v,z) W:=fun v z hvz=>by
   refine BY.enter h Tryz.func356 I I I ?_
   refine zA (zB (wP I (Aa (zE (zA (zA (zB (wP I ?_))))))))
   refine AG I I I I ?_
   refine wP I (wB 1 I I I (wP I (Aa (zE (zS I (zI (zE (zA (zB (wP I (wP I (wC I I (fun W1 hp1=>(K3 p q hp hq W1 (h.at_ (bs:=[]) hp1).v (h.at_ (bs:=[]) hp1).t).cast hvz) ?_))))))))))))
   iterate 5 refine wP I ?_
   refine Aa (zE (zA (zB (wP I (wP I ?_)))))
   refine AG I I I I ?_
   exact wP I (wS 1 I I I (Aa (zE (zA (zB (wP I (wP I (Aa (zE (zO (Aw tH I (.tmp I) () I tO fun W1 hp=>FG hp)))))))))))
  by_cases k:BD p q
  ·rw[Sp k]
   exact one (C9 p q) false (if_pos k)
  ·rw[WH k]
   exact one 0 true (if_neg k)
-- BOXES 4
-- CODE2
theorem Ti {α:Type} {F:α→Bool} {l:List α} {i:Nat} (h:i<l.length):(l.drop i).any F=(F l[i]||(l.drop (i+1)).any F):=by
 rw[List.drop_eq_getElem_cons h,List.any_cons]
theorem MO (g:Nat) (hE:AJ Tryz.prog g=true) (F:PtS→Bool) (hg: ∀x W,Ad Tryz.prog g #[.agg #[str x.1,str x.2]] W (fun _:Unit=> .bool (F x)) (fun _=>True) (fun _=>[])) (xs:List PtS) (hn:xs.length≤100000) (p:Option Addr) (cap:Nat) (W:World) (hS:Pv W p xs):
  Ad Tryz.prog 372 #[slv p xs.length cap, .func (.func g) #[] #[]] W (fun z:Int=> .int .i64 z) (fun z=>0≤z↔xs.any F=true) (fun _=>[]):=by
 refine Ab (args:=[slv p xs.length cap, .func (.func g) #[] #[]]) Tryz.func372 I I I ?_
 repeat (first|refine zA ?_|refine zB ?_|refine zC ?_|refine zD ?_|refine zE ?_|refine zF ?_|refine zG ?_|refine zH ?_|refine zI ?_|refine zJ ?_|refine zK ?_|refine zL ?_|refine zM rfl ?_|refine zN ?_|refine zO ?_|refine zP ?_|refine zQ ?_|refine zR rfl ?_|refine zS rfl ?_|refine zU ?_)
 refine wP I (Aa ?_)
 repeat (first|refine zA ?_|refine zB ?_|refine zC ?_|refine zD ?_|refine zE ?_|refine zF ?_|refine zG ?_|refine zH ?_|refine zI ?_|refine zJ ?_|refine zK ?_|refine zL ?_|refine zM rfl ?_|refine zN ?_|refine zO ?_|refine zP ?_|refine zQ ?_|refine zR rfl ?_|refine zS rfl ?_|refine zU ?_)
 refine wP I (wP I (wP I (Aa ?_)))
 repeat (first|refine zA ?_|refine zB ?_|refine zC ?_|refine zD ?_|refine zE ?_|refine zF ?_|refine zG ?_|refine zH ?_|refine zI ?_|refine zJ ?_|refine zK ?_|refine zL ?_|refine zM rfl ?_|refine zN ?_|refine zO ?_|refine zP ?_|refine zQ ?_|refine zR rfl ?_|refine zS rfl ?_|refine zU ?_)
 refine At (X:=Nat) (fun i=>[(0,slv p xs.length cap),(1, .func (.func g) #[] #[]),(6,slv p xs.length cap),(7, .int .i64 (xs.length:Nat)),(8, .int .i64 (i:Nat))]) (fun _=>[]) (fun i=>i≤xs.length∧xs.any F=(xs.drop i).any F) (fun i=>xs.length-i) 0 ⟨Nat.zero_le _,by rw[List.drop_zero]⟩ ⟨I,I,I,I,I,tO⟩ [] I ?_
 intro i hi
 obtain⟨hi,hA⟩:i≤xs.length∧xs.any F=(xs.drop i).any F:=hi
 repeat (first|refine zA ?_|refine zB ?_|refine zC ?_|refine zD ?_|refine zE ?_|refine zF ?_|refine zG ?_|refine zH ?_|refine zI ?_|refine zJ ?_|refine zK ?_|refine zL ?_|refine zM rfl ?_|refine zN ?_|refine zO ?_|refine zP ?_|refine zQ ?_|refine zR rfl ?_|refine zS rfl ?_|refine zU ?_)
 refine wP I ?_
 by_cases hlt:i<xs.length
 rotate_left
 ·refine wU 9 false I (dF (by omega)) (Aa ?_)
  repeat (first|refine zA ?_|refine zB ?_|refine zC ?_|refine zD ?_|refine zE ?_|refine zF ?_|refine zG ?_|refine zH ?_|refine zI ?_|refine zJ ?_|refine zK ?_|refine zL ?_|refine zM rfl ?_|refine zN ?_|refine zO ?_|refine zP ?_|refine zQ ?_|refine zR rfl ?_|refine zS rfl ?_|refine zU ?_)
  refine wP I (Aa ?_)
  repeat (first|refine zA ?_|refine zB ?_|refine zC ?_|refine zD ?_|refine zE ?_|refine zF ?_|refine zG ?_|refine zH ?_|refine zI ?_|refine zJ ?_|refine zK ?_|refine zL ?_|refine zM rfl ?_|refine zN ?_|refine zO ?_|refine zP ?_|refine zQ ?_|refine zR rfl ?_|refine zS rfl ?_|refine zU ?_)
  rw[List.drop_of_length_le (by omega)] at hA
  exact Aw tH I (.tmp I) (-1:Int) I (by rw[hA];exact⟨fun h=>absurd h (by decide),fun h=>absurd (show false=true from h) (by decide)⟩) fun W _=>Ap.nil _ _
 refine wU 9 true I (dT (by omega)) (Aa ?_)
 repeat (first|refine zA ?_|refine zB ?_|refine zC ?_|refine zD ?_|refine zE ?_|refine zF ?_|refine zG ?_|refine zH ?_|refine zI ?_|refine zJ ?_|refine zK ?_|refine zL ?_|refine zM rfl ?_|refine zN ?_|refine zO ?_|refine zP ?_|refine zQ ?_|refine zR rfl ?_|refine zS rfl ?_|refine zU ?_)
 obtain⟨b,off,rfl,hrow⟩: ∃b off,p=some ⟨b,off,none⟩∧ ∀i (hi:i<xs.length),Ag W b (off+i*2) [str xs[i].1,str xs[i].2]:=by
  rcases hS with h|h
  ·rw[h] at hlt;exact absurd hlt (by simp)
  ·exact h
 have hr:=hrow i hlt
 rw[Ti hlt] at hA
 obtain⟨x,hq⟩: ∃x,x=xs[i]:=⟨_,rfl⟩
 rw[←hq] at hr hA
 repeat (first|refine zA ?_|refine zB ?_|refine zC ?_|refine zD ?_|refine zE ?_|refine zF ?_|refine zG ?_|refine zH ?_|refine zI ?_|refine zJ ?_|refine zK ?_|refine zL ?_|refine zM rfl ?_|refine zN ?_|refine zO ?_|refine zP ?_|refine zQ ?_|refine zR rfl ?_|refine zS rfl ?_|refine zU ?_)
 refine wP I (wP I (Aa ?_))
 repeat (first|refine zA ?_|refine zB ?_|refine zC ?_|refine zD ?_|refine zE ?_|refine zF ?_|refine zG ?_|refine zH ?_|refine zI ?_|refine zJ ?_|refine zK ?_|refine zL ?_|refine zM rfl ?_|refine zN ?_|refine zO ?_|refine zP ?_|refine zQ ?_|refine zR rfl ?_|refine zS rfl ?_|refine zU ?_)
 refine wP I (wP I (wP I ?_))
 (first|refine wJ ?_|refine qJ ?_)
 (first|refine wL 0 rfl rfl (fun W1 hp=>hr.hp hp) rfl ?_|refine wL 1 rfl rfl (fun W1 hp=>hr.hp hp) rfl ?_|refine wL 2 rfl rfl (fun W1 hp=>hr.hp hp) rfl ?_|refine wL 3 rfl rfl (fun W1 hp=>hr.hp hp) rfl ?_|refine wL 4 rfl rfl (fun W1 hp=>hr.hp hp) rfl ?_|refine wL 5 rfl rfl (fun W1 hp=>hr.hp hp) rfl ?_|refine wL 6 rfl rfl (fun W1 hp=>hr.hp hp) rfl ?_|refine wL 7 rfl rfl (fun W1 hp=>hr.hp hp) rfl ?_|refine qL 0 rfl rfl (fun W1 hp=>hr.hp hp) rfl ?_|refine qL 1 rfl rfl (fun W1 hp=>hr.hp hp) rfl ?_|refine qL 2 rfl rfl (fun W1 hp=>hr.hp hp) rfl ?_|refine qL 3 rfl rfl (fun W1 hp=>hr.hp hp) rfl ?_|refine qL 4 rfl rfl (fun W1 hp=>hr.hp hp) rfl ?_|refine qL 5 rfl rfl (fun W1 hp=>hr.hp hp) rfl ?_|refine qL 6 rfl rfl (fun W1 hp=>hr.hp hp) rfl ?_|refine qL 7 rfl rfl (fun W1 hp=>hr.hp hp) rfl ?_)
 refine Bc (capt:=[]) I I I I I I hE (fun W1 _=>hg x W1) ?_
 refine Aa ?_
 repeat (first|refine zA ?_|refine zB ?_|refine zC ?_|refine zD ?_|refine zE ?_|refine zF ?_|refine zG ?_|refine zH ?_|refine zI ?_|refine zJ ?_|refine zK ?_|refine zL ?_|refine zM rfl ?_|refine zN ?_|refine zO ?_|refine zP ?_|refine zQ ?_|refine zR rfl ?_|refine zS rfl ?_|refine zU ?_)
 refine Aj I (fun hc=> ?_) (fun hc=> ?_)
 ·have hc:F x=true:=hc
  repeat (first|refine zA ?_|refine zB ?_|refine zC ?_|refine zD ?_|refine zE ?_|refine zF ?_|refine zG ?_|refine zH ?_|refine zI ?_|refine zJ ?_|refine zK ?_|refine zL ?_|refine zM rfl ?_|refine zN ?_|refine zO ?_|refine zP ?_|refine zQ ?_|refine zR rfl ?_|refine zS rfl ?_|refine zU ?_)
  refine wP I (wP I (Aa ?_))
  repeat (first|refine zA ?_|refine zB ?_|refine zC ?_|refine zD ?_|refine zE ?_|refine zF ?_|refine zG ?_|refine zH ?_|refine zI ?_|refine zJ ?_|refine zK ?_|refine zL ?_|refine zM rfl ?_|refine zN ?_|refine zO ?_|refine zP ?_|refine zQ ?_|refine zR rfl ?_|refine zS rfl ?_|refine zU ?_)
  exact Aw tH I (.tmp I) ((i:Nat):Int) I ⟨fun _=>by rw[hA,hc];rfl,fun _=>by omega⟩ fun W _=>Ap.nil _ _
 ·have hc:F x=false:=hc
  rw[hc,Bool.false_or] at hA
  repeat (first|refine zA ?_|refine zB ?_|refine zC ?_|refine zD ?_|refine zE ?_|refine zF ?_|refine zG ?_|refine zH ?_|refine zI ?_|refine zJ ?_|refine zK ?_|refine zL ?_|refine zM rfl ?_|refine zN ?_|refine zO ?_|refine zP ?_|refine zQ ?_|refine zR rfl ?_|refine zS rfl ?_|refine zU ?_)
  refine wP I (wV 18 ((i+1:Nat):Int) I (A0 (by omega)) (wP I (Aa ?_)))
  repeat (first|refine zA ?_|refine zB ?_|refine zC ?_|refine zD ?_|refine zE ?_|refine zF ?_|refine zG ?_|refine zH ?_|refine zI ?_|refine zJ ?_|refine zK ?_|refine zL ?_|refine zM rfl ?_|refine zN ?_|refine zO ?_|refine zP ?_|refine zQ ?_|refine zR rfl ?_|refine zS rfl ?_|refine zU ?_)
  exact Ak (i+1) ⟨hlt,hA⟩ (by show xs.length-(i+1)<xs.length-i;omega) ⟨I,I,I,I,I,tO⟩ [] I
theorem JL (g:Nat) (hE:AJ Tryz.prog g=true) (F:PtS→Bool) (hg: ∀x W,Ad Tryz.prog g #[.agg #[str x.1,str x.2]] W (fun _:Unit=> .bool (F x)) (fun _=>True) (fun _=>[])) (xs:List PtS) (hn:xs.length≤100000) (p:Option Addr) (cap:Nat) (W:World) (hS:Pv W p xs):
  Ad Tryz.prog 354 #[slv p xs.length cap, .func (.func g) #[] #[]] W (fun _:Unit=> .bool (xs.any F)) (fun _=>True) (fun _=>[]):=by
 refine Ab (args:=[slv p xs.length cap, .func (.func g) #[] #[]]) Tryz.func354 I I I ?_
 repeat (first|refine zA ?_|refine zB ?_|refine zC ?_|refine zD ?_|refine zE ?_|refine zF ?_|refine zG ?_|refine zH ?_|refine zI ?_|refine zJ ?_|refine zK ?_|refine zL ?_|refine zM rfl ?_|refine zN ?_|refine zO ?_|refine zP ?_|refine zQ ?_|refine zR rfl ?_|refine zS rfl ?_|refine zU ?_)
 refine wP I (Aa ?_)
 repeat (first|refine zA ?_|refine zB ?_|refine zC ?_|refine zD ?_|refine zE ?_|refine zF ?_|refine zG ?_|refine zH ?_|refine zI ?_|refine zJ ?_|refine zK ?_|refine zL ?_|refine zM rfl ?_|refine zN ?_|refine zO ?_|refine zP ?_|refine zQ ?_|refine zR rfl ?_|refine zS rfl ?_|refine zU ?_)
 refine wP I (wP I ?_)
 refine wD (X:=Int) I I (fun W1 hp=>MO g hE F hg xs hn p cap W1 (hS.hp hp)) ?_
 intro z hz
 have hz:0≤z↔xs.any F=true:=hz
 refine wP I ?_
 refine Ay 8 (.bool (xs.any F)) I (congrArg Value.bool (by
  cases h:xs.any F with
  |true=>exact dT (hz.2 h)
  |false=>exact dF fun h2=>by rw[hz.1 h2] at h;cases h)) ?_
 refine wP I (Aa ?_)
 repeat (first|refine zA ?_|refine zB ?_|refine zC ?_|refine zD ?_|refine zE ?_|refine zF ?_|refine zG ?_|refine zH ?_|refine zI ?_|refine zJ ?_|refine zK ?_|refine zL ?_|refine zM rfl ?_|refine zN ?_|refine zO ?_|refine zP ?_|refine zQ ?_|refine zR rfl ?_|refine zS rfl ?_|refine zU ?_)
 exact wR1 I I I
-- BOXES 8
-- CODE2
abbrev caF (c:Nat) (s:Bool):Bx:=⟨c,317,[.int .i64 (erI s)],false,none⟩
def kLf (s:Bool) (p q r:An):Int×Bool:=
 kOr (kMu (kMu (kSb (kSb (kSb (kSb s q.1 p.1).2 r.2 p.2).2 q.2 p.2).2 r.1 p.1).2 (kSb s q.1 p.1).1 (kSb (kSb s q.1 p.1).2 r.2 p.2).1).2 (kSb (kSb (kSb s q.1 p.1).2 r.2 p.2).2 q.2 p.2).1 (kSb (kSb (kSb (kSb s q.1 p.1).2 r.2 p.2).2 q.2 p.2).2 r.1 p.1).1).2
  (kMu (kSb (kSb (kSb (kSb s q.1 p.1).2 r.2 p.2).2 q.2 p.2).2 r.1 p.1).2 (kSb s q.1 p.1).1 (kSb (kSb s q.1 p.1).2 r.2 p.2).1).1
  (kMu (kMu (kSb (kSb (kSb (kSb s q.1 p.1).2 r.2 p.2).2 q.2 p.2).2 r.1 p.1).2 (kSb s q.1 p.1).1 (kSb (kSb s q.1 p.1).2 r.2 p.2).1).2 (kSb (kSb (kSb s q.1 p.1).2 r.2 p.2).2 q.2 p.2).1 (kSb (kSb (kSb (kSb s q.1 p.1).2 r.2 p.2).2 q.2 p.2).2 r.1 p.1).1).1
structure MF (p q r:An):Prop where
 a:Ks q.1 p.1
 b:Ks r.2 p.2
 c:Ks q.2 p.2
 d:Ks r.1 p.1
 m:GJ (q.1-p.1) (r.2-p.2)
 n:GJ (q.2-p.2) (r.1-p.1)
 o:BD ((q.1-p.1)*(r.2-p.2)) ((q.2-p.2)*(r.1-p.1))
theorem MY {ok:Prop} [Decidable ok] {r:Rat} {s:Bool}:(opR ok r s).2=false↔s=false∧ok:=by
 cases s with
 |true=>rw[UA];simp
 |false=>
  by_cases c:ok
  ·rw[Fh c];simp[c]
  ·rw[UG c];simp[c]
theorem Ub {s:Bool} {p q:Rat}:(kOr s p q).2=false↔s=false∧BD p q:=by
 cases s with
 |true=>rw[WV];simp
 |false=>
  by_cases c:BD p q
  ·rw[Sp c];simp[c]
  ·rw[WH c];simp[c]
theorem WR {p q r:An} (h:MF p q r):kLf false p q r=(Rc p q r,false):=by
 have a:kSb false q.1 p.1=(q.1-p.1,false):=Fh h.a
 have b:kSb false r.2 p.2=(r.2-p.2,false):=Fh h.b
 have c:kSb false q.2 p.2=(q.2-p.2,false):=Fh h.c
 have d:kSb false r.1 p.1=(r.1-p.1,false):=Fh h.d
 unfold kLf
 simp only[a,b,c,d]
 have m:kMu false (q.1-p.1) (r.2-p.2)=((q.1-p.1)*(r.2-p.2),false):=Fh h.m
 have n:kMu false (q.2-p.2) (r.1-p.1)=((q.2-p.2)*(r.1-p.1),false):=Fh h.n
 simp only[m,n]
 rw[Sp h.o];rfl
theorem Ys {s:Bool} {p q r:An}:(kLf s p q r).2=false↔s=false∧MF p q r:=by
 constructor
 ·intro h
  unfold kLf at h
  have h7:=Ub.1 h
  have h6:=MY.1 h7.1
  have h5:=MY.1 h6.1
  have h4:=MY.1 h5.1
  have h3:=MY.1 h4.1
  have h2:=MY.1 h3.1
  have h1:=MY.1 h2.1
  obtain⟨rfl,a⟩:=h1
  have ea:kSb false q.1 p.1=(q.1-p.1,false):=Fh a
  have b:=h2.2
  have c:=h3.2
  have d:=h4.2
  have eb:kSb false r.2 p.2=(r.2-p.2,false):=Fh b
  have ec:kSb false q.2 p.2=(q.2-p.2,false):=Fh c
  have ed:kSb false r.1 p.1=(r.1-p.1,false):=Fh d
  have m:=h5.2
  have n:=h6.2
  have o:=h7.2
  simp only[ea,eb,ec,ed] at m n o
  have em:kMu false (q.1-p.1) (r.2-p.2)=((q.1-p.1)*(r.2-p.2),false):=Fh m
  have en:kMu false (q.2-p.2) (r.1-p.1)=((q.2-p.2)*(r.1-p.1),false):=Fh n
  simp only[em,en] at o
  exact⟨I,a,b,c,d,m,n,o⟩
 ·rintro⟨rfl,h⟩
  rw[WR h]
theorem Jk (c:Nat) (s:Bool) (p q r:An) (hp:okP p) (hq:okP q) (hr:okP r) (W:World) (h:KcP c s W):Ip 325 [Ai c,cvV p,cvV q,cvV r] c (kLf s p q r) W:=by
 obtain⟨x1,e1⟩: ∃x,x=kSb s q.1 p.1:=⟨_,rfl⟩
 obtain⟨x2,e2⟩: ∃x,x=kSb x1.2 r.2 p.2:=⟨_,rfl⟩
 obtain⟨x3,e3⟩: ∃x,x=kSb x2.2 q.2 p.2:=⟨_,rfl⟩
 obtain⟨x4,e4⟩: ∃x,x=kSb x3.2 r.1 p.1:=⟨_,rfl⟩
 obtain⟨x5,e5⟩: ∃x,x=kMu x4.2 x1.1 x2.1:=⟨_,rfl⟩
 obtain⟨x6,e6⟩: ∃x,x=kMu x5.2 x3.1 x4.1:=⟨_,rfl⟩
 obtain⟨x7,e7⟩: ∃x,x=kOr x6.2 x5.1 x6.1:=⟨_,rfl⟩
 have eL:kLf s p q r=x7:=by rw[e7,e6,e5,e4,e3,e2,e1];rfl
 have o1:okQ x1.1:=by rw[e1];exact NX _ _ _
 have o2:okQ x2.1:=by rw[e2];exact NX _ _ _
 have o3:okQ x3.1:=by rw[e3];exact NX _ _ _
 have o4:okQ x4.1:=by rw[e4];exact NX _ _ _
 have o5:okQ x5.1:=by rw[e5];exact TP _ _ _
 have o6:okQ x6.1:=by rw[e6];exact TP _ _ _
 have c1: ∀W1,KcP c s W1→He 283 [Ai c,str (Ac q.1),str (Ac p.1)] c x1 W1:=fun W1 h=>by rw[e1];exact Fz c s _ _ hq.1 hp.1 W1 h
 have c2: ∀W1,KcP c x1.2 W1→He 283 [Ai c,str (Ac r.2),str (Ac p.2)] c x2 W1:=fun W1 h=>by rw[e2];exact Fz c _ _ _ hr.2 hp.2 W1 h
 have c3: ∀W1,KcP c x2.2 W1→He 283 [Ai c,str (Ac q.2),str (Ac p.2)] c x3 W1:=fun W1 h=>by rw[e3];exact Fz c _ _ _ hq.2 hp.2 W1 h
 have c4: ∀W1,KcP c x3.2 W1→He 283 [Ai c,str (Ac r.1),str (Ac p.1)] c x4 W1:=fun W1 h=>by rw[e4];exact Fz c _ _ _ hr.1 hp.1 W1 h
 have c5: ∀W1,KcP c x4.2 W1→He 286 [Ai c,str (Ac x1.1),str (Ac x2.1)] c x5 W1:=fun W1 h=>by rw[e5];exact Km c _ _ _ o1 o2 W1 h
 have c6: ∀W1,KcP c x5.2 W1→He 286 [Ai c,str (Ac x3.1),str (Ac x4.1)] c x6 W1:=fun W1 h=>by rw[e6];exact Km c _ _ _ o3 o4 W1 h
 have c7: ∀W1,KcP c x6.2 W1→Ip 356 [Ai c,str (Ac x5.1),str (Ac x6.1)] c x7 W1:=fun W1 h=>by rw[e7];exact Ep c _ _ _ o5 o6 W1 h
 rw[eL]
 clear eL e1 e2 e3 e4 e5 e6 e7
 refine BY.enter h Tryz.func325 I I I ?_
 refine zA (zB ?_)
 (refine Al rfl rfl rfl rfl ?_;intro)
 (refine Al rfl rfl rfl rfl ?_;intro)
 (refine Al rfl rfl rfl rfl ?_;intro)
 refine wP I (Aa ?_)
 rename_i b5 b6 b7
 refine zE (A9 ?_)
 refine AZ (X:=Unit) [true,true,true,true,true,false,true,true,true,true,true,false,false,false] (fun _=>[(0,Ai c),(5,Ai b5),(6,Ai b6),(7,Ai b7),(9,str (Ac x1.1)),(10,str (Ac x2.1))]) (fun _=>[AP (Av W c),caE c x2.2,ptB b5 (Ac p.1) (Ac p.2),ptB b6 (Ac q.1) (Ac q.2),ptB b7 (Ac r.1) (Ac r.2)])
  4 [AP (Av W c),caF c s,ptB b5 (Ac p.1) (Ac p.2),ptB b6 (Ac q.1) (Ac q.2),ptB b7 (Ac r.1) (Ac r.2)] Tryz.mixed (by kernel_rfl) ?_ ?_
 ·refine qP I (qP I (qB 3 I I I (qP I (qB 2 I I I (qP I (qP I (qB 4 I I I (qP I (qB 2 I I I (Ca (wX (wZ ?_))))))))))))
  refine BZ 1 c I I I I I I (by kernel_rfl) I (fun W1 hp1=>c1 W1 (h.at_ (bs:=[ptB b5 (Ac p.1) (Ac p.2),ptB b6 (Ac q.1) (Ac q.2),ptB b7 (Ac r.1) (Ac r.2)]) hp1)) ?_
  refine Aa (Ah (wX (wZ ?_)))
  refine BZ 1 c I I I I I I (by kernel_rfl) I (fun W1 hp1=>c2 W1 (h.at_ (bs:=[ptB b5 (Ac p.1) (Ac p.2),ptB b6 (Ac q.1) (Ac q.2),ptB b7 (Ac r.1) (Ac r.2)]) hp1)) ?_
  refine Aa (Ah (wX (wZ (wP I (Aa (Ah (wX (wZ (wP I (Aa (Ah ?_)))))))))))
  refine AF I (by((repeat (first|refine AK.same ?_|refine AK.off I ?_));exact tO)) ?_
  exact Az () ⟨I,I,I,I,I,I,tO⟩ [0,1,2,3,4] (by decide) I
 intro _
 refine zE (A9 ?_)
 refine AZ (X:=Unit) [true,true,true,true,true,false,true,true,true,true,true,false,false,false] (fun _=>[(0,Ai c),(9,str (Ac x1.1)),(10,str (Ac x2.1)),(11,str (Ac x3.1)),(12,str (Ac x4.1))]) (fun _=>[AP (Av W c),caE c x4.2])
  4 [AP (Av W c),caF c x2.2,ptB b5 (Ac p.1) (Ac p.2),ptB b6 (Ac q.1) (Ac q.2),ptB b7 (Ac r.1) (Ac r.2)] Tryz.mixed (by kernel_rfl) ?_ ?_
 ·refine qP I (qP I (qB 3 I I I (qP I (qB 2 I I I (qP I (qP I (qB 4 I I I (qP I (qB 2 I I I (Ca (wX (wZ ?_))))))))))))
  refine BZ 1 c I I I I I I (by kernel_rfl) I (fun W1 hp1=>c3 W1 (h.at_ (bs:=[ptB b5 (Ac p.1) (Ac p.2),ptB b6 (Ac q.1) (Ac q.2),ptB b7 (Ac r.1) (Ac r.2)]) hp1)) ?_
  refine Aa (Ah (wX (wZ ?_)))
  refine BZ 1 c I I I I I I (by kernel_rfl) I (fun W1 hp1=>c4 W1 (h.at_ (bs:=[ptB b5 (Ac p.1) (Ac p.2),ptB b6 (Ac q.1) (Ac q.2),ptB b7 (Ac r.1) (Ac r.2)]) hp1)) ?_
  refine Aa (Ah (wX (wZ (wP I (Aa (Ah (wX (wZ (wP I (Aa (Ah ?_)))))))))))
  refine AF I (by((repeat (first|refine AK.same ?_|refine AK.off I ?_));exact tO)) ?_
  exact Az () ⟨I,I,I,I,I,tO⟩ [0,1] (by decide) I
 intro _
 refine zE (zA (zB (wP I (wP I (wP I (wP I ?_))))))
 refine BZ 1 c I I I I I I (by kernel_rfl) I (fun W1 hp1=>c5 W1 (h.at_ (bs:=[]) hp1)) ?_
 refine wP I (wP I (wP I ?_))
 refine BZ 1 c I I I I I I (by kernel_rfl) I (fun W1 hp1=>c6 W1 (h.at_ (bs:=[]) hp1)) ?_
 refine BZ 1 c I I I I I I (by kernel_rfl) I (fun W1 hp1=>c7 W1 (h.at_ (bs:=[]) hp1)) ?_
 exact wP I (Aa (zE (zO (Aw tH I (.tmp I) () I tO fun W1 hp=>FG hp))))
theorem JB.of {c:Nat} {p q r:An} (hp:okP p) (hq:okP q) (hr:okP r) (h:MF p q r) {W:World} (hk:KcP c false W):JB c p q r W:=by
 have:=Jk c false p q r hp hq hr W hk
 rw[WR h] at this
 exact this.same hk.o
theorem G9 {c:Nat} {p q:Rat} (hp:okQ p) (hq:okQ q) (h:BD p q) {W:World} (hk:KcP c false W):Ad Tryz.prog 356 #[Ai c,str (Ac p),str (Ac q)] W (fun _:Unit=> .int .i64 (C9 p q)) (fun _=>True) (fun _=>[]):=by
 have:=Ep c false p q hp hq W hk
 rw[Sp h] at this
 exact this.same hk.o
theorem KcP.below {c:Nat} {s:Bool} {W W':World} (h:KcP c s W) (hb:Below W.heap.size W W'):KcP c s W':=
 ⟨(hb.block c (Array.getElem?_eq_some_iff.1 h.o).1).trans h.o,fun _ h2=>h.k _ (GM.trans ⟨hb.os,hb.tape,hb.output,hb.size,fun x _ hx=>hb.block x hx⟩ h2)⟩
theorem KcP.hp {c:Nat} {s:Bool} {W0 W:World} {bxs:List Bx} (h:KcP c s W0) (hp:Hp W0 bxs W):KcP c s W:=h.below hp.below
theorem JC.of {c:Nat} {p q:An} (hp:okP p) (hq:okP q) (h1:BD p.1 q.1) (h2:BD p.2 q.2) {W:World} (hk:KcP c false W):JC c p q W:=by
 refine Ab (args:=[Ai c,cvV p,cvV q]) Tryz.func323 I I I ?_
 refine zA (zB ?_)
 (refine Al rfl rfl rfl rfl ?_;intro)
 (refine Al rfl rfl rfl rfl ?_;intro)
 refine wP I (Aa (zE (zA (zA (zB (wP I (wP I (wB 0 I I I (wP I (wB 1 I I I ?_))))))))))
 rcases GF p.1 q.1 with e|e|e
 ·refine wC I I (fun W hp1=>(G9 hp.1 hq.1 h1 (hk.hp hp1)).cast (congrArg (Value.int .i64) e)) (wP I (Aa (zE (zA (zB (wP I (wP I (Aa (zE (zR I (zA (zB (wP I (wP I ?_))))))))))))))
  exact Aa (zE (zO (zP (wR1 I I (by rw[J6,e,if_neg (by decide)])))))
 ·refine wC I I (fun W hp1=>(G9 hp.1 hq.1 h1 (hk.hp hp1)).cast (congrArg (Value.int .i64) e)) (wP I (Aa (zE (zA (zB (wP I (wP I (Aa (zE (zS I (zI (zE (zA ?_)))))))))))))
  exact zB (wP I (wP I (wB 0 I I I (wP I (wB 1 I I I (wC I I (fun W hp1=>G9 hp.2 hq.2 h2 (hk.hp hp1)) (wP I (Aa (zE (zO (wR1 I I (by rw[J6,if_pos e]))))))))))))
 ·refine wC I I (fun W hp1=>(G9 hp.1 hq.1 h1 (hk.hp hp1)).cast (congrArg (Value.int .i64) e)) (wP I (Aa (zE (zA (zB (wP I (wP I (Aa (zE (zR I (zA (zB (wP I (wP I ?_))))))))))))))
  exact Aa (zE (zO (zP (wR1 I I (by rw[J6,e,if_neg (by decide)])))))
-- BOXES 8
-- CODE2
theorem BH.keep {W W1:World} {p:Option Addr} {l:List An} {c:Nat} {s:Bool} (h:BH W p l) (ho:W.heap[c]? =some (caO s)) (hK:GM W W1 c):BH W1 p l:=by
 rcases h with h|⟨b,off,e,h⟩
 ·exact .inl h
 refine .inr ⟨b,off,e,fun i hi=> ?_⟩
 have hr:=h i hi
 have hne:b≠c:=fun e=>by
  subst e
  have h0:=hr.get 0 (str (Ac l[i].1)) rfl
  simp only[World.cell?,ho] at h0
  generalize off+i*2+0=k at h0
  cases k with
  |zero=>simp at h0
  |succ k=>simp at h0
 refine⟨Nat.lt_of_lt_of_le hr.lt hK.size,fun j u hu=> ?_⟩
 have h1:=hr.get j u hu
 have h2:=hK.at_ b hne hr.lt
 simp only[World.cell?] at h1⊢
 rw[h2]
 exact h1
theorem BH.kc {W W1:World} {p:Option Addr} {l:List An} {c:Nat} {s s1:Bool} {bs:List Bx} (h:BH W p l) (ho:W.heap[c]? =some (caO s)) (hp:Hp (AT W) (AP (Av W c)::caE c s1::bs) W1):BH W1 p l:=
 h.keep ho (IS ho ⟨_,List.mem_cons_self ..⟩ (Hp.take (bxs:=[AP (Av W c),caE c s1]) (nb:=bs) hp))
structure UP (l:List An) (a b:Nat):Prop where
 x:BD (Ao l a).1 (Ao l b).1
 y:BD (Ao l a).2 (Ao l b).2
 t: ∀d,d<l.length→MF (Ao l a) (Ao l b) (Ao l d)
def Ef (l:List An):Prop:= ∀a,a<l.length→ ∀b,b<l.length→UP l a b
theorem ME (c:Nat) (l:List An) (h0:0<l.length) (hn:l.length≤4096) (hq: ∀p∈l,okP p) (p:Option Addr) (cap:Nat) (W:World) (hA:BH W p l) (h:KcP c false W):
  BY 320 [Ai c,slv p l.length cap] c (fun s:Bool=>s) (fun s=> .int .i64 (erI s)) (fun s=>s=false↔Ef l) W:=by
 obtain⟨g,off,hpe,_⟩:=hA.at_ h0
 have hrow: ∀ {W1:World} {s1:Bool} {bs:List Bx},Hp (AT W) (AP (Av W c)::caE c s1::bs) W1→ ∀j,j<l.length→Ag W1 g (off+j*2) [str (Ac (Ao l j).1),str (Ac (Ao l j).2)]:=fun hp j hj=>by
  obtain⟨g',off',e',h2⟩:=(hA.kc h.o hp).at_ hj
  rw[hpe] at e'
  cases e'
  rw[CS hj]
  exact h2 j hj
 have ok: ∀j,okP (Ao l j):=fun j=>hq _ (HA h0 j)
 subst hpe
 refine BY.enter h Tryz.func320 I I I ?_
 refine zA (zB (wP I (Aa (zE (zA (zA (zB (wP I (wP I (wP I (Aa (zE (zH ?_)))))))))))))
 refine At (X:=Nat) (fun i=>[(0,Ai c),(1,slv (some ⟨g,off,none⟩) l.length cap),(11,slv (some ⟨g,off,none⟩) l.length cap),(12, .int .i64 (l.length:Nat)),(13, .int .i64 (i:Nat))]) (fun _=>[AP (Av W c),caE c false]) (fun i=>i≤l.length∧ ∀a,a<i→ ∀b,b<l.length→UP l a b) (fun i=>l.length-i) 0 ⟨Nat.zero_le _,fun _ h=>absurd h (Nat.not_lt_zero _)⟩ ⟨I,I,I,I,I,tO⟩ [] I ?_
 rintro i ⟨hi1,hi2⟩
 have hi1:i≤l.length:=hi1
 have hi2: ∀a,a<i→ ∀b,b<l.length→UP l a b:=hi2
 refine zA (zB (wP I ?_))
 by_cases hi:i<l.length
 rotate_left
 ·obtain rfl:i=l.length:=by omega
  refine wU 14 false I (dF (by omega)) (Aa (zE (zA (zS I (zJ (zK (zK (zL (zE (zA (zB (wP I (Aa ?_)))))))))))))
  exact zE (zO (Aw tH I (.tmp I) false I ⟨fun _=>hi2,fun _=>rfl⟩ fun W1 hp=>FG hp))
 refine wU 14 true I (dT (by omega)) (Aa (zE (zA (zR I (zI (zE (zA (zH (zA (zB ?_))))))))))
 obtain⟨P,hP⟩: ∃P,P=Ao l i:=⟨_,rfl⟩
 have okPP:okP P:=hP▸ok i
 have rP: ∀ {W1:World} {s1:Bool} {bs:List Bx},Hp (AT W) (AP (Av W c)::caE c s1::bs) W1→Ag W1 g (off+i*2) [str (Ac P.1),str (Ac P.2)]:=fun hp=>by rw[hP];exact hrow hp i hi
 refine wJ ?_
 refine wL 0 I I (fun W1 hp=>rP (s1:=false) (bs:=[]) hp) I ?_
 (refine Ae Tryz.hZ rfl rfl rfl rfl ?_;intro)
 refine wS 2 I I I (Aa ?_)
 rename_i b6
 refine zE (zA (zB (wP I (wP I (wP I (Aa (zE (zH ?_))))))))
 refine At (X:=Nat) (fun k=>[(0,Ai c),(1,slv (some ⟨g,off,none⟩) l.length cap),(6,Ai b6),(11,slv (some ⟨g,off,none⟩) l.length cap),(12, .int .i64 (l.length:Nat)),(13, .int .i64 (i:Nat)),(17,slv (some ⟨g,off,none⟩) l.length cap),(18, .int .i64 (l.length:Nat)),(19, .int .i64 (k:Nat))]) (fun _=>[AP (Av W c),caE c false,ptB b6 (Ac P.1) (Ac P.2)]) (fun k=>k≤l.length∧ ∀b,b<k→UP l i b) (fun k=>l.length-k) 0 ⟨Nat.zero_le _,fun _ h=>absurd h (Nat.not_lt_zero _)⟩ ⟨I,I,I,I,I,I,I,I,I,tO⟩ [] I ?_
 rintro k ⟨hk1,hk2⟩
 have hk1:k≤l.length:=hk1
 have hk2: ∀b,b<k→UP l i b:=hk2
 refine zA (zB (wP I ?_))
 by_cases hk:k<l.length
 rotate_left
 ·obtain rfl:k=l.length:=by omega
  refine wU 20 false I (dF (by omega)) (Aa (zE (zA (zS I (zJ (zK (zK (zL (zN (zE (zB (wP I (wV 57 ((i+1:Nat):Int) I (A0 (by omega)) ?_)))))))))))))
  refine wP I (Aa ?_)
  exact Ak (i+1) ⟨hi,fun a ha=>by
   by_cases e:a=i
   ·subst e;exact hk2
   ·exact hi2 a (by omega)⟩ (by show l.length-(i+1)<l.length-i;omega) ⟨I,I,I,I,I,tO⟩ [_] I
 refine wU 20 true I (dT (by omega)) (Aa (zE (zA (zR I (zI (zE (zA (zH (zA (zB ?_))))))))))
 obtain⟨Q,hQ⟩: ∃Q,Q=Ao l k:=⟨_,rfl⟩
 have okQQ:okP Q:=hQ▸ok k
 have rQ: ∀ {W1:World} {s1:Bool} {bs:List Bx},Hp (AT W) (AP (Av W c)::caE c s1::bs) W1→Ag W1 g (off+k*2) [str (Ac Q.1),str (Ac Q.2)]:=fun hp=>by rw[hQ];exact hrow hp k hk
 refine wJ ?_
 refine wL 0 I I (fun W1 hp=>rQ (s1:=false) (bs:=[ptB b6 (Ac P.1) (Ac P.2)]) hp) I ?_
 (refine Ae Tryz.hZ rfl rfl rfl rfl ?_;intro)
 refine wS 3 I I I (Aa ?_)
 rename_i b8
 obtain⟨x1,e1⟩: ∃x,x=kOr false P.1 Q.1:=⟨_,rfl⟩
 obtain⟨x2,e2⟩: ∃x,x=kOr x1.2 P.2 Q.2:=⟨_,rfl⟩
 have c1: ∀W1,KcP c false W1→Ip 356 [Ai c,str (Ac P.1),str (Ac Q.1)] c x1 W1:=fun W1 h=>by rw[e1];exact Ep c _ _ _ okPP.1 okQQ.1 W1 h
 have c2: ∀W1,KcP c x1.2 W1→Ip 356 [Ai c,str (Ac P.2),str (Ac Q.2)] c x2 W1:=fun W1 h=>by rw[e2];exact Ep c _ _ _ okPP.2 okQQ.2 W1 h
 have hx:x2.2=false↔BD P.1 Q.1∧BD P.2 Q.2:=by
  rw[e2,Ub,e1,Ub]
  exact⟨fun h=>⟨h.1.2,h.2⟩,fun h=>⟨⟨I,h.1⟩,h.2⟩⟩
 refine zE (zA (zB (wP I (wP I (wB 2 I I I (wP I (wB 3 I I I ?_)))))))
 refine BZ 1 c I I I I I I (by kernel_rfl) I (fun W1 hp1=>c1 W1 (h.at_ (bs:=[ptB b6 (Ac P.1) (Ac P.2),ptB b8 (Ac Q.1) (Ac Q.2)]) hp1)) ?_
 refine Aa (zE (zA (zB (wP I (wP I (wB 2 I I I (wP I (wB 3 I I I ?_))))))))
 refine BZ 1 c I I I I I I (by kernel_rfl) I (fun W1 hp1=>c2 W1 (h.at_ (bs:=[ptB b6 (Ac P.1) (Ac P.2),ptB b8 (Ac Q.1) (Ac Q.2)]) hp1)) ?_
 refine Aa (zE (zA (zB (wP I (wP I (wP I (Aa (zE (zH ?_)))))))))
 refine At (X:=Nat×Bool) (fun s=>[(0,Ai c),(1,slv (some ⟨g,off,none⟩) l.length cap),(6,Ai b6),(8,Ai b8),(11,slv (some ⟨g,off,none⟩) l.length cap),(12, .int .i64 (l.length:Nat)),(13, .int .i64 (i:Nat)),(17,slv (some ⟨g,off,none⟩) l.length cap),(18, .int .i64 (l.length:Nat)),(19, .int .i64 (k:Nat)),(35,slv (some ⟨g,off,none⟩) l.length cap),(36, .int .i64 (l.length:Nat)),(37, .int .i64 (s.1:Nat))]) (fun s=>[AP (Av W c),caE c s.2,ptB b6 (Ac P.1) (Ac P.2),ptB b8 (Ac Q.1) (Ac Q.2)])
  (fun s=>s.1≤l.length∧(0<s.1→s.2=false)∧(s.2=false↔BD P.1 Q.1∧BD P.2 Q.2∧ ∀d,d<s.1→MF P Q (Ao l d))) (fun s=>l.length-s.1) (0,x2.2) ⟨Nat.zero_le _,fun h=>absurd h (Nat.not_lt_zero _),hx.trans ⟨fun h=>⟨h.1,h.2,fun _ hd=>absurd hd (Nat.not_lt_zero _)⟩,fun h=>⟨h.1,h.2.1⟩⟩⟩ ⟨rfl,rfl,rfl,rfl,rfl,rfl,rfl,rfl,rfl,rfl,rfl,rfl,rfl,trivial⟩ [] rfl ?_
 rintro⟨j,s⟩ ⟨hj1,hj2,hj3⟩
 have hj1:j≤l.length:=hj1
 have hj2:0<j→s=false:=hj2
 have hj3:s=false↔BD P.1 Q.1∧BD P.2 Q.2∧ ∀d,d<j→MF P Q (Ao l d):=hj3
 refine zA (zB (wP I ?_))
 by_cases hj:j<l.length
 rotate_left
 ·obtain rfl:j=l.length:=by omega
  obtain rfl:s=false:=hj2 h0
  have hall:=hj3.1 rfl
  refine wU 38 false I (dF (by omega)) (Aa (zE (zA (zS I (zJ (zK (zK (zL (zN (zE (zB (wP I (wV 56 ((k+1:Nat):Int) I (A0 (by omega)) ?_)))))))))))))
  refine wP I (Aa ?_)
  exact Ak (k+1) ⟨hk,fun b hb=>by
   by_cases e:b=k
   ·subst e;exact⟨by rw[←hP, ←hQ];exact hall.1,by rw[←hP, ←hQ];exact hall.2.1,by rw[←hP, ←hQ];exact hall.2.2⟩
   ·exact hk2 b (by omega)⟩ (by show l.length-(k+1)<l.length-k;omega) ⟨I,I,I,I,I,I,I,I,I,tO⟩ [_] I
 refine wU 38 true I (dT (by omega)) (Aa (zE (zA (zR I (zI (zE (zA (zH (zA (zB ?_))))))))))
 obtain⟨Z,hZ⟩: ∃Z,Z=Ao l j:=⟨_,rfl⟩
 have okZZ:okP Z:=hZ▸ok j
 have rZ: ∀ {W1:World} {s1:Bool} {bs:List Bx},Hp (AT W) (AP (Av W c)::caE c s1::bs) W1→Ag W1 g (off+j*2) [str (Ac Z.1),str (Ac Z.2)]:=fun hp=>by rw[hZ];exact hrow hp j hj
 refine wJ ?_
 refine wL 0 I I (fun W1 hp=>rZ (s1:=s) (bs:=[ptB b6 (Ac P.1) (Ac P.2),ptB b8 (Ac Q.1) (Ac Q.2)]) hp) I ?_
 (refine Ae Tryz.hZ rfl rfl rfl rfl ?_;intro)
 refine wS 4 I I I (Aa ?_)
 rename_i b10
 obtain⟨⟨v,s2⟩,e3⟩: ∃x,x=kLf s P Q Z:=⟨_,rfl⟩
 have hs2:s2=false↔s=false∧MF P Q Z:=by
  have:=Ys (s:=s) (p:=P) (q:=Q) (r:=Z)
  rw[←e3] at this
  exact this
 have c3: ∀W1,KcP c s W1→Ip 325 [Ai c,cvV P,cvV Q,cvV Z] c (v,s2) W1:=fun W1 h=>by rw[e3];exact Jk c _ _ _ _ okPP okQQ okZZ W1 h
 refine zE (zA (zB (wP I (wB 2 I I I (wB 3 I I I (wB 4 I I I ?_))))))
 refine BZ 1 c I I I I I I (by kernel_rfl) I (fun W1 hp1=>c3 W1 (h.at_ (bs:=[ptB b6 (Ac P.1) (Ac P.2),ptB b8 (Ac Q.1) (Ac Q.2),ptB b10 (Ac Z.1) (Ac Z.2)]) hp1)) ?_
 refine Aa ?_
 cases s2 with
 |true=>
  have hno: ¬Ef l:=fun ha=>by
   have hb:=ha i hi k hk
   have h1:MF P Q Z:=by rw[hP,hQ,hZ];exact hb.t j hj
   have h2:s=false:=hj3.2 ⟨by rw[hP,hQ];exact hb.x,by rw[hP,hQ];exact hb.y,fun d hd=>by rw[hP,hQ];exact hb.t d (by omega)⟩
   exact absurd (hs2.2 ⟨h2,h1⟩) (by decide)
  refine zE (zA (zB (wP I ?_)))
  refine AG I I I I ?_
  refine wP I (wB 1 I I I (wP I (Aa (zE (zR I (zA (zB (wP I ?_))))))))
  refine AG I I I I ?_
  refine wP I (wB 1 I I I (wP I (Aa (zE (zO (zQ (zP (zP (zQ (zQ (zP (zP (zQ (zQ ?_))))))))))))))
  exact zP (zP (zQ (zP (Aw tH I (.tmp I) true I ⟨fun h=>absurd h (by decide),fun h=>absurd h hno⟩ fun W1 hp=>FG hp))))
 |false=>
  obtain⟨rfl,htn⟩:=hs2.1 rfl
  have hall:=hj3.1 rfl
  refine zE (zA (zB (wP I ?_)))
  refine AG I I I I ?_
  refine wP I (wB 1 I I I (wP I (Aa (zE (zS I (zI (zN (zE (zB (wP I (wV 55 ((j+1:Nat):Int) I (A0 (by omega)) (wP I (Aa ?_)))))))))))))
  exact Ak (j+1,false) ⟨hj,fun _=>rfl,⟨fun _=>⟨hall.1,hall.2.1,fun d hd=>by
   by_cases e:d=j
   ·subst e;rw[←hZ];exact htn
   ·exact hall.2.2 d (by have hd:d<j+1:=hd;omega)⟩,fun _=>rfl⟩⟩ (by show l.length-(j+1)<l.length-j;omega) ⟨I,I,I,I,I,I,I,I,I,I,I,I,I,tO⟩ [_] I
def KU (x:PtS):Bool:=decide (30<x.1.length)||decide (30<x.2.length)
theorem NH (x:PtS) (W:World):Ad Tryz.prog 355 #[.agg #[str x.1,str x.2]] W (fun _:Unit=> .bool (KU x)) (fun _=>True) (fun _=>[]):=by
 have e1: ∀a:List UInt8,decide (((⟨a.toArray⟩:ByteArray).size:Int)>30)=decide (30<a.length):=fun a=>decide_eq_decide.2 (by show((a.toArray.size:Nat):Int)>30↔_;rw[List.size_toArray];omega)
 refine Ab (args:=[.agg #[str x.1,str x.2]]) Tryz.func355 I I I ?_
 refine zA (zB ?_)
 (refine Al rfl rfl rfl rfl ?_;intro)
 refine wP I (Aa (zE (zA (zB (wP I (wB 0 I I I (wP I (wP I (wU 6 (decide (30<x.1.length)) I (e1 x.1) ?_)))))))))
 cases hx:decide (30<x.1.length) with
 |true=>
  refine wP I ?_
  iterate 4 refine Af I I ?_
  exact wP I (wP I (Aa (zE (zO (wR1 I I (by rw[KU,hx];rfl))))))
 |false=>
  exact wP I (wP I (wB 0 I I I (wP I (wP I (wU 11 (decide (30<x.2.length)) I (e1 x.2) (wP I (wP I (Aa (zE (zO (wR1 I I (by rw[KU,hx];rfl))))))))))))
theorem P6 (xs:List PtS) (hn:xs.length≤100000) (p:Option Addr) (cap:Nat) (W:World) (hS:Pv W p xs):
  Ad Tryz.prog 319 #[slv p xs.length cap] W (fun _:Unit=> .bool (xs.any KU)) (fun _=>True) (fun _=>[]):=by
 refine Ab (args:=[slv p xs.length cap]) Tryz.func319 I I I ?_
 exact zA (zB (wP I (Aa (zE (zA (zB (wP I (wC I I (fun W1 hp=>JL 355 (by kernel_rfl) KU NH xs hn p cap W1 (hS.hp hp)) (wP I (Aa (zE (zO (wR1 I I I)))))))))))))
-- BOXES 9
-- CODE2
theorem KcP.beside {c g:Nat} {s:Bool} {W0 W1 W2:World} {bxs:List Bx} {B:Bx} {o:Obj} (hp:Hp W0 bxs W1) (k j:Nat) (hk:nth bxs k=some (caE c s)) (hj:nth bxs j=some B) (hB:(g,o)∈B.blk) (hne:k≠j) (hv:AE W0) (ht:A6 W0) (h2:GM W1 W2 g):KcP c s W2:=by
 rw[Bb] at hk hj
 have hc:=hp.own.cell k _ hk (c,caO s) (List.mem_cons_self ..)
 have hg:=hp.own.cell j _ hj (g,o) hB
 have ne:c≠g:=hp.own.apart k j _ _ hk hj hne (c,_) (List.mem_cons_self ..) (g,o) hB
 exact⟨(h2.at_ c ne (Array.getElem?_eq_some_iff.1 hc.1).1).trans hc.1,fun W3 h3=>⟨hv.below (h3.below (h2.below hp.below hg.2) hc.2),ht.below (h3.below (h2.below hp.below hg.2) hc.2)⟩⟩
def JH (l:List An):List An:=RU (Gw (Ci l))
def WY (l L:List An) (e:Int):Prop:=Ef l∧3≤(JH l).length∧L=JH l∧e=0∨Ef l∧(JH l).length<3∧L=[]∧e=12∨ ¬Ef l∧L=[]∧e=4
theorem Ef.tn {l:List An} (h:Ef l) {x y z:An} (hx:x∈l) (hy:y∈l) (hz:z∈l):MF x y z:=by
 obtain⟨i,hi,rfl⟩:=EQ hx
 obtain⟨j,hj,rfl⟩:=EQ hy
 obtain⟨k,hk,rfl⟩:=EQ hz
 exact(h i hi j hj).t k hk
theorem Ef.dv {l:List An} (h:Ef l) {x y:An} (hx:x∈l) (hy:y∈l):BD x.1 y.1∧BD x.2 y.2:=by
 obtain⟨i,hi,rfl⟩:=EQ hx
 obtain⟨j,hj,rfl⟩:=EQ hy
 exact⟨(h i hi j hj).x,(h i hi j hj).y⟩
theorem Uo (l:List An) (x:An):x∈Gw (Ci l)↔x∈l:=((TC (Qv l)).2 x).trans PT
theorem Uu (l:List An):(Gw (Ci l)).length≤l.length:=by
 exact Nat.le_trans (Q0 (Ci l) (Ci l).length) (Nat.le_of_eq (LP l))
theorem Qc (l L:List An) (e:Int) (hr:WY l L e) (hlong:Ef l∨(l.map ptS).any KU=true) (h0:0<l.length) (h12:l.length≤12) (hq: ∀p∈l,okP p) (p:Option Addr) (cap:Nat) (W:World) (hA:BH W p l) (hv:AE W) (ht:A6 W):
  Ad Tryz.prog 280 #[slv p l.length cap] W (fun V:Vec=> .tuple #[V.val L.length, .int .i64 e]) (fun V=>V.OK 2 L.length (ptC L)) (fun V=>[V.bx 62 (ptC L)]):=by
 have hne:l≠[]:=fun h=>by rw[h] at h0;exact absurd h0 (by decide)
 have nilR: ∀ {W1:World} {bs:List Bx},Hp W bs W1→Ap W W1 [Vec.empty.bx 62 (ptC [])]:=fun _=>Own.one (fun p hp=>by cases hp) List.nodup_nil
 refine Ab (args:=[slv p l.length cap]) Tryz.func280 I I I ?_
 refine zA (zB (wP I (wP I (Aa (zE (zA (zH (zA (zB (wP I (wP I (wP I (wU 13 false I (beq_eq_false_iff_ne.2 (by omega)) ?_)))))))))))))
 refine wP I (Aa (zE (zS I (zA (zB (wP I (wP I (wP I (wU 17 false I (dF (by omega)) (wP I (Aa (zE (zS I ?_)))))))))))))
 refine zI (zN (zE (zA (zA (zB (wP I (wC I I (fun W1 hp=>GI W1 p cap l (hA.hp hp) (by omega) hq (hv.hp hp) (ht.hp hp)) (wP I (Aa (zE (zA (zB (wP I (wP I ?_))))))))))))))
 refine Aa (zE (zS I (zI (zE (zA (zB ?_))))))
 refine Au Tryz.hZ tH I I I I I I I I ?_
 (refine Al rfl rfl rfl rfl ?_;intro)
 (refine Ae Tryz.hZ rfl rfl rfl rfl ?_;intro)
 refine wS 1 I I I (Aa ?_)
 rename_i bC b5
 refine zE (zA (zA (zB (wP I (wC I I (fun W1 hp=>(by have:=P6 (l.map ptS) (by rw[List.length_map];omega) p cap W1 (hA.hp hp).b;rwa [List.length_map] at this)) (Aa (AH ?_)))))))
 try refine A9 ?_
 refine Be (X:=Unit) (fun _=>[(0,slv p l.length cap),(5,Ai b5)]) (fun _=>[caE bC false,ckB b5 bC]) (fun _=>Ef l) ?_ ?_
 ·cases hln:(l.map ptS).any KU with
  |false=>
   have hok:Ef l:=by
    rcases hlong with h|h
    ·exact h
    ·rw[hln] at h;cases h
   exact zS I (zI (A5 () hok ⟨I,I,tO⟩ [] I))
  |true=>
   refine zR I (zA (zB (wB 1 I I I (wP I ?_))))
   refine Qq 0 bC (s:=false) (X:=Bool) I I I I I I (by kernel_rfl) I (fun W1 hp=>ME bC l h0 (by omega) hq p cap W1 (hA.hp hp) (KcP.of hp 0 I hv ht)) ?_
   intro s hs
   have hs:s=false↔Ef l:=hs
   cases s with
   |true=>
    have hno: ¬Ef l:=fun h=>absurd (hs.2 h) (by decide)
    obtain⟨rfl,rfl⟩:L=[]∧e=4:=by
     rcases hr with h|h|h
     ·exact absurd h.1 hno
     ·exact absurd h.1 hno
     ·exact h.2
    refine wP I (Aa (zE (zA (zB (wP I (wP I (Aa (zE (zR I (zA (zB (wP I (wP I (wP I ?_))))))))))))))
    exact Aa (zE (zO (zP (A4 tH I (.tmp I) (.tmp I) Vec.empty I (Vec.OK.empty 2) fun W1 hp=>nilR hp))))
   |false=>
    exact wP I (Aa (zE (zA (zB (wP I (wP I (Aa (zE (zS I (zI (A5 () (hs.1 I) ⟨I,I,tO⟩ [] I)))))))))))
 intro _ hok
 have hok:Ef l:=hok
 refine zA (zB (wP I ?_))
 refine wD (X:=Vec) I I (fun W1 hp=>M4 W1 p cap l (by omega) (hA.hp hp) hne) ?_
 rintro⟨pS,cS,jS⟩ ⟨hVS,hpS⟩
 obtain⟨gS,rfl⟩: ∃g,pS=some g:=Option.ne_none_iff_exists'.1 hpS
 have hcS:l.length≤cS:=(hVS.cap (by simp)).1
 refine wP I (Aa (zE (zA (zB (wP I (wB 1 I I I (wP I ?_)))))))
 refine Ex (X:=Unit) (val:=fun _=> .tuple #[]) (Φ:=fun _=>True) (capt:=[]) 2 (B:=B6 gS l jS) (L1:=[]) (L2:=[]) (b:=gS) (ob:= .cells (ptC l++jS).toArray 62 (0,0)) (fun _=>B6 gS (Ci l) jS) (g':=fun _=>gS) (o':=fun _=> .cells (ptC (Ci l)++jS).toArray 62 (0,0))
  rfl rfl rfl rfl rfl rfl (by kernel_rfl) rfl rfl (fun _ _=>rfl) (fun W1 hp=> ?_) (fun _ _=> ?_)
 ·exact Pn bC W1 gS cS l jS h12 (hp.own.cell 2 _ I (gS, .cells (ptC l++jS).toArray 62 (0,0)) (List.mem_cons_self ..)).1 fun W2 h2 x hx y hy=>JC.of (hq x hx) (hq y hy) (hok.dv hx hy).1 (hok.dv hx hy).2 (KcP.beside hp 0 2 I I (List.mem_cons_self ..) (by decide) hv ht h2)
 refine Aa ?_
 have hsl:=LP l
 obtain⟨S,hS⟩: ∃S,S=Gw (Ci l):=⟨_,rfl⟩
 have hSm: ∀x,x∈S↔x∈l:=fun x=>by rw[hS];exact Uo l x
 have hSl:S.length≤l.length:=by rw[hS];exact Uu l
 have hS0:0<S.length:=by
  have:Ao l 0∈S:=(hSm _).2 (HA h0 0)
  exact List.length_pos_of_mem this
 have hSP: ∀i,Ao S i∈l:=fun i=>(hSm _).1 (HA hS0 i)
 have hH:JH l=RU S:=by rw[hS];rfl
 refine zE (zA (zB (wP I ?_)))
 refine Ex (X:=List Value) (val:=fun _=> .slice (some ⟨gS,0,none⟩) S.length cS) (Φ:=fun _=>True) (capt:=[]) 2 (B:=B6 gS (Ci l) jS) (L1:=[]) (L2:=[]) (b:=gS) (ob:= .cells (ptC (Ci l)++jS).toArray 62 (0,0)) (fun x=>B6 gS S x) (g':=fun _=>gS) (o':=fun x=> .cells (ptC S++x).toArray 62 (0,0))
  rfl rfl rfl rfl rfl rfl (by kernel_rfl) rfl rfl (fun _ _=>rfl) (fun W1 hp=> ?_) ?_
 ·have:=Kf W1 gS cS (Ci l) jS (by omega) (by omega) (hp.own.cell 2 _ rfl (gS, .cells (ptC (Ci l)++jS).toArray 62 (0,0)) (List.mem_cons_self ..)).1
  rw[←hS,hsl] at this
  exact this
 intro jT _
 refine wP I (Aa (zE (zA (zB (wP I (wP I (Aa ?_)))))))
 have hleft: ∀ {c:Nat} (P:Nat→An),(∀i,P i∈l)→ ∀(i j k:Nat) {W1 W2:World},KcP c false W1→Below W1.heap.size W1 W2→JB c (P i) (P j) (P k) W2:=fun {c} P hP i j k {W1 W2} hk hb=>JB.of (hq _ (hP i)) (hq _ (hP j)) (hq _ (hP k)) (hok.tn (hP i) (hP j) (hP k)) (hk.below hb)
 refine zE (zA (zB (wP I (wP I ?_))))
 refine wD (X:=Nat) I I (fun W1 _=>R0 (some ⟨gS,0,none⟩) S.length cS W1) ?_
 intro b1 _
 refine wD (X:=Vec) (capt:=[Ai b5]) I I (fun W1 hp=>Kn b5 bC 359 [Ai b1] (by kernel_rfl) S.length (fun k=>k) (Ao S) (fun _=>UH b1 (some ⟨gS,0,none⟩) cS S) (Ts S b1 (some ⟨gS,0,none⟩) cS (by omega)) hS0 (by omega) W1 (Ag.of_bx hp 1 I I)
  (fun _ W2 hb=>⟨(Ag.of_bx hp 3 rfl rfl).below (Nat.le_refl _) hb,(BH.of_row (Ag.of_bx hp 2 rfl rfl)).below (Nat.le_refl _) hb⟩) (fun i j k _ _ _ W2 hb=>hleft (Ao S) hSP i j k (KcP.of hp 0 rfl hv ht) hb)) ?_
 rintro⟨p1,c1,j1⟩ ⟨hV1,hp1⟩
 obtain⟨g1,rfl⟩: ∃g,p1=some g:=Option.ne_none_iff_exists'.1 hp1
 rw[Pi] at hV1
 refine wP I (wP I ?_)
 refine wD (X:=Nat) I I (fun W1 _=>Ql (some ⟨gS,0,none⟩) S.length cS W1) ?_
 intro b2 _
 refine wD (X:=Vec) (capt:=[Ai b5]) I I (fun W1 hp=>Kn b5 bC 360 [Ai b2] (by kernel_rfl) S.length (fun k=>S.length-1-k) (fun k=>Ao S (S.length-1-k)) (fun _=>UH b2 (some ⟨gS,0,none⟩) cS S) (Rj S b2 (some ⟨gS,0,none⟩) cS (by omega)) hS0 (by omega) W1 (Ag.of_bx hp 1 I I)
  (fun _ W2 hb=>⟨(Ag.of_bx hp 5 rfl rfl).below (Nat.le_refl _) hb,(BH.of_row (Ag.of_bx hp 2 rfl rfl)).below (Nat.le_refl _) hb⟩) (fun i j k _ _ _ W2 hb=>hleft (fun k=>Ao S (S.length-1-k)) (fun i=>hSP _) i j k (KcP.of hp 0 rfl hv ht) hb)) ?_
 rintro⟨p2,c2,j2⟩ ⟨hV2,hp2⟩
 obtain⟨g2,rfl⟩: ∃g,p2=some g:=Option.ne_none_iff_exists'.1 hp2
 rw[Qd] at hV2
 have sl1:=Hj (Ao S) S.length
 have sl2:=Hj (fun k=>Ao S (S.length-1-k)) S.length
 have q1:=Pi S
 have q2:=Qd S
 refine As Tryz.hZ tH I I I I I I I I I I I fun bR=> ?_
 rw[q1] at sl1
 rw[q2] at sl2
 rw[q1,q2]
 obtain⟨A,eA⟩: ∃A,A=(DL S).tail.reverse:=⟨_,rfl⟩
 obtain⟨B,eB⟩: ∃B,B=(DL S.reverse).tail.reverse:=⟨_,rfl⟩
 have lA:(DL S).length-1=A.length:=by rw[eA,List.length_reverse,List.length_tail]
 have lB:(DL S.reverse).length-1=B.length:=by rw[eB,List.length_reverse,List.length_tail]
 have hHC:JH l=A++B:=by rw[hH,eA,eB];rfl
 rw[lA] at hV1
 rw[lB] at hV2
 rw[←eA] at hV1
 rw[←eB] at hV2
 rw[←eA, ←eB,lA,lB]
 refine wD (X:=Vec) I I (fun W1 hp=>CQ W1 bR 2 (some ⟨g1,0,none⟩) (some ⟨g2,0,none⟩) A.length B.length c1 c2 (ptC A) (ptC B) (Ag.of_bx hp 7 I I) (.inr ⟨g1,0,I,CX (Ag.of_bx hp 4 I I:Ag W1 g1 0 (ptC A++j1))⟩) (.inr ⟨g2,0,I,CX (Ag.of_bx hp 6 I I:Ag W1 g2 0 (ptC B++j2))⟩) (Bv A) (Bv B) (EH _) (EH _) (by omega) (by omega)) ?_
 intro V hV
 have lAB:A.length+B.length=(JH l).length:=by rw[hHC,List.length_append]
 have hV:V.OK 2 (JH l).length (ptC (JH l)):=by
  have h1:V.OK 2 (A.length+B.length) (ptC A++ptC B):=hV
  rw[←Cy, ←hHC,lAB] at h1
  exact h1
 have hAB:ptC A++ptC B=ptC (JH l):=by rw[hHC,Cy]
 rw[hAB,lAB]
 refine wP I (Aa (zE (zA (zA (zB (wB 1 I I I ?_))))))
 refine AG I I I I ?_
 refine wP I (wB 0 I I I (wP I (Aa (zE (zS I (zI (zE (zA (zA (zB (wP I ?_)))))))))))
 obtain⟨pV,cV,jV⟩:=V
 by_cases hl3:(JH l).length<3
 ·obtain⟨rfl,rfl⟩:L=[]∧e=12:=by
   rcases hr with h|h|h
   ·exact absurd hl3 (by omega)
   ·exact h.2.2
   ·exact absurd hok h.1
  cases pV with
  |none=>
   have hz:=hV.nil rfl
   rw[hz]
   exact wP I (wP I (Aa (zE (zR I (zA (zB (wP I (wP I (Aa (zE (zO (zP (A4 tH I (.tmp I) (.tmp I) Vec.empty I (Vec.OK.empty 2) fun W1 hp=>nilR hp)))))))))))))
  |some gV=>
   exact wP I (wP I (wU 63 true I (dT (by omega)) (Aa (zE (zR I (zA (zB (wP I (wP I (Aa (zE (zO (zP (A4 tH I (.tmp I) (.tmp I) Vec.empty I (Vec.OK.empty 2) fun W1 hp=>nilR hp))))))))))))))
 ·obtain⟨rfl,rfl⟩:L=JH l∧e=0:=by
   rcases hr with h|h|h
   ·exact h.2.2
   ·exact absurd h.2.1 hl3
   ·exact absurd hok h.1
  cases pV with
  |none=>exact absurd (hV.nil rfl) (by omega)
  |some gV=>
   refine wP I (wP I (wU 63 false I (dF (by omega)) (Aa (zE (zS I (zI (zE (zA (zB (wP I (wP I (wP I (Aa ?_)))))))))))))
   exact zE (zO (A4 tH I (.tmp I) (.tmp I) (⟨some gV,cV,jV⟩:Vec) I hV fun W1 hp=>Ap.of_hp (hp.pick (l:=[(⟨some gV,cV,jV⟩:Vec).bx 62 (ptC (JH l))]) [8] (by decide) I)))
-- BOXES 5
-- CODE2
abbrev f0:FrP:=⟨false,0,1,1,0⟩
abbrev S0:StR:=⟨0,5,0,10,5,5⟩
def FC:List An:=[(0,0),(10,0),(5,5),(5,5)]
def DU:List An:=[(0,0),(10,0),(5,5)]
theorem UX:f0.OK:=⟨by decide,by decide, .inl rfl,by unfold szQ;decide+kernel,by unfold szQ;decide+kernel,by decide⟩
theorem PJ:f0.Go:=⟨UX,by unfold szQ;decide+kernel,by unfold szQ;decide+kernel,by decide+kernel⟩
theorem WS:S0.OK:=⟨by unfold szQ;decide+kernel,by decide+kernel,by decide+kernel,by decide+kernel⟩
theorem WE: ∀x∈FC,szQ x.1 8∧szQ x.2 8:=by unfold szQ FC;decide+kernel
theorem Uc: ∀k (hk:k<FC.length), ¬J6 FC[k] FC[0]<0:=by decide+kernel
theorem TQ:Gw FC=DU:=by decide+kernel
theorem Gs (p q:Rat) (W:World):Ad Tryz.prog 271 #[str (Ac p),str (Ac q)] W (fun _:Unit=>cvV (q,p)) (fun _=>True) (fun _=>[]):=by
 refine Ab (args:=[str (Ac p),str (Ac q)]) Tryz.func271 I I I ?_
 refine zA (zB ?_)
 (refine Ae Tryz.hZ rfl rfl rfl rfl ?_;intro)
 refine Aa (zE (zA (zB (wP I (wP I ?_)))))
 refine Au Tryz.hZ tH I I I I I I I I ?_
 exact wS 0 I I I (Aa (zE (zO (Aw tH I (.cell 0 I I I I I) () I tO fun W _=>Ap.nil _ _))))
theorem NM (W:World) (hv:AE W) (ht:A6 W):
  Ad Tryz.prog 233 #[frV f0,stV 0 S0] W (fun x:Nat×Nat×List Value=>slv (some ⟨x.1,0,none⟩) 3 x.2.1) (fun _=>True) (fun x=>[B6 x.1 DU x.2.2]):=by
 have h40:0<FC.length:=by decide
 have a0:f0.at 0=0:=by decide+kernel
 have a5:f0.at 5=5:=by decide+kernel
 refine Ab (args:=[frV f0,stV 0 S0]) Tryz.func233 I I I ?_
 refine zA (zB ?_)
 (refine Al rfl rfl rfl rfl ?_;intro)
 (refine Al rfl rfl rfl rfl ?_;intro)
 refine wP I (Aa ?_)
 rename_i b2 b3
 refine zE (zA (zB (wB 0 I I I (wP I (wB 1 I I I (wC I I (fun W1 hp=>(L3 f0 UX 0 (by unfold szQ;decide+kernel) W1 (hv.hp hp) (ht.hp hp)).cast (v':= .tuple #[str (Ac 0), .int .i64 0]) (by rw[a0])) ?_))))))
 iterate 5 refine wP I ?_
 refine Aa (zE (zA (zB (wB 0 I I I (wP I (wB 1 I I I (wC I I (fun W1 hp=>(L3 f0 UX 5 (by unfold szQ;decide+kernel) W1 (hv.hp hp) (ht.hp hp)).cast (v':= .tuple #[str (Ac 5), .int .i64 0]) (by rw[a5])) ?_)))))))
 iterate 5 refine wP I ?_
 refine Aa (zE (zA (zB (wP I (Aa (zE (zA (zA (zB (wP I (wB 0 I I I (Aa (zE ?_)))))))))))))
 refine zS I (zI (zE (zA (zU (qP I (qP I (qP I (qB 1 I I I ?_))))))))
 refine Ga (capt:=[]) I I I I I I (by kernel_rfl) (fun W1 _=>Gs 0 0 W1) ?_
 refine qP I (qP I (qP I (qB 1 I I I ?_)))
 refine Ga (capt:=[]) I I I I I I (by kernel_rfl) (fun W1 _=>Gs 0 10 W1) ?_
 refine qP I (qP I (qP I (qB 1 I I I ?_)))
 refine Ga (capt:=[]) I I I I I I (by kernel_rfl) (fun W1 _=>Gs 5 5 W1) ?_
 refine qP I (qP I (qP I (qB 1 I I I ?_)))
 refine Ga (capt:=[]) I I I I I I (by kernel_rfl) (fun W1 _=>Gs 5 5 W1) ?_
 refine A7 ?_
 (refine As Tryz.hZ tH rfl rfl rfl rfl rfl rfl rfl rfl rfl rfl rfl ?_;intro)
 rename_i bP
 refine wP I (Aa (zE (zA (zA (zB (wP I (wB 0 I I I (wP I (wB 0 I I I (wP I ?_))))))))))
 refine FI Tryz.underlying4 I I I I I I ?_
 refine Aa (zE (zS I (zI (zE (zA (zB (wP I (Aa (zE (zA (zB (wP I (wP I (wP I ?_))))))))))))))
 have hpts: ∀ {W0 W1:World} {bxs:List Bx},Hp W0 bxs W1→nth bxs 2=some (⟨bP,62,ptC FC,true,none⟩:Bx)→BH W1 (some ⟨bP,0,none⟩) FC:=fun hp h1=>BH.of_row (junk:=[]) (by rw[List.append_nil];exact Ag.of_bx hp 2 h1 rfl)
 refine wC I I (fun W1 hp=>(Qn FC h40 (by decide) WE Uc (some ⟨bP,0,none⟩) 4 W1 (hpts hp I) (hv.hp hp) (ht.hp hp)).cast (v':=cvV ((0:Rat),(0:Rat))) I) (wC I I (fun W1 hp=>(show Ad Tryz.prog 276 #[slv (some ⟨bP,0,none⟩) 4 4,cvV ((0:Rat),(0:Rat))] W1 (fun _:Unit=> .int .i64 0) (fun _=>True) (fun _=>[]) from Lp FC h40 (by decide) (some ⟨bP,0,none⟩) 4 W1 (hpts hp I))) (wP I (Aa (zE (A9 ?_)))))
 refine AZ (X:= { V:Vec//V.OK 2 4 (ptC FC) }) [true,true,false,true,true,false,false,false,false] (fun V=>[(10,V.1.val 4)]) (fun V=>[V.1.bx 62 (ptC FC)])
  5 [⟨b2,56,(frV f0).cells.toList,true,none⟩,⟨b3,145,(stV 0 S0).cells.toList,true,none⟩,⟨bP,62,ptC FC,true,none⟩] Tryz.mixed (by kernel_rfl) ?_ ?_
 ·refine qP I (qP I (qP I (qP I (Ca (wX ?_)))))
  refine RS.cons ?_ (RS.cons ?_ (RS.nil))
  ·refine Eg 0 tH I I I I I I I I (by decide) (by decide) ?_;refine Ay 65 (.slice (some ⟨bP,0,none⟩) 4 4) I I ?_
   refine Aa (Ah (wX (wZ ?_)))
   refine B9 0 tH I I I I I I I I (by decide) ?_
   refine Aa (Ah (wX (wZ ?_)))
   refine As Tryz.hZ tH I I I I I I I I I I I fun bL1=> ?_
   refine Aa (Ah (wX (wZ ?_)))
   refine wD (X:=Vec) rfl rfl (fun W1 hp=>CQ W1 bL1 2 (some ⟨bP,0,none⟩) (some ⟨bP,0,none⟩) 4 0 4 4 (ptC FC) [] (Ag.of_bx hp 3 rfl rfl) (BH.cells (hpts hp rfl)) (.inl rfl) rfl rfl (EH _) (fun u hu=>absurd hu List.not_mem_nil) (by decide) (by decide)) ?_;intro V1 hV1
   refine Aa (Ah (wX (wZ (wP I (Aa (Ah ?_))))))
   rw[List.append_nil] at hV1;rw[List.append_nil];first|refine AF rfl (by((repeat (first|refine AK.same ?_|refine AK.off rfl ?_));exact trivial)) ?_|refine AS rfl (by kernel_rfl) ?_
   exact Az ⟨V1,hV1⟩ ⟨I,tO⟩ [4] (by decide) I
  ·refine B9 0 tH I I I I I I I I (by decide) ?_
   refine Aa (Ah (wX (wZ ?_)))
   refine Eg 0 tH I I I I I I I I (by decide) (by decide) ?_;refine Ay 65 (.slice (some ⟨bP,0,none⟩) 4 4) I I ?_
   refine Aa (Ah (wX (wZ ?_)))
   refine As Tryz.hZ tH I I I I I I I I I I I fun bL1=> ?_
   refine Aa (Ah (wX (wZ ?_)))
   refine wD (X:=Vec) rfl rfl (fun W1 hp=>CQ W1 bL1 2 (some ⟨bP,0,none⟩) (some ⟨bP,0,none⟩) 4 0 4 4 (ptC FC) [] (Ag.of_bx hp 3 rfl rfl) (BH.cells (hpts hp rfl)) (.inl rfl) rfl rfl (EH _) (fun u hu=>absurd hu List.not_mem_nil) (by decide) (by decide)) ?_;intro V1 hV1
   refine Aa (Ah (wX (wZ (wP I (Aa (Ah ?_))))))
   rw[List.append_nil] at hV1;rw[List.append_nil];first|refine AF rfl (by((repeat (first|refine AK.same ?_|refine AK.off rfl ?_));exact trivial)) ?_|refine AS rfl (by kernel_rfl) ?_
   exact Az ⟨V1,hV1⟩ ⟨I,tO⟩ [4] (by decide) I
 rintro⟨⟨pS,cS,jS⟩,hVS⟩
 have hVS:Vec.OK ⟨pS,cS,jS⟩ 2 4 (ptC FC):=hVS
 obtain⟨gS,rfl⟩: ∃g,pS=some g:=by
  cases pS with
  |none=>exact absurd (hVS.nil rfl) (by decide)
  |some g=>exact⟨g,rfl⟩
 have hcS:4≤cS:=(hVS.cap (by simp)).1
 refine zE (zA (zB (wP I ?_)))
 refine Ex (X:=List Value) (val:=fun _=> .slice (some ⟨gS,0,none⟩) 3 cS) (Φ:=fun _=>True) (capt:=[]) 0 (B:=B6 gS FC jS) (L1:=[]) (L2:=[]) (b:=gS) (ob:= .cells (ptC FC++jS).toArray 62 (0,0)) (fun x=>B6 gS DU x) (g':=fun _=>gS) (o':=fun x=> .cells (ptC DU++x).toArray 62 (0,0))
  rfl rfl rfl rfl rfl rfl (by kernel_rfl) rfl rfl (fun _ _=>rfl) (fun W1 hp=> ?_) ?_
 ·have:=Kf W1 gS cS FC jS (by decide) hcS (hp.own.cell 0 _ rfl (gS, .cells (ptC FC++jS).toArray 62 (0,0)) (List.mem_cons_self ..)).1
  rw[TQ] at this
  exact this
 intro jT _
 refine wP I (Aa ?_)
 have hrow: ∀ {W0 W1:World} {bxs:List Bx},Hp W0 bxs W1→nth bxs 0=some (B6 gS DU jT)→ ∀k (hk:k<3),Ag W1 gS (0+k*2) [str (Ac (DU[k]'hk).1),str (Ac (DU[k]'hk).2)]:=fun hp h1 k hk=>by
  obtain⟨g,o,e,h⟩:=(BH.of_row (l:=DU) (junk:=jT) (Ag.of_bx hp 0 h1 rfl)).at_ (show 0<3 by decide)
  cases e
  exact h k hk
 refine zE (A9 (A9 (zU (qP I (qI I I (by decide) (by decide) (qL 0 I I (fun W1 hp=>hrow hp I 0 (by decide)) I (qP I (qP I (qP I (qP I (qI I I (by decide) (by decide) (qL 0 I I (fun W1 hp=>hrow hp I 2 (by decide)) I ?_))))))))))))
 refine N7 (Ac 0) (Ac 0) (Ac 5) (Ac 5) I I I I I ?_
 exact qU 82 false I ((NP (x:=(0,0)) (y:=(5,5))).trans (by decide+kernel)) (A7 (Aa (zE (zS I (zI (zE (zA (zB (wP I (wP I (Aa (zE (zO (Aw tH I (.tmp I) (gS,cS,jT) I tO fun W1 hp=>Ap.of_hp hp))))))))))))))
-- BOXES 5
-- CODE2
theorem KA (W:World) (hv:AE W) (ht:A6 W):
  Ad Tryz.prog 167 #[frV f0,stV 0 S0] W (fun x:Nat×Nat×List Value=> .tuple #[slv (some ⟨x.1,0,none⟩) 3 x.2.1, .int .i64 0]) (fun _=>True) (fun x=>[B6 x.1 DU x.2.2]):=by
 refine Ab (args:=[frV f0,stV 0 S0]) Tryz.func167 I I I ?_
 refine zA (zB ?_)
 (refine Al rfl rfl rfl rfl ?_;intro)
 (refine Al rfl rfl rfl rfl ?_;intro)
 refine wP I (wP I (Aa (zE (zA (zA (zB (wB 0 I I I (wB 1 I I I (wC I I (fun W1 hp=>Ib f0 PJ 0 S0 WS (by decide+kernel) W1 (hv.hp hp) (ht.hp hp)) (wP I (Aa (zE (zA ?_)))))))))))))
 refine zB (wP I (wP I (Aa (zE (zS I (zI (zE (zA (zB (wB 0 I I I (wB 1 I I I ?_)))))))))))
 refine wD (X:=Nat×Nat×List Value) I I (fun W1 hp=>NM W1 (hv.hp hp) (ht.hp hp)) ?_
 intro x _
 exact wP I (wP I (Aa (zE (zO (A4 tH I (.tmp I) (.tmp I) x I tO fun W1 hp=>Ap.of_hp (hp.pick (l:=[B6 x.1 DU x.2.2]) [2] (by decide) I))))))
abbrev U9 (F S A:Value):Value:= .agg #[F,S,A]
theorem Q3 (p:Option Addr) (n cap:Nat) (S A:Value) (m:Nat) (hm:m<n) (l r lo hi:List UInt8) (W:World):
  Ad Tryz.prog 169 #[U9 (slv p n cap) S A,H3 m l r lo hi] W (fun _:Unit=> .int .i64 0) (fun _=>True) (fun _=>[]):=by
 refine Ab (args:=[U9 (slv p n cap) S A,H3 m l r lo hi]) Tryz.func169 I I I ?_
 refine zA (zB ?_)
 (refine Al rfl rfl rfl rfl ?_;intro)
 (refine Al rfl rfl rfl rfl ?_;intro)
 refine wP I (Aa (zE (zA (zA (zB (wP I (wB 1 I I I (wP I (wU 7 false I (dF (by omega)) (wP I (wP I (wB 1 I I I (wP I ?_)))))))))))))
 refine wB 0 I I I (wP I (wP I (wU 14 false I (dF (by omega)) (wP I (Aa (zE (zS I (zI (zE (zA (zB (wP I (Aa ?_)))))))))))))
 exact zE (zO (wR1 I I I))
theorem Ia (s:Int) (l r lo hi:Rat) (ol:okQ l) (or:okQ r) (oo:okQ lo) (oi:okQ hi) (ll:(Ac l).length≤8) (lr:(Ac r).length≤8) (llo:(Ac lo).length≤8) (lhi:(Ac hi).length≤8) (h1:l<r) (h2:lo<hi) (W:World) (hv:AE W) (ht:A6 W):
  Ad Tryz.prog 44 #[H3 s (Ac l) (Ac r) (Ac lo) (Ac hi)] W (fun _:Unit=> .int .i64 0) (fun _=>True) (fun _=>[]):=by
 have zl:=DW ll (by decide)
 have zr:=DW lr (by decide)
 have zo:=DW llo (by decide)
 have zi:=DW lhi (by decide)
 have hner:ner [Ac l,Ac r,Ac lo,Ac hi]=0:=by
  unfold ner ner ner ner ner
  rw[Di ol,Di or,Di oo,Di oi]
  rfl
 refine Ab (args:=[H3 s (Ac l) (Ac r) (Ac lo) (Ac hi)]) Tryz.func44 I I I ?_
 refine zA (zB ?_)
 (refine Al rfl rfl rfl rfl ?_;intro)
 refine wP I (Aa (zE (zA (zA (zB (wP I (wB 0 I I I (wP I (wB 0 I I I (wP I (wB 0 I I I (wP I (wB 0 I I I ?_)))))))))))))
 refine As Tryz.hZ tH I I I I I I I I I I I fun bS=> ?_
 refine wC I I (fun W1 hp=>(GZ W1 (some ⟨bS,0,none⟩) 4 [Ac l,Ac r,Ac lo,Ac hi] (.inr ⟨bS,0,I,Ag.of_bx hp 1 I I⟩) (show 4≤100000 by decide) (fun y hy=>by
  simp only[List.mem_cons,List.not_mem_nil,or_false] at hy
  rcases hy with rfl|rfl|rfl|rfl<;>omega) (hv.hp hp) (ht.hp hp)).cast (v':= .int .i64 0) (by rw[hner])) ?_
 refine wP I (Aa (zE (zA (zB (wP I (wP I (Aa (zE (zS I (zI (zE (zA (zA ?_)))))))))))))
 refine zB (wP I (wB 0 I I I (wP I (wB 0 I I I (wC I I (fun W1 hp=>Cb l r (sz2 zl zr (by decide)) W1 (hv.hp hp) (ht.hp hp)) (wP I (wU 22 false I ((Qi _ _).trans (dF (Rat.not_le.2 h1))) (wP I (wP I (wB 0 I I I (wP I (wB 0 I I I (wC I I (fun W1 hp=>Cb lo hi (sz2 zo zi (by decide)) W1 (hv.hp hp) (ht.hp hp)) ?_)))))))))))))
 exact wP I (wU 29 false I ((Qi _ _).trans (dF (Rat.not_le.2 h2))) (wP I (Aa (zE (zS I (zI (zE (zA (zB (wP I (Aa (zE (zO (wR1 I I I))))))))))))))
-- BOXES 6
-- CODE2
def crn (l r lo hi:Rat):List An:=[(l,lo),(r,lo),(r,hi),(l,hi)]
def spC (f:FrP) (L:List An):List Value:=L.flatMap fun q=>[str (Ac (f.px q.1 q.2)),str (Ac (f.py q.1 q.2)),str (Ac (f.pz q.2))]
theorem S6 (f:FrP) (a b:List An):spC f (a++b)=spC f a++spC f b:=List.flatMap_append
theorem Hk (f:FrP) (h:f.Go) (s:Int) (l r lo hi:Rat) (zl:szQ l 8) (zr:szQ r 8) (zo:szQ lo 8) (zi:szQ hi 8) (W:World) (hv:AE W) (ht:A6 W):
  Ad Tryz.prog 98 #[frV f,H3 s (Ac l) (Ac r) (Ac lo) (Ac hi)] W (fun V:Vec=> .tuple #[V.val 4, .int .i64 0]) (fun V=>V.OK 3 4 (spC f (crn l r lo hi))) (fun V=>[V.bx 45 (spC f (crn l r lo hi))]):=by
 obtain⟨C,hC⟩: ∃C,C=crn l r lo hi:=⟨_,rfl⟩
 have hCl:C.length=4:=by rw[hC];rfl
 have hz: ∀q∈C,szQ q.1 8∧szQ q.2 8:=by
  intro q hq
  rw[hC] at hq
  simp only[crn,List.mem_cons,List.not_mem_nil,or_false] at hq
  rcases hq with rfl|rfl|rfl|rfl
  ·exact⟨zl,zo⟩
  ·exact⟨zr,zo⟩
  ·exact⟨zr,zi⟩
  ·exact⟨zl,zi⟩
 refine Ab (args:=[frV f,H3 s (Ac l) (Ac r) (Ac lo) (Ac hi)]) Tryz.func98 I I I ?_
 refine zA (zB ?_)
 (refine Al rfl rfl rfl rfl ?_;intro)
 (refine Al rfl rfl rfl rfl ?_;intro)
 refine wP I (wP I (Aa ?_))
 rename_i b2 b3
 refine zE (zA (zB (wP I (Aa (zE (zA (zA (zB (wP I (wB 1 I I I (wP I (wB 1 I I I ?_))))))))))))
 refine ET (.agg #[str [],str []]) Tryz.underlying208 (fun W=>by kernel_rfl) Tryz.sizeOf25 I I I I I ?_
 refine wP I (wB 1 I I I (wP I (wB 1 I I I ?_)))
 refine ET (.agg #[str [],str []]) Tryz.underlying208 (fun W=>by kernel_rfl) Tryz.sizeOf25 I I I I I ?_
 refine wP I (wB 1 I I I (wP I (wB 1 I I I ?_)))
 refine ET (.agg #[str [],str []]) Tryz.underlying208 (fun W=>by kernel_rfl) Tryz.sizeOf25 I I I I I ?_
 refine wP I (wB 1 I I I (wP I (wB 1 I I I ?_)))
 refine ET (.agg #[str [],str []]) Tryz.underlying208 (fun W=>by kernel_rfl) Tryz.sizeOf25 I I I I I ?_
 refine As Tryz.hZ tH I I I I I I I I I I I fun bA=> ?_
 refine wP I (wP I (Aa (zE (zH ?_))))
 refine C6 ?_
 refine At (X:=Nat×Vec) (fun x=>[(2,Ai b2),(6,x.2.val x.1),(31,slv (some ⟨bA,0,none⟩) 4 4),(32, .int .i64 4),(33, .int .i64 (x.1:Nat))]) (fun x=>[⟨b2,56,(frV f).cells.toList,true,none⟩,⟨b3,27,(H3 s (Ac l) (Ac r) (Ac lo) (Ac hi)).cells.toList,true,none⟩,⟨bA,208,ptC C,true,none⟩,x.2.bx 45 (spC f (C.take x.1))])
  (fun x=>x.1≤4∧x.2.OK 3 x.1 (spC f (C.take x.1))) (fun x=>4-x.1) (0,Vec.empty) ⟨Nat.zero_le _,Vec.OK.empty 3⟩ ⟨rfl,rfl,rfl,rfl,rfl,trivial⟩ [] (by rw[hC];rfl) ?_
 rintro⟨i,V⟩ ⟨hi,hV⟩
 have hi:i≤4:=hi
 have hV:V.OK 3 i (spC f (C.take i)):=hV
 refine zA (zB (wP I ?_))
 by_cases hlt:i<4
 rotate_left
 ·have e:i=4:=by omega
  subst e
  rw[List.take_of_length_le (by omega)] at hV
  refine wU 34 false I (dF (by omega)) (Aa (zE (zA (zS I (zJ (zK (zK (zL (zE (zA (zB (wP I (wP I (wP I ?_))))))))))))))
  refine Aa (zE (zO ?_))
  rw[←hC]
  exact A4 tH I (.tmp I) (.tmp I) V I hV fun W1 hp=>Ap.of_hp (hp.pick (l:=[V.bx 45 (spC f C)]) [3] (by decide) (by rw[List.take_of_length_le (by omega)];rfl))
 refine wU 34 true I (dT (by omega)) (Aa (zE (zA (zR I (zI (zE (zA (zH (zA (zB ?_))))))))))
 have hi4:i<C.length:=by omega
 have hq:=hz _ (List.getElem_mem hi4)
 have htk:C.take (i+1)=C.take i++[C[i]]:=List.take_succ_eq_append_getElem hi4
 obtain⟨q,hqe⟩: ∃q,q=C[i]:=⟨_,rfl⟩
 rw[←hqe] at hq htk
 have hrow: ∀ {W0 W1:World} {bxs:List Bx},Hp W0 bxs W1→nth bxs 2=some (⟨bA,208,ptC C,true,none⟩:Bx)→Ag W1 bA (0+i*2) [str (Ac q.1),str (Ac q.2)]:=fun hp h1=>by
  obtain⟨g,o,e,hh⟩:=(BH.of_row (l:=C) (junk:=[]) (by rw[List.append_nil];exact Ag.of_bx hp 2 h1 rfl)).at_ hi4
  cases e
  rw[hqe]
  exact hh i hi4
 refine wJ ?_
 refine wL 0 I I (fun W1 hp=>hrow hp I) I ?_
 (refine Ae Tryz.hZ rfl rfl rfl rfl ?_;intro)
 refine wS 4 I I I (Aa ?_)
 rename_i b8
 refine zE (zA (zB (wB 0 I I I ?_)))
 refine DP Tryz.underlying208 Tryz.sizeOf25 I I I I I ⟨by decide,by decide⟩ ?_
 refine wB 4 I I I ?_
 refine DP Tryz.underlying208 Tryz.sizeOf25 I I I I I ⟨by decide,by decide⟩ ?_
 refine wB 4 I I I (wC I I (fun W1 hp=>Kk f h q.1 q.2 (hq.1.mono (by decide)) (hq.2.mono (by decide)) W1 (hv.hp hp) (ht.hp hp)) (wP I (wP I (wP I ?_))))
 (refine Ae Tryz.hZ rfl rfl rfl rfl ?_;intro)
 refine wS 5 I I I (wP I (Aa ?_))
 rename_i b9
 refine zE (zA (zA (zB (wP I (wP I (Aa (zE (zS I (zI (zE (zB (wP I (wB 5 I I I ?_)))))))))))))
 refine As Tryz.hZ tH I I I I I I I I I I I fun bN=> ?_
 refine AL (V:=V) (len:=i) (xs:=spC f (C.take i)) 3 6 Tryz.vec41 (i+1) (spC f (C.take (i+1))) I I I I I I I I I I I hV I I I (by rw[htk,S6];rfl) (by simp only[maxLen];omega) (by omega) I ?_
 intro gV cV jV hV1
 exact wP I (Aa (zN (zE (zB (wP I (wV 53 ((i+1:Nat):Int) I (A0 (by omega)) (wP I (Aa (Ak (i+1,⟨some gV,cV,jV⟩) ⟨hlt,hV1⟩ (by show 4-(i+1)<4-i;omega) ⟨I,I,I,I,I,tO⟩ [_,_,_] I)))))))))
end
end Go.Proofs.YtndkgionklmdfaaGreatDoor
