/-
  Lemmas that the theorem openingCheeks_upto_card needs (part 7 of 8).
-/
import Derived.Test.YtndkgionklmdfaaGreatDoorOcf
set_option maxHeartbeats 64000000
namespace Go.Proofs.YtndkgionklmdfaaGreatDoor
section
open Go Go.RowKit Go.Am Go.Lib
set_option maxRecDepth 10000
structure aX (p q:At) (u v:Rat):Prop where
 s:Sz2 u v
 d:Sz2 u (u-v)
 nz:(u-v).num≠0
 x1:Sz2 q.1 p.1
 x2:Sz2 (u/(u-v)) (q.1-p.1)
 x3:Sz2 p.1 (u/(u-v)*(q.1-p.1))
 y1:Sz2 q.2 p.2
 y2:Sz2 (u/(u-v)) (q.2-p.2)
 y3:Sz2 p.2 (u/(u-v)*(q.2-p.2))
theorem TL (c:Nat) (p q:At) (u v:Rat) (hz:aX p q u v) (W:World) (hc:D7 W c) (hv:AE W) (ht:A7 W):
  Ad Tryz.prog 333 #[Af c,cvV p,cvV q,str (Ac u),str (Ac v)] W (fun _:Unit=>cvV (TJ (u/(u-v)) p q)) (fun _=>True) (fun _=>[]):=by
 refine Ab (args:=[Af c,cvV p,cvV q,str (Ac u),str (Ac v)]) Tryz.func333 I I I (zA (zB (wF I I fun _=>(wF I I fun _=>(wG I I fun _=>(Aa (zE (zA (zB (wP I (wP I (wP I (wP I (wP I (wC I I (fun W hp=>Co c u v hz.s W (hc.hp hp) (hv.hp hp) (ht.hp hp)) (wC I I (fun W hp=>ME c u (u-v) hz.d hz.nz W (hc.hp hp) (hv.hp hp) (ht.hp hp)) (wP I (Aa (zE (zA (zU (qP I (qP I ?_)))))))))))))))))))))))
 refine qB 0 I I I (qP I (qP I (qP I (qP I (qB 1 I I I (qP I (qB 0 I I I (qC I I (fun W hp=>Co c q.1 p.1 hz.x1 W (hc.hp hp) (hv.hp hp) (ht.hp hp)) (qC I I (fun W hp=>CD c (u/(u-v)) (q.1-p.1) hz.x2 W (hc.hp hp) (hv.hp hp) (ht.hp hp)) (qC I I (fun W hp=>FD c p.1 (u/(u-v)*(q.1-p.1)) hz.x3 W (hc.hp hp) (hv.hp hp) (ht.hp hp)) (qP I (A8 (Aa (zE (zA (zU (qP I (qP I (qB 0 I I I (qP I (qP I (qP I (qP I ?_)))))))))))))))))))))))
 refine qB 1 I I I (qP I (qB 0 I I I (qC I I (fun W hp=>Co c q.2 p.2 hz.y1 W (hc.hp hp) (hv.hp hp) (ht.hp hp)) (qC I I (fun W hp=>CD c (u/(u-v)) (q.2-p.2) hz.y2 W (hc.hp hp) (hv.hp hp) (ht.hp hp)) (qC I I (fun W hp=>FD c p.2 (u/(u-v)*(q.2-p.2)) hz.y3 W (hc.hp hp) (hv.hp hp) (ht.hp hp)) (qP I (A8 (Aa (zE (zA (zB (wP I (wP I (Ap Tryz.hZ tH I I I I I I I I ?_))))))))))))))
 exact wS 2 I I I (Aa (zE (zO (Ax tH I (.cell 2 I I I I I) () I tO fun W _=>As.nil _ _))))
theorem PT (q:Rat):decide (GM q<0)=decide (q<0):=by
 refine decide_eq_decide.2 ?_
 have h:q.num<0↔q<0:=by rw[<-Rat.not_le, <-Rat.num_nonneg];omega
 rw[<-h]
 unfold GM
 split
 ·omega
 ·split<;>omega
theorem QG (q:Rat) (W:World):Ad Tryz.prog 334 #[str (Ac q)] W (fun _:Unit=> .bool (decide (q<0))) (fun _=>True) (fun _=>[]):=by
 exact Ab (args:=[str (Ac q)]) Tryz.func334 I I I (zA (zB (wP I (Aa (zE (zA (zB (wP I (wC I I (fun W hp=>Ii q W) (wP I (wU 5 (decide (q<0)) I (PT q) (wP I (Aa (zE (zO (wR1 I I I))))))))))))))))
theorem UP {α:Type} {p:α->Bool} {l:List α} {i:Nat} (hi:i<l.length):(l.drop i).any p=(p l[i]||(l.drop (i+1)).any p):=by
 rw[List.drop_eq_getElem_cons hi,List.any_cons]
theorem OA (g:Nat) (hE:AO Tryz.prog g=true) (F:Rat->Bool) (hg: ∀q W,Ad Tryz.prog g #[str (Ac q)] W (fun _:Unit=> .bool (F q)) (fun _=>True) (fun _=>[])) (l:List Rat) (hn:l.length<=100000) (p:Option Addr) (cap:Nat) (W:World) (hS:EA W p (l.map Ac)):
  Ad Tryz.prog 222 #[slv p l.length cap, .func (.func g) #[] #[]] W (fun z:Int=> .int .i64 z) (fun z=>0<=z↔l.any F=true) (fun _=>[]):=by
 refine Ab (args:=[slv p l.length cap, .func (.func g) #[] #[]]) Tryz.func222 I I I (zA (zB (wP I (Aa (zE (zA (zA (zB (wP I (wP I (wP I (Aa (zE (zH (Ar (X:=Nat) (fun i=>[(0,slv p l.length cap),(1, .func (.func g) #[] #[]),(6,slv p l.length cap),(7, .int .i64 (l.length:Nat)),(8, .int .i64 (i:Nat))]) (fun _=>[]) (fun i=>i<=l.length/\l.any F=(l.drop i).any F) (fun i=>l.length-i) 0 ⟨Nat.zero_le _,by rw[List.drop_zero]⟩ ⟨I,I,I,I,I,tO⟩ [] I ?_)))))))))))))))
 intro i hi
 obtain⟨hi,hA⟩:i<=l.length/\l.any F=(l.drop i).any F:=hi
 refine zA (zB (wP I ?_))
 by_cases hlt:i<l.length
 rotate_left
 ·refine wU 9 false I (dF (by omega)) (Aa (zE (zA (zS I (zJ (zK (zK (zL (zE (zA (zB (wP I (Aa (zE (zO ?_)))))))))))))))
  rw[List.drop_of_length_le (by omega)] at hA
  exact Ax tH I (.tmp I) (-1:Int) I (by rw[hA];exact⟨fun h=>absurd h (by decide),fun h=>absurd (show false=true from h) (by decide)⟩) fun W _=>As.nil _ _
 refine wU 9 true I (dT (by omega)) (Aa (zE (zA (zR I (zI (zE (zA (zH (zA (zB ?_))))))))))
 obtain⟨b,off,rfl,hrow⟩:=hS.row (i:=i) (by rw[List.length_map];exact hlt)
 have hr:=hrow i (by rw[List.length_map];exact hlt)
 rw[List.getElem_map] at hr
 rw[UP hlt] at hA
 obtain⟨q,hq⟩: ∃q,q=l[i]:=⟨_,rfl⟩
 rw[<-hq] at hr hA
 refine wP I (wP I (Aa (zE (zA (zB (wP I (wP I (wP I (wJ ?_)))))))))
 refine wL 0 I I (fun W1 hp=>hr.hp hp) I (Bp (capt:=[]) I I I I I I hE (fun W1 _=>hg q W1) (Aa (zE (Ah I (fun hc=> ?_) (fun hc=> ?_)))))
 ·have hc:F q=true:=hc
  exact zA (zB (wP I (wP I (Aa (zE (zO (zQ (zP (zP (zQ (zP (Ax tH I (.tmp I) ((i:Nat):Int) I ⟨fun _=>by rw[hA,hc];rfl,fun _=>by omega⟩ fun W _=>As.nil _ _))))))))))))
 ·have hc:F q=false:=hc
  rw[hc,Bool.false_or] at hA
  exact zI (zN (zE (zB (wP I (wV 18 ((i+1:Nat):Int) I (Aw (by omega)) (wP I (Aa (Aj (i+1) ⟨hlt,hA⟩ (by show l.length-(i+1)<l.length-i;omega) ⟨I,I,I,I,I,tO⟩ [] I))))))))
theorem KY (g:Nat) (hE:AO Tryz.prog g=true) (F:Rat->Bool) (hg: ∀q W,Ad Tryz.prog g #[str (Ac q)] W (fun _:Unit=> .bool (F q)) (fun _=>True) (fun _=>[])) (l:List Rat) (hn:l.length<=100000) (p:Option Addr) (cap:Nat) (W:World) (hS:EA W p (l.map Ac)):
  Ad Tryz.prog 153 #[slv p l.length cap, .func (.func g) #[] #[]] W (fun _:Unit=> .bool (l.any F)) (fun _=>True) (fun _=>[]):=by
 refine Ab (args:=[slv p l.length cap, .func (.func g) #[] #[]]) Tryz.func153 I I I (zA (zB (wP I (Aa (zE (zA (zB (wP I (wP I (wD (X:=Int) I I (fun W1 hp=>OA g hE F hg l hn p cap W1 (hS.hp hp)) ?_))))))))))
 intro z hz
 have hz:0<=z↔l.any F=true:=hz
 refine wP I ?_
 refine Al 8 (.bool (l.any F)) I (congrArg Value.bool (by
  cases h:l.any F with
  |true=>exact dT (hz.2 h)
  |false=>exact dF fun h2=>by rw[hz.1 h2] at h;cases h)) ?_
 exact wP I (Aa (zE (zO (wR1 I I I))))
theorem TT (p q:Rat):(p<q/\CU p q= -1)\/(p=q/\CU p q=0)\/(q<p/\CU p q=1):=by
 have h1:=BP p q
 have h2:=Nv p q
 rcases Hg p q with e|e|e<;>rw[e] at h1 h2⊢
 ·exact .inl ⟨of_decide_eq_true h1.symm,I⟩
 ·refine .inr (.inl ⟨?_,I⟩)
  have a:=of_decide_eq_false h1.symm
  have b:=of_decide_eq_false h2.symm
  exact Rat.le_antisymm (Rat.not_lt.1 b) (Rat.not_lt.1 a)
 ·exact .inr (.inr ⟨of_decide_eq_true h2.symm,I⟩)
theorem Uz (p q:At):decide (KB p q<0)=Fj p q:=by
 unfold KB Fj
 have h1:=TT p.1 q.1
 have h2:=TT p.2 q.2
 rcases h1 with⟨a,e⟩|⟨a,e⟩|⟨a,e⟩
 ·rw[e,if_neg (by decide),dT a];rfl
 ·rw[e,if_pos rfl,BP,dF (show¬p.1<q.1 by grind),dT a,Bool.false_or,Bool.true_and]
 ·rw[e,if_neg (by decide),dF (show¬p.1<q.1 by grind),dF (show¬p.1=q.1 by grind)];rfl
abbrev ptC (l:List At):List Value:=l.flatMap fun q=>[str (Ac q.1),str (Ac q.2)]
theorem CQ (a b:List At):ptC (a++b)=ptC a++ptC b:=List.flatMap_append
theorem BD (l:List At):(ptC l).length=l.length*2:=by
 induction l with
 |nil=>rfl
 |cons p l ih=>show(ptC l).length+1+1=(l.length+1)*2;rw[ih];omega
theorem Fp (l:List At): ∀u∈ptC l,u.oneCell'=true:=fun u hu=>by
 obtain⟨q,_,h⟩:=List.mem_flatMap.1 hu
 rcases List.mem_cons.1 h with rfl|h
 ·rfl
 ·obtain rfl:=List.mem_singleton.1 h;rfl
theorem Dr {W:World} {g off:Nat} {a b:List Value} (h:Ai W g off (a++b)):Ai W g off a:=⟨h.lt,fun k u hu=>h.get k u (by rw[List.getElem?_append_left (List.getElem?_eq_some_iff.1 hu).1];exact hu)⟩
theorem KF {W:World} {g off:Nat} {a b:List Value} (h:Ai W g off (a++b)):Ai W g (off+a.length) b:=⟨h.lt,fun k u hu=>by
 have:=h.get (a.length+k) u (by rw[List.getElem?_append_right (by omega),Nat.add_sub_cancel_left];exact hu)
 rwa [<-Nat.add_assoc] at this⟩
theorem W4 {l:List At} {i:Nat} (hi:i<l.length):ptC l=ptC (l.take i)++([str (Ac l[i].1),str (Ac l[i].2)]++ptC (l.drop (i+1))):=by
 conv=>lhs;rw[<-List.take_append_drop i l,List.drop_eq_getElem_cons hi,CQ]
 rfl
theorem BY.of_row {W:World} {g off:Nat} {l:List At} {junk:List Value} (h:Ai W g off (ptC l++junk)):BY W (some ⟨g,off,none⟩) l:= .inr ⟨g,off,rfl,fun i hi=>by
 have h1:=Dr h
 rw[W4 hi] at h1
 have h2:=Dr (KF h1)
 rwa [BD,List.length_take,Nat.min_eq_left (Nat.le_of_lt hi)] at h2⟩
theorem QD (c:Nat) (l:List At) (k:Nat) (hk:k<=149) (hs:Ko k l) (h0:0<l.length) (hn:l.length<=100000) (g cap:Nat) (hcap:l.length<=cap) (W:World) (hrow:Ai W g 0 (ptC l)) (hc:D7 W c) (hv:AE W) (ht:A7 W):
  Ad Tryz.prog 335 #[Af c,slv (some ⟨g,0,none⟩) l.length cap] W (fun V:Vec=>V.val l.length) (fun V=>V.OK 2 l.length (ptC (Dv l))) (fun V=>[V.bx 62 (ptC (Dv l))]):=by
 have hrow':Ai W g 0 (ptC l++[]):=by rw[List.append_nil];exact hrow
 have hA:=BY.of_row hrow'
 have hr: ∀i,i<l.length->Ai W g (0+i*2) [str (Ac (Au l i).1),str (Ac (Au l i).2)]:=fun i hi=>by
  obtain⟨g',off',e,h⟩:=hA.at_ hi
  cases e
  rw[Dk hi]
  exact h i hi
 have hlst: ∀i,i<=l.length->CG l i<l.length:=fun i hi=>by
  rcases(Ll l i).1 with e|e<;>omega
 refine Ab (args:=[Af c,slv (some ⟨g,0,none⟩) l.length cap]) Tryz.func335 I I I (zA (zB (wP I (Aa (zE (zA (zB (wP I (Aa (zE (zA (zA (zB (wP I (Aa (zE (zH ?_)))))))))))))))))
 have e1:CG l 1=0:=by show(if Fj (Au l 0) (Au l 0)=true then 0 else 0)=0;split<;>rfl
 refine Ar (X:=Nat) (fun i=>[(0,Af c),(1,slv (some ⟨g,0,none⟩) l.length cap),(5, .int .i64 (CG l i:Nat)),(6, .int .i64 (i:Nat))]) (fun _=>[]) (fun i=>1<=i/\i<=l.length) (fun i=>l.length-i) 1 ⟨Nat.le_refl _,h0⟩ ⟨I,I,congrArg (fun n:Nat=>some (Value.int .i64 (n:Int))) e1.symm,I,tO⟩ [] I ?_
 intro i hi
 obtain⟨hi1,hi⟩:1<=i/\i<=l.length:=hi
 have hls:=hlst i hi
 refine zA (zA (zB (wP I (wP I (wP I (wP I ?_))))))
 by_cases hlt:i<l.length
 ·refine wU 10 true I (dT (by omega)) (Aa (zE (zR I (zI (zE (zA (zH (zA (zU ?_)))))))))
  have hsu:CG l (i+1)=if Fj (Au l i) (Au l (CG l i))=true then i else CG l i:=rfl
  have zi:=hs.at_ h0 i
  have zj:=hs.at_ h0 (CG l i)
  refine qP I (qP I (qP I (qJ ?_)))
  refine qL 0 I I (fun W1 hp=>(hr i hlt).hp hp) I (qP I (qP I (qJ ?_)))
  refine qL 0 I I (fun W1 hp=>(hr (CG l i) hls).hp hp) I (qC I I (fun W1 hp=>SB c (Au l i) (Au l (CG l i)) (sz2 zi.1 zj.1 (by omega)) (sz2 zi.2 zj.2 (by omega)) W1 (hc.hp hp) (hv.hp hp) (ht.hp hp)) (qP I (qU 23 (Fj (Au l i) (Au l (CG l i))) I (Uz _ _) (A8 (Aa (zE (Ah I (fun hc2=> ?_) (fun hc2=> ?_))))))))
  ·have hc2:Fj (Au l i) (Au l (CG l i))=true:=hc2
   rw[if_pos hc2] at hsu
   exact zB (wP I (wP I (Aa (zN (zE (zB (wP I (wP I (wV 12 ((i+1:Nat):Int) I (Aw (by omega)) (wP I (Aa (Aj (i+1) ⟨by omega,hlt⟩ (by show l.length-(i+1)<l.length-i;omega) ⟨I,I,congrArg (fun n:Nat=>some (Value.int .i64 (n:Int))) hsu.symm,I,tO⟩ [] I))))))))))))
  ·have hc2:Fj (Au l i) (Au l (CG l i))=false:=hc2
   rw[hc2,if_neg (by decide)] at hsu
   exact zI (zN (zE (zB (wP I (wP I (wV 12 ((i+1:Nat):Int) I (Aw (by omega)) (wP I (Aa (Aj (i+1) ⟨by omega,hlt⟩ (by show l.length-(i+1)<l.length-i;omega) ⟨I,I,congrArg (fun n:Nat=>some (Value.int .i64 (n:Int))) hsu.symm,I,tO⟩ [] I)))))))))
 have e:i=l.length:=by omega
 subst e
 obtain⟨m,hm⟩: ∃m,m=CG l l.length:=⟨_,rfl⟩
 rw[<-hm] at hls
 rw[<-hm]
 have hB:Dv l=l.drop m++l.take m:=by rw[hm];rfl
 have hBC:ptC (Dv l)=ptC (l.drop m)++ptC (l.take m):=by rw[hB,CQ]
 have hl1:(l.drop m).length=l.length-m:=List.length_drop
 have hl2:(l.take m).length=m:=by rw[List.length_take];omega
 have hsplit:ptC l=ptC (l.take m)++ptC (l.drop m):=by rw[<-CQ,List.take_append_drop]
 have ra:Ai W g 0 (ptC (l.take m)):=by rw[hsplit] at hrow;exact Dr hrow
 have rb:Ai W g (m*2) (ptC (l.drop m)):=by
  rw[hsplit] at hrow
  have:=KF hrow
  rwa [BD,hl2,Nat.zero_add] at this
 refine wU 10 false I (dF (by omega)) (Aa (zE (zS I (zJ (zK (zK (zL (zE (Av ?_)))))))))
 refine AW (X:= { V:Vec//V.OK 2 l.length (ptC (Dv l)) }) [true,true,false,true,true,false,false,false,false] (fun V=>[(4,V.1.val l.length)]) (fun V=>[V.1.bx 62 (ptC (Dv l))])
  5 [] Tryz.mixed (by kernel_rfl) ?_ ?_
 ·refine qP I (qP I (qP I (qP I (BU (wX (RS.cons ?_ (RS.cons ?_ (RS.nil))))))))
  ·refine Du m tH I I I I I I I I (by omega) (by omega) ?_;refine Al 27 (.slice (some ⟨g,m*2,none⟩) (l.length-m) (cap-m)) I (by rw[if_neg (by omega),Nat.zero_add]) ?_
   refine Aa (Ag (wX (wZ (B6 m tH I I I I I I I I (by omega) ?_))))
   refine Aa (Ag (wX (wZ (Ao Tryz.hZ tH I I I I I I I I I I I fun bL1=> ?_))))
   refine Aa (Ag (wX (wZ ?_)))
   refine wD (X:=Vec) rfl rfl (fun W1 hp=>Dp W1 bL1 2 (some ⟨g,m*2,none⟩) (some ⟨g,0,none⟩) (l.length-m) m (cap-m) cap (ptC (l.drop m)) (ptC (l.take m)) (Ai.of_bx hp 0 rfl rfl) (.inr ⟨g,m*2,rfl,rb.hp hp⟩) (.inr ⟨g,0,rfl,ra.hp hp⟩) (by rw[BD,hl1]) (by rw[BD,hl2]) (Fp _) (Fp _) (by omega) (by omega)) ?_;intro V1 hV1;refine Al 32 (V1.val l.length) rfl (by rw[show l.length-m+m=l.length by omega]) ?_
   refine Aa (Ag (wX (wZ (wP I (Aa (Ag ?_))))))
   rw[show l.length-m+m=l.length by omega, <-hBC] at hV1;rw[<-hBC];first|refine AD rfl (by((repeat (first|refine AJ.same ?_|refine AJ.off rfl ?_));exact trivial)) ?_|refine AT rfl (by kernel_rfl) ?_
   exact A4 ⟨V1,hV1⟩ ⟨I,tO⟩ [1] (by decide) I
  ·refine B6 m tH I I I I I I I I (by omega) ?_
   refine Aa (Ag (wX (wZ ?_)))
   refine Du m tH I I I I I I I I (by omega) (by omega) ?_;refine Al 27 (.slice (some ⟨g,m*2,none⟩) (l.length-m) (cap-m)) I (by rw[if_neg (by omega),Nat.zero_add]) ?_
   refine Aa (Ag (wX (wZ (Ao Tryz.hZ tH I I I I I I I I I I I fun bL1=> ?_))))
   refine Aa (Ag (wX (wZ ?_)))
   refine wD (X:=Vec) rfl rfl (fun W1 hp=>Dp W1 bL1 2 (some ⟨g,m*2,none⟩) (some ⟨g,0,none⟩) (l.length-m) m (cap-m) cap (ptC (l.drop m)) (ptC (l.take m)) (Ai.of_bx hp 0 rfl rfl) (.inr ⟨g,m*2,rfl,rb.hp hp⟩) (.inr ⟨g,0,rfl,ra.hp hp⟩) (by rw[BD,hl1]) (by rw[BD,hl2]) (Fp _) (Fp _) (by omega) (by omega)) ?_;intro V1 hV1;refine Al 32 (V1.val l.length) rfl (by rw[show l.length-m+m=l.length by omega]) ?_
   refine Aa (Ag (wX (wZ (wP I (Aa (Ag ?_))))))
   rw[show l.length-m+m=l.length by omega, <-hBC] at hV1;rw[<-hBC];first|refine AD rfl (by((repeat (first|refine AJ.same ?_|refine AJ.off rfl ?_));exact trivial)) ?_|refine AT rfl (by kernel_rfl) ?_
   exact A4 ⟨V1,hV1⟩ ⟨I,tO⟩ [1] (by decide) I
 rintro⟨V,hV⟩
 exact zE (zO (Ax tH I (.tmp I) V I hV fun W1 hp=>As.of_hp hp))
theorem Qd (q:Rat):decide (GM q<=0)=decide (q<=0):=by
 refine decide_eq_decide.2 ?_
 have h:0<q.num↔0<q:=by
  have h1:0<=q.num↔0<=q:=Rat.num_nonneg
  have h2:q.num=0↔q=0:=Rat.num_eq_zero
  constructor
  ·intro h
   exact Rat.lt_of_le_of_ne (h1.1 (by omega)) (fun e=>by rw[<-e] at h;exact absurd h (by decide))
  ·intro h
   have a:=h1.2 (Rat.le_of_lt h)
   have b:q.num≠0:=fun e=>by rw[h2.1 e] at h;exact Rat.lt_irrefl h
   omega
 rw[<-Rat.not_lt, <-h]
 unfold GM
 split
 ·omega
 ·split<;>omega
theorem JU (q:Rat):GM q= -1\/GM q=0\/GM q=1:=by
 unfold GM
 split
 ·exact .inr (.inl I)
 ·split
  ·exact .inl I
  ·exact .inr (.inr I)
theorem XT (u v:Rat):decide (w64 (GM u*GM v)<0)=decide (u*v<0):=by
 have hu:=PT u
 have hu2:=Qd u
 have hv:=PT v
 have hv2:=Qd v
 rw[decide_eq_decide] at hu hu2 hv hv2
 rw[decide_eq_decide,OF]
 have hw:w64 (GM u*GM v)=GM u*GM v:=by
  rcases JU u with a|a|a<;>rcases JU v with b|b|b<;>rw[a,b]<;>rfl
 rw[hw]
 rw[show 0<v↔ ¬v<=0 from Rat.not_le.symm,show 0<u↔ ¬u<=0 from Rat.not_le.symm, <-hu, <-hu2, <-hv, <-hv2]
 rcases JU u with a|a|a<;>rcases JU v with b|b|b<;>rw[a,b]<;>decide
theorem Zo {W0 W:World} {bxs:List Bx} (hp:Hp W0 bxs W) (k:Nat) {g:Nat} {l:List Rat} {junk:List Value} {i:Nat} (hk:nth bxs k=some ⟨g,25,vsC l++junk,true,none⟩) (hi:i<l.length):Ai W g (0+i*1) [str (Ac l[i])]:=by
 have h:=Dr (Ai.of_bx hp k hk rfl)
 refine⟨h.lt,fun m u hu=> ?_⟩
 cases m with
 |zero=>
  obtain rfl:str (Ac l[i])=u:=by simpa using hu
  have:=h.get i (str (Ac l[i])) (by rw[List.getElem?_map,List.getElem?_eq_getElem hi];rfl)
  rw[Nat.zero_add,Nat.mul_one,Nat.add_zero]
  rwa [Nat.zero_add] at this
 |succ m=>simp at hu
structure ClZ (f:Eu) (l:List At):Prop where
 v: ∀q∈l,aW f q
 c: ∀i,i<l.length->f.at (Au l i)*f.at (Au l (i+1))<0->aX (Au l i) (Au l (i+1)) (f.at (Au l i)) (f.at (Au l (i+1)))
 o:Ko 149 (C9 f l)
def EU (f:Eu) (l:List At) (k:Nat):List At:=(DO (Au l) k f).map (VF (Au l))
def GD (f:Eu) (l:List At) (k:Nat):List At:=EU f l k++(if f.at (Au l k)<=0 then[Au l k] else[])
theorem OU (f:Eu) (l:List At) (k:Nat):EU f l (k+1)=GD f l k++(if f.at (Au l k)*f.at (Au l (k+1))<0 then[TJ (f.at (Au l k)/(f.at (Au l k)-f.at (Au l (k+1)))) (Au l k) (Au l (k+1))] else[]):=by
 unfold EU GD
 rw[Qo,Qu,List.append_assoc]
 rfl
theorem Im (f:Eu) (l:List At): ∀k,(EU f l k).length<=2*k
 |0=>Nat.le_refl _
 |k+1=>by
  have ih:=Im f l k
  rw[OU]
  unfold GD
  rw[List.length_append,List.length_append]
  have a:(if f.at (Au l k)<=0 then[Au l k] else[]).length<=1:=by split<;>simp
  have b:(if f.at (Au l k)*f.at (Au l (k+1))<0 then[TJ (f.at (Au l k)/(f.at (Au l k)-f.at (Au l (k+1)))) (Au l k) (Au l (k+1))] else[]).length<=1:=by split<;>simp
  omega
theorem VV (f:Eu) (l:List At) (k:Nat):(GD f l k).length<=2*k+1:=by
 unfold GD
 have:=Im f l k
 rw[List.length_append]
 have a:(if f.at (Au l k)<=0 then[Au l k] else[]).length<=1:=by split<;>simp
 omega
theorem Yf (f:Eu) (l:List At):(l.map f.at).any (fun q=>decide (q<0))=Lh f l:=by
 unfold Lh
 rw[List.any_map];rfl
abbrev ckB (b c:Nat):Bx:=⟨b,315,[Af c],true,none⟩
abbrev lsB (b:Nat) (v:Value):Bx:=⟨b,210,[v],true,none⟩
abbrev nmB (b:Nat) (v:Value):Bx:=⟨b,63,[v],true,none⟩
theorem Ri (c:Nat) (f:Eu) (l:List At) (hz:ClZ f l) (hP:ID l) (h3:3<=l.length) (hn:l.length<=4096) (p:Option Addr) (cap:Nat) (W:World) (hA:BY W p l) (hc:D7 W c) (hv:AE W) (ht:A7 W):
  Ad Tryz.prog 284 #[Af c,slv p l.length cap,str (Ac f.a),str (Ac f.b),str (Ac f.c)] W (fun V:Vec=>V.val (Gs f l).length) (fun V=>V.OK 2 (Gs f l).length (ptC (Gs f l))) (fun V=>[V.bx 62 (ptC (Gs f l))]):=by
 have hn0:0<l.length:=by omega
 have hzz:(l.length:Int)≠0:=by omega
 have hvl:(l.map f.at).length=l.length:=List.length_map _
 refine Ab (args:=[Af c,slv p l.length cap,str (Ac f.a),str (Ac f.b),str (Ac f.c)]) Tryz.func284 I I I (zA (zB (wF I I fun _=>(wF I I fun _=>(wP I (Aa ?_))))))
 rename_i b5 b6
 refine zE (Av ?_)
 refine AW (X:= { s:Nat×Vec//s.2.OK 1 l.length (vsC (l.map f.at)) }) [true,true,true,true,true,false,false,false,false] (fun s=>[(5,Af b5),(6,Af b6),(11,Af s.1.1)]) (fun s=>[ckB b5 c,lsB b6 (slv p l.length cap),nmB s.1.1 (s.1.2.val l.length),s.1.2.bx 25 (vsC (l.map f.at))])
  4 [ckB b5 c,lsB b6 (slv p l.length cap)] Tryz.mixed (by kernel_rfl) ?_ ?_
 ·refine qB 1 I I I (qB 0 I I I (qP I (qP I (qP I (BU (wX (RS.cons ?_ (RS.cons ?_ (RS.nil)))))))))
  ·refine wD (X:=Nat×Nat×Nat×Nat) rfl rfl (fun W1 _=>Kw c f W1) ?_;rintro⟨v4,v5,v6,v7⟩ _
   refine Aa (Ag (wX (RS.cons ?_ (RS.cons ?_ (RS.nil)))))
   ·refine wD (X:=Vec) rfl rfl (fun W1 hp=>G6 l f.at 361 [Af v4,Af v5,Af v6,Af v7] (by kernel_rfl) hn p cap W1 (hA.hp hp) (fun q hq W2 hb=>Gw v4 v5 v6 v7 c f q (hz.v q hq) W2 (Oi.below (by first|exact⟨Ai.of_bx hp 2 rfl rfl,Ai.of_bx hp 3 rfl rfl,Ai.of_bx hp 4 rfl rfl,Ai.of_bx hp 5 rfl rfl,hc.hp hp,hv.hp hp,ht.hp hp⟩|exact⟨Ai.of_bx hp 3 rfl rfl,Ai.of_bx hp 4 rfl rfl,Ai.of_bx hp 5 rfl rfl,Ai.of_bx hp 6 rfl rfl,hc.hp hp,hv.hp hp,ht.hp hp⟩) hb))) ?_;rintro⟨pV1,cV1,jV1⟩ hV1;obtain⟨gV1,rfl⟩: ∃g,pV1=some g:=Option.ne_none_iff_exists'.1 (fun e=>absurd (hV1.nil e) (by omega))
    refine Aa (Ag (wX (wZ ?_)))
    refine B8 Tryz.hZ rfl rfl rfl rfl ?_;intro b11
    refine Aa (Ag (wX (wZ (wS 7 I I I (Aa (Ag ?_))))))
    refine AD I (by((repeat (first|refine AJ.same ?_|refine AJ.off I ?_));exact tO)) ?_
    exact A4 (⟨(b11,⟨some gV1,cV1,jV1⟩),hV1⟩: { s:Nat×Vec//s.2.OK 1 l.length (vsC (l.map f.at)) }) ⟨I,I,I,tO⟩ [0,1,7,6] (by decide) I
   ·refine B8 Tryz.hZ rfl rfl rfl rfl ?_;intro b11
    refine Aa (Ag (wX (wZ ?_)))
    refine wD (X:=Vec) rfl rfl (fun W1 hp=>G6 l f.at 361 [Af v4,Af v5,Af v6,Af v7] (by kernel_rfl) hn p cap W1 (hA.hp hp) (fun q hq W2 hb=>Gw v4 v5 v6 v7 c f q (hz.v q hq) W2 (Oi.below (by first|exact⟨Ai.of_bx hp 2 rfl rfl,Ai.of_bx hp 3 rfl rfl,Ai.of_bx hp 4 rfl rfl,Ai.of_bx hp 5 rfl rfl,hc.hp hp,hv.hp hp,ht.hp hp⟩|exact⟨Ai.of_bx hp 3 rfl rfl,Ai.of_bx hp 4 rfl rfl,Ai.of_bx hp 5 rfl rfl,Ai.of_bx hp 6 rfl rfl,hc.hp hp,hv.hp hp,ht.hp hp⟩) hb))) ?_;rintro⟨pV1,cV1,jV1⟩ hV1;obtain⟨gV1,rfl⟩: ∃g,pV1=some g:=Option.ne_none_iff_exists'.1 (fun e=>absurd (hV1.nil e) (by omega))
    refine Aa (Ag (wX (wZ (wS 6 I I I (Aa (Ag ?_))))))
    refine AD I (by((repeat (first|refine AJ.same ?_|refine AJ.off I ?_));exact tO)) ?_
    exact A4 (⟨(b11,⟨some gV1,cV1,jV1⟩),hV1⟩: { s:Nat×Vec//s.2.OK 1 l.length (vsC (l.map f.at)) }) ⟨I,I,I,tO⟩ [0,1,6,7] (by decide) I
  ·refine B8 Tryz.hZ rfl rfl rfl rfl ?_;intro b11
   refine Aa (Ag (wX (wZ ?_)))
   refine wD (X:=Nat×Nat×Nat×Nat) rfl rfl (fun W1 _=>Kw c f W1) ?_;rintro⟨v4,v5,v6,v7⟩ _
   refine Aa (Ag (wX (wZ ?_)))
   refine wD (X:=Vec) rfl rfl (fun W1 hp=>G6 l f.at 361 [Af v4,Af v5,Af v6,Af v7] (by kernel_rfl) hn p cap W1 (hA.hp hp) (fun q hq W2 hb=>Gw v4 v5 v6 v7 c f q (hz.v q hq) W2 (Oi.below (by first|exact⟨Ai.of_bx hp 2 rfl rfl,Ai.of_bx hp 3 rfl rfl,Ai.of_bx hp 4 rfl rfl,Ai.of_bx hp 5 rfl rfl,hc.hp hp,hv.hp hp,ht.hp hp⟩|exact⟨Ai.of_bx hp 3 rfl rfl,Ai.of_bx hp 4 rfl rfl,Ai.of_bx hp 5 rfl rfl,Ai.of_bx hp 6 rfl rfl,hc.hp hp,hv.hp hp,ht.hp hp⟩) hb))) ?_;rintro⟨pV1,cV1,jV1⟩ hV1;obtain⟨gV1,rfl⟩: ∃g,pV1=some g:=Option.ne_none_iff_exists'.1 (fun e=>absurd (hV1.nil e) (by omega))
   refine Aa (Ag (wX (wZ (wS 2 I I I (Aa (Ag ?_))))))
   refine AD I (by((repeat (first|refine AJ.same ?_|refine AJ.off I ?_));exact tO)) ?_
   exact A4 (⟨(b11,⟨some gV1,cV1,jV1⟩),hV1⟩: { s:Nat×Vec//s.2.OK 1 l.length (vsC (l.map f.at)) }) ⟨I,I,I,tO⟩ [0,1,2,7] (by decide) I
 rintro⟨⟨b11,⟨pV,cV,jV⟩⟩,hV⟩
 obtain⟨gV,rfl⟩: ∃g,pV=some g:=by
  cases pV with
  |none=>have:=hV.nil rfl;omega
  |some g=>exact⟨g,rfl⟩
 have hcapV:=(hV.cap (by simp)).1
 refine zE (zA (zA (zB (wB 0 I I I (AM I I I I ?_)))))
 refine wP I (wL 0 I I (fun W1 hp=>(hc.hp hp).row) I (wP I (Aa (zE (zS I (zI (zE (zA (zB (wG I I fun _=>(Aa ?_)))))))))))
 rename_i b12
 refine zE (zA (zA (zB (wB 1 I I I (wD (X:=Nat) I I (fun W1 _=>Fy p l.length cap W1) ?_)))))
 intro bp _
 refine Aa (zE (zH (CI ?_)))
 refine EE (X:=Nat×Vec) (fun x=>[ckB b5 c,lsB b6 (slv p l.length cap),nmB b11 (.slice (some ⟨gV,0,none⟩) l.length cV),⟨gV,25,vsC (l.map f.at)++jV,true,none⟩,lsB b12 (x.2.val (EU f l x.1).length),lsB bp (slv p l.length cap),x.2.bx 62 (ptC (EU f l x.1))])
  (fun j x=>x.1=j/\x.2.OK 2 (EU f l x.1).length (ptC (EU f l x.1))) (fun _ _=>False) (0,Vec.empty) rfl (by kernel_rfl) (Gp l bp p cap (by omega)) (fun _=>rfl)
  ⟨rfl,Vec.OK.empty 2⟩ [] rfl (fun k x W1 _ hp=>⟨Ai.of_bx hp 5 rfl rfl,hA.hp hp⟩) ?_ ?_ (fun _ _ _ _ _ h=>h.elim)
 ·rintro k ⟨k',O⟩ d l' rec L hk ⟨e1,hO⟩ hrec
  obtain rfl:k'=k:=e1
  have hk:k'<l.length:=hk
  have hO:O.OK 2 (EU f l k').length (ptC (EU f l k')):=hO
  have hol:=Im f l k'
  have hml:=VV f l k'
  have hsl:=Im f l (k'+1)
  have hk2:(k'+1)%l.length<l.length:=Nat.mod_lt _ hn0
  have ev: ∀i (hi:i<l.length),(l.map f.at)[i]'(by rw[hvl];exact hi)=f.at (Au l i):=fun i hi=>by rw[List.getElem_map,Dk hi]
  have hr1: ∀ {W0 W1:World} {bxs:List Bx} (hp:Hp W0 bxs W1) (m:Nat) (hm:nth bxs m=some ⟨gV,25,vsC (l.map f.at)++jV,true,none⟩),Ai W1 gV (0+k'*1) [str (Ac (f.at (Au l k')))]:=fun hp m hm=>by
   have:=Zo hp m hm (i:=k') (by rw[hvl];exact hk)
   rwa [ev k' hk] at this
  have hr2: ∀ {W0 W1:World} {bxs:List Bx} (hp:Hp W0 bxs W1) (m:Nat) (hm:nth bxs m=some ⟨gV,25,vsC (l.map f.at)++jV,true,none⟩),Ai W1 gV (0+((k'+1)%l.length)*1) [str (Ac (f.at (Au l (k'+1))))]:=fun hp m hm=>by
   have:=Zo hp m hm (i:=(k'+1)%l.length) (by rw[hvl];exact hk2)
   rwa [ev _ hk2,KG] at this
  obtain⟨u,hu⟩: ∃u,u=f.at (Au l k'):=⟨_,rfl⟩
  obtain⟨v,hvv⟩: ∃v,v=f.at (Au l (k'+1)):=⟨_,rfl⟩
  have hsu:=OU f l k'
  have hmu:GD f l k'=EU f l k'++(if u<=0 then[Au l k'] else[]):=by rw[hu];rfl
  have hcz:=hz.c k' hk
  rw[<-hu, <-hvv] at hsu hcz
  rw[<-hu] at hr1
  rw[<-hvv] at hr2
  refine zA (zB (wP I (Aa (zE (zB (wG I I fun _=>(wS 10 I I I (Aa ?_))))))))
  rename_i b14
  refine BJ 9 hrec I ?_
  refine Bv (zA (zU (qB 3 I I I (qP I (qJ ?_)))))
  refine qL 0 I I (fun W1 hp=>hr1 hp 4 I) I (qC I I (fun W1 _=>Ii u W1) (qB 3 I I I (qP I (qP I (qV 40 ((k'+1:Nat):Int) I (Aw (by omega)) (qB 2 I I I (qP I (DB I I I I I hzz ?_))))))))
  refine EG 43 (.int .i64 (((k'+1)%l.length:Nat):Int)) I I (qJ ?_)
  refine qL 0 I I (fun W1 hp=>hr2 hp 4 I) I (qC I I (fun W1 _=>Ii v W1) (qP I (qP I (A8 (Aa (zE (zA (zA (zB (wP I (wP I (wU 48 (decide (u<=0)) I (Qd u) (Aa (A6 ?_))))))))))))))
  refine AA (X:=Vec) (fun _=>[(5,Af b5),(6,Af b6),(11,Af b11),(12,Af b12),(13, .int .i64 (k':Nat)),(14,Af b14),(15, .int .i64 (GM u)),(16, .int .i64 (GM v))])
   (fun O=>[AU L,ckB b5 c,lsB b6 (slv p l.length cap),nmB b11 (.slice (some ⟨gV,0,none⟩) l.length cV),⟨gV,25,vsC (l.map f.at)++jV,true,none⟩,lsB b12 (O.val (GD f l k').length),lsB bp (slv p l.length cap),O.bx 62 (ptC (GD f l k')),BG d,Be l' rec .busy none,⟨b14,321,(sdV (Au l k') (Au l (k'+1))).cells.toList,true,none⟩])
   (fun O=>O.OK 2 (GD f l k').length (ptC (GD f l k'))) ?_ ?_
  ·refine Ah I (fun hc1=> ?_) (fun hc1=> ?_)
   ·rw[if_pos (of_decide_eq_true hc1)] at hmu
    have hlm:(EU f l k').length+1=(GD f l k').length:=by rw[hmu,List.length_append];rfl
    refine zB (wB 5 I I I (Ex Tryz.underlying321 Tryz.sizeOf62 I I I I I ⟨by decide,by decide⟩ (wB 10 I I I (Ao Tryz.hZ tH I I I I I I I I I I I fun bS=> ?_))))
    refine AK (V:=O) (len:=(EU f l k').length) (xs:=ptC (EU f l k')) 7 11 Tryz.vec210 (GD f l k').length (ptC (GD f l k')) I I I I I I I I I I I hO I I hlm (by rw[hmu,CQ];rfl) (by simp only[maxLen];omega) (by omega) I ?_
    intro gO cO jO hO1
    exact wS 5 I I I (Aa (An ⟨some gO,cO,jO⟩ hO1 ⟨I,I,I,I,I,I,I,I,tO⟩ [_] I))
   ·rw[if_neg (of_decide_eq_false hc1),List.append_nil] at hmu
    exact zI (An O (by rw[hmu];exact hO) ⟨I,I,I,I,I,I,I,I,tO⟩ [] (by rw[hmu];rfl))
  intro O1 hO1
  have hO1:O1.OK 2 (GD f l k').length (ptC (GD f l k')):=hO1
  refine zA (zB (wP I (wP I (wP I (wP I (wU 57 (decide (u*v<0)) I (XT u v) (Aa (zE (Ah I (fun hc2=> ?_) (fun hc2=> ?_))))))))))
  ·have hc2':u*v<0:=of_decide_eq_true hc2
   rw[if_pos hc2'] at hsu
   have hlm:(GD f l k').length+1=(EU f l (k'+1)).length:=by rw[hsu,List.length_append];rfl
   refine AW (X:= { O:Vec//O.OK 2 (EU f l (k'+1)).length (ptC (EU f l (k'+1))) }) [true,true,true,true,true,true,true,true,true,true,true,true,true,true,true,true,true,true,true,false,false,false] (fun _=>[(5,Af b5)])
    (fun O=>[AU L,ckB b5 c,lsB b6 (slv p l.length cap),nmB b11 (.slice (some ⟨gV,0,none⟩) l.length cV),⟨gV,25,vsC (l.map f.at)++jV,true,none⟩,lsB b12 (O.1.val (EU f l (k'+1)).length),lsB bp (slv p l.length cap),O.1.bx 62 (ptC (EU f l (k'+1))),BG d,Be l' rec .busy none])
    3 [AU L,ckB b5 c,lsB b6 (slv p l.length cap),nmB b11 (.slice (some ⟨gV,0,none⟩) l.length cV),⟨gV,25,vsC (l.map f.at)++jV,true,none⟩,lsB b12 (O1.val (GD f l k').length),lsB bp (slv p l.length cap),O1.bx 62 (ptC (GD f l k')),BG d,Be l' rec .busy none,⟨b14,321,(sdV (Au l k') (Au l (k'+1))).cells.toList,true,none⟩] Tryz.mixed (by kernel_rfl) ?_ ?_
   ·refine qB 5 I I I (qB 1 I I I (By Tryz.underlying321 Tryz.sizeOf62 I I I I I ⟨by decide,by decide⟩ (qB 10 I I I (By Tryz.underlying321 Tryz.sizeOf62 I I I I I ⟨by decide,by decide⟩ (qB 10 I I I (qB 3 I I I (qP I (qJ ?_))))))))
    refine qL 0 I I (fun W1 hp=>hr1 hp 4 I) I (qB 3 I I I (qP I (qP I (qV 70 ((k'+1:Nat):Int) I (Aw (by omega)) (qB 2 I I I (qP I (DB I I I I I hzz ?_)))))))
    refine EG 73 (.int .i64 (((k'+1)%l.length:Nat):Int)) I I (qJ ?_)
    refine qL 0 I I (fun W1 hp=>hr2 hp 4 I) I (qC I I (fun W1 hp=>TL c (Au l k') (Au l (k'+1)) u v (hcz hc2') W1 (hc.hp hp) (hv.hp hp) (ht.hp hp)) (BU (wX (wZ (Ao Tryz.hZ tH I I I I I I I I I I I fun bS=> ?_)))))
    refine Aa (Ag (wX (wZ ?_)))
    refine AK (V:=O1) (len:=(GD f l k').length) (xs:=ptC (GD f l k')) 7 11 Tryz.vec210 (EU f l (k'+1)).length (ptC (EU f l (k'+1))) rfl rfl rfl rfl rfl rfl rfl rfl rfl rfl rfl hO1 rfl rfl hlm (by rw[hsu,CQ];rfl) (by simp only[maxLen];omega) (by omega) rfl ?_;intro gO cO jO hO2
    refine Aa (Ag (wY (wZ (wS 5 I I I (Aa (Ag (AT I (by kernel_rfl) ?_)))))))
    exact A4 (⟨⟨some gO,cO,jO⟩,hO2⟩: { O:Vec//O.OK 2 (EU f l (k'+1)).length (ptC (EU f l (k'+1))) }) ⟨I,tO⟩ [0,1,2,3,4,5,6,7,8,9] (by decide) I
   rintro⟨O2,hO2⟩
   exact zN (Bk 9 (k'+1,O2) hrec I ⟨I,hO2⟩ [] I)
  ·rw[if_neg (of_decide_eq_false hc2),List.append_nil] at hsu
   exact zI (zN (Bk 9 (k'+1,O1) hrec I ⟨I,by show O1.OK 2 (EU f l (k'+1)).length (ptC (EU f l (k'+1)));rw[hsu];exact hO1⟩ [_] (by rw[hsu];rfl)))
 ·rintro⟨k',O⟩ d l' rec ⟨e1,hO⟩
  obtain rfl:k'=l.length:=e1
  have hO:O.OK 2 (C9 f l).length (ptC (C9 f l)):=hO
  have hoe:EU f l l.length=C9 f l:=rfl
  have hol:=Im f l l.length
  rw[hoe] at hol
  rw[hoe]
  refine zN (zE (zA (zA (zB (wB 0 I I I (AM I I I I ?_))))))
  refine wP I (wL 0 I I (fun W1 hp=>(hc.hp hp).row) I (wP I (wP I (wB 2 I I I ?_))))
  refine wC I I (fun W1 hp=>(by
   have h:=KY 334 (by kernel_rfl) (fun q=>decide (q<0)) QG (l.map f.at) (by rw[hvl];omega) (some ⟨gV,0,none⟩) cV W1 (.inr ⟨gV,0,rfl,by
    have:=Dr (Ai.of_bx hp 3 rfl rfl:Ai W1 gV 0 (vsC (l.map f.at)++jV))
    rw[List.map_map];exact this⟩)
   rwa [hvl,Yf] at h)) ?_
  cases hneg:Lh f l with
  |false=>
   refine wP I (wP I (Aa (zE (zR I (zA (zB (wP I (Aa (zE (zO (zP (Ci 7 I ?_))))))))))))
   have e0:Gs f l=[]:=by unfold Gs;rw[hneg];rfl
   exact Ax tH I (.tmp I) Vec.empty (by rw[e0];rfl) (by rw[e0];exact Vec.OK.empty 2) fun W1 hp=>by
    rw[e0]
    exact Own.one (fun p hp=>by cases hp) List.nodup_nil
  |true=>
   have e0:Gs f l=Dv (C9 f l):=by unfold Gs;rw[hneg];rfl
   have hlb:(Dv (C9 f l)).length=(C9 f l).length:=TR (VE _)
   obtain⟨q,hq,hqn⟩:=T0.1 hneg
   have hpos:0<(C9 f l).length:=by
    obtain⟨i,hi,e⟩:=F7 hq
    have:=YD hP hi (by rw[e];exact hqn)
    rw[Rh]
    omega
   obtain⟨pO,cO,jO⟩:=O
   obtain⟨gO,rfl⟩: ∃g,pO=some g:=Option.ne_none_iff_exists'.1 (fun e=>absurd (hO.nil e) (by omega))
   have hcO:=(hO.cap (by simp)).1
   refine wP I (wP I (Aa (zE (zS I (zI (zE (zA (zB (wB 0 I I I (wB 4 I I I (wD (X:=Vec) I I (fun W1 hp=>QD c (C9 f l) 149 (by decide) hz.o hpos (by omega) gO cO hcO W1 (Dr (Ai.of_bx hp 6 I I:Ai W1 gO 0 (ptC (C9 f l)++jO))) (hc.hp hp) (hv.hp hp) (ht.hp hp)) ?_)))))))))))
   intro V2 hV2
   have hV2:V2.OK 2 (C9 f l).length (ptC (Dv (C9 f l))):=hV2
   refine wP I (Aa (zE (zO (Ci 7 I ?_))))
   exact Ax tH I (.tmp I) V2 (by rw[e0,hlb]) (by rw[e0,hlb];exact hV2) fun W1 hp=>by
    rw[e0]
    exact As.of_hp (hp.pick (l:=[V2.bx 62 (ptC (Dv (C9 f l)))]) [9] (by decide) I)
theorem Pq : ∃ f1 f2 : Field, (Tryz.prog.fieldsOf 62).toList = [f1, f2] /\ (f1.name ≠ "_" /\ f1.type = 25 /\ f1.offset = 0) /\ (f2.name ≠ "_" /\ f2.type = 25 /\ f2.offset = 1) := by
 unfold Program.fieldsOf;rw[Tryz.underlying62]
 exact⟨_,_,I,⟨by decide,I,I⟩,⟨by decide,I,I⟩⟩
theorem ZW (W:World) (a b c d:List UInt8):(binOp .eql 62 (.agg #[str a,str b]) (.agg #[str c,str d])).run Tryz.prog W= .ok (.bool (decide (a=c/\b=d))) W:=by
 rw[run_eql_struct,run_equalIn_agg W 9999 62 _ _ (by kernel_rfl) (by kernel_rfl)]
 obtain⟨f1,f2,hf,⟨n1,t1,o1⟩,⟨n2,t2,o2⟩⟩:=Pq
 rw[hf]
 have e: ∀(x y:List UInt8) W,(Op.equalIn 9999 25 (str x) (str y)).run Tryz.prog W= .ok (decide (x=y)) W:=fun x y W=>by
  rw[run_equalIn_string W 9998 25 _ _ Tryz.underlying25,AS]
 by_cases h1:a=c<;>by_cases h2:b=d<;>simp[Op.eqFields,part,Tryz.isAgg25,e,h1,h2,n1,n2,t1,t2,o1,o2]
theorem ZA (W:World) (a b c d:List UInt8):(binOp .neq 62 (.agg #[str a,str b]) (.agg #[str c,str d])).run Tryz.prog W= .ok (.bool (!decide (a=c/\b=d))) W:=by
 rw[run_neq_struct,run_equalIn_agg W 9999 62 _ _ (by kernel_rfl) (by kernel_rfl)]
 obtain⟨f1,f2,hf,⟨n1,t1,o1⟩,⟨n2,t2,o2⟩⟩:=Pq
 rw[hf]
 have e: ∀(x y:List UInt8) W,(Op.equalIn 9999 25 (str x) (str y)).run Tryz.prog W= .ok (decide (x=y)) W:=fun x y W=>by
  rw[run_equalIn_string W 9998 25 _ _ Tryz.underlying25,AS]
 by_cases h1:a=c<;>by_cases h2:b=d<;>simp[Op.eqFields,part,Tryz.isAgg25,e,h1,h2,n1,n2,t1,t2,o1,o2]
section
variable {r:Option Nat} {n:Nat} {N:Nat} {D:List Deferred} {ops:List Oper} {Q:Exit->Act->World->Prop} {o:Oper} {rest:List Oper} {env:Env} {A A2:World->Prop} {R:Act->World->Prop}
theorem QQ (a b c d:List UInt8) {t:Nat} {u:TypeId} {x y:Operand} (hg:Ay ops N env o=some true) (hd:o.dst=some t) (ho:o.op= .binOp .eql 62 x y u)
  (hx:evO N env x=some (.agg #[str a,str b])) (hy:evO N env y=some (.agg #[str c,str d]))
  (h:WQ Tryz.prog N D ops A2 R rest ((t, .bool (decide (a=c/\b=d)))::env) A):WQ Tryz.prog N D ops A2 R (o::rest) env A:=
 DS hg hd (fun c e=>by rw[ho] at e;cases e) (fun _ W hρ _=>by
  have hm:Tryz.prog.eqGuardType Tryz.prog.depth 62=false:=by kernel_rfl
  simp[execOp,ho,hρ _ _ hx,hρ _ _ hy,run_eqGuard_agg W .eql 62 x y _ _ hm,ZW]) h
theorem Y3 (a b c d:List UInt8) {t:Nat} {u:TypeId} {x y:Operand} (hg:Ay ops N env o=some true) (hd:o.dst=some t) (ho:o.op= .binOp .neq 62 x y u)
  (hx:evO N env x=some (.agg #[str a,str b])) (hy:evO N env y=some (.agg #[str c,str d]))
  (h:WQ Tryz.prog N D ops A2 R rest ((t, .bool (!decide (a=c/\b=d)))::env) A):WQ Tryz.prog N D ops A2 R (o::rest) env A:=
 DS hg hd (fun c e=>by rw[ho] at e;cases e) (fun _ W hρ _=>by
  have hm:Tryz.prog.eqGuardType Tryz.prog.depth 62=false:=by kernel_rfl
  simp[execOp,ho,hρ _ _ hx,hρ _ _ hy,run_eqGuard_agg W .neq 62 x y _ _ hm,ZA]) h
end
theorem X3 {N:Nat} {D:List Deferred} {Q:Exit->Act->World->Prop} {ex:Exit} {env:Env} {W0:World} {bxs bxs':List Bx} (e:bxs=bxs') (h:NE N D Q ex env (Hp W0 bxs')):NE N D Q ex env (Hp W0 bxs):=e▸h
theorem Za:Ac 2=[50]:=(congrArg Ac (show(2:Rat)=q2 2 1 by decide+kernel)).trans ns2
structure bL (p q:At):Prop where
 x:Sz2 p.1 q.2
 y:Sz2 q.1 p.2
 s:Sz2 (p.1*q.2) (q.1*p.2)
theorem Sk (c:Nat) (p q:At) (hz:bL p q) (W:World) (hc:D7 W c) (hv:AE W) (ht:A7 W):
  Ad Tryz.prog 288 #[Af c,sdV p q] W (fun _:Unit=>str (Ac (V3 p q))) (fun _=>True) (fun _=>[]):=by
 refine Ab (args:=[Af c,sdV p q]) Tryz.func288 I I I (zA (zB (wF I I fun _=>(wP I (Aa (zE (zA (zU (qP I (By Tryz.underlying321 Tryz.sizeOf62 I I I I I ⟨by decide,by decide⟩ (qP I (qB 0 I I I (By Tryz.underlying321 Tryz.sizeOf62 I I I I I ⟨by decide,by decide⟩ (qP I (qB 0 I I I (qC I I (fun W hp=>CD c p.1 q.2 hz.x W (hc.hp hp) (hv.hp hp) (ht.hp hp)) (qP I (By Tryz.underlying321 Tryz.sizeOf62 I I I I I ⟨by decide,by decide⟩ (qP I (qB 0 I I I (By Tryz.underlying321 Tryz.sizeOf62 I I I I I ⟨by decide,by decide⟩ (qP I (qB 0 I I I ?_)))))))))))))))))))))))
 exact qC I I (fun W hp=>CD c q.1 p.2 hz.y W (hc.hp hp) (hv.hp hp) (ht.hp hp)) (qP I (qP I (A8 (Aa (zE (zA (zB (wP I (wP I (wP I (wC I I (fun W hp=>Co c (p.1*q.2) (q.1*p.2) hz.s W (hc.hp hp) (hv.hp hp) (ht.hp hp)) (wP I (Aa (zE (zO (wR1 I I I))))))))))))))))
def crK (l:List At) (k:Nat):Rat:=TN (fun i=>V3 (Au l i) (Au l (i+1))) k
theorem W6 (l:List At) (k:Nat):crK l (k+1)=crK l k+V3 (Au l k) (Au l (k+1)):=rfl
structure ArZ (l:List At):Prop where
 d: ∀i,i<l.length->bL (Au l i) (Au l (i+1))
 s: ∀i,i<l.length->Sz2 (crK l i) (V3 (Au l i) (Au l (i+1)))
 h:Sz2 (Q2 l) 2
abbrev caB (c:Nat):Bx:=⟨c,317,[.int .i64 0],true,none⟩
abbrev nuB (b:Nat) (q:Rat):Bx:=⟨b,25,[str (Ac q)],true,none⟩
theorem Sl (l:List At) (hz:ArZ l) (p:Option Addr) (cap:Nat) (W:World) (h:Nq W p l):
  Ad Tryz.prog 236 #[slv p l.length cap] W (fun _:Unit=> .tuple #[str (Ac (Q2 l/2)), .int .i64 0]) (fun _=>True) (fun _=>[]):=by
 have hn:=h.n
 refine Ab (args:=[slv p l.length cap]) Tryz.func236 I I I (zA (zB (wP I (wP I (Aa (zE (zA (zA (zB (wP I (wC I I (fun W1 hp=>OH l p cap W1 (h.hp hp)) (wP I (Aa (zE (zA (zB (wP I (wP I (Aa (zE (zS I (zI (zE ?_)))))))))))))))))))))))
 refine zA (zB (Ap Tryz.hZ tH I I I I I I I I ?_))
 refine wF I I fun _=>(wG I I fun _=>(wG I I fun _=>(wS 1 I I I (wS 2 I I I (Aa ?_)))))
 rename_i bC b5 b6
 refine X3 (bxs':=[caB bC,ckB b5 bC,nuB b6 (crK l 0)]) (by show _=[caB bC,ckB b5 bC,nuB b6 0];rw[nuB,Cv];rfl) ?_
 refine zE (zA (zA (zB (wP I (wD (X:=Nat) I I (fun W1 _=>Fy p l.length cap W1) ?_)))))
 intro bp _
 refine Aa (zE (zH ?_))
 refine EE (X:=Nat) (fun k=>[caB bC,ckB b5 bC,nuB b6 (crK l k),lsB bp (slv p l.length cap)])
  (fun j x=>x=j) (fun _ _=>False) 0 rfl (by kernel_rfl) (Gp l bp p cap (by omega)) (fun _=>rfl)
  rfl [] rfl (fun k x W1 _ hp=>⟨Ai.of_bx hp 3 rfl rfl,(h.hp hp).m⟩) ?_ ?_ (fun _ _ _ _ _ h=>h.elim)
 ·rintro k k' d l' rec L hk e1 hrec
  obtain rfl:k'=k:=e1
  have hk:k'<l.length:=hk
  have hsu:=W6 l k'
  refine zB (wG I I fun _=>(wS 7 I I I (Aa ?_)))
  rename_i b8
  refine BJ 6 hrec I ?_
  refine Bv ?_
  refine AW (X:=Unit) [true,true,true,true,true,true,false] (fun _=>[(5,Af b5)]) (fun _=>[AU L,caB bC,ckB b5 bC,nuB b6 (crK l (k'+1)),lsB bp (slv p l.length cap),BG d,Be l' rec .busy none])
   1 [AU L,caB bC,ckB b5 bC,nuB b6 (crK l k'),lsB bp (slv p l.length cap),BG d,Be l' rec .busy none,⟨b8,321,(sdV (Au l k') (Au l (k'+1))).cells.toList,true,none⟩] Tryz.mixed (by kernel_rfl) ?_ ?_
  ·refine qB 2 I I I (qB 3 I I I (qB 2 I I I (qB 7 I I I (qC I I (fun W1 hp=>Sk bC (Au l k') (Au l (k'+1)) (hz.d k' hk) W1 (EK hp 1 I) (h.hp hp).v (h.hp hp).t) (qC I I (fun W1 hp=>FD bC (crK l k') (V3 (Au l k') (Au l (k'+1))) (hz.s k' hk) W1 (EK hp 1 I) (h.hp hp).v (h.hp hp).t) (BU ?_))))))
   rw[<-hsu]
   refine wX (wZ (wS 3 I I I (Aa (Ag (AT I (by kernel_rfl) ?_)))))
   exact A4 () ⟨I,tO⟩ [0,1,2,3,4,5,6] (by decide) I
  intro _
  exact zN (Bk 6 (k'+1) hrec I I [] I)
 ·rintro k' d l' rec e1
  obtain rfl:k'=l.length:=e1
  refine zN (zE (zA (zA (zB (wB 1 I I I (wB 2 I I I (wC I I (fun W1 hp=>(by have:=ME bC (Q2 l) 2 hz.h (by decide) W1 (EK hp 0 I) (h.hp hp).v (h.hp hp).t;rwa [Za] at this)) (wP I (Aa (zE (zA (zB (wB 1 I I I (AM I I I I ?_))))))))))))))
  refine wP I (wB 0 I I I (wP I (Aa (zE (zR I (zA (zB (wP I (wP I (wP I (Aa (zE (zO (zP (Ci 4 I ?_)))))))))))))))
  exact wR2 I I I
abbrev ptB (b:Nat) (a c:List UInt8):Bx:=⟨b,62,[str a,str c],true,none⟩
section
variable {P:Program} {W0:World} {N:Nat} {D:List Deferred} {ops:List Oper} {o:Oper} {rest:List Oper} {env:Env} {bxs:List Bx} {A2:World->Prop} {R:Act->World->Prop}
theorem Pa {ρ:Operand->Value} {c:Call} {f:Operand} {g:Nat} {first vs:List Value} {W:World} (ho:o.op= .call c) (hc:c.callee= .value f) (hf:ρ f= .func (.func g) first.toArray #[]) (ha:c.args.map ρ=vs.toArray) (hE:AO P g=true):
  (execOp ρ o).run P W= .ok (.enter g (first++vs).toArray) W:=by
 simp only[execOp,ho,resolve,hc,hf,ha,Sem.run_bind,Deferred.ofValue,Sem.run_pure,Result.andThen_ok,invoke,Gh hE]
 simp
theorem WF {c:Call} {f:Operand} {g d:Nat} {first vs:List Value} {v:Value}
  (hg:Ay ops N env o=some true) (hd:o.dst=some d) (ho:o.op= .call c) (hc:c.callee= .value f) (hf:evO N env f=some (.func (.func g) first.toArray #[])) (ha:Ch (evO N env) c.args.toList=some vs) (hE:AO P g=true)
  (hC: ∀W,Hp W0 bxs W->Ad P g (first++vs).toArray W (fun _:Unit=>v) (fun _=>True) (fun _=>[]))
  (h:WQ P N D ops A2 R rest ((d,v)::env) (Hp W0 bxs)):WQ P N D ops A2 R (o::rest) env (Hp W0 bxs):=
 Mb hd (fun a W h1 _ hp=>by
  unfold OpS
  rw[Eg h1 hg,if_pos rfl]
  refine⟨fun c e=>(by rw[ho] at e;cases e), .inr ⟨g,_,Pa ho hc (A9 h1 _ _ hf) (Ev (A9 h1) ha) hE,(hC W hp).out.mono ?_⟩⟩
  rintro e W' ⟨x,he,_,hb,_⟩
  exact⟨he,hp.grow hb,hb⟩) h
end
theorem Tw (x:Nat) (h:x<=18446744073709551615) (W:World):Ad Tryz.prog 358 #[.int .u64 (x:Nat)] W (fun _:Unit=> .int .i64 (Lib.bitLen x)) (fun _=>True) (fun _=>[]):=by
 refine Ad.of1 ((Go.Proofs.Any.bits_Len (P:=Tryz.prog) (ρ:=Tryz.lays125_ren) { Tryz.lays125 with } (x:Int) W (by omega) (by omega)).mono ?_)
 rintro e w' ⟨rfl,rfl⟩
 exact⟨I,Below.refl _ _⟩
abbrev lsF (c:Nat):Value:= .func (.func 323) #[Af c] #[]
abbrev BI (g:Nat) (l:List At) (junk:List Value):Bx:=⟨g,62,ptC l++junk,true,none⟩
def HF (x:At):List At->List At
 |[]=>[x]
 |y::l=>if Fj x y=true then x::y::l else y::HF x l
def CE (l:List At):List At:=l.foldl (fun s x=>HF x s) []
theorem S9 (x:At): ∀l,(HF x l).length=l.length+1
 |[]=>rfl
 |y::l=>by
  unfold HF
  split
  ·rfl
  ·rw[List.length_cons,S9 x l];rfl
theorem MQ {x y:At}: ∀ {l:List At},y∈HF x l↔y=x\/y∈l
 |[]=>by simp[HF]
 |z::l=>by
  unfold HF
  split
  ·simp
  ·rw[List.mem_cons,MQ (l:=l),List.mem_cons]
   constructor
   ·rintro(h|h|h)
    ·exact .inr (.inl h)
    ·exact .inl h
    ·exact .inr (.inr h)
   ·rintro(h|h|h)
    ·exact .inr (.inl h)
    ·exact .inl h
    ·exact .inr (.inr h)
theorem L7 {a b c:At} (h1: ¬Cr b a) (h2: ¬Cr c b): ¬Cr c a:=fun h=>by
 rcases KU a b with d|d|d
 ·exact h2 (SF h d)
 ·subst d;exact h2 h
 ·exact h1 d
abbrev SrC (l:List At):Prop:=l.Pairwise fun a b=> ¬Cr b a
theorem RV {x:At}: ∀ {l:List At},SrC l->SrC (HF x l)
 |[],_=>List.pairwise_cons.2 ⟨fun _ h=>absurd h List.not_mem_nil,List.Pairwise.nil⟩
 |y::l,h=>by
  have⟨h1,h2⟩:=List.pairwise_cons.1 h
  unfold HF
  split
  ·rename_i c
   have c:=Dl.1 c
   refine List.pairwise_cons.2 ⟨fun z hz=> ?_,h⟩
   rcases List.mem_cons.1 hz with rfl|hz
   ·exact Ji c
   ·exact L7 (Ji c) (h1 z hz)
  ·rename_i c
   refine List.pairwise_cons.2 ⟨fun z hz=> ?_,RV h2⟩
   rcases MQ.1 hz with rfl|hz
   ·exact fun d=>c (Dl.2 d)
   ·exact h1 z hz
theorem IK: ∀(l s:List At),SrC s->SrC (l.foldl (fun s x=>HF x s) s)/\(l.foldl (fun s x=>HF x s) s).length=s.length+l.length/\ ∀y,y∈l.foldl (fun s x=>HF x s) s↔y∈s\/y∈l
 |[],s,h=>⟨h,rfl,fun y=>by simp⟩
 |x::l,s,h=>by
  obtain⟨a,b,c⟩:=IK l (HF x s) (RV h)
  refine⟨a,by rw[List.foldl_cons,b,S9,List.length_cons];omega,fun y=> ?_⟩
  rw[List.foldl_cons,c,MQ,List.mem_cons]
  constructor
  ·rintro((h|h)|h)
   ·exact .inr (.inl h)
   ·exact .inl h
   ·exact .inr (.inr h)
  ·rintro(h|h|h)
   ·exact .inl (.inr h)
   ·exact .inl (.inl h)
   ·exact .inr h
theorem Sz (l:List At):SrC (CE l):=(IK l [] List.Pairwise.nil).1
theorem NT (l:List At):(CE l).length=l.length:=by
 have:=(IK l [] List.Pairwise.nil).2.1
 rw[List.length_nil,Nat.zero_add] at this;exact this
theorem Rx {l:List At} {y:At}:y∈CE l↔y∈l:=by
 have:=(IK l [] List.Pairwise.nil).2.2 y
 exact this.trans (by simp)
theorem V7 (l:List At) {i:Nat} (hi:i<l.length):CE (l.take (i+1))=HF l[i] (CE (l.take i)):=by
 rw[CE,List.take_add_one,List.getElem?_eq_getElem hi,List.foldl_append];rfl
theorem Mu {x:At}: ∀(s:List At) (j:Nat),j<=s.length->(∀y∈s.take j, ¬Cr x y)->(∀y∈s.drop j,Cr x y)->HF x s=s.take j++x::s.drop j
 |[],j,hj,_,_=>by
  obtain rfl:j=0:=by simpa using hj
  rfl
 |y::l,0,_,_,h2=>by
  unfold HF
  rw[if_pos (Dl.2 (h2 y (List.mem_cons_self ..)))];rfl
 |y::l,j+1,hj,h1,h2=>by
  unfold HF
  rw[if_neg (fun c=>h1 y (by simp) (Dl.1 c)),Mu l j (by simpa using hj) (fun z hz=>h1 z (by simp[hz])) (fun z hz=>h2 z (by simpa using hz))]
  rfl
theorem VD {x:At} {s:List At} {j:Nat} (hs:SrC s) (hj:j<=s.length) (h2: ∀y∈s.drop j,Cr x y) (h1: ∀(h:0<j), ¬Cr x s[j-1]):HF x s=s.take j++x::s.drop j:=by
 refine Mu s j hj (fun y hy=> ?_) h2
 obtain⟨k,hk,rfl⟩:=List.getElem_of_mem hy
 have hk':k<j:=by simp at hk;omega
 rw[List.getElem_take]
 have h3:=h1 (by omega)
 by_cases e:k=j-1
 ·subst e;exact h3
 ·exact L7 (List.pairwise_iff_getElem.1 hs k (j-1) (by omega) (by omega) (by omega)) h3
theorem Tx (l:List At):CE (l.take 1)++l.drop 1=l:=by
 cases l with
 |nil=>rfl
 |cons x l=>rfl
abbrev K9 (c:Nat) (x y:At) (W:World):Prop:=Ad Tryz.prog 323 #[Af c,cvV x,cvV y] W (fun _:Unit=> .int .i64 (KB x y)) (fun _=>True) (fun _=>[])
theorem T8 (c:Nat) (W:World) (g cap:Nat) (l:List At) (junk:List Value) (hn:l.length<4611686018427387904) (hg:W.heap[g]? =some (.cells (ptC l++junk).toArray 62 (0,0)))
  (hf: ∀W',HC W W' g-> ∀x∈l, ∀y∈l,K9 c x y W'):
  Calls Tryz.prog 373 #[.slice (some ⟨g,0,none⟩) l.length cap, .int .i64 0, .int .i64 (l.length:Nat),lsF c] W fun e W'=> ∃x:Unit,e= .returned ((fun _=> .tuple #[]) x)/\True/\NM W W' g ((fun _=>g) x) ((fun _=> .cells (ptC (CE l)++junk).toArray 62 (0,0)) x):=by
 have key:Calls Tryz.prog 373 [.slice (some ⟨g,0,none⟩) l.length cap, .int .i64 0, .int .i64 (l.length:Nat),lsF c].toArray W fun e W'=> ∃x:Unit,e= .returned ((fun _=> .tuple #[]) x)/\(fun _=>True) x/\Below (Bc W).heap.size (Bc W) W'/\As (Bc W) W' ((fun _=>[AU (Az W g),BI g (CE l) junk]) x):=by
  refine CS (X:=Unit) (val:=fun _=> .tuple #[]) (Φ:=fun _=>True) (nb:=fun _=>[AU (Az W g),BI g (CE l) junk]) (Hp.enterT (B:=BI g l junk) I hg) Tryz.func373 I I I ?_
  refine zA (zB (wP I (wP I (wP I (Aa (zE (zH ?_)))))))
  refine Ar (X:=Nat) (fun i=>[(0, .slice (some ⟨g,0,none⟩) l.length cap),(1, .int .i64 0),(2, .int .i64 (l.length:Nat)),(3,lsF c),(8, .int .i64 (i:Nat))]) (fun i=>[AU (Az W g),BI g (CE (l.take i)++l.drop i) junk])
   (fun i=>1<=i/\(i<=l.length\/i=1)) (fun i=>l.length+1-i) 1 ⟨Nat.le_refl _, .inr rfl⟩ ⟨rfl,rfl,rfl,rfl,rfl,trivial⟩ [] (by rw[Tx];rfl) ?_
  rintro i ⟨hi1,hi2⟩
  refine zA (zA (zB (wP I (wP I (wP I ?_)))))
  by_cases hlt:i<l.length
  rotate_left
  ·refine wU 14 false I (dF (by omega)) (Aa (zE (zS I (zJ (zK (zK (zL ?_)))))))
   have e:CE (l.take i)++l.drop i=CE l:=by rw[List.take_of_length_le (by omega),List.drop_of_length_le (by omega),List.append_nil]
   refine U0 (X:=Unit) (val:=fun _=> .tuple #[]) (Φ:=fun _=>True) (nb:=fun _=>[AU (Az W g),BI g (CE l) junk]) (fn:=Tryz.f373) tH I () I tO fun W1 hp=> ?_
   rw[e] at hp
   exact(hp.pick (l:=[AU (Az W g),BI g (CE l) junk]) [0,1] (by decide) I).own
  refine wU 14 true I (dT (by omega)) (Aa (zE (zR I (zI (zE (zA (zH (zA (zB (wP I (wP I (Aa (zE (zH ?_))))))))))))))
  obtain⟨s,hs⟩: ∃s,s=CE (l.take i):=⟨_,rfl⟩
  obtain⟨x,hx⟩: ∃x,x=l[i]:=⟨_,rfl⟩
  obtain⟨rr,hr⟩: ∃rr,rr=l.drop (i+1):=⟨_,rfl⟩
  have hsl:s.length=i:=by rw[hs,NT,List.length_take];omega
  have hsort:SrC s:=hs▸Sz _
  have hdrop:l.drop i=x::rr:=by rw[hx,hr];exact List.drop_eq_getElem_cons hlt
  have hrl:rr.length=l.length-(i+1):=by rw[hr,List.length_drop]
  have hxl:x∈l:=hx▸List.getElem_mem hlt
  have hsm: ∀y∈s,y∈l:=fun y hy=>by rw[hs] at hy;exact List.mem_of_mem_take (Rx.1 hy)
  have hnext: ∀j,j<=s.length->(∀y∈s.drop j,Cr x y)->(∀(h:0<j), ¬Cr x s[j-1]!)->s.take j++x::s.drop j++rr=CE (l.take (i+1))++l.drop (i+1):=fun j h1 h2 h3=>by
   rw[V7 l hlt, <-hs, <-hx, <-hr,VD hsort h1 h2 fun h=>by have:=h3 h;rwa [getElem!_pos s (j-1) (by omega)] at this]
  refine Ar (X:=Nat) (fun j=>[(0, .slice (some ⟨g,0,none⟩) l.length cap),(1, .int .i64 0),(2, .int .i64 (l.length:Nat)),(3,lsF c),(8, .int .i64 (i:Nat)),(9, .int .i64 (j:Nat))]) (fun j=>[AU (Az W g),BI g (s.take j++x::s.drop j++rr) junk])
   (fun j=>j<=s.length/\ ∀y∈s.drop j,Cr x y) (fun j=>j) i ⟨by omega,by rw[<-hsl,List.drop_length];exact fun y hy=>absurd hy List.not_mem_nil⟩ ⟨rfl,rfl,rfl,rfl,rfl,rfl,trivial⟩ [] (by rw[<-hs,hdrop, <-hsl,List.take_length,List.drop_length,List.append_assoc];rfl) ?_
  rintro j ⟨hj,hgt⟩
  have hj:j<=s.length:=hj
  have hgt: ∀y∈s.drop j,Cr x y:=hgt
  refine zA (zA (zU (qP I (qP I (qP I ?_)))))
  cases j with
  |zero=>
   refine EG 20 (.bool false) I I (qP I ?_)
   iterate 12 refine Cg I I ?_
   refine qP I (A8 (Aa (zE (zS I (zJ (zK (zK (zL (zN (zE (zB (wP I (wP I (wV 16 ((i+1:Nat):Int) I (Aw (by omega)) (wP I (Aa ?_))))))))))))))))
   refine Aj (i+1) ⟨by show 1<=i+1;omega, .inl hlt⟩ (by show l.length+1-(i+1)<l.length+1-i;omega) ⟨I,I,I,I,I,tO⟩ [] ?_
   rw[hnext 0 hj hgt fun h=>absurd h (by decide)];rfl
  |succ m=>
   have hm:m<s.length:=hj
   obtain⟨y,hy⟩: ∃y,y=s[m]:=⟨_,rfl⟩
   have hyl:y∈l:=hsm y (hy▸List.getElem_mem hm)
   have e1:s.take (m+1)=s.take m++[y]:=by rw[List.take_add_one,List.getElem?_eq_getElem hm,hy];rfl
   have e2:s.drop m=y::s.drop (m+1):=by rw[hy];exact List.drop_eq_getElem_cons hm
   have e3:s[m+1-1]! =y:=by rw[Nat.add_sub_cancel,getElem!_pos s m hm,hy]
   have hA:(ptC (s.take m)).length=m*2:=by rw[BD,List.length_take,Nat.min_eq_left (by omega)]
   obtain⟨C,hC⟩: ∃C,C=ptC (s.drop (m+1)++rr)++junk:=⟨_,rfl⟩
   have row1:ptC (s.take (m+1)++x::s.drop (m+1)++rr)++junk=ptC (s.take m)++([str (Ac y.1),str (Ac y.2),str (Ac x.1),str (Ac x.2)]++C):=by rw[e1,hC];simp[ptC,List.flatMap_append]
   have row2:ptC (s.take m++x::s.drop m++rr)++junk=ptC (s.take m)++([str (Ac x.1),str (Ac x.2),str (Ac y.1),str (Ac y.2)]++C):=by rw[e2,hC];simp[ptC,List.flatMap_append]
   refine qU 20 true I (dT (by omega)) (qP I (qP I (qP I (qP I (qJ ?_)))))
   refine qL 0 I I (fun W1 hp=>show Ai W1 g (0+(m+1)*2) [str (Ac x.1),str (Ac x.2)] from GZ hp 1 (A:=ptC (s.take m)++[str (Ac y.1),str (Ac y.2)]) (C:=C) I (by rw[row1];simp) (by rw[List.length_append,hA];simp only[List.length_cons,List.length_nil];omega)) I (qP I (qP I (qP I (qV 29 (m:Nat) I (show w64 (((m+1:Nat):Int)-1)=_ by rw[Ak (by omega) (by omega)];omega) (qJ ?_)))))
   refine qL 0 I I (fun W1 hp=>show Ai W1 g (0+m*2) [str (Ac y.1),str (Ac y.2)] from GZ hp 1 (A:=ptC (s.take m)) (C:=[str (Ac x.1),str (Ac x.2)]++C) I (by rw[row1];simp) (by rw[hA];simp)) I (WF (first:=[Af c]) I I I I I I (by kernel_rfl) (fun W1 hp=>hf W1 (JH hg ⟨_,List.mem_cons_self ..⟩ hp) x hxl y hyl) ?_)
   refine qP I (qU 33 (Fj x y) I (Uz x y) (qP I (A8 (Aa (zE (Ah I (fun h=> ?_) (fun h=> ?_)))))))
   rotate_left
   ·have hc: ¬Cr x y:=fun d=>by rw[Dl.2 d] at h;cases h
    refine zJ (zK (zK (zL (zN (zE (zB (wP I (wP I (wV 16 ((i+1:Nat):Int) I (Aw (by omega)) (wP I (Aa ?_)))))))))))
    refine Aj (i+1) ⟨by show 1<=i+1;omega, .inl hlt⟩ (by show l.length+1-(i+1)<l.length+1-i;omega) ⟨I,I,I,I,I,tO⟩ [] ?_
    rw[hnext (m+1) hj hgt fun _=>by rw[e3];exact hc];rfl
   have hc:Cr x y:=Dl.1 h
   clear h
   refine bO (bxs':=[AU (Az W g),⟨g,62,ptC (s.take m)++([str (Ac y.1),str (Ac y.2),str (Ac x.1),str (Ac x.2)]++C),true,none⟩]) (by rw[<-row1]) ?_
   refine zI (zE (Av (Bv ?_)))
   repeat refine Av ?_
   refine AW (X:=Unit) [true,true,false,false,false,true,true,true,true,true,true,true,true,true,true,false,false,false] (fun _=>[(0, .slice (some ⟨g,0,none⟩) l.length cap),(1, .int .i64 0),(2, .int .i64 (l.length:Nat)),(3,lsF c),(8, .int .i64 (i:Nat)),(9, .int .i64 ((m+1:Nat):Int))]) (fun _=>[AU (Az W g),⟨g,62,ptC (s.take m)++([str (Ac x.1),str (Ac x.2),str (Ac y.1),str (Ac y.2)]++C),true,none⟩])
    6 [AU (Az W g),⟨g,62,ptC (s.take m)++([str (Ac y.1),str (Ac y.2),str (Ac x.1),str (Ac x.2)]++C),true,none⟩] Tryz.mixed (by kernel_rfl) ?_ ?_
   ·refine qP I (qP I (qP I (qP I (qP I (qV 44 (m:Nat) I (show w64 (((m+1:Nat):Int)-1)=_ by rw[Ak (by omega) (by omega)];omega) (qJ ?_))))))
    refine qL 0 I I (fun W1 hp=>show Ai W1 g (0+m*2) [str (Ac y.1),str (Ac y.2)] from GZ hp 1 (A:=ptC (s.take m)) (C:=[str (Ac x.1),str (Ac x.2)]++C) I (by simp) (by rw[hA];simp)) I (qP I (qP I (qJ ?_)))
    refine qL 0 I I (fun W1 hp=>show Ai W1 g (0+(m+1)*2) [str (Ac x.1),str (Ac x.2)] from GZ hp 1 (A:=ptC (s.take m)++[str (Ac y.1),str (Ac y.2)]) (C:=C) I (by simp) (by rw[List.length_append,hA];simp only[List.length_cons,List.length_nil];omega)) I (qJ ?_)
    refine BU ?_
    have h1:B7 (ptC (s.take m)++([str (Ac y.1),str (Ac y.2),str (Ac x.1),str (Ac x.2)]++C)) (0+(m+1)*2) (cvV y).cells.toList=ptC (s.take m)++([str (Ac y.1),str (Ac y.2),str (Ac y.1),str (Ac y.2)]++C):=by
     rw[show 0+(m+1)*2=(ptC (s.take m)).length+2 by rw[hA];omega,Er];rfl
    have h2:B7 (ptC (s.take m)++([str (Ac y.1),str (Ac y.2),str (Ac y.1),str (Ac y.2)]++C)) (0+m*2) (cvV x).cells.toList=ptC (s.take m)++([str (Ac x.1),str (Ac x.2),str (Ac y.1),str (Ac y.2)]++C):=by
     rw[show 0+m*2=(ptC (s.take m)).length+0 by rw[hA];omega,Er];rfl
    have h3:0+(m+1)*2+2<=(ptC (s.take m)++([str (Ac y.1),str (Ac y.2),str (Ac x.1),str (Ac x.2)]++C)).length:=by rw[List.length_append,hA,List.length_append];simp only[List.length_cons,List.length_nil];omega
    have h4:0+m*2+2<=(ptC (s.take m)++([str (Ac y.1),str (Ac y.2),str (Ac y.1),str (Ac y.2)]++C)).length:=by rw[List.length_append,hA,List.length_append];simp only[List.length_cons,List.length_nil];omega
    refine wX (RS.cons ?_ (RS.cons ?_ (RS.cons ?_ (RS.nil))))
    ·refine wP I (Aa (Ag (wX (RS.cons ?_ (RS.cons ?_ (RS.nil))))))
     ·refine wP I (Aa (Ag (wX (RS.cons ?_ (RS.cons ?_ (RS.nil))))))
      ·refine wP I (Aa (Ag (wX (wZ (AC 1 _ tH I I I I I I I I I I h3 h1 ?_)))))
       refine Aa (Ag (wY (wZ ?_)))
       refine wV 41 (m:Nat) I (show w64 (((m+1:Nat):Int)-1)=_ by rw[Ak (by omega) (by omega)];omega) ?_;(first|refine wJ ?_|refine qJ ?_)
       refine Aa (Ag (wY (wZ (AC 1 _ tH I I I I I I I I I I h4 h2 ?_))))
       refine Aa (Ag (AT I (by kernel_rfl) ?_))
       exact A4 () ⟨I,I,I,I,I,I,tO⟩ [0,1] (by decide) I
      ·refine AC 1 _ tH I I I I I I I I I I h3 h1 ?_
       refine Aa (Ag (wY (wZ (wP I (Aa (Ag (wY (wZ ?_))))))))
       refine wV 41 (m:Nat) I (show w64 (((m+1:Nat):Int)-1)=_ by rw[Ak (by omega) (by omega)];omega) ?_;(first|refine wJ ?_|refine qJ ?_)
       refine Aa (Ag (wY (wZ (AC 1 _ tH I I I I I I I I I I h4 h2 ?_))))
       refine Aa (Ag (AT I (by kernel_rfl) ?_))
       exact A4 () ⟨I,I,I,I,I,I,tO⟩ [0,1] (by decide) I
     ·refine AC 1 _ tH I I I I I I I I I I h3 h1 ?_
      refine Aa (Ag (wY (wZ (wP I (Aa (Ag (wY (wZ (wP I (Aa (Ag (wY (wZ ?_)))))))))))))
      refine wV 41 (m:Nat) I (show w64 (((m+1:Nat):Int)-1)=_ by rw[Ak (by omega) (by omega)];omega) ?_;(first|refine wJ ?_|refine qJ ?_)
      refine Aa (Ag (wY (wZ (AC 1 _ tH I I I I I I I I I I h4 h2 ?_))))
      refine Aa (Ag (AT I (by kernel_rfl) ?_))
      exact A4 () ⟨I,I,I,I,I,I,tO⟩ [0,1] (by decide) I
    ·refine wP I (Aa (Ag (wX (RS.cons ?_ (RS.cons ?_ (RS.cons ?_ (RS.nil)))))))
     ·refine wP I (Aa (Ag (wX (RS.cons ?_ (RS.cons ?_ (RS.nil))))))
      ·refine wP I (Aa (Ag (wX (wZ (AC 1 _ tH I I I I I I I I I I h3 h1 ?_)))))
       refine Aa (Ag (wY (wZ ?_)))
       refine wV 41 (m:Nat) I (show w64 (((m+1:Nat):Int)-1)=_ by rw[Ak (by omega) (by omega)];omega) ?_;(first|refine wJ ?_|refine qJ ?_)
       refine Aa (Ag (wY (wZ (AC 1 _ tH I I I I I I I I I I h4 h2 ?_))))
       refine Aa (Ag (AT I (by kernel_rfl) ?_))
       exact A4 () ⟨I,I,I,I,I,I,tO⟩ [0,1] (by decide) I
      ·refine AC 1 _ tH I I I I I I I I I I h3 h1 ?_
       refine Aa (Ag (wY (wZ (wP I (Aa (Ag (wY (wZ ?_))))))))
       refine wV 41 (m:Nat) I (show w64 (((m+1:Nat):Int)-1)=_ by rw[Ak (by omega) (by omega)];omega) ?_;(first|refine wJ ?_|refine qJ ?_)
       refine Aa (Ag (wY (wZ (AC 1 _ tH I I I I I I I I I I h4 h2 ?_))))
       refine Aa (Ag (AT I (by kernel_rfl) ?_))
       exact A4 () ⟨I,I,I,I,I,I,tO⟩ [0,1] (by decide) I
     ·refine wP I (Aa (Ag (wX (RS.cons ?_ (RS.cons ?_ (RS.nil))))))
      ·refine wP I (Aa (Ag (wX (wZ (AC 1 _ tH I I I I I I I I I I h3 h1 ?_)))))
       refine Aa (Ag (wY (wZ ?_)))
       refine wV 41 (m:Nat) I (show w64 (((m+1:Nat):Int)-1)=_ by rw[Ak (by omega) (by omega)];omega) ?_;(first|refine wJ ?_|refine qJ ?_)
       refine Aa (Ag (wY (wZ (AC 1 _ tH I I I I I I I I I I h4 h2 ?_))))
       refine Aa (Ag (AT I (by kernel_rfl) ?_))
       exact A4 () ⟨I,I,I,I,I,I,tO⟩ [0,1] (by decide) I
      ·refine AC 1 _ tH I I I I I I I I I I h3 h1 ?_
       refine Aa (Ag (wY (wZ (wP I (Aa (Ag (wY (wZ ?_))))))))
       refine wV 41 (m:Nat) I (show w64 (((m+1:Nat):Int)-1)=_ by rw[Ak (by omega) (by omega)];omega) ?_;(first|refine wJ ?_|refine qJ ?_)
       refine Aa (Ag (wY (wZ (AC 1 _ tH I I I I I I I I I I h4 h2 ?_))))
       refine Aa (Ag (AT I (by kernel_rfl) ?_))
       exact A4 () ⟨I,I,I,I,I,I,tO⟩ [0,1] (by decide) I
     ·refine AC 1 _ tH I I I I I I I I I I h3 h1 ?_
      refine Aa (Ag (wY (RS.cons ?_ (RS.cons ?_ (RS.nil)))))
      ·refine wP I (Aa (Ag (wY (wZ (wP I (Aa (Ag (wY (wZ ?_)))))))))
       refine wV 41 (m:Nat) I (show w64 (((m+1:Nat):Int)-1)=_ by rw[Ak (by omega) (by omega)];omega) ?_;(first|refine wJ ?_|refine qJ ?_)
       refine Aa (Ag (wY (wZ (AC 1 _ tH I I I I I I I I I I h4 h2 ?_))))
       refine Aa (Ag (AT I (by kernel_rfl) ?_))
       exact A4 () ⟨I,I,I,I,I,I,tO⟩ [0,1] (by decide) I
      ·refine wP I (Aa (Ag (wY (wZ (wP I (Aa (Ag (wY (wZ ?_)))))))))
       refine wV 41 (m:Nat) I (show w64 (((m+1:Nat):Int)-1)=_ by rw[Ak (by omega) (by omega)];omega) ?_;(first|refine wJ ?_|refine qJ ?_)
       refine Aa (Ag (wY (wZ (AC 1 _ tH I I I I I I I I I I h4 h2 ?_))))
       refine Aa (Ag (AT I (by kernel_rfl) ?_))
       exact A4 () ⟨I,I,I,I,I,I,tO⟩ [0,1] (by decide) I
    ·refine AC 1 _ tH I I I I I I I I I I h3 h1 ?_
     refine Aa (Ag (wY (RS.cons ?_ (RS.cons ?_ (RS.nil)))))
     ·refine wP I (Aa (Ag (wY (wZ (wP I (Aa (Ag (wY (wZ (wP I (Aa (Ag (wY (wZ ?_))))))))))))))
      refine wV 41 (m:Nat) I (show w64 (((m+1:Nat):Int)-1)=_ by rw[Ak (by omega) (by omega)];omega) ?_;(first|refine wJ ?_|refine qJ ?_)
      refine Aa (Ag (wY (wZ (AC 1 _ tH I I I I I I I I I I h4 h2 ?_))))
      refine Aa (Ag (AT I (by kernel_rfl) ?_))
      exact A4 () ⟨I,I,I,I,I,I,tO⟩ [0,1] (by decide) I
     ·refine wP I (Aa (Ag (wY (RS.cons ?_ (RS.cons ?_ (RS.nil))))))
      ·refine wP I (Aa (Ag (wY (wZ (wP I (Aa (Ag (wY (wZ ?_)))))))))
       refine wV 41 (m:Nat) I (show w64 (((m+1:Nat):Int)-1)=_ by rw[Ak (by omega) (by omega)];omega) ?_;(first|refine wJ ?_|refine qJ ?_)
       refine Aa (Ag (wY (wZ (AC 1 _ tH I I I I I I I I I I h4 h2 ?_))))
       refine Aa (Ag (AT I (by kernel_rfl) ?_))
       exact A4 () ⟨I,I,I,I,I,I,tO⟩ [0,1] (by decide) I
      ·refine wP I (Aa (Ag (wY (wZ (wP I (Aa (Ag (wY (wZ ?_)))))))))
       refine wV 41 (m:Nat) I (show w64 (((m+1:Nat):Int)-1)=_ by rw[Ak (by omega) (by omega)];omega) ?_;(first|refine wJ ?_|refine qJ ?_)
       refine Aa (Ag (wY (wZ (AC 1 _ tH I I I I I I I I I I h4 h2 ?_))))
       refine Aa (Ag (AT I (by kernel_rfl) ?_))
       exact A4 () ⟨I,I,I,I,I,I,tO⟩ [0,1] (by decide) I
   intro _
   refine zN (zE (zB (wP I (wP I (wV 36 (m:Nat) I (show w64 (((m+1:Nat):Int)-1)=_ by rw[Ak (by omega) (by omega)];omega) (wP I (Aa ?_)))))))
   refine Aj m ⟨by show m<=s.length;omega,fun z hz=> ?_⟩ (by show m<m+1;omega) ⟨I,I,I,I,I,I,tO⟩ [] (by rw[<-row2];rfl)
   rw[e2] at hz
   rcases List.mem_cons.1 hz with rfl|hz
   ·exact hc
   ·exact hgt z hz
 refine key.mono ?_
 rintro e W' ⟨x,he,_,hb,hn'⟩
 exact⟨x,he,tO,H3 hg I hb hn'⟩
theorem SS (c:Nat) (W:World) (g cap:Nat) (l:List At) (junk:List Value) (z:Int) (hn:l.length<=12) (hg:W.heap[g]? =some (.cells (ptC l++junk).toArray 62 (0,0)))
  (hf: ∀W',HC W W' g-> ∀x∈l, ∀y∈l,K9 c x y W'):
  Calls Tryz.prog 357 #[.slice (some ⟨g,0,none⟩) l.length cap, .int .i64 0, .int .i64 (l.length:Nat), .int .i64 z,lsF c] W fun e W'=> ∃x:Unit,e= .returned ((fun _=> .tuple #[]) x)/\True/\NM W W' g ((fun _=>g) x) ((fun _=> .cells (ptC (CE l)++junk).toArray 62 (0,0)) x):=by
 have key:Calls Tryz.prog 357 [.slice (some ⟨g,0,none⟩) l.length cap, .int .i64 0, .int .i64 (l.length:Nat), .int .i64 z,lsF c].toArray W fun e W'=> ∃x:Unit,e= .returned ((fun _=> .tuple #[]) x)/\(fun _=>True) x/\Below (Bc W).heap.size (Bc W) W'/\As (Bc W) W' ((fun _=>[AU (Az W g),BI g (CE l) junk]) x):=by
  refine CS (X:=Unit) (val:=fun _=> .tuple #[]) (Φ:=fun _=>True) (nb:=fun _=>[AU (Az W g),BI g (CE l) junk]) (Hp.enterT (B:=BI g l junk) I hg) Tryz.func357 I I I ?_
  refine zA (zB (wP I (Aa (zE (zA (zB (wP I (Aa (zE (zH (Ar (X:=Unit) (fun _=>[(0, .slice (some ⟨g,0,none⟩) l.length cap),(1, .int .i64 0),(2, .int .i64 (l.length:Nat)),(3, .int .i64 z),(4,lsF c)]) (fun _=>[AU (Az W g),BI g l junk]) (fun _=>True) (fun _=>0) () tO ⟨I,I,I,I,I,tO⟩ [] I ?_)))))))))))
  intro _ _
  refine zH (zA (zB (wP I (wP I (wP I (wV 23 (l.length:Nat) I (show w64 ((l.length:Nat)-0)=_ by rw[Ak (by omega) (by omega)];omega) (wP I (Aa (zE (zA (zA (zB (wP I (wP I (wU 25 true I (dT (by omega)) (Aa (zE (zR I (zA (zB (wP I (wP I (wP I (wP I ?_))))))))))))))))))))))))
  refine Fc (X:=Unit) (val:=fun _=> .tuple #[]) (Φ:=fun _=>True) (capt:=[]) 1 (B:=BI g l junk) (L1:=[]) (L2:=[]) (b:=g) (ob:= .cells (ptC l++junk).toArray 62 (0,0)) (fun _=>BI g (CE l) junk) (g':=fun _=>g) (o':=fun _=> .cells (ptC (CE l)++junk).toArray 62 (0,0))
   rfl rfl rfl rfl rfl rfl (by kernel_rfl) rfl rfl (fun _ _=>rfl) (fun W1 hp=>T8 c W1 g cap l junk (by omega) (hp.own.cell 1 _ rfl (g, .cells (ptC l++junk).toArray 62 (0,0)) (List.mem_cons_self ..)).1 (fun W2 hk=>hf W2 ((JH hg ⟨_,List.mem_cons_self ..⟩ hp).trans hk))) (fun _ _=> ?_)
  refine Aa (zE (zO (zP (zQ (zP (zQ (YR (X:=Unit) (val:=fun _=> .tuple #[]) (Φ:=fun _=>True) (nb:=fun _=>[AU (Az W g),BI g (CE l) junk]) (fn:=Tryz.f357) tH I () I tO fun W1 hp=> ?_)))))))
  exact(hp.pick (l:=[AU (Az W g),BI g (CE l) junk]) [0,1] (by decide) I).own
 refine key.mono ?_
 rintro e W' ⟨x,he,_,hb,hn'⟩
 exact⟨x,he,tO,H3 hg I hb hn'⟩
theorem aJ {n:Nat} (h:n<=12):IntKind.u64.wrap (n:Nat)=(n:Int):=by
 simp only[IntKind.wrap,IntKind.signed,IntKind.bits]
 simp
 omega
theorem R4 (c:Nat) (W:World) (g cap:Nat) (l:List At) (junk:List Value) (hn:l.length<=12) (hg:W.heap[g]? =some (.cells (ptC l++junk).toArray 62 (0,0)))
  (hf: ∀W',HC W W' g-> ∀x∈l, ∀y∈l,K9 c x y W'):
  Calls Tryz.prog 322 #[.slice (some ⟨g,0,none⟩) l.length cap,lsF c] W fun e W'=> ∃x:Unit,e= .returned ((fun _=> .tuple #[]) x)/\True/\NM W W' g ((fun _=>g) x) ((fun _=> .cells (ptC (CE l)++junk).toArray 62 (0,0)) x):=by
 have key:Calls Tryz.prog 322 [.slice (some ⟨g,0,none⟩) l.length cap,lsF c].toArray W fun e W'=> ∃x:Unit,e= .returned ((fun _=> .tuple #[]) x)/\(fun _=>True) x/\Below (Bc W).heap.size (Bc W) W'/\As (Bc W) W' ((fun _=>[AU (Az W g),BI g (CE l) junk]) x):=by
  refine CS (X:=Unit) (val:=fun _=> .tuple #[]) (Φ:=fun _=>True) (nb:=fun _=>[AU (Az W g),BI g (CE l) junk]) (Hp.enterT (B:=BI g l junk) I hg) Tryz.func322 I I I ?_
  refine zA (zB (wP I (wP I (wP I (Aa (zE (zB (wP I (wP I (wP I (J4 (k:= .u64) (kt:= .i64) (by kernel_rfl) (by kernel_rfl) I I I I ?_)))))))))))
  refine Al 10 (.int .u64 (l.length:Nat)) I (congrArg (Value.int .u64) (aJ hn)) (Bp (capt:=[]) I I I I I I (by kernel_rfl) (fun W _=>Tw l.length (by omega) W) (wP I ?_))
  refine Fc (X:=Unit) (val:=fun _=> .tuple #[]) (Φ:=fun _=>True) (capt:=[]) 1 (B:=BI g l junk) (L1:=[]) (L2:=[]) (b:=g) (ob:= .cells (ptC l++junk).toArray 62 (0,0)) (fun _=>BI g (CE l) junk) (g':=fun _=>g) (o':=fun _=> .cells (ptC (CE l)++junk).toArray 62 (0,0))
   rfl rfl rfl rfl rfl rfl (by kernel_rfl) rfl rfl (fun _ _=>rfl) (fun W1 hp=>SS c W1 g cap l junk _ hn (hp.own.cell 1 _ rfl (g, .cells (ptC l++junk).toArray 62 (0,0)) (List.mem_cons_self ..)).1 (fun W2 hk=>hf W2 ((JH hg ⟨_,List.mem_cons_self ..⟩ hp).trans hk))) (fun _ _=> ?_)
  refine Aa (U0 (X:=Unit) (val:=fun _=> .tuple #[]) (Φ:=fun _=>True) (nb:=fun _=>[AU (Az W g),BI g (CE l) junk]) (fn:=Tryz.f322) tH I () I tO fun W1 hp=> ?_)
  exact(hp.pick (l:=[AU (Az W g),BI g (CE l) junk]) [0,1] (by decide) I).own
 refine key.mono ?_
 rintro e W' ⟨x,he,_,hb,hn'⟩
 exact⟨x,he,tO,H3 hg I hb hn'⟩
section
variable {r:Option Nat} {n:Nat} {P:Program} {W0:World} {N:Nat} {D:List Deferred} {ops:List Oper} {Q:Exit->Act->World->Prop} {o:Oper} {rest:List Oper} {env:Env} {bxs:List Bx}
theorem Wd (k:Nat) {t e:TypeId} {z:Value} (ht:P.underlying t=some (.slice e)) (hz: ∀W,(zeroValue e).run P W= .ok z W) {c:Call} {x:Operand} {B:Bx} {off m cp:Nat}
  (hg:Ay ops N env o=some true) (hd:o.dst=none) (ho:o.op= .call c) (hc:c.callee= .builtin .clear) (ha:c.args= #[x]) (hat:c.argTypes= #[t])
  (hk:nth bxs k=some B) (hon:B.row=true) (hx:evO N env x=some (.slice (some ⟨B.b,off,none⟩) m cp)) (h1:Df (BR z.cells.toList m)=true) (hfit:off+(BR z.cells.toList m).length<=B.cells.length)
  (h:WL r n P N D ops Q rest env (Hp W0 (bxs.set k { B with cells:=B7 B.cells off (BR z.cells.toList m) }))):WL r n P N D ops Q (o::rest) env (Hp W0 bxs):= .mk fun a W ha' hd' hp=>by
 rw[Bj] at hk
 refine BC hg ha' (fun c e=>by rw[ho] at e;cases e) ?_
 have h3:=(hp.at_ _ _ hk (Bx.row_on hon).1).1
 rw[(Bx.row_on hon).2] at h3
 obtain⟨W',hr,hu⟩:=FS (P:=P) (o:=off) (BR z.cells.toList m) 0 B.cells W h3 (by omega) h1
 have e1:c.args.map (ov env a).eval= #[.slice (some ⟨B.b,off,none⟩) m cp]:=by rw[ha];simp[A9 ha' _ _ hx]
 have hrun:(Builtin.clear_ #[t] o.type #[.slice (some ⟨B.b,off,none⟩) m cp]).run P W= .ok (.tuple #[]) W':=by
  cases m with
  |zero=>
   have e0:BR z.cells.toList 0=[]:=rfl
   rw[e0] at hr
   simp[storeCells] at hr
   simp[Builtin.clear_,run_underlying ht,hr]
  |succ m=>simp[Builtin.clear_,run_underlying ht,hz,GF,hr]
 have:(execOp (ov env a).eval o).run P W= .ok (.value (.tuple #[])) W':=by
  simp only[execOp,ho,resolve,hc,invoke,builtin,e1,hat,Sem.run_bind,Sem.run_pure,Result.andThen_ok,hrun]
 rw[this]
 simp only[Oper.uponIn,hd]
 rw[Nat.add_zero] at hu
 exact h.out a W' ha' hd' (hp.upd hk hon hu)
end
def E7 (l:List At):Nat->List At
 |0=>[]
 |n+1=>if 0<n/\l[n]? =l[n-1]? then E7 l n else E7 l n++(l[n]?).toList
abbrev Ht (l:List At):List At:=E7 l l.length
theorem Rl (l:List At): ∀n,(E7 l n).length<=n
 |0=>Nat.le_refl _
 |n+1=>by
  have ih:=Rl l n
  unfold E7
  split
  ·omega
  ·rw[List.length_append]
   have:(l[n]?).toList.length<=1:=by cases l[n]? <;>simp
   omega
theorem KQ {l:List At} {n:Nat} (h0:0<n) (h:l[n]? =l[n-1]?):E7 l (n+1)=E7 l n:=by
 show(if 0<n/\l[n]? =l[n-1]? then E7 l n else _)=_
 rw[if_pos ⟨h0,h⟩]
theorem Nn {l:List At} {n:Nat} (hn:n<l.length) (h: ¬(0<n/\l[n]? =l[n-1]?)):E7 l (n+1)=E7 l n++[l[n]]:=by
 show(if 0<n/\l[n]? =l[n-1]? then _ else E7 l n++(l[n]?).toList)=_
 rw[if_neg h,List.getElem?_eq_getElem hn];rfl
theorem RB (l:List At):E7 l 1=l.take 1:=by
 cases l with
 |nil=>rfl
 |cons x l=>rfl
theorem OP {l:List At} (hs:SrC l): ∀n,n<=l.length->(E7 l n).Pairwise Cr/\(∀x,x∈E7 l n↔x∈l.take n)
 |0,_=>⟨List.Pairwise.nil,fun x=>by simp[E7]⟩
 |n+1,hn=>by
  obtain⟨a,b⟩:=OP hs n (by omega)
  have hn':n<l.length:=hn
  have et:l.take (n+1)=l.take n++[l[n]]:=by rw[List.take_add_one,List.getElem?_eq_getElem hn'];rfl
  by_cases h:0<n/\l[n]? =l[n-1]?
  ·rw[KQ h.1 h.2]
   refine⟨a,fun x=> ?_⟩
   rw[b,et,List.mem_append,List.mem_singleton]
   refine⟨.inl,fun h2=> ?_⟩
   rcases h2 with h2|rfl
   ·exact h2
   ·have e:l[n]=l[n-1]'(by omega):=by
     have:=h.2
     rw[List.getElem?_eq_getElem hn',List.getElem?_eq_getElem (by omega)] at this
     exact Option.some.inj this
    rw[e]
    exact List.mem_iff_getElem.2 ⟨n-1,by rw[List.length_take];omega,by rw[List.getElem_take]⟩
  ·rw[Nn hn' h]
   refine⟨List.pairwise_append.2 ⟨a,List.pairwise_cons.2 ⟨fun _ h=>absurd h List.not_mem_nil,List.Pairwise.nil⟩,fun x hx y hy=> ?_⟩,fun x=> ?_⟩
   ·obtain rfl:=List.mem_singleton.1 hy
    obtain⟨i,hi,rfl⟩:=List.mem_iff_getElem.1 ((b x).1 hx)
    rw[List.length_take] at hi
    rw[List.getElem_take]
    have hp:=List.pairwise_iff_getElem.1 hs
    have h1:=hp i n (by omega) hn' (by omega)
    rcases KU l[i] l[n] with d|d|d
    ·exact d
    ·exfalso
     refine h ⟨by omega, ?_⟩
     rw[List.getElem?_eq_getElem hn',List.getElem?_eq_getElem (show n-1<l.length by omega)]
     congr 1
     by_cases ei:i=n-1
     ·subst ei;exact d.symm
     ·have h2:=hp i (n-1) (by omega) (by omega) (by omega)
      have h3:=hp (n-1) n (by omega) hn' (by omega)
      rw[d] at h2
      rcases KU l[n] (l[n-1]'(by omega)) with d2|d2|d2
      ·exact absurd d2 h3
      ·exact d2
      ·exact absurd d2 h2
    ·exact absurd d h1
   ·rw[et,List.mem_append,List.mem_append,b]
theorem VO {l:List At} (hs:SrC l):(Ht l).Pairwise Cr/\ ∀x,x∈Ht l↔x∈l:=by
 have:=OP hs l.length (Nat.le_refl _)
 rw[List.take_length] at this
 exact this
theorem PJ {x y:At}:decide (Ac x.1=Ac y.1/\Ac x.2=Ac y.2)=decide (x=y):=decide_eq_decide.2 ⟨fun h=>Prod.ext (JJ.1 h.1) (JJ.1 h.2),fun h=>by rw[h];exact⟨rfl,rfl⟩⟩
theorem PI {W0 W:World} {bxs:List Bx} (hp:Hp W0 bxs W) (k:Nat) {g:Nat} {l:List At} {junk:List Value} (hk:nth bxs k=some (BI g l junk)) {i:Nat} (hi:i<l.length):Ai W g (0+i*2) [str (Ac l[i].1),str (Ac l[i].2)]:=by
 obtain⟨g',off',e,h⟩:=(BY.of_row (Ai.of_bx hp k hk rfl)).at_ hi
 cases e
 exact h i hi
theorem TZ: ∀m,Df (BR (Value.agg #[str [],str []]).cells.toList m)=true
 |0=>rfl
 |m+1=>by
  have ih:=TZ m
  show Df (str []::str []::BR _ m)=true
  exact ih
theorem Ug (m:Nat):(BR (Value.agg #[str [],str []]).cells.toList m).length=m*2:=EW _ m
theorem Ln (W:World) (g cap:Nat) (l:List At) (junk:List Value) (hn:l.length<=100000) (hcap:l.length<=cap) (hg:W.heap[g]? =some (.cells (ptC l++junk).toArray 62 (0,0))):
  Calls Tryz.prog 279 #[.slice (some ⟨g,0,none⟩) l.length cap] W fun e W'=> ∃x:List Value,e= .returned ((fun _=> .slice (some ⟨g,0,none⟩) (Ht l).length cap) x)/\True/\NM W W' g ((fun _=>g) x) ((fun x=> .cells (ptC (Ht l)++x).toArray 62 (0,0)) x):=by
 have key:Calls Tryz.prog 279 [.slice (some ⟨g,0,none⟩) l.length cap].toArray W fun e W'=> ∃x:List Value,e= .returned ((fun _=> .slice (some ⟨g,0,none⟩) (Ht l).length cap) x)/\(fun _=>True) x/\Below (Bc W).heap.size (Bc W) W'/\As (Bc W) W' ((fun x=>[AU (Az W g),BI g (Ht l) x]) x):=by
  refine CS (X:=List Value) (val:=fun _=> .slice (some ⟨g,0,none⟩) (Ht l).length cap) (Φ:=fun _=>True) (nb:=fun x=>[AU (Az W g),BI g (Ht l) x]) (Hp.enterT (B:=BI g l junk) I hg) Tryz.func279 I I I ?_
  refine zA (zB (wP I (Aa (zE (zA (zA (zB (wP I (wP I (wP I ?_))))))))))
  by_cases hlt:l.length<2
  ·have e:Ht l=l:=by
    rcases(show l.length=0\/l.length=1 by omega) with e|e
    ·rw[Ht,e,List.length_eq_zero_iff.1 e];rfl
    ·rw[Ht,e,RB,List.take_of_length_le (by omega)]
   refine wU 8 true I (dT (by omega)) (Aa (zE (zR I (zA (zB (wP I (wP I (Aa (zE (zO (zP ?_)))))))))))
   rw[e]
   exact Ax tH I (.tmp I) junk I tO fun W1 hp=>(hp.pick (l:=[AU (Az W g),BI g l junk]) [0,1] (by decide) I).own
  refine wU 8 false I (dF (by omega)) (Aa (zE (zS I (zI (zE (zA (zA (zB (wP I (Aa (zE (zH (Ar (X:=Nat) (fun i=>[(0, .slice (some ⟨g,0,none⟩) l.length cap),(3, .int .i64 (i:Nat))]) (fun _=>[AU (Az W g),BI g l junk]) (fun i=>1<=i/\i<=l.length/\E7 l i=l.take i) (fun i=>l.length-i) 1 ⟨Nat.le_refl _,by omega,RB l⟩ ⟨I,I,tO⟩ [] I ?_)))))))))))))
  rintro i ⟨hi1,hi2,hc⟩
  have hi1:1<=i:=hi1
  have hi2:i<=l.length:=hi2
  have hc:E7 l i=l.take i:=hc
  refine zA (zA (zB (wP I (wP I (wP I (wP I ?_))))))
  by_cases hi:i<l.length
  rotate_left
  ·obtain rfl:i=l.length:=by omega
   have e:Ht l=l:=by rw[Ht,hc,List.take_length]
   refine wU 13 false I (dF (by omega)) (Aa (zE (zS I (zJ (zK (zK (zL (zE (zA (zB (wP I (wP I (Aa (zE (zO ?_)))))))))))))))
   rw[e]
   exact Ax tH I (.tmp I) junk I tO fun W1 hp=>(hp.pick (l:=[AU (Az W g),BI g l junk]) [0,1] (by decide) I).own
  refine wU 13 true I (dT (by omega)) (Aa (zE (zR I (zI (zE (zA (zH (zA (zU ?_)))))))))
  have hm:i-1<l.length:=by omega
  obtain⟨x,hx⟩: ∃x,x=l[i]:=⟨_,rfl⟩
  obtain⟨y,hy⟩: ∃y,y=l[i-1]:=⟨_,rfl⟩
  have ex:l[i]? =some x:=by rw[List.getElem?_eq_getElem hi,hx]
  have ey:l[i-1]? =some y:=by rw[List.getElem?_eq_getElem hm,hy]
  have rx: ∀ {W1:World},Hp (Bc W) [AU (Az W g),BI g l junk] W1->Ai W1 g (0+i*2) [str (Ac x.1),str (Ac x.2)]:=fun hp=>by rw[hx];exact PI hp 1 rfl hi
  have ry: ∀ {W1:World},Hp (Bc W) [AU (Az W g),BI g l junk] W1->Ai W1 g (0+(i-1)*2) [str (Ac y.1),str (Ac y.2)]:=fun hp=>by rw[hy];exact PI hp 1 rfl hm
  refine qP I (qP I (qJ ?_))
  refine qL 0 I I (fun W1 hp=>rx hp) I (qP I (qP I (qP I (qV 22 ((i-1:Nat):Int) I (show w64 ((i:Int)-1)=_ by rw[Ak (by omega) (by omega)];omega) (qJ ?_)))))
  refine qL 0 I I (fun W1 hp=>ry hp) I (QQ (Ac x.1) (Ac x.2) (Ac y.1) (Ac y.2) I I I I I ?_)
  refine qU 25 (decide (x=y)) I PJ (A8 (Aa (zE (Ah I (fun hxy=> ?_) (fun hxy=> ?_)))))
  rotate_left
  ·have hne:x≠y:=of_decide_eq_false hxy
   refine zI (zN (zE (zB (wP I (wP I (wV 15 ((i+1:Nat):Int) I (Aw (by omega)) (wP I (Aa ?_))))))))
   exact Aj (i+1) ⟨by omega,hi,by
    rw[Nn hi (fun h=>hne (by rw[ex,ey] at h;exact Option.some.inj h.2)),hc,List.take_add_one,List.getElem?_eq_getElem hi];rfl⟩ (by show l.length-(i+1)<l.length-i;omega) ⟨rfl,rfl,trivial⟩ [] rfl
  have hxe:x=y:=of_decide_eq_true hxy
  have hsame:E7 l (i+1)=l.take i:=by rw[KQ (by omega) (by rw[ex,ey,hxe]),hc]
  refine zA (zB (wP I (wP I (Du i tH I I I I I I I I (by omega) hcap ?_))))
  refine Al 28 (.slice (some ⟨g,0+i*2,none⟩) (l.length-i) (cap-i)) I (by rw[if_neg (by omega)]) (wP I (Aa (zE (zA (zA (zB (wP I (Aa (zE (zH ?_))))))))))
  refine Ar (X:=Nat) (fun k=>[(0, .slice (some ⟨g,0,none⟩) l.length cap),(3, .int .i64 ((E7 l (i+k)).length:Nat)),(4, .slice (some ⟨g,0+i*2,none⟩) (l.length-i) (cap-i)),(5, .int .i64 (k:Nat))]) (fun k=>[AU (Az W g),BI g (E7 l (i+k)++l.drop (E7 l (i+k)).length) junk])
   (fun k=>1<=k/\i+k<=l.length/\1<=(E7 l (i+k)).length/\(E7 l (i+k)).length+1<=i+k) (fun k=>l.length-i-k) 1 ⟨Nat.le_refl _,hi,by rw[hsame,List.length_take];omega,by rw[hsame,List.length_take];omega⟩ ⟨rfl,by rw[hsame,List.length_take,Nat.min_eq_left (by omega)];rfl,rfl,rfl,trivial⟩ [] (by rw[hsame,List.length_take,Nat.min_eq_left (by omega),List.take_append_drop];rfl) ?_
  rintro k ⟨hk1,hk2,hk3,hk4⟩
  have hk1:1<=k:=hk1
  have hk2:i+k<=l.length:=hk2
  have hk3:1<=(E7 l (i+k)).length:=hk3
  have hk4:(E7 l (i+k)).length+1<=i+k:=hk4
  obtain⟨C,hC⟩: ∃C,C=E7 l (i+k):=⟨_,rfl⟩
  rw[<-hC] at hk3 hk4
  rw[<-hC]
  have hlen:(C++l.drop C.length).length=l.length:=by rw[List.length_append,List.length_drop];omega
  refine zA (zA (zB (wP I (wP I (wP I (wP I ?_))))))
  by_cases hlk:k<l.length-i
  ·refine wU 32 true I (dT (by omega)) (Aa (zE (zR I (zI (zE (zA (zH (zA (zU ?_)))))))))
   have old: ∀j (hj:j<l.length),C.length<=j->(C++l.drop C.length)[j]'(by rw[hlen];exact hj)=l[j]:=fun j hj h=>by
    rw[List.getElem_append_right h,List.getElem_drop]
    congr 1;omega
   have h1:i+k<l.length:=by omega
   have h2:i+k-1<l.length:=by omega
   obtain⟨u,hu⟩: ∃u,u=l[i+k]:=⟨_,rfl⟩
   obtain⟨v,hv⟩: ∃v,v=l[i+k-1]:=⟨_,rfl⟩
   have eu:l[i+k]? =some u:=by rw[List.getElem?_eq_getElem h1,hu]
   have ev:l[i+k-1]? =some v:=by rw[List.getElem?_eq_getElem h2,hv]
   have ru: ∀ {W1:World},Hp (Bc W) [AU (Az W g),BI g (C++l.drop C.length) junk] W1->Ai W1 g (0+i*2+k*2) [str (Ac u.1),str (Ac u.2)]:=fun hp=>by
    have:=PI hp 1 rfl (i:=i+k) (by rw[hlen];exact h1)
    rw[old _ h1 (by omega), <-hu] at this
    rwa [show 0+i*2+k*2=0+(i+k)*2 by omega]
   have rv: ∀ {W1:World},Hp (Bc W) [AU (Az W g),BI g (C++l.drop C.length) junk] W1->Ai W1 g (0+i*2+(k-1)*2) [str (Ac v.1),str (Ac v.2)]:=fun hp=>by
    have:=PI hp 1 rfl (i:=i+k-1) (by rw[hlen];exact h2)
    rw[old _ h2 (by omega), <-hv] at this
    rwa [show 0+i*2+(k-1)*2=0+(i+k-1)*2 by omega]
   refine qP I (qP I (qJ ?_))
   refine qL 0 I I (fun W1 hp=>ru hp) I (qP I (qP I (qP I (qV 41 ((k-1:Nat):Int) I (show w64 ((k:Int)-1)=_ by rw[Ak (by omega) (by omega)];omega) (qJ ?_)))))
   refine qL 0 I I (fun W1 hp=>rv hp) I (Y3 (Ac u.1) (Ac u.2) (Ac v.1) (Ac v.2) I I I I I ?_)
   refine EG 44 (.bool (!decide (u=v))) I (congrArg (fun b=>Value.bool (!b)) PJ) (A8 (Aa (zE (Ah I (fun huv=> ?_) (fun huv=> ?_)))))
   ·have hne:u≠v:=fun e=>by rw[e,dT rfl] at huv;cases huv
    have hnew:E7 l (i+(k+1))=C++[u]:=by
     rw[show i+(k+1)=i+k+1 by omega,Nn h1 (fun h=>hne (by rw[eu,ev] at h;exact Option.some.inj h.2)), <-hC,hu]
    have hd:l.drop C.length=l[C.length]'(by omega)::l.drop (C.length+1):=List.drop_eq_getElem_cons (by omega)
    have hs1:B7 (ptC (C++l.drop C.length)++junk) (0+C.length*2) (cvV u).cells.toList=ptC (C++[u]++l.drop (C++[u]).length)++junk:=by
     rw[hd,CQ,List.append_assoc,show 0+C.length*2=(ptC C).length+0 by rw[BD];omega,Er]
     simp only[List.length_append,List.length_cons,List.length_nil,Nat.zero_add,CQ,List.append_assoc]
     rfl
    have hs2:0+C.length*2+2<=(ptC (C++l.drop C.length)++junk).length:=by rw[List.length_append,BD,hlen];omega
    refine zA (zB (wP I (wP I (wP I (wP I (wJ ?_))))))
    refine wL 0 I I (fun W1 hp=>ru hp) I (wJ ?_)
    refine AC 1 _ tH I I I I I I I I I I hs2 hs1 ?_
    exact Aa (zE (zB (wP I (wP I (wV 53 ((C.length+1:Nat):Int) I (Aw (by omega)) (wP I (Aa (zN (zE (zB (wP I (wP I (wV 34 ((k+1:Nat):Int) I (Aw (by omega)) (wP I (Aa (Aj (k+1) ⟨by omega,by omega,by rw[hnew,List.length_append];omega,by rw[hnew,List.length_append,List.length_singleton];omega⟩ (by show l.length-i-(k+1)<l.length-i-k;omega) ⟨I,by rw[hnew,List.length_append];rfl,I,I,tO⟩ [] (by rw[hnew];rfl)))))))))))))))))
   ·have he:u=v:=by
     cases hd:decide (u=v) with
     |true=>exact of_decide_eq_true hd
     |false=>rw[hd] at huv;cases huv
    have hsm:E7 l (i+(k+1))=C:=by rw[show i+(k+1)=i+k+1 by omega,KQ (by omega) (by rw[eu,ev,he]), <-hC]
    exact zI (zN (zE (zB (wP I (wP I (wV 34 ((k+1:Nat):Int) I (Aw (by omega)) (wP I (Aa (Aj (k+1) ⟨by omega,by omega,by rw[hsm];exact hk3,by rw[hsm];omega⟩ (by show l.length-i-(k+1)<l.length-i-k;omega) ⟨I,by rw[hsm];rfl,I,I,tO⟩ [] (by rw[hsm];rfl))))))))))
  have ek:i+k=l.length:=by omega
  rw[ek] at hC
  have hCC:Ht l=C:=hC.symm
  refine wU 32 false I (dF (by omega)) (Aa (zE (zS I (zJ (zK (zK (zL (zE (zA (zB ?_))))))))))
  have hd1:(ptC (l.drop C.length)).length=(l.length-C.length)*2:=by rw[BD,List.length_drop]
  refine wP I (wP I (Du C.length tH I I I I I I I I (by omega) hcap ?_))
  refine Al 56 (.slice (some ⟨g,0+C.length*2,none⟩) (l.length-C.length) (cap-C.length)) I (by rw[if_neg (by omega)]) ?_
  refine Wd 1 (e:=62) (z:= .agg #[str [],str []]) Tryz.underlying210 Tryz.zeroValue62 I I I I I I I I I (TZ _) (by rw[Ug];show 0+C.length*2+_<=(ptC (C++l.drop C.length)++junk).length;rw[List.length_append,BD,hlen];omega) ?_
  refine Aa (zE (zA (zB (wP I (wP I (B6 C.length tH I I I I I I I I (by omega) ?_))))))
  refine wP I (Aa (zE (zO (zQ (zP (zP (zQ (zP ?_))))))))
  have hs3:B7 (ptC (C++l.drop C.length)++junk) (0+C.length*2) (BR (Value.agg #[str [],str []]).cells.toList (l.length-C.length))=ptC C++(BR (Value.agg #[str [],str []]).cells.toList (l.length-C.length)++junk):=by
   rw[CQ,List.append_assoc,show 0+C.length*2=(ptC C).length by rw[BD];omega]
   exact TG (ptC C) (ptC (l.drop C.length)) junk _ (by rw[hd1,Ug])
  rw[hCC]
  exact Ax tH I (.tmp I) (BR (Value.agg #[str [],str []]).cells.toList (l.length-C.length)++junk) I tO fun W1 hp=>by
   rw[show[AU (Az W g),BI g (C++l.drop C.length) junk].set 1 _=[AU (Az W g),(⟨g,62,B7 (ptC (C++l.drop C.length)++junk) (0+C.length*2) (BR (Value.agg #[str [],str []]).cells.toList (l.length-C.length)),true,none⟩:Bx)] from rfl,hs3] at hp
   exact(hp.pick (l:=[AU (Az W g),BI g C (BR (Value.agg #[str [],str []]).cells.toList (l.length-C.length)++junk)]) [0,1] (by decide) I).own
 refine key.mono ?_
 rintro e W' ⟨x,he,_,hb,hn'⟩
 exact⟨x,he,tO,H3 hg I hb hn'⟩
theorem BY.cells {W:World} {p:Option Addr} {l:List At} (h:BY W p l):MV W p (ptC l):=by
 rcases h with rfl|⟨b,off,e,h⟩
 ·exact .inl I
 ·by_cases h0:l=[]
  ·exact .inl (by rw[h0];rfl)
  refine .inr ⟨b,off,e, ?_⟩
  have hpos:0<l.length:=List.length_pos_iff.2 h0
  refine⟨(h 0 hpos).lt,fun m u hu=> ?_⟩
  have hm:m<l.length*2:=by rw[<-BD];exact(List.getElem?_eq_some_iff.1 hu).1
  have hi:m/2<l.length:=by omega
  have hr:=h (m/2) hi
  have hd:=W4 hi
  rw[hd,List.getElem?_append_right (by rw[BD,List.length_take];omega),BD,List.length_take,Nat.min_eq_left (by omega),List.getElem?_append_left (by show _<2;omega)] at hu
  have:=hr.get (m-m/2*2) u hu
  rwa [show off+m/2*2+(m-m/2*2)=off+m by omega] at this
theorem Oe (W:World) (p:Option Addr) (cap:Nat) (l:List At) (hn:l.length<=100000) (hA:BY W p l) (hne:l≠[]):
  Ad Tryz.prog 321 #[slv p l.length cap] W (fun V:Vec=>V.val l.length) (fun V=>V.OK 2 l.length (ptC l)/\V.p≠none) (fun V=>[V.bx 62 (ptC l)]):=by
 have hc:=hA.cells
 obtain⟨b,off,rfl,hR⟩: ∃b off,p=some ⟨b,off,none⟩/\Ai W b off (ptC l):=by
  rcases hc with h|h
  ·exfalso
   have h2:l.length*2=0:=by rw[<-BD,h];rfl
   exact hne (List.length_eq_zero_iff.1 (by omega))
  ·exact h
 refine Ab (args:=[slv (some ⟨b,off,none⟩) l.length cap]) Tryz.func321 I I I (zA (zB (wP I (Aa (zE (zA (zA (zB (wP I (XA tH I I I I I I I ?_))))))))))
 refine zC (zE (zS I (zI (zE (zA (zB (EI tH I I I I I ?_)))))))
 intro g
 refine wP I ?_
 refine F2 (len:=0) (V:=⟨some g,0,[]⟩) (xs:=[]) 0 Tryz.vec210 rfl rfl rfl rfl rfl rfl rfl rfl rfl ⟨rfl,(fun h=>by cases h),fun _=>⟨Nat.le_refl _,Nat.zero_le _,rfl⟩⟩ (BD l) (fun W hp j u hj=> ?_) (Fp _) (by simp only[maxLen];omega) (by omega) ?_
 ·rw[Addr.add_none]
  exact((hR.hp hp).get j u hj)
 intro V hV hp0
 refine wP I (Aa (zE (zO ?_)))
 have e0:0+l.length=l.length:=Nat.zero_add _
 rw[e0,List.nil_append] at hV
 exact Ax tH I (.tmp I) V (by rw[e0]) ⟨hV,fun h=>hne (List.length_eq_zero_iff.1 (hp0 h))⟩ fun W hp=>As.of_hp1 hp 0 I
theorem Sn (W:World) (g:Nat) (a b:Int) (h:Ai W g 0 [.int .i64 a, .int .i64 b]):
  Ad Tryz.prog 275 #[.slice (some ⟨g,0,none⟩) 2 2] W (fun _:Unit=> .int .i64 (if a=0 then b else a)) (fun _=>True) (fun _=>[]):=by
 refine Ab (args:=[.slice (some ⟨g,0,none⟩) 2 2]) Tryz.func275 I I I ?_
 have h0:Ai W g (0+0*1) [.int .i64 a]:=⟨h.lt,fun j u hu=>h.get j u (by cases j with|zero=>exact hu|succ j=>cases hu)⟩
 have h1:Ai W g (0+1*1) [.int .i64 b]:=⟨h.lt,fun j u hu=>by
  cases j with
  |zero=>exact h.get 1 u hu
  |succ j=>cases hu⟩
 refine zA (zB (wP I (Aa (zE (zA (zB (wP I (Aa (zE (zA (zA (zB (wP I (wP I (wP I (Aa (zE (zH (Ar (X:=Nat) (fun k=>[(3, .int .i64 0),(6, .slice (some ⟨g,0,none⟩) 2 2),(7, .int .i64 2),(8, .int .i64 (k:Nat))]) (fun _=>[]) (fun k=>k<=2/\(0<k->a=0)/\(1<k->b=0)) (fun k=>2-k) 0 ⟨by omega,fun h=>absurd h (by omega),fun h=>absurd h (by omega)⟩ ⟨I,I,I,I,tO⟩ [] I ?_)))))))))))))))))))
 rintro k ⟨hk,ha,hb⟩
 refine zA (zB (wP I (Aa (zE (zA (Ah I (fun h=> ?_) (fun h=> ?_)))))))
 rotate_left
 ·have e:k=2:=by have h':decide ((k:Int)<2)=false:=h;rw[decide_eq_false_iff_not] at h';omega
  exact zJ (zK (zK (zL (zE (zA (zB (wP I (wP I (Aa (zE (zO (wR1 I I (by rw[if_pos (ha (by omega)),hb (by omega)])))))))))))))
 have hk:k<2:=by have h':decide ((k:Int)<2)=true:=h;rw[decide_eq_true_iff] at h';omega
 clear h
 rcases(show k=0\/k=1 by omega) with rfl|rfl
 ·refine zI (zE (zA (zH (zA (zB (wJ ?_))))))
  refine wL 0 I I (fun W hp=>h0.hp hp) I (wP I (Aa (zE (zA (zB (wP I (wP I (wP I (Aa (zE (Ah I (fun hx=> ?_) (fun hx=> ?_))))))))))))
  ·have hx:a≠0:=by have h':(a !=0)=true:=hx;simpa using h'
   exact zA (zB (wP I (wP I (Aa (zE (zO (zQ (zP (zP (zQ (zP (wR1 I I (by rw[if_neg hx])))))))))))))
  ·have hx:a=0:=by have h':(a !=0)=false:=hx;simpa using h'
   exact zI (zN (zE (zB (wP I (wP I (Aa (Aj 1 ⟨by omega,fun _=>hx,fun h=>absurd h (by omega)⟩ (by omega) ⟨I,I,I,I,tO⟩ [] I)))))))
 ·have ha:=ha (by omega)
  refine zI (zE (zA (zH (zA (zB (wJ ?_))))))
  refine wL 0 I I (fun W hp=>h1.hp hp) I (wP I (Aa (zE (zA (zB (wP I (wP I (wP I (Aa (zE (Ah I (fun hx=> ?_) (fun hx=> ?_))))))))))))
  ·exact zA (zB (wP I (wP I (Aa (zE (zO (zQ (zP (zP (zQ (zP (wR1 I I (by rw[if_pos ha])))))))))))))
  ·have hx:b=0:=by have h':(b !=0)=false:=hx;simpa using h'
   exact zI (zN (zE (zB (wP I (wP I (Aa (Aj 2 ⟨by omega,fun _=>ha,fun _=>hx⟩ (by omega) ⟨I,I,I,I,tO⟩ [] I)))))))
theorem RT (p q:At) (zp:szQ p.1 8/\szQ p.2 8) (zq:szQ q.1 8/\szQ q.2 8) (W:World) (hv:AE W) (ht:A7 W):
  Ad Tryz.prog 274 #[cvV p,cvV q] W (fun _:Unit=> .int .i64 (KB p q)) (fun _=>True) (fun _=>[]):=by
 refine Ab (args:=[cvV p,cvV q]) Tryz.func274 I I I (zA (zB (wF I I fun _=>(wF I I fun _=>(wP I (Aa ?_))))))
 rename_i b2 b3
 refine zE (zA (zU (qP I (qB 0 I I I (qP I (qB 1 I I I (qC I I (fun W hp=>Dc p.1 q.1 (sz2 zp.1 zq.1 (by decide)) W (hv.hp hp) (ht.hp hp)) (qP I (qB 0 I I I (qP I (qB 1 I I I (qC I I (fun W hp=>Dc p.2 q.2 (sz2 zp.2 zq.2 (by decide)) W (hv.hp hp) (ht.hp hp)) (A8 ?_)))))))))))))
 (refine Ao Tryz.hZ tH rfl rfl rfl rfl rfl rfl rfl rfl rfl rfl rfl ?_;intro)
 rename_i b15
 exact wC I I (fun W hp=>Sn W b15 (CU p.1 q.1) (CU p.2 q.2) (Ai.of_bx hp 2 I I)) (wP I (Aa (zE (zO (wR1 I I I)))))
theorem SJ (l:List At) (h0:0<l.length) (hn:l.length<=4096) (hz: ∀x∈l,szQ x.1 8/\szQ x.2 8) (hm: ∀k (hk:k<l.length), ¬KB l[k] l[0]<0) (p:Option Addr) (cap:Nat) (W:World) (hA:BY W p l) (hv:AE W) (ht:A7 W):
  Ad Tryz.prog 277 #[slv p l.length cap, .func (.func 274) #[] #[]] W (fun _:Unit=>cvV l[0]) (fun _=>True) (fun _=>[]):=by
 obtain⟨bq,oq,rfl,hrq⟩:=hA.at_ h0
 obtain⟨x,hx⟩: ∃x,x=l[0]:=⟨_,rfl⟩
 have hr0:=hrq 0 h0
 have zx:=hz _ (List.getElem_mem h0)
 rw[<-hx] at hr0 zx hm⊢
 refine Ab (args:=[slv (some ⟨bq,oq,none⟩) l.length cap, .func (.func 274) #[] #[]]) Tryz.func277 I I I (zA (zB (wG I I fun _=>(Aa ?_))))
 rename_i b4
 refine zE (zA (zA (zB (wP I (wP I (wP I (Aa (zE (Ah I (fun h=> ?_) (fun h=> ?_))))))))))
 ·have h':decide (((l.length:Nat):Int)<1)=true:=h
  rw[decide_eq_true_iff] at h';omega
 clear h
 refine zI (zE (zA (zB (wP I (wJ ?_)))))
 refine wL 0 I I (fun W hp=>hr0.hp hp) I (wG I I fun _=>(wS 1 I I I (Aa ?_)))
 rename_i b5
 refine zE (zA (zA (zB (wP I (Aa (zE (zH ?_)))))))
 refine Ar (X:=Nat) (fun k=>[(0,slv (some ⟨bq,oq,none⟩) l.length cap),(1, .func (.func 274) #[] #[]),(4, .pointer (some ⟨b4,0,none⟩)),(5, .pointer (some ⟨b5,0,none⟩)),(6, .int .i64 ((k+1:Nat):Int))]) (fun k=>[⟨b4,62,[str [],str []],true,none⟩,⟨b5,62,(cvV x).cells.toList,true,none⟩])
  (fun k=>k<l.length) (fun k=>l.length-k) 0 h0 ⟨rfl,rfl,rfl,rfl,rfl,trivial⟩ [] rfl ?_
 intro k hk
 refine zA (zA (zB (wP I (wP I (wP I (wP I (Aa (zE (Ah I (fun h=> ?_) (fun h=> ?_))))))))))
 rotate_left
 ·exact zJ (zK (zK (zL (zE (zA (zB (wB 1 I I I (wS 0 I I I (Aa (zE (zO (Ax tH I (.cell 0 I I I I I) () I tO fun W _=>As.nil _ _))))))))))))
 have hk1:k+1<l.length:=by have h':decide (((k+1:Nat):Int)<(l.length:Nat))=true:=h;rw[decide_eq_true_iff] at h';omega
 clear h
 have zk:=hz _ (List.getElem_mem hk1)
 have hmk:=hm (k+1) hk1
 have hrk:=hrq (k+1) hk1
 obtain⟨y,hy⟩: ∃y,y=l[k+1]:=⟨_,rfl⟩
 rw[<-hy] at zk hmk hrk
 refine zI (zE (zA (zH (zA (zU (qP I (qP I (qP I (qJ ?_)))))))))
 refine qL 0 I I (fun W hp=>hrk.hp hp) I (qB 1 I I I (GL (capt:=[]) I I I I I I (by kernel_rfl) (fun W hp=>RT y x zk zx W (hv.hp hp) (ht.hp hp)) (qP I (A8 (Aa (zE (Ah I (fun hq=> ?_) (fun hq=> ?_))))))))
 ·exact absurd (of_decide_eq_true hq) hmk
 exact zI (zN (zE (zB (wP I (wP I (wV 19 ((k+1+1:Nat):Int) I (Aw (by omega)) (wP I (Aa (Aj (k+1) hk1 (by show l.length-(k+1)<l.length-k;omega) ⟨I,I,I,I,I,tO⟩ [] I)))))))))
theorem Na (l:List At) (h0:0<l.length) (hn:l.length<=100000) (p:Option Addr) (cap:Nat) (W:World) (hA:BY W p l):
  Ad Tryz.prog 276 #[slv p l.length cap,cvV l[0]] W (fun _:Unit=> .int .i64 0) (fun _=>True) (fun _=>[]):=by
 obtain⟨g,off,rfl,hrow⟩:=hA.at_ h0
 have hr:=hrow 0 h0
 obtain⟨q,hq⟩: ∃q,q=l[0]:=⟨_,rfl⟩
 rw[<-hq] at hr⊢
 refine Ab (args:=[slv (some ⟨g,off,none⟩) l.length cap,cvV q]) Tryz.func276 I I I (zA (zB (wF I I fun _=>(wP I (Aa ?_)))))
 rename_i b3
 refine zE (zA (zA (zB (wP I (wP I (wP I (Aa (zE (zH (Ar (X:=Unit) (fun _=>[(0,slv (some ⟨g,off,none⟩) l.length cap),(3,Af b3),(7, .int .i64 (l.length:Nat)),(8, .int .i64 ((0:Nat):Int))]) (fun _=>[⟨b3,62,(cvV q).cells.toList,true,none⟩]) (fun _=>True) (fun _=>0) () tO ⟨I,I,I,I,tO⟩ [] I ?_))))))))))
 intro _ _
 refine zA (zB (wP I (wU 9 true I (dT (by omega)) (Aa (zE (zA (zR I (zI (zE (zA (zH (zA (zB (wP I (wP I (Aa (zE (Av (zU (qB 0 I I I (qP I (qP I (qJ ?_)))))))))))))))))))))))
 refine qL 0 I I (fun W1 hp=>hr.hp hp) I (QQ (Ac q.1) (Ac q.2) (Ac q.1) (Ac q.2) I I I I I ?_)
 exact qU 16 true I (by simp) (A8 (Aa (zE (zR I (zA (zB (wP I (wP I (Aa (zE (zO (zQ (zP (zP (zQ (zP (wR1 I I I)))))))))))))))))
abbrev XF (ix:Nat->Nat) (P:Nat->At) (k:Nat):List Value:=[.int .i64 (ix k:Nat),cvV (P k)]
theorem TH (p:Option Addr) (n cap:Nat) (W:World):Ad Tryz.prog 326 #[slv p n cap] W (fun b:Nat=> .func (.func 359) #[] #[Af b]) (fun _=>True) (fun b=>[⟨b,210,[slv p n cap],true,none⟩]):=by
 refine Ab (args:=[slv p n cap]) Tryz.func326 I I I (zA (zB (wF I I fun _=>(wP I (Aa ?_)))))
 rename_i b
 exact zE (zA (zB (wP I (wP I (Aa (zE (zO (Ax tH I (.tmp I) b I tO fun W1 hp=>As.of_hp hp))))))))
theorem Rr (p:Option Addr) (n cap:Nat) (W:World):Ad Tryz.prog 327 #[slv p n cap] W (fun b:Nat=> .func (.func 360) #[] #[Af b]) (fun _=>True) (fun b=>[⟨b,210,[slv p n cap],true,none⟩]):=by
 refine Ab (args:=[slv p n cap]) Tryz.func327 I I I (zA (zB (wF I I fun _=>(wP I (Aa ?_)))))
 rename_i b
 exact zE (zA (zB (wP I (wP I (Aa (zE (zO (Ax tH I (.tmp I) b I tO fun W1 hp=>As.of_hp hp))))))))
theorem Vi (l:List At) (b1:Nat) (p:Option Addr) (cap:Nat) (hn:l.length<1099511627776):Pm Tryz.prog 359 [Af b1] l.length (XF (fun k=>k) (Au l)) (fun _=>Xq b1 p cap l):=by
 refine⟨fun y J Jx hN hB hA hU hY W hJ=> ?_⟩
 have hp0:=(hN _ _ W hJ).1.pts
 refine CT (args:=[.func (.yield y) #[] #[],Af b1]) (J0:=J 0 []) (Jm:=fun W=> ∃L,J l.length L W) Tryz.func359 I I I hJ ?_
 refine zA (zB (wL 0 I I (fun W hp=>(hN _ _ W hp).1.var) I (wP I (wP I (Aa (zE (zH ?_)))))))
 refine Db (X:=Nat×List (Nat×Obj)) (fun s=>[(0, .func (.yield y) #[] #[]),(1,Af b1),(5,slv p l.length cap),(6, .int .i64 (l.length:Nat)),(7, .int .i64 (s.1:Nat))]) (fun s W=>J s.1 s.2 W)
  (fun s=>s.1<=l.length) (fun s=>l.length-s.1) (0,[]) (Nat.zero_le _) ⟨rfl,rfl,rfl,rfl,rfl,trivial⟩ (fun W hp=>hp) ?_
 rintro⟨i,L⟩ hi
 have hi:i<=l.length:=hi
 refine zA (zB (wP I ?_))
 by_cases hlt:i<l.length
 rotate_left
 ·refine wU 8 false I (dF (by omega)) (Aa (zE (zA (zS I (zJ (zK (zK (zL ?_))))))))
  exact Fv I fun W hp=>⟨L,by
   have e:i=l.length:=by omega
   have hp:J i L W:=hp
   rw[e] at hp
   exact hp⟩
 refine wU 8 true I (dT (by omega)) (Aa (zE (zA (zR I (zI (zE (zA (zH (zA (zB ?_))))))))))
 obtain⟨g,off,hpe,hrow⟩: ∃g off,p=some ⟨g,off,none⟩/\ ∀W k L,J k L W-> ∀j,j<l.length->Ai W g (off+j*2) [str (Ac (Au l j).1),str (Ac (Au l j).2)]:=by
  obtain⟨g,off,e,_⟩:=hp0.at_ hlt
  refine⟨g,off,e,fun W1 k L1 h1 j hj=> ?_⟩
  obtain⟨g',off',e',h2⟩:=(hN _ _ W1 h1).1.pts.at_ hj
  rw[e] at e'
  cases e'
  rw[Dk hj]
  exact h2 j hj
 subst hpe
 refine wP I (wJ ?_)
 refine wL 0 I I (fun W hp=>hrow W _ _ hp i hlt) I (KA (fun b W=>J i [(b, .cells (Value.agg #[str [],str []]).cells 62 (0,0))] W) I I I (Tryz.hZ.get I) (fun W W' b hp hb hl ho=>hA _ _ W W' b _ hp hb hl ho) fun b=> ?_)
 refine wP I (KC (cs:=[str [],str []]) (ty:=62) (fun W=>J i (Ot b (Au l i)) W) tH I I I I I I (fun W hp=>(hN _ _ W hp).2 (b,_) (List.mem_cons_self ..)) I I I (fun W W' hp hu=>hU _ _ _ _ W W' hp hu) ?_)
 refine Aa (zE (zA (zB (wP I (wP I (wL 0 I I (fun W hp=>show Ai W b 0 (cvV (Au l i)).cells.toList from Ai.of_block ((hN _ _ W hp).2 (b,_) (List.mem_cons_self ..))) I ?_))))))
 have hYk: ∀W,J i (Ot b (Au l i)) W->YieldAt (Fw none) 0 Tryz.prog y (XF (fun k=>k) (Au l) i).toArray W fun e W'=>(e= .returned (.bool true)/\J (i+1) (Ot b (Au l i)) W')\/(e= .returned (.bool false)/\Jx W'):=fun W h=>hY _ _ W hlt h
 refine Eo (A1:=fun W=>J (i+1) (Ot b (Au l i)) W) (A2:=Jx) I I I I I I hYk ?_ ?_
 rotate_left
 ·exact wP I (Aa (zE (zR I (zO (zQ (zP (zP (zQ (Ce I (fun W h=>h))))))))))
 exact wP I (Aa (zE (zS I (zI (zN (zE (zB (wP I (wV 17 ((i+1:Nat):Int) I (Aw (by omega)) (wP I (Aa (Da (i+1,Ot b (Au l i)) hlt (by show l.length-(i+1)<l.length-i;omega) ⟨I,I,I,I,I,tO⟩ (fun W hp=>hp)))))))))))))
theorem SX (l:List At) (b1:Nat) (p:Option Addr) (cap:Nat) (hn:l.length<1099511627776):Pm Tryz.prog 360 [Af b1] l.length (XF (fun k=>l.length-1-k) (fun k=>Au l (l.length-1-k))) (fun _=>Xq b1 p cap l):=by
 refine⟨fun y J Jx hN hB hA hU hY W hJ=> ?_⟩
 have hp0:=(hN _ _ W hJ).1.pts
 refine CT (args:=[.func (.yield y) #[] #[],Af b1]) (J0:=J 0 []) (Jm:=fun W=> ∃L,J l.length L W) Tryz.func360 I I I hJ ?_
 refine zA (zB (wL 0 I I (fun W hp=>(hN _ _ W hp).1.var) I (wP I (wP I (wV 6 ((l.length:Int)-1-(0:Nat)) I (show w64 ((l.length:Int)-1)=_ by rw[Ak (by omega) (by omega)];omega) (wP I (Aa (zE (zH ?_)))))))))
 refine Db (X:=Nat) (fun k=>[(0, .func (.yield y) #[] #[]),(1,Af b1),(3, .int .i64 ((l.length:Int)-1-(k:Nat)))]) (fun k W=>J k [] W)
  (fun k=>k<=l.length) (fun k=>l.length-k) 0 (Nat.zero_le _) ⟨rfl,rfl,rfl,trivial⟩ (fun W hp=>hp) ?_
 intro k hk
 have hk:k<=l.length:=hk
 refine zA (zA (zB (wP I (wP I ?_))))
 by_cases hlt:k<l.length
 rotate_left
 ·refine wU 8 false I (dF (by omega)) (Aa (zE (zS I (zJ (zK (zK (zL ?_)))))))
  exact Fv I fun W hp=>⟨[],by
   have e:k=l.length:=by omega
   have hp:J k [] W:=hp
   rw[e] at hp
   exact hp⟩
 refine wU 8 true I (dT (by omega)) (Aa (zE (zR I (zI (zE (zA (zH (zA (zB ?_)))))))))
 obtain⟨g,off,hpe,hrow⟩: ∃g off,p=some ⟨g,off,none⟩/\ ∀W k L,J k L W-> ∀j,j<l.length->Ai W g (off+j*2) [str (Ac (Au l j).1),str (Ac (Au l j).2)]:=by
  obtain⟨g,off,e,_⟩:=hp0.at_ hlt
  refine⟨g,off,e,fun W1 k L1 h1 j hj=> ?_⟩
  obtain⟨g',off',e',h2⟩:=(hN _ _ W1 h1).1.pts.at_ hj
  rw[e] at e'
  cases e'
  rw[Dk hj]
  exact h2 j hj
 subst hpe
 have ej:(l.length:Int)-1-(k:Nat)=((l.length-1-k:Nat):Int):=by omega
 have hj:l.length-1-k<l.length:=by omega
 refine wP I (wP I (wV 12 ((l.length-1-k:Nat):Int) I ej (wL 0 I I (fun W hp=>(hN _ _ W hp).1.var) I (wP I (wV 14 ((l.length-1-k:Nat):Int) I ej (wJ ?_))))))
 refine wL 0 I I (fun W hp=>hrow W _ _ hp (l.length-1-k) hj) I ?_
 have hYk: ∀W,J k [] W->YieldAt (Fw none) 0 Tryz.prog y (XF (fun k=>l.length-1-k) (fun k=>Au l (l.length-1-k)) k).toArray W fun e W'=>(e= .returned (.bool true)/\J (k+1) [] W')\/(e= .returned (.bool false)/\Jx W'):=fun W h=>hY _ _ W hlt h
 refine Eo (A1:=fun W=>J (k+1) [] W) (A2:=Jx) I I I I I I hYk ?_ ?_
 rotate_left
 ·exact wP I (Aa (zE (zR I (zO (zQ (zP (zP (zQ (Ce I (fun W h=>h))))))))))
 exact wP I (Aa (zE (zS I (zI (zN (zE (zB (wP I (wP I (wV 10 ((l.length:Int)-1-((k+1:Nat):Int)) I (show w64 ((l.length:Int)-1-(k:Nat)-1)=_ by rw[Ak (by omega) (by omega)];omega) (wP I (Aa (Da (k+1) hlt (by show l.length-(k+1)<l.length-k;omega) ⟨I,I,I,tO⟩ (fun W hp=>hp))))))))))))))
def Dq (P:Nat->At):Nat->List At
 |0=>[]
 |k+1=>P k::CC (P k) (Dq P k)
theorem J3 (p:At):CC p []=[]:=by simp[CC]
theorem J6 (p b:At):CC p [b]=[b]:=by simp[CC]
theorem Jj {p a b:At} {t:List At} (h:EX a b p<=0):CC p (b::a::t)=CC p (a::t):=by rw[CC,if_pos h]
theorem Is {p a b:At} {t:List At} (h: ¬EX a b p<=0):CC p (b::a::t)=b::a::t:=by rw[CC,if_neg h]
theorem Jv (p:At): ∀r,(CC p r).length<=r.length
 |[]=>by rw[J3];exact Nat.le_refl _
 |[b]=>by rw[J6];exact Nat.le_refl _
 |b::a::t=>by
  by_cases h:EX a b p<=0
  ·rw[Jj h]
   have:=Jv p (a::t)
   simp only[List.length_cons] at this⊢
   omega
  ·rw[Is h];exact Nat.le_refl _
theorem NR {p x:At}: ∀ {r:List At},x∈CC p r->x∈r
 |[],h=>by rwa [J3] at h
 |[b],h=>by rwa [J6] at h
 |b::a::t,h=>by
  by_cases c:EX a b p<=0
  ·rw[Jj c] at h
   exact List.mem_cons_of_mem _ (NR h)
  ·rwa [Is c] at h
theorem Il (P:Nat->At): ∀k,(Dq P k).length<=k
 |0=>Nat.le_refl _
 |k+1=>by
  have h1:=Il P k
  have h2:=Jv (P k) (Dq P k)
  show(CC (P k) (Dq P k)).length+1<=k+1
  omega
theorem Sb {P:Nat->At} {x:At}: ∀ {k:Nat},x∈Dq P k-> ∃i,i<k/\x=P i
 |0,h=>absurd h List.not_mem_nil
 |k+1,h=>by
  rcases List.mem_cons.1 h with rfl|h
  ·exact⟨k,by omega,I⟩
  ·obtain⟨i,hi,e⟩:=Sb (NR h)
   exact⟨i,by omega,e⟩
theorem OR (l:List At): ∀(P:Nat->At),(∀i (h:i<l.length),P i=l[i])->Dq P l.length=Ey l:=by
 have key: ∀(m:List At) (r:List At) (P:Nat->At) (j:Nat),Dq P j=r->(∀i (h:i<m.length),P (j+i)=m[i])->Dq P (j+m.length)=m.foldl (fun r p=>p::CC p r) r:=by
  intro m
  induction m with
  |nil=>exact fun r P j h _=>h
  |cons x m ih=>
   intro r P j h hP
   have e0:P j=x:=hP 0 (by simp)
   rw[List.length_cons,show j+(m.length+1)=j+1+m.length by omega]
   rw[List.foldl_cons]
   refine ih _ P (j+1) ?_ fun i hi=> ?_
   ·show P j::CC (P j) (Dq P j)=_
    rw[e0,h]
   ·have:=hP (i+1) (by rw[List.length_cons];omega)
    rw[show j+1+i=j+(i+1) by omega,this];rfl
 intro P hP
 have:=key l [] P 0 rfl (fun i h=>by rw[Nat.zero_add];exact hP i h)
 rwa [Nat.zero_add] at this
theorem Rn (l:List At):Dq (Au l) l.length=Ey l:=OR l _ fun _ h=>Dk h
theorem Rs (l:List At):Dq (fun k=>Au l (l.length-1-k)) l.length=Ey l.reverse:=by
 have:=OR l.reverse (fun k=>Au l (l.length-1-k)) fun i h=>by
  rw[List.length_reverse] at h
  show Au l (l.length-1-i)=_
  rw[Dk (by omega),List.getElem_reverse]
 rwa [List.length_reverse] at this
theorem YS (p q r:At):decide (Ta p q r<=0)=decide (EX p q r<=0):=by
 unfold Ta
 rw[PH]
 exact decide_eq_decide.2 (by unfold EX;constructor<;>intro h<;>grind)
abbrev Lf (c:Nat) (x y z:At) (W:World):Prop:=Ad Tryz.prog 325 #[Af c,cvV x,cvV y,cvV z] W (fun _:Unit=> .int .i64 (Ta x y z)) (fun _=>True) (fun _=>[])
theorem Uu (a b:At) (t:List At) (j:List Value):ptC (b::a::t).reverse++j=ptC t.reverse++([str (Ac a.1),str (Ac a.2)]++([str (Ac b.1),str (Ac b.2)]++j)):=by
 rw[List.reverse_cons,List.reverse_cons,CQ,CQ,List.append_assoc,List.append_assoc];rfl
theorem Ur (b:At) (t:List At) (j:List Value):ptC t.reverse++(ptC [b]++j)=ptC (b::t).reverse++j:=by
 rw[List.reverse_cons,CQ,List.append_assoc]
theorem UN {g cap:Nat} {j:List Value} {b:At} {t:List At} (h:(⟨some g,cap,j⟩:Vec).OK 2 (b::t).length (ptC (b::t).reverse)):(⟨some g,cap,ptC [b]++j⟩:Vec).OK 2 t.length (ptC t.reverse):=by
 obtain⟨h1,h2,h3⟩:=h.cap (by simp)
 refine⟨by rw[BD,List.length_reverse],(fun e=>by cases e),fun _=>⟨?_,h2, ?_⟩⟩
 ·have h1:t.length+1<=cap:=h1
  show t.length<=cap
  omega
 ·rw[BD,List.length_reverse] at h3
  show(ptC t.reverse).length+(ptC [b]++j).length=cap*2
  have h3:(t.length+1)*2+j.length=cap*2:=h3
  rw[BD,List.length_reverse,List.length_append]
  show t.length*2+(2+j.length)=cap*2
  omega
theorem Lq (bk c gf:Nat) (lb:List Value) (hE:AO Tryz.prog gf=true) (m:Nat) (ix:Nat->Nat) (P:Nat->At) (Need:Nat->World->Prop) (hI:Pm Tryz.prog gf lb m (XF ix P) Need) (h0:0<m) (hm:m<=4096) (W:World) (hk:Ai W bk 0 [Af c])
  (hN: ∀k W1,Below W.heap.size W W1->Need k W1) (hL: ∀i j k,i<m->j<m->k<m-> ∀W1,Below W.heap.size W W1->Lf c (P i) (P j) (P k) W1):
  Ad Tryz.prog 324 #[.func (.func gf) #[] lb.toArray,Af bk] W (fun V:Vec=>V.val ((Dq P m).length-1)) (fun V=>V.OK 2 ((Dq P m).length-1) (ptC (Dq P m).tail.reverse)/\V.p≠none) (fun V=>[V.bx 62 (ptC (Dq P m).tail.reverse)]):=by
 obtain⟨S,hS⟩: ∃S,S=Dq P m:=⟨_,rfl⟩
 rw[<-hS]
 refine Ab (args:=[.func (.func gf) #[] lb.toArray,Af bk]) Tryz.func324 I I I (zA (zB (wP I (Aa (zE (zA (zB (wG I I fun _=>(Aa ?_)))))))))
 rename_i b4
 refine zE (zA (zA (zB (wP I (Aa (zE (zH (CI ?_))))))))
 refine EE (X:=Nat×Vec) (fun x=>[lsB b4 (x.2.val (Dq P x.1).length),x.2.bx 62 (ptC (Dq P x.1).reverse)])
  (fun j x=>x.1=j/\x.2.OK 2 (Dq P x.1).length (ptC (Dq P x.1).reverse)) (fun _ _=>False) (0,Vec.empty) rfl hE hI (fun _=>rfl)
  ⟨rfl,Vec.OK.empty 2⟩ [] rfl (fun k x W1 _ hp=>hN k W1 hp.below) ?_ ?_ (fun _ _ _ _ _ h=>h.elim)
 ·rintro k ⟨k',O⟩ d l' rec L hk1 ⟨e1,hO⟩ hrec
  obtain rfl:k'=k:=e1
  have hk1:k'<m:=hk1
  have hO:O.OK 2 (Dq P k').length (ptC (Dq P k').reverse):=hO
  have hlen:=Il P k'
  have hsu:Dq P (k'+1)=P k'::CC (P k') (Dq P k'):=rfl
  have hmem: ∀x∈Dq P k', ∃i,i<m/\x=P i:=fun x hx=>by
   obtain⟨i,hi,e⟩:=Sb hx
   exact⟨i,by omega,e⟩
  obtain⟨r1,hr1⟩: ∃r1,r1=CC (P k') (Dq P k'):=⟨_,rfl⟩
  have hlr:r1.length<=(Dq P k').length:=by rw[hr1];exact Jv _ _
  rw[<-hr1] at hsu
  refine zB (wG I I fun _=>(wS 5 I I I (Aa ?_)))
  rename_i b6
  refine BJ 4 hrec I ?_
  refine Bv (G1 (X:=Vec) (fun _=>[(1,Af bk),(4,Af b4),(6,Af b6)]) (fun O=>[AU L,lsB b4 (O.val r1.length),O.bx 62 (ptC r1.reverse),BG d,Be l' rec .busy none,ptB b6 (Ac (P k').1) (Ac (P k').2)]) (fun O=>O.OK 2 r1.length (ptC r1.reverse)) ?_ ?_)
  ·refine zH ?_
   refine Ar (X:=List At×Vec) (fun _=>[(1,Af bk),(4,Af b4),(6,Af b6)]) (fun s=>[AU L,lsB b4 (s.2.val s.1.length),s.2.bx 62 (ptC s.1.reverse),BG d,Be l' rec .busy none,ptB b6 (Ac (P k').1) (Ac (P k').2)])
    (fun s=>CC (P k') s.1=r1/\(∀x∈s.1,x∈Dq P k')/\s.1.length<=4096/\s.2.OK 2 s.1.length (ptC s.1.reverse)) (fun s=>s.1.length) (Dq P k',O) ⟨hr1.symm,fun _ h=>h,by show(Dq P k').length<=4096;omega,hO⟩ ⟨rfl,rfl,rfl,trivial⟩ [] rfl ?_
   rintro⟨r,⟨pO,cO,jO⟩⟩ ⟨i1,i2,i3,i4⟩
   have i1:CC (P k') r=r1:=i1
   have i2: ∀x∈r,x∈Dq P k':=i2
   have i3:r.length<=4096:=i3
   have i4:(⟨pO,cO,jO⟩:Vec).OK 2 r.length (ptC r.reverse):=i4
   rcases r with _|⟨b,_|⟨a,t⟩⟩
   ·obtain rfl:r1=[]:=by rw[<-i1,J3]
    cases pO with
    |none=>
     refine zA (zA (zU (qB 1 I I I (qP I (qP I (EG 12 (.bool false) I I (qP I ?_)))))))
     iterate 16 refine Cg I I ?_
     exact qP I (A8 (Aa (zE (zS I (zJ (zK (zK (zL (An (⟨none,cO,jO⟩:Vec) i4 ⟨I,I,I,tO⟩ [] I)))))))))
    |some g=>
     refine zA (zA (zU (qB 1 I I I (qP I (qP I (EG 12 (.bool false) I I (qP I ?_)))))))
     iterate 16 refine Cg I I ?_
     exact qP I (A8 (Aa (zE (zS I (zJ (zK (zK (zL (An (⟨some g,cO,jO⟩:Vec) i4 ⟨I,I,I,tO⟩ [] I)))))))))
   ·obtain rfl:r1=[b]:=by rw[<-i1,J6]
    cases pO with
    |none=>exact absurd (i4.nil rfl) (by simp)
    |some g=>
    refine zA (zA (zU (qB 1 I I I (qP I (qP I (EG 12 (.bool false) I I (qP I ?_)))))))
    iterate 16 refine Cg I I ?_
    exact qP I (A8 (Aa (zE (zS I (zJ (zK (zK (zL (An (⟨some g,cO,jO⟩:Vec) i4 ⟨I,I,I,tO⟩ [] I)))))))))
   ·cases pO with
    |none=>exact absurd (i4.nil rfl) (by simp)
    |some g=>
    have i3:t.length+1+1<=4096:=i3
    have el:(b::a::t).length=t.length+2:=rfl
    obtain⟨ia,ha,ea⟩:=hmem a (i2 a (by simp))
    obtain⟨ib,hb,eb⟩:=hmem b (i2 b (by simp))
    have hleft: ∀W1,Below W.heap.size W W1->Lf c a b (P k') W1:=fun W1 h=>by rw[ea,eb];exact hL ia ib k' ha hb hk1 W1 h
    have hA:(ptC t.reverse).length=t.length*2:=by rw[BD,List.length_reverse]
    refine zA (zA (zU (qB 1 I I I (qP I (qP I (qU 12 true I (dT (by rw[el];omega)) (qP I (qL 0 I I (fun W1 hp=>hk.hp hp) I (qB 1 I I I (qB 1 I I I (qP I (qP I (qV 18 ((t.length:Nat):Int) I (show w64 (((b::a::t).length:Int)-2)=_ by rw[el,Ak (by omega) (by omega)];omega) (qI I I (by omega) (by rw[el];omega) (qL 0 I I (fun W1 hp=>show Ai W1 g (0+t.length*2) [str (Ac a.1),str (Ac a.2)] from GZ hp 2 (A:=ptC t.reverse) (C:=[str (Ac b.1),str (Ac b.2)]++jO) I (Uu a b t jO) (by rw[hA];omega)) I (qB 1 I I I (qB 1 I I I (qP I (qP I (qV 24 ((t.length+1:Nat):Int) I (show w64 (((b::a::t).length:Int)-1)=_ by rw[el,Ak (by omega) (by omega)];omega) (qI I I (by omega) (by rw[el];omega) (qL 0 I I (fun W1 hp=>show Ai W1 g (0+(t.length+1)*2) [str (Ac b.1),str (Ac b.2)] from GZ hp 2 (A:=ptC t.reverse++[str (Ac a.1),str (Ac a.2)]) (C:=jO) I ((Uu a b t jO).trans (by rw[List.append_assoc])) (by rw[List.length_append,hA];show 0+(t.length+1)*2=t.length*2+2;omega)) I (qB 5 I I I ?_)))))))))))))))))))))))
    refine qC I I (fun W1 hp=>hleft W1 hp.below) (qP I (qU 29 (decide (EX a b (P k')<=0)) I (YS a b (P k')) (qP I (A8 (Aa (zE (Ah I (fun hc=> ?_) (fun hc=> ?_))))))))
    ·have hc':EX a b (P k')<=0:=of_decide_eq_true hc
     refine zI (zE (zH (zB (wB 1 I I I (wB 1 I I I (wP I (wP I (wV 34 ((t.length+1:Nat):Int) I (show w64 (((b::a::t).length:Int)-1)=_ by rw[el,Ak (by omega) (by omega)];omega) ?_))))))))
     refine B6 (t.length+1) tH I I I I I I I I (by have h2:t.length+2<=cO:=(i4.cap (by simp)).1;show t.length+1<=cO;omega) ?_
     refine wS 1 I I I (Aa (zN ?_))
     exact Aj (a::t,(⟨some g,cO,ptC [b]++jO⟩:Vec)) ⟨by rw[<-i1,Jj hc'],fun x hx=>i2 x (List.mem_cons_of_mem _ hx),by show t.length+1<=4096;omega,UN i4⟩ (by show t.length+1<t.length+1+1;omega) ⟨I,I,I,tO⟩ []
      (by show _=[AU L,lsB b4 (.slice (some ⟨g,0,none⟩) (t.length+1) cO),(⟨g,62,ptC (a::t).reverse++(ptC [b]++jO),true,none⟩:Bx),BG d,Be l' rec .busy none,ptB b6 (Ac (P k').1) (Ac (P k').2)];rw[Ur];rfl)
    ·have hc': ¬EX a b (P k')<=0:=of_decide_eq_false hc
     obtain rfl:r1=b::a::t:=by rw[<-i1,Is hc']
     exact zJ (zK (zK (zL (An (⟨some g,cO,jO⟩:Vec) i4 ⟨I,I,I,tO⟩ [] I))))
  ·intro O1 hO1
   have hO1:O1.OK 2 r1.length (ptC r1.reverse):=hO1
   refine zB (wB 1 I I I (wB 5 I I I (Ao Tryz.hZ tH I I I I I I I I I I I fun bS=> ?_)))
   refine AK (V:=O1) (len:=r1.length) (xs:=ptC r1.reverse) 2 6 Tryz.vec210 (r1.length+1) (ptC (P k'::r1).reverse) I I I I I I I I I I I hO1 I I I (by rw[List.reverse_cons,CQ];rfl) (by simp only[maxLen];omega) (by omega) I ?_
   intro gO cO jO hO2
   exact wS 1 I I I (Aa (zN (Bk 4 (k'+1,(⟨some gO,cO,jO⟩:Vec)) hrec I ⟨I,by show(⟨some gO,cO,jO⟩:Vec).OK 2 (Dq P (k'+1)).length (ptC (Dq P (k'+1)).reverse);rw[hsu];exact hO2⟩ [_,_] (by rw[hsu];rfl))))
 ·rintro⟨k',⟨pO,cO,jO⟩⟩ d l' rec ⟨e1,hO⟩
  obtain rfl:k'=m:=e1
  have hO:(⟨pO,cO,jO⟩:Vec).OK 2 (Dq P k').length (ptC (Dq P k').reverse):=hO
  have hlen:=Il P k'
  have hne:S≠[]:=by
   obtain⟨j,rfl⟩: ∃j,k'=j+1:=⟨k'-1,by omega⟩
   rw[hS]
   exact List.cons_ne_nil _ _
  rw[<-hS] at hO hlen
  rw[<-hS]
  clear hS
  obtain⟨b,t,rfl⟩: ∃b t,S=b::t:=by
   cases S with
   |nil=>exact absurd rfl hne
   |cons b t=>exact⟨b,t,rfl⟩
  cases pO with
  |none=>exact absurd (hO.nil rfl) (by simp)
  |some g=>
  have hlen:t.length+1<=k':=hlen
  have el:(b::t).length=t.length+1:=rfl
  refine zN (zE (zA (zB (wB 0 I I I (wB 0 I I I (wP I (wP I (wV 43 (t.length:Nat) I (show w64 (((b::t).length:Int)-1)=_ by rw[el,Ak (by omega) (by omega)];omega) ?_))))))))
  refine B6 t.length tH I I I I I I I I (by have h2:t.length+1<=cO:=(hO.cap (by simp)).1;show t.length<=cO;omega) ?_
  refine wP I (Aa (zE (zO (Ci 2 I ?_))))
  exact Ax tH I (.tmp I) (⟨some g,cO,ptC [b]++jO⟩:Vec) I ⟨UN hO,by simp⟩ fun W1 hp=>by
   have h1:=hp.pick (l:=[(⟨g,62,ptC (b::t).reverse++jO,true,none⟩:Bx)]) [1] (by decide) rfl
   rw[<-Ur] at h1
   exact As.of_hp h1
theorem LI (p q:Rat) (hkp:okQ p) (hkq:okQ q) (h:BV p q) (W0:World) (hv:AE W0) (ht:A7 W0):
  Ad Tryz.prog 159 #[str (Ac p),str (Ac q)] W0 (fun _:Unit=> .tuple #[.int .i64 (Mk (p.num*(q.den:Nat)) (q.num*(p.den:Nat))), .int .i64 0]) (fun _=>True) (fun _=>[]):=by
 have hlp:=AP hkp
 have hlq:=AP hkq
 refine Ab (args:=[str (Ac p),str (Ac q)]) Tryz.func159 I I I (zA (zB (wP I (wP I (Aa (A6 (Av (AA (X:=Unit) (fun _=>[(0,str (Ac p)),(1,str (Ac q)),(4, .int .i64 0),(5, .int .i64 0)]) (fun _=>[]) (fun _=>True) ?_ ?_))))))))
 ·refine zA (zB (wP I ?_))
  by_cases hp:smQ p
  ·refine wC I I (fun W _=>(AN (Ac p) (by omega) W).cast ((BL p).trans (if_pos hp))) (wP I (wP I (wP I (wG I I fun _=>(wS 0 I I I (wP I (Aa ?_)))))))
   rename_i b6
   refine zE (zA (zB (wP I (Aa (zE (zR I (zA (zB (wP I ?_)))))))))
   by_cases hq:smQ q
   ·refine wC I I (fun W _=>(AN (Ac q) (by omega) W).cast ((BL q).trans (if_pos hq))) (wP I (wP I (wP I (wG I I fun _=>(wS 1 I I I (wP I (Aa ?_)))))))
    rename_i b8
    refine zE (zA (zB (wP I (Aa (zE (zR I (zA (zB (wP I (wB 0 I I I (wP I (wB 1 I I I (wP I (wV 31 (p.num*(q.den:Nat)) I (C6 hp.1 (CX q hq)) (wP I (wB 1 I I I (wP I (wB 0 I I I (wP I (wV 36 (q.num*(p.den:Nat)) I (C6 hq.1 (CX p hp)) (wC I I (fun W _=>Jk _ _ W) (wP I (wP I ?_)))))))))))))))))))))))
    exact Aa (zE (zO (zP (wR2 I I I))))
   ·exact wC I I (fun W _=>(AN (Ac q) (by omega) W).cast ((BL q).trans (if_neg hq))) (wP I (wP I (wP I (wG I I fun _=>(wS 1 I I I (wP I (Aa (zE (zA (zB (wP I (Aa (zE (zS I (zI (An () tO ⟨I,I,I,I,tO⟩ _ I))))))))))))))))
  ·exact wC I I (fun W _=>(AN (Ac p) (by omega) W).cast ((BL p).trans (if_neg hp))) (wP I (wP I (wP I (wG I I fun _=>(wS 0 I I I (wP I (Aa (zE (zA (zB (wP I (Aa (zE (zS I (zI (An () tO ⟨I,I,I,I,tO⟩ _ I))))))))))))))))
 ·intro _ _
  refine zA (zB (wP I (wC I I (fun W hp=>(Ck (Ac p) (by omega) W (hv.hp hp) (ht.hp hp)).cast (Hu hkp)) (wP I (wP I (wP I (wG I I fun _=>(wS 0 I I I (wP I (Aa ?_))))))))))
  rename_i b10
  refine zE (zA (zA (zB (wP I (wP I (Aa (zE (zS I (zI (zE (zA (zB (wP I (wC I I (fun W hp=>(Ck (Ac q) (by omega) W (hv.hp hp) (ht.hp hp)).cast (Hu hkq)) (wP I (wP I (wP I (wG I I fun _=>(wS 1 I I I (wP I (Aa ?_)))))))))))))))))))))
  rename_i b12
  refine zE (zA (zA (zB (wP I (wP I (Aa (zE (zS I (zI (zE (zA (zB (wB 0 I I I (wB 1 I I I (wC I I (fun W hp=>Dd p q hkp hkq h.1 h.2 W (ht.hp hp)) (wP I (wP I (wP I (wP I (wP I (wP I (wP I (Aa ?_)))))))))))))))))))))))
  exact zE (zA (zA (zB (wP I (wP I (Aa (zE (zS I (zI (zE (zA (zB (wP I (wP I (wC I I (fun W _=>I7 _ _ h.1 h.2 W) (wP I (wP I (wP I (wP I (Aa (zE (zO (wR2 I I I)))))))))))))))))))))))
theorem LQ (p q:Rat) (hkp:okQ p) (hkq:okQ q) (hno: ¬BV p q) (W0:World) (hv:AE W0) (ht:A7 W0):
  Ad Tryz.prog 159 #[str (Ac p),str (Ac q)] W0 (fun _:Unit=> .tuple #[.int .i64 0, .int .i64 4]) (fun _=>True) (fun _=>[]):=by
 obtain⟨s,hs⟩:=Iz p q hkp hkq hno
 have hlp:=AP hkp
 have hlq:=AP hkq
 refine Ab (args:=[str (Ac p),str (Ac q)]) Tryz.func159 I I I (zA (zB (wP I (wP I (Aa (A6 (Av (AA (X:=Unit) (fun _=>[(0,str (Ac p)),(1,str (Ac q)),(4, .int .i64 0),(5, .int .i64 0)]) (fun _=>[]) (fun _=>True) ?_ ?_))))))))
 ·refine zA (zB (wP I ?_))
  by_cases hp:smQ p
  ·refine wC I I (fun W _=>(AN (Ac p) (by omega) W).cast ((BL p).trans (if_pos hp))) (wP I (wP I (wP I (wG I I fun _=>(wS 0 I I I (wP I (Aa ?_)))))))
   rename_i b6
   refine zE (zA (zB (wP I (Aa (zE (zR I (zA (zB (wP I ?_)))))))))
   by_cases hq:smQ q
   ·exact absurd (Tq ⟨hp,hq⟩).2.2.2 hno
   ·exact wC I I (fun W _=>(AN (Ac q) (by omega) W).cast ((BL q).trans (if_neg hq))) (wP I (wP I (wP I (wG I I fun _=>(wS 1 I I I (wP I (Aa (zE (zA (zB (wP I (Aa (zE (zS I (zI (An () tO ⟨I,I,I,I,tO⟩ _ I))))))))))))))))
  ·exact wC I I (fun W _=>(AN (Ac p) (by omega) W).cast ((BL p).trans (if_neg hp))) (wP I (wP I (wP I (wG I I fun _=>(wS 0 I I I (wP I (Aa (zE (zA (zB (wP I (Aa (zE (zS I (zI (An () tO ⟨I,I,I,I,tO⟩ _ I))))))))))))))))
 ·intro _ _
  refine zA (zB (wP I (wC I I (fun W hp=>(Ck (Ac p) (by omega) W (hv.hp hp) (ht.hp hp)).cast (Hu hkp)) (wP I (wP I (wP I (wG I I fun _=>(wS 0 I I I (wP I (Aa ?_))))))))))
  rename_i b10
  refine zE (zA (zA (zB (wP I (wP I (Aa (zE (zS I (zI (zE (zA (zB (wP I (wC I I (fun W hp=>(Ck (Ac q) (by omega) W (hv.hp hp) (ht.hp hp)).cast (Hu hkq)) (wP I (wP I (wP I (wG I I fun _=>(wS 1 I I I (wP I (Aa ?_)))))))))))))))))))))
  rename_i b12
  refine zE (zA (zA (zB (wP I (wP I (Aa (zE (zS I (zI (zE (zA (zB (wB 0 I I I (wB 1 I I I (wC I I (fun W hp=>hs W (ht.hp hp)) (wP I (wP I (wP I (wP I (wP I (wP I (wP I (Aa ?_)))))))))))))))))))))))
  exact zE (zA (zA (zB (wP I (wP I (Aa (zE (zR I (zA (zB (wP I (wP I (wP I (Aa (zE (zO (zP (wR2 I I I))))))))))))))))))
theorem LH (p q:Rat) (hkp:okQ p) (hkq:okQ q) (W0:World) (hv:AE W0) (ht:A7 W0):
  Ad Tryz.prog 159 #[str (Ac p),str (Ac q)] W0 (fun _:Unit=>cmV p q) (fun _=>True) (fun _=>[]):=by
 by_cases h:BV p q
 ·exact(LI p q hkp hkq h W0 hv ht).cast (by rw[cmV,if_pos h,Mp])
 ·exact(LQ p q hkp hkq h W0 hv ht).cast (by rw[cmV,if_neg h])
def erI:Bool->Int
 |true=>4
 |false=>0
abbrev caE (c:Nat) (s:Bool):Bx:=⟨c,317,[.int .i64 (erI s)],true,none⟩
abbrev caO (s:Bool):Obj:= .cells #[.int .i64 (erI s)] 317 (0,0)
structure KcP (c:Nat) (s:Bool) (W:World):Prop where
 o:W.heap[c]? =some (caO s)
 k: ∀W',HC W W' c->AE W'/\A7 W'
theorem HC.refl (W:World) (g:Nat):HC W W g:=⟨rfl,rfl,rfl,Nat.le_refl _,fun _ _ _=>rfl⟩
theorem KcP.v {c:Nat} {s:Bool} {W:World} (h:KcP c s W):AE W:=(h.k W (HC.refl W c)).1
theorem KcP.t {c:Nat} {s:Bool} {W:World} (h:KcP c s W):A7 W:=(h.k W (HC.refl W c)).2
theorem KcP.at_ {c:Nat} {s s1:Bool} {W W1:World} {bs:List Bx} (h:KcP c s W) (hp:Hp (Bc W) (AU (Az W c)::caE c s1::bs) W1):KcP c s1 W1:=
 ⟨(hp.own.cell 1 (caE c s1) rfl (c,caO s1) (List.mem_cons_self ..)).1,fun _ h2=>h.k _ ((JH h.o ⟨_,List.mem_cons_self ..⟩ (Hp.take (bxs:=[AU (Az W c),caE c s1]) (nb:=bs) hp)).trans h2)⟩
theorem KcP.of {c:Nat} {s:Bool} {W0 W:World} {bxs:List Bx} (hp:Hp W0 bxs W) (k:Nat) (hk:nth bxs k=some (caE c s)) (hv:AE W0) (ht:A7 W0):KcP c s W:=by
 rw[Bj] at hk
 have hc:=hp.own.cell k _ hk (c,caO s) (List.mem_cons_self ..)
 exact⟨hc.1,fun W2 h2=>⟨hv.below (h2.below hp.below hc.2),ht.below (h2.below hp.below hc.2)⟩⟩
theorem G2 {c:Nat} {s1:Bool} {W W1:World} {bs:List Bx} (hp:Hp (Bc W) (AU (Az W c)::caE c s1::bs) W1):As (Bc W) W1 [AU (Az W c),caE c s1]:=
 (Hp.take (bxs:=[AU (Az W c),caE c s1]) (nb:=bs) hp).own
structure Cu (g:Nat) (vs:List Value) (c:Nat) {X:Type} (st:X->Bool) (val:X->Value) (Φ:X->Prop) (W:World):Prop where
 out:Calls Tryz.prog g vs.toArray W fun e W'=> ∃x,e= .returned (val x)/\Φ x/\NM W W' c c (caO (st x))
theorem Cu.enter {N c:Nat} {s:Bool} {f:Nat} {fn:Func} {cd:Code} {args:List Value} {X:Type} {st:X->Bool} {val:X->Value} {Φ:X->Prop} {W:World} (h:KcP c s W) (hf:Tryz.prog.funcs[f]? =some fn) (hb:fn.body=some cd) (hN:fn.ntmps=N) (hl:Nat.ble args.length N=true)
  (hw:WC none 0 Tryz.prog N [] cd (GR Tryz.prog fn (Bc W) val Φ (fun x=>[AU (Az W c),caE c (st x)])) (KS 0 args) (Hp (Bc W) [AU (Az W c),caE c s])):Cu f args c st val Φ W:=by
 have key:=CS (X:=X) (val:=val) (Φ:=Φ) (nb:=fun x=>[AU (Az W c),caE c (st x)]) (Hp.enterT (B:=caE c s) rfl h.o) hf hb hN hl hw
 refine⟨key.mono ?_⟩
 rintro e W' ⟨x,he,hx,hb,hn⟩
 exact⟨x,he,hx,H3 h.o I hb hn⟩
theorem Cu.same {g c:Nat} {vs:List Value} {s:Bool} {v:Value} {W:World} (h:Cu g vs c (fun _:Unit=>s) (fun _=>v) (fun _=>True) W) (ho:W.heap[c]? =some (caO s)):Ad Tryz.prog g vs.toArray W (fun _:Unit=>v) (fun _=>True) (fun _=>[]):=by
 refine⟨h.out.mono ?_⟩
 rintro e W' ⟨x,he,_,hn⟩
 refine⟨x,he,tO,⟨hn.os,hn.tape,hn.output,hn.size,fun i hi=> ?_⟩,As.nil _ _⟩
 by_cases e:i=c
 ·subst e;exact hn.new.trans ho.symm
 ·exact hn.old i e hi
section
variable {r:Option Nat} {n:Nat} {W0:World} {N:Nat} {D:List Deferred} {ops:List Oper} {Q:Exit->Act->World->Prop} {o:Oper} {rest:List Oper} {env:Env} {bxs:List Bx}
theorem Sw (k c:Nat) {s:Bool} {cl:Call} {f:Operand} {g d:Nat} {vs:List Value} {X:Type} {st:X->Bool} {val:X->Value} {Φ:X->Prop} (hg:Ay ops N env o=some true) (hd:o.dst=some d) (ho:o.op= .call cl) (hc:cl.callee= .value f) (hf:evO N env f=some (.func (.func g) #[] #[])) (ha:Ch (evO N env) cl.args.toList=some vs) (hE:AO Tryz.prog g=true)
  (hk:nth bxs k=some (caE c s)) (hC: ∀W,Hp W0 bxs W->Cu g vs c st val Φ W)
  (h: ∀x,Φ x->WL r n Tryz.prog N D ops Q rest ((d,val x)::env) (Hp W0 (bxs.set k (caE c (st x))))):WL r n Tryz.prog N D ops Q (o::rest) env (Hp W0 bxs):=
 Fc (X:=X) (val:=val) (Φ:=Φ) (capt:=[]) k (B:=caE c s) (L1:=[]) (L2:=[]) (b:=c) (ob:=caO s) (fun x=>caE c (st x)) (g':=fun _=>c) (o':=fun x=>caO (st x))
  hg hd ho hc hf ha hE hk rfl (fun _ _=>rfl) (fun W hp=>by rw[List.append_nil];exact(hC W hp).out) h
theorem Cw (k c:Nat) {s s':Bool} {v:Value} {cl:Call} {f:Operand} {g d:Nat} {vs:List Value} (hg:Ay ops N env o=some true) (hd:o.dst=some d) (ho:o.op= .call cl) (hc:cl.callee= .value f) (hf:evO N env f=some (.func (.func g) #[] #[])) (ha:Ch (evO N env) cl.args.toList=some vs) (hE:AO Tryz.prog g=true)
  (hk:nth bxs k=some (caE c s)) (hC: ∀W,Hp W0 bxs W->Cu g vs c (fun _:Unit=>s') (fun _=>v) (fun _=>True) W)
  (h:WL r n Tryz.prog N D ops Q rest ((d,v)::env) (Hp W0 (bxs.set k (caE c s')))):WL r n Tryz.prog N D ops Q (o::rest) env (Hp W0 bxs):=
 Sw k c hg hd ho hc hf ha hE hk hC (fun _ _=>h)
end
@[irreducible] def opR (ok : Prop) [Decidable ok] (r : Rat) (s : Bool) : Rat × Bool := match s with
 |true=>(0,true)
 |false=>if ok then(r,false) else(0,true)
theorem Xx {ok:Prop} [Decidable ok] {r:Rat}:opR ok r true=(0,true):=by unfold opR;rfl
theorem FO {ok:Prop} [Decidable ok] {r:Rat} (h:ok):opR ok r false=(r,false):=by unfold opR;exact if_pos h
theorem X6 {ok:Prop} [Decidable ok] {r:Rat} (h: ¬ok):opR ok r false=(0,true):=by unfold opR;exact if_neg h
theorem Zc:okQ 0:=by
 have h:szQ 0 1:=by unfold szQ;decide+kernel
 exact h.ok (by decide)
theorem Xu {ok:Prop} [Decidable ok] {r:Rat} {s:Bool} (h:ok->okQ r):okQ (opR ok r s).1:=by
 cases s with
 |true=>rw[Xx];exact Zc
 |false=>
  by_cases c:ok
  ·rw[FO c];exact h c
  ·rw[X6 c];exact Zc
def kSb (s:Bool) (p q:Rat):Rat×Bool:=opR (L0 p q) (p-q) s
def kMu (s:Bool) (p q:Rat):Rat×Bool:=opR (H6 p q) (p*q) s
theorem PL (s:Bool) (p q:Rat):okQ (kSb s p q).1:=Xu VM
theorem Xr (s:Bool) (p q:Rat):okQ (kMu s p q).1:=Xu US
@[irreducible] def kOr (s : Bool) (p q : Rat) : Int × Bool := match s with
 |true=>(0,true)
 |false=>if BV p q then(CU p q,false) else(0,true)
theorem Zn {p q:Rat}:kOr true p q=(0,true):=by unfold kOr;rfl
theorem U6 {p q:Rat} (h:BV p q):kOr false p q=(CU p q,false):=by unfold kOr;exact if_pos h
theorem Zm {p q:Rat} (h: ¬BV p q):kOr false p q=(0,true):=by unfold kOr;exact if_neg h
theorem VK (c g:Nat) (a b:List UInt8) (W:World) (h:KcP c true W):
  Cu 329 [Af c, .func (.func g) #[] #[],str a,str b] c (fun _:Unit=>true) (fun _=>str [48]) (fun _=>True) W:=by
 refine Cu.enter h Tryz.func329 I I I ?_
 refine zA (zB (wP I (Aa (zE (zA (zA (zB (wP I (AM I I I I ?_)))))))))
 exact wP I (wB 1 I I I (wP I (Aa (zE (zR I (zA (zB (wP I (Aa (zE (zO (zP (Ax tH I (.tmp I) () I tO fun W1 hp=>G2 hp)))))))))))))
theorem Rk (c g:Nat) (a b v:List UInt8) (z:Bool) (W:World) (h:KcP c false W) (hE:AO Tryz.prog g=true)
  (hg: ∀W1,AE W1->A7 W1->Ad Tryz.prog g #[str a,str b] W1 (fun _:Unit=> .tuple #[str v, .int .i64 (erI z)]) (fun _=>True) (fun _=>[])):
  Cu 329 [Af c, .func (.func g) #[] #[],str a,str b] c (fun _:Unit=>z) (fun _=>if z=true then str [48] else str v) (fun _=>True) W:=by
 refine Cu.enter h Tryz.func329 I I I ?_
 refine zA (zB (wP I (Aa (zE (zA (zA (zB (wP I (AM I I I I ?_)))))))))
 refine wP I (wB 1 I I I (wP I (Aa (zE (zS I (zI (zE (zA (zB (wP I (wP I (wP I (Bp (capt:=[]) I I I I I I hE (fun W1 hp=>hg W1 (h.at_ (bs:=[]) hp).v (h.at_ (bs:=[]) hp).t) (wP I (wP I (wP I (wP I (wP I (Aa (zE (zA (zA (zB ?_)))))))))))))))))))))))
 refine wP I (wP I (AM I I I I ?_))
 refine wP I (wS 1 I I I (Aa (zE (zA (zB ?_)))))
 cases z with
 |true=>
  exact wP I (wP I (Aa (zE (zR I (zA (zB (wP I (Aa (zE (zO (zP (Ax tH I (.tmp I) () I tO fun W1 hp=>G2 hp))))))))))))
 |false=>
  exact wP I (wP I (Aa (zE (zS I (zI (zE (zA (zB (wP I (wP I (Aa (zE (zO (Ax tH I (.tmp I) () I tO fun W1 hp=>G2 hp))))))))))))))
theorem N8 (c g:Nat) (a b:List UInt8) (ok:Prop) [Decidable ok] (r:Rat) (s:Bool) (W:World) (h:KcP c s W) (hE:AO Tryz.prog g=true)
  (hg: ∀W1,AE W1->A7 W1->Ad Tryz.prog g #[str a,str b] W1 (fun _:Unit=>opV ok r) (fun _=>True) (fun _=>[])):
  Cu 329 [Af c, .func (.func g) #[] #[],str a,str b] c (fun _:Unit=>(opR ok r s).2) (fun _=>str (Ac (opR ok r s).1)) (fun _=>True) W:=by
 cases s with
 |true=>
  rw[Xx]
  show Cu _ _ c _ (fun _=>str (Ac 0)) _ W
  rw[Cv]
  exact VK c g a b W h
 |false=>
  by_cases k:ok
  ·rw[FO k]
   exact Rk c g a b (Ac r) false W h hE fun W1 hv ht=>(hg W1 hv ht).cast (Nu k)
  ·rw[X6 k]
   show Cu _ _ c _ (fun _=>str (Ac 0)) _ W
   rw[Cv]
   exact Rk c g a b [] true W h hE fun W1 hv ht=>(hg W1 hv ht).cast (SU k)
abbrev HR (g:Nat) (vs:List Value) (c:Nat) (x:Rat×Bool) (W:World):Prop:=Cu g vs c (fun _:Unit=>x.2) (fun _=>str (Ac x.1)) (fun _=>True) W
theorem Gb (c:Nat) (s:Bool) (p q:Rat) (hp:okQ p) (hq:okQ q) (W:World) (h:KcP c s W):HR 283 [Af c,str (Ac p),str (Ac q)] c (kSb s p q) W:=by
 refine Cu.enter h Tryz.func283 I I I ?_
 refine zA (zB (wP I (Aa (zE (zA (zB (wP I (wP I (wP I (Cw 1 c I I I I I I (by kernel_rfl) I (fun W1 hp1=>N8 c 21 (Ac p) (Ac q) (L0 p q) (p-q) s W1 (h.at_ (bs:=[]) hp1) (by kernel_rfl) (fun W2 hv ht=>Sc p q hp hq W2 hv ht)) ?_))))))))))
 exact wP I (Aa (zE (zO (Ax tH I (.tmp I) () I tO fun W1 hp=>G2 hp))))
theorem Lz (c:Nat) (s:Bool) (p q:Rat) (hp:okQ p) (hq:okQ q) (W:World) (h:KcP c s W):HR 286 [Af c,str (Ac p),str (Ac q)] c (kMu s p q) W:=by
 refine Cu.enter h Tryz.func286 I I I ?_
 refine zA (zB (wP I (Aa (zE (zA (zB (wP I (wP I (wP I (Cw 1 c I I I I I I (by kernel_rfl) I (fun W1 hp1=>N8 c 18 (Ac p) (Ac q) (H6 p q) (p*q) s W1 (h.at_ (bs:=[]) hp1) (by kernel_rfl) (fun W2 hv ht=>S2 p q hp hq W2 hv ht)) ?_))))))))))
 exact wP I (Aa (zE (zO (Ax tH I (.tmp I) () I tO fun W1 hp=>G2 hp))))
abbrev Ju (g:Nat) (vs:List Value) (c:Nat) (x:Int×Bool) (W:World):Prop:=Cu g vs c (fun _:Unit=>x.2) (fun _=> .int .i64 x.1) (fun _=>True) W
theorem EM (c:Nat) (s:Bool) (p q:Rat) (hp:okQ p) (hq:okQ q) (W:World) (h:KcP c s W):Ju 356 [Af c,str (Ac p),str (Ac q)] c (kOr s p q) W:=by
 cases s with
 |true=>
  rw[Zn]
  refine Cu.enter h Tryz.func356 I I I ?_
  refine zA (zB (wP I (Aa (zE (zA (zA (zB (wP I (AM I I I I ?_)))))))))
  exact wP I (wB 1 I I I (wP I (Aa (zE (zR I (zA (zB (wP I (Aa (zE (zO (zP (Ax tH I (.tmp I) () I tO fun W1 hp=>G2 hp)))))))))))))
 |false=>
  have one: ∀(v:Int) (z:Bool),cmV p q= .tuple #[.int .i64 v, .int .i64 (erI z)]->Ju 356 [Af c,str (Ac p),str (Ac q)] c (v,z) W:=fun v z hvz=>by
   refine Cu.enter h Tryz.func356 I I I ?_
   refine zA (zB (wP I (Aa (zE (zA (zA (zB (wP I (AM I I I I ?_)))))))))
   refine wP I (wB 1 I I I (wP I (Aa (zE (zS I (zI (zE (zA (zB (wP I (wP I (wC I I (fun W1 hp1=>(LH p q hp hq W1 (h.at_ (bs:=[]) hp1).v (h.at_ (bs:=[]) hp1).t).cast hvz) (wP I (wP I (wP I (wP I (wP I (Aa (zE (zA (zB (wP I (wP I (AM I I I I ?_))))))))))))))))))))))))
   exact wP I (wS 1 I I I (Aa (zE (zA (zB (wP I (wP I (Aa (zE (zO (Ax tH I (.tmp I) () I tO fun W1 hp=>G2 hp)))))))))))
  by_cases k:BV p q
  ·rw[U6 k]
   exact one (CU p q) false (if_pos k)
  ·rw[Zm k]
   exact one 0 true (if_neg k)
theorem VA {α:Type} {F:α->Bool} {l:List α} {i:Nat} (h:i<l.length):(l.drop i).any F=(F l[i]||(l.drop (i+1)).any F):=by
 rw[List.drop_eq_getElem_cons h,List.any_cons]
theorem Oh (g:Nat) (hE:AO Tryz.prog g=true) (F:PtS->Bool) (hg: ∀x W,Ad Tryz.prog g #[.agg #[str x.1,str x.2]] W (fun _:Unit=> .bool (F x)) (fun _=>True) (fun _=>[])) (xs:List PtS) (hn:xs.length<=100000) (p:Option Addr) (cap:Nat) (W:World) (hS:Rd W p xs):
  Ad Tryz.prog 372 #[slv p xs.length cap, .func (.func g) #[] #[]] W (fun z:Int=> .int .i64 z) (fun z=>0<=z↔xs.any F=true) (fun _=>[]):=by
 refine Ab (args:=[slv p xs.length cap, .func (.func g) #[] #[]]) Tryz.func372 I I I (zA (zB (wP I (Aa (zE (zA (zA (zB (wP I (wP I (wP I (Aa (zE (zH (Ar (X:=Nat) (fun i=>[(0,slv p xs.length cap),(1, .func (.func g) #[] #[]),(6,slv p xs.length cap),(7, .int .i64 (xs.length:Nat)),(8, .int .i64 (i:Nat))]) (fun _=>[]) (fun i=>i<=xs.length/\xs.any F=(xs.drop i).any F) (fun i=>xs.length-i) 0 ⟨Nat.zero_le _,by rw[List.drop_zero]⟩ ⟨I,I,I,I,I,tO⟩ [] I ?_)))))))))))))))
 intro i hi
 obtain⟨hi,hA⟩:i<=xs.length/\xs.any F=(xs.drop i).any F:=hi
 refine zA (zB (wP I ?_))
 by_cases hlt:i<xs.length
 rotate_left
 ·refine wU 9 false I (dF (by omega)) (Aa (zE (zA (zS I (zJ (zK (zK (zL (zE (zA (zB (wP I (Aa (zE (zO ?_)))))))))))))))
  rw[List.drop_of_length_le (by omega)] at hA
  exact Ax tH I (.tmp I) (-1:Int) I (by rw[hA];exact⟨fun h=>absurd h (by decide),fun h=>absurd (show false=true from h) (by decide)⟩) fun W _=>As.nil _ _
 refine wU 9 true I (dT (by omega)) (Aa (zE (zA (zR I (zI (zE (zA (zH (zA (zB ?_))))))))))
 obtain⟨b,off,rfl,hrow⟩: ∃b off,p=some ⟨b,off,none⟩/\ ∀i (hi:i<xs.length),Ai W b (off+i*2) [str xs[i].1,str xs[i].2]:=by
  rcases hS with h|h
  ·rw[h] at hlt;exact absurd hlt (by simp)
  ·exact h
 have hr:=hrow i hlt
 rw[VA hlt] at hA
 obtain⟨x,hq⟩: ∃x,x=xs[i]:=⟨_,rfl⟩
 rw[<-hq] at hr hA
 refine wP I (wP I (Aa (zE (zA (zB (wP I (wP I (wP I (wJ ?_)))))))))
 refine wL 0 I I (fun W1 hp=>hr.hp hp) I (Bp (capt:=[]) I I I I I I hE (fun W1 _=>hg x W1) (Aa (zE (Ah I (fun hc=> ?_) (fun hc=> ?_)))))
 ·have hc:F x=true:=hc
  exact zA (zB (wP I (wP I (Aa (zE (zO (zQ (zP (zP (zQ (zP (Ax tH I (.tmp I) ((i:Nat):Int) I ⟨fun _=>by rw[hA,hc];rfl,fun _=>by omega⟩ fun W _=>As.nil _ _))))))))))))
 ·have hc:F x=false:=hc
  rw[hc,Bool.false_or] at hA
  exact zI (zN (zE (zB (wP I (wV 18 ((i+1:Nat):Int) I (Aw (by omega)) (wP I (Aa (Aj (i+1) ⟨hlt,hA⟩ (by show xs.length-(i+1)<xs.length-i;omega) ⟨I,I,I,I,I,tO⟩ [] I))))))))
theorem Lb (g:Nat) (hE:AO Tryz.prog g=true) (F:PtS->Bool) (hg: ∀x W,Ad Tryz.prog g #[.agg #[str x.1,str x.2]] W (fun _:Unit=> .bool (F x)) (fun _=>True) (fun _=>[])) (xs:List PtS) (hn:xs.length<=100000) (p:Option Addr) (cap:Nat) (W:World) (hS:Rd W p xs):
  Ad Tryz.prog 354 #[slv p xs.length cap, .func (.func g) #[] #[]] W (fun _:Unit=> .bool (xs.any F)) (fun _=>True) (fun _=>[]):=by
 refine Ab (args:=[slv p xs.length cap, .func (.func g) #[] #[]]) Tryz.func354 I I I (zA (zB (wP I (Aa (zE (zA (zB (wP I (wP I (wD (X:=Int) I I (fun W1 hp=>Oh g hE F hg xs hn p cap W1 (hS.hp hp)) ?_))))))))))
 intro z hz
 have hz:0<=z↔xs.any F=true:=hz
 refine wP I ?_
 refine Al 8 (.bool (xs.any F)) I (congrArg Value.bool (by
  cases h:xs.any F with
  |true=>exact dT (hz.2 h)
  |false=>exact dF fun h2=>by rw[hz.1 h2] at h;cases h)) ?_
 exact wP I (Aa (zE (zO (wR1 I I I))))
abbrev caF (c:Nat) (s:Bool):Bx:=⟨c,317,[.int .i64 (erI s)],false,none⟩
def kLf (s:Bool) (p q r:At):Int×Bool:=
 kOr (kMu (kMu (kSb (kSb (kSb (kSb s q.1 p.1).2 r.2 p.2).2 q.2 p.2).2 r.1 p.1).2 (kSb s q.1 p.1).1 (kSb (kSb s q.1 p.1).2 r.2 p.2).1).2 (kSb (kSb (kSb s q.1 p.1).2 r.2 p.2).2 q.2 p.2).1 (kSb (kSb (kSb (kSb s q.1 p.1).2 r.2 p.2).2 q.2 p.2).2 r.1 p.1).1).2
  (kMu (kSb (kSb (kSb (kSb s q.1 p.1).2 r.2 p.2).2 q.2 p.2).2 r.1 p.1).2 (kSb s q.1 p.1).1 (kSb (kSb s q.1 p.1).2 r.2 p.2).1).1
  (kMu (kMu (kSb (kSb (kSb (kSb s q.1 p.1).2 r.2 p.2).2 q.2 p.2).2 r.1 p.1).2 (kSb s q.1 p.1).1 (kSb (kSb s q.1 p.1).2 r.2 p.2).1).2 (kSb (kSb (kSb s q.1 p.1).2 r.2 p.2).2 q.2 p.2).1 (kSb (kSb (kSb (kSb s q.1 p.1).2 r.2 p.2).2 q.2 p.2).2 r.1 p.1).1).1
structure Oy (p q r:At):Prop where
 a:L0 q.1 p.1
 b:L0 r.2 p.2
 c:L0 q.2 p.2
 d:L0 r.1 p.1
 m:H6 (q.1-p.1) (r.2-p.2)
 n:H6 (q.2-p.2) (r.1-p.1)
 o:BV ((q.1-p.1)*(r.2-p.2)) ((q.2-p.2)*(r.1-p.1))
theorem Px {ok:Prop} [Decidable ok] {r:Rat} {s:Bool}:(opR ok r s).2=false↔s=false/\ok:=by
 cases s with
 |true=>rw[Xx];simp
 |false=>
  by_cases c:ok
  ·rw[FO c];simp[c]
  ·rw[X6 c];simp[c]
theorem Ww {s:Bool} {p q:Rat}:(kOr s p q).2=false↔s=false/\BV p q:=by
 cases s with
 |true=>rw[Zn];simp
 |false=>
  by_cases c:BV p q
  ·rw[U6 c];simp[c]
  ·rw[Zm c];simp[c]
theorem Zb {p q r:At} (h:Oy p q r):kLf false p q r=(Ta p q r,false):=by
 have a:kSb false q.1 p.1=(q.1-p.1,false):=FO h.a
 have b:kSb false r.2 p.2=(r.2-p.2,false):=FO h.b
 have c:kSb false q.2 p.2=(q.2-p.2,false):=FO h.c
 have d:kSb false r.1 p.1=(r.1-p.1,false):=FO h.d
 unfold kLf
 simp only[a,b,c,d]
 have m:kMu false (q.1-p.1) (r.2-p.2)=((q.1-p.1)*(r.2-p.2),false):=FO h.m
 have n:kMu false (q.2-p.2) (r.1-p.1)=((q.2-p.2)*(r.1-p.1),false):=FO h.n
 simp only[m,n]
 rw[U6 h.o];rfl
theorem aU {s:Bool} {p q r:At}:(kLf s p q r).2=false↔s=false/\Oy p q r:=by
 constructor
 ·intro h
  unfold kLf at h
  have h7:=Ww.1 h
  have h6:=Px.1 h7.1
  have h5:=Px.1 h6.1
  have h4:=Px.1 h5.1
  have h3:=Px.1 h4.1
  have h2:=Px.1 h3.1
  have h1:=Px.1 h2.1
  obtain⟨rfl,a⟩:=h1
  have ea:kSb false q.1 p.1=(q.1-p.1,false):=FO a
  have b:=h2.2
  have c:=h3.2
  have d:=h4.2
  have eb:kSb false r.2 p.2=(r.2-p.2,false):=FO b
  have ec:kSb false q.2 p.2=(q.2-p.2,false):=FO c
  have ed:kSb false r.1 p.1=(r.1-p.1,false):=FO d
  have m:=h5.2
  have n:=h6.2
  have o:=h7.2
  simp only[ea,eb,ec,ed] at m n o
  have em:kMu false (q.1-p.1) (r.2-p.2)=((q.1-p.1)*(r.2-p.2),false):=FO m
  have en:kMu false (q.2-p.2) (r.1-p.1)=((q.2-p.2)*(r.1-p.1),false):=FO n
  simp only[em,en] at o
  exact⟨I,a,b,c,d,m,n,o⟩
 ·rintro⟨rfl,h⟩
  rw[Zb h]
theorem K0 (c:Nat) (s:Bool) (p q r:At) (hp:okP p) (hq:okP q) (hr:okP r) (W:World) (h:KcP c s W):Ju 325 [Af c,cvV p,cvV q,cvV r] c (kLf s p q r) W:=by
 obtain⟨x1,e1⟩: ∃x,x=kSb s q.1 p.1:=⟨_,rfl⟩
 obtain⟨x2,e2⟩: ∃x,x=kSb x1.2 r.2 p.2:=⟨_,rfl⟩
 obtain⟨x3,e3⟩: ∃x,x=kSb x2.2 q.2 p.2:=⟨_,rfl⟩
 obtain⟨x4,e4⟩: ∃x,x=kSb x3.2 r.1 p.1:=⟨_,rfl⟩
 obtain⟨x5,e5⟩: ∃x,x=kMu x4.2 x1.1 x2.1:=⟨_,rfl⟩
 obtain⟨x6,e6⟩: ∃x,x=kMu x5.2 x3.1 x4.1:=⟨_,rfl⟩
 obtain⟨x7,e7⟩: ∃x,x=kOr x6.2 x5.1 x6.1:=⟨_,rfl⟩
 have eL:kLf s p q r=x7:=by rw[e7,e6,e5,e4,e3,e2,e1];rfl
 have o1:okQ x1.1:=by rw[e1];exact PL _ _ _
 have o2:okQ x2.1:=by rw[e2];exact PL _ _ _
 have o3:okQ x3.1:=by rw[e3];exact PL _ _ _
 have o4:okQ x4.1:=by rw[e4];exact PL _ _ _
 have o5:okQ x5.1:=by rw[e5];exact Xr _ _ _
 have o6:okQ x6.1:=by rw[e6];exact Xr _ _ _
 have c1: ∀W1,KcP c s W1->HR 283 [Af c,str (Ac q.1),str (Ac p.1)] c x1 W1:=fun W1 h=>by rw[e1];exact Gb c s _ _ hq.1 hp.1 W1 h
 have c2: ∀W1,KcP c x1.2 W1->HR 283 [Af c,str (Ac r.2),str (Ac p.2)] c x2 W1:=fun W1 h=>by rw[e2];exact Gb c _ _ _ hr.2 hp.2 W1 h
 have c3: ∀W1,KcP c x2.2 W1->HR 283 [Af c,str (Ac q.2),str (Ac p.2)] c x3 W1:=fun W1 h=>by rw[e3];exact Gb c _ _ _ hq.2 hp.2 W1 h
 have c4: ∀W1,KcP c x3.2 W1->HR 283 [Af c,str (Ac r.1),str (Ac p.1)] c x4 W1:=fun W1 h=>by rw[e4];exact Gb c _ _ _ hr.1 hp.1 W1 h
 have c5: ∀W1,KcP c x4.2 W1->HR 286 [Af c,str (Ac x1.1),str (Ac x2.1)] c x5 W1:=fun W1 h=>by rw[e5];exact Lz c _ _ _ o1 o2 W1 h
 have c6: ∀W1,KcP c x5.2 W1->HR 286 [Af c,str (Ac x3.1),str (Ac x4.1)] c x6 W1:=fun W1 h=>by rw[e6];exact Lz c _ _ _ o3 o4 W1 h
 have c7: ∀W1,KcP c x6.2 W1->Ju 356 [Af c,str (Ac x5.1),str (Ac x6.1)] c x7 W1:=fun W1 h=>by rw[e7];exact EM c _ _ _ o5 o6 W1 h
 rw[eL]
 clear eL e1 e2 e3 e4 e5 e6 e7
 refine Cu.enter h Tryz.func325 I I I ?_
 refine zA (zB (wF I I fun _=>(wF I I fun _=>(wF I I fun _=>(wP I (Aa ?_))))))
 rename_i b5 b6 b7
 refine zE (Av ?_)
 refine AW (X:=Unit) [true,true,true,true,true,false,true,true,true,true,true,false,false,false] (fun _=>[(0,Af c),(5,Af b5),(6,Af b6),(7,Af b7),(9,str (Ac x1.1)),(10,str (Ac x2.1))]) (fun _=>[AU (Az W c),caE c x2.2,ptB b5 (Ac p.1) (Ac p.2),ptB b6 (Ac q.1) (Ac q.2),ptB b7 (Ac r.1) (Ac r.2)])
  4 [AU (Az W c),caF c s,ptB b5 (Ac p.1) (Ac p.2),ptB b6 (Ac q.1) (Ac q.2),ptB b7 (Ac r.1) (Ac r.2)] Tryz.mixed (by kernel_rfl) ?_ ?_
 ·refine qP I (qP I (qB 3 I I I (qP I (qB 2 I I I (qP I (qP I (qB 4 I I I (qP I (qB 2 I I I (BU (wX (wZ (Cw 1 c I I I I I I (by kernel_rfl) I (fun W1 hp1=>c1 W1 (h.at_ (bs:=[ptB b5 (Ac p.1) (Ac p.2),ptB b6 (Ac q.1) (Ac q.2),ptB b7 (Ac r.1) (Ac r.2)]) hp1)) ?_)))))))))))))
  refine Aa (Ag (wX (wZ (Cw 1 c I I I I I I (by kernel_rfl) I (fun W1 hp1=>c2 W1 (h.at_ (bs:=[ptB b5 (Ac p.1) (Ac p.2),ptB b6 (Ac q.1) (Ac q.2),ptB b7 (Ac r.1) (Ac r.2)]) hp1)) ?_))))
  refine Aa (Ag (wX (wZ (wP I (Aa (Ag (wX (wZ (wP I (Aa (Ag ?_)))))))))))
  refine AD I (by((repeat (first|refine AJ.same ?_|refine AJ.off I ?_));exact tO)) ?_
  exact A4 () ⟨I,I,I,I,I,I,tO⟩ [0,1,2,3,4] (by decide) I
 intro _
 refine zE (Av ?_)
 refine AW (X:=Unit) [true,true,true,true,true,false,true,true,true,true,true,false,false,false] (fun _=>[(0,Af c),(9,str (Ac x1.1)),(10,str (Ac x2.1)),(11,str (Ac x3.1)),(12,str (Ac x4.1))]) (fun _=>[AU (Az W c),caE c x4.2])
  4 [AU (Az W c),caF c x2.2,ptB b5 (Ac p.1) (Ac p.2),ptB b6 (Ac q.1) (Ac q.2),ptB b7 (Ac r.1) (Ac r.2)] Tryz.mixed (by kernel_rfl) ?_ ?_
 ·refine qP I (qP I (qB 3 I I I (qP I (qB 2 I I I (qP I (qP I (qB 4 I I I (qP I (qB 2 I I I (BU (wX (wZ (Cw 1 c I I I I I I (by kernel_rfl) I (fun W1 hp1=>c3 W1 (h.at_ (bs:=[ptB b5 (Ac p.1) (Ac p.2),ptB b6 (Ac q.1) (Ac q.2),ptB b7 (Ac r.1) (Ac r.2)]) hp1)) ?_)))))))))))))
  refine Aa (Ag (wX (wZ (Cw 1 c I I I I I I (by kernel_rfl) I (fun W1 hp1=>c4 W1 (h.at_ (bs:=[ptB b5 (Ac p.1) (Ac p.2),ptB b6 (Ac q.1) (Ac q.2),ptB b7 (Ac r.1) (Ac r.2)]) hp1)) ?_))))
  refine Aa (Ag (wX (wZ (wP I (Aa (Ag (wX (wZ (wP I (Aa (Ag ?_)))))))))))
  refine AD I (by((repeat (first|refine AJ.same ?_|refine AJ.off I ?_));exact tO)) ?_
  exact A4 () ⟨I,I,I,I,I,tO⟩ [0,1] (by decide) I
 intro _
 refine zE (zA (zB (wP I (wP I (wP I (wP I (Cw 1 c I I I I I I (by kernel_rfl) I (fun W1 hp1=>c5 W1 (h.at_ (bs:=[]) hp1)) ?_)))))))
 refine wP I (wP I (wP I (Cw 1 c I I I I I I (by kernel_rfl) I (fun W1 hp1=>c6 W1 (h.at_ (bs:=[]) hp1)) ?_)))
 refine Cw 1 c I I I I I I (by kernel_rfl) I (fun W1 hp1=>c7 W1 (h.at_ (bs:=[]) hp1)) ?_
 exact wP I (Aa (zE (zO (Ax tH I (.tmp I) () I tO fun W1 hp=>G2 hp))))
theorem Lf.of {c:Nat} {p q r:At} (hp:okP p) (hq:okP q) (hr:okP r) (h:Oy p q r) {W:World} (hk:KcP c false W):Lf c p q r W:=by
 have:=K0 c false p q r hp hq hr W hk
 rw[Zb h] at this
 exact this.same hk.o
theorem Ha {c:Nat} {p q:Rat} (hp:okQ p) (hq:okQ q) (h:BV p q) {W:World} (hk:KcP c false W):Ad Tryz.prog 356 #[Af c,str (Ac p),str (Ac q)] W (fun _:Unit=> .int .i64 (CU p q)) (fun _=>True) (fun _=>[]):=by
 have:=EM c false p q hp hq W hk
 rw[U6 h] at this
 exact this.same hk.o
theorem KcP.below {c:Nat} {s:Bool} {W W':World} (h:KcP c s W) (hb:Below W.heap.size W W'):KcP c s W':=
 ⟨(hb.block c (Array.getElem?_eq_some_iff.1 h.o).1).trans h.o,fun _ h2=>h.k _ (HC.trans ⟨hb.os,hb.tape,hb.output,hb.size,fun x _ hx=>hb.block x hx⟩ h2)⟩
theorem KcP.hp {c:Nat} {s:Bool} {W0 W:World} {bxs:List Bx} (h:KcP c s W0) (hp:Hp W0 bxs W):KcP c s W:=h.below hp.below
theorem K9.of {c:Nat} {p q:At} (hp:okP p) (hq:okP q) (h1:BV p.1 q.1) (h2:BV p.2 q.2) {W:World} (hk:KcP c false W):K9 c p q W:=by
 refine Ab (args:=[Af c,cvV p,cvV q]) Tryz.func323 I I I (zA (zB (wF I I fun _=>(wF I I fun _=>(wP I (Aa (zE (zA (zA (zB (wP I (wP I (wB 0 I I I (wP I (wB 1 I I I ?_)))))))))))))))
 rcases Hg p.1 q.1 with e|e|e
 ·exact wC I I (fun W hp1=>(Ha hp.1 hq.1 h1 (hk.hp hp1)).cast (congrArg (Value.int .i64) e)) (wP I (Aa (zE (zA (zB (wP I (wP I (Aa (zE (zR I (zA (zB (wP I (wP I (Aa (zE (zO (zP (wR1 I I (by rw[KB,e,if_neg (by decide)]))))))))))))))))))))
 ·refine wC I I (fun W hp1=>(Ha hp.1 hq.1 h1 (hk.hp hp1)).cast (congrArg (Value.int .i64) e)) (wP I (Aa (zE (zA (zB (wP I (wP I (Aa (zE (zS I (zI (zE (zA (zB (wP I (wP I (wB 0 I I I (wP I (wB 1 I I I (wC I I (fun W hp1=>Ha hp.2 hq.2 h2 (hk.hp hp1)) (wP I (Aa (zE ?_)))))))))))))))))))))))
  exact zO (wR1 I I (by rw[KB,if_pos e]))
 ·exact wC I I (fun W hp1=>(Ha hp.1 hq.1 h1 (hk.hp hp1)).cast (congrArg (Value.int .i64) e)) (wP I (Aa (zE (zA (zB (wP I (wP I (Aa (zE (zR I (zA (zB (wP I (wP I (Aa (zE (zO (zP (wR1 I I (by rw[KB,e,if_neg (by decide)]))))))))))))))))))))
theorem BY.keep {W W1:World} {p:Option Addr} {l:List At} {c:Nat} {s:Bool} (h:BY W p l) (ho:W.heap[c]? =some (caO s)) (hK:HC W W1 c):BY W1 p l:=by
 rcases h with h|⟨b,off,e,h⟩
 ·exact .inl h
 refine .inr ⟨b,off,e,fun i hi=> ?_⟩
 have hr:=h i hi
 have hne:b≠c:=fun e=>by
  subst e
  have h0:=hr.get 0 (str (Ac l[i].1)) rfl
  simp only[World.cell?,ho] at h0
  generalize off+i*2+0=k at h0
  cases k with
  |zero=>simp at h0
  |succ k=>simp at h0
 refine⟨Nat.lt_of_lt_of_le hr.lt hK.size,fun j u hu=> ?_⟩
 have h1:=hr.get j u hu
 have h2:=hK.at_ b hne hr.lt
 simp only[World.cell?] at h1⊢
 rw[h2]
 exact h1
theorem BY.kc {W W1:World} {p:Option Addr} {l:List At} {c:Nat} {s s1:Bool} {bs:List Bx} (h:BY W p l) (ho:W.heap[c]? =some (caO s)) (hp:Hp (Bc W) (AU (Az W c)::caE c s1::bs) W1):BY W1 p l:=
 h.keep ho (JH ho ⟨_,List.mem_cons_self ..⟩ (Hp.take (bxs:=[AU (Az W c),caE c s1]) (nb:=bs) hp))
structure We (l:List At) (a b:Nat):Prop where
 x:BV (Au l a).1 (Au l b).1
 y:BV (Au l a).2 (Au l b).2
 t: ∀d,d<l.length->Oy (Au l a) (Au l b) (Au l d)
def E8 (l:List At):Prop:= ∀a,a<l.length-> ∀b,b<l.length->We l a b
theorem Og (c:Nat) (l:List At) (h0:0<l.length) (hn:l.length<=4096) (hq: ∀p∈l,okP p) (p:Option Addr) (cap:Nat) (W:World) (hA:BY W p l) (h:KcP c false W):
  Cu 320 [Af c,slv p l.length cap] c (fun s:Bool=>s) (fun s=> .int .i64 (erI s)) (fun s=>s=false↔E8 l) W:=by
 obtain⟨g,off,hpe,_⟩:=hA.at_ h0
 have hrow: ∀ {W1:World} {s1:Bool} {bs:List Bx},Hp (Bc W) (AU (Az W c)::caE c s1::bs) W1-> ∀j,j<l.length->Ai W1 g (off+j*2) [str (Ac (Au l j).1),str (Ac (Au l j).2)]:=fun hp j hj=>by
  obtain⟨g',off',e',h2⟩:=(hA.kc h.o hp).at_ hj
  rw[hpe] at e'
  cases e'
  rw[Dk hj]
  exact h2 j hj
 have ok: ∀j,okP (Au l j):=fun j=>hq _ (IF h0 j)
 subst hpe
 refine Cu.enter h Tryz.func320 I I I ?_
 refine zA (zB (wP I (Aa (zE (zA (zA (zB (wP I (wP I (wP I (Aa (zE (zH (Ar (X:=Nat) (fun i=>[(0,Af c),(1,slv (some ⟨g,off,none⟩) l.length cap),(11,slv (some ⟨g,off,none⟩) l.length cap),(12, .int .i64 (l.length:Nat)),(13, .int .i64 (i:Nat))]) (fun _=>[AU (Az W c),caE c false]) (fun i=>i<=l.length/\ ∀a,a<i-> ∀b,b<l.length->We l a b) (fun i=>l.length-i) 0 ⟨Nat.zero_le _,fun _ h=>absurd h (Nat.not_lt_zero _)⟩ ⟨I,I,I,I,I,tO⟩ [] I ?_))))))))))))))
 rintro i ⟨hi1,hi2⟩
 have hi1:i<=l.length:=hi1
 have hi2: ∀a,a<i-> ∀b,b<l.length->We l a b:=hi2
 refine zA (zB (wP I ?_))
 by_cases hi:i<l.length
 rotate_left
 ·obtain rfl:i=l.length:=by omega
  exact wU 14 false I (dF (by omega)) (Aa (zE (zA (zS I (zJ (zK (zK (zL (zE (zA (zB (wP I (Aa (zE (zO (Ax tH I (.tmp I) false I ⟨fun _=>hi2,fun _=>rfl⟩ fun W1 hp=>G2 hp))))))))))))))))
 refine wU 14 true I (dT (by omega)) (Aa (zE (zA (zR I (zI (zE (zA (zH (zA (zB ?_))))))))))
 obtain⟨P,hP⟩: ∃P,P=Au l i:=⟨_,rfl⟩
 have okPP:okP P:=hP▸ok i
 have rP: ∀ {W1:World} {s1:Bool} {bs:List Bx},Hp (Bc W) (AU (Az W c)::caE c s1::bs) W1->Ai W1 g (off+i*2) [str (Ac P.1),str (Ac P.2)]:=fun hp=>by rw[hP];exact hrow hp i hi
 refine wJ ?_
 refine wL 0 I I (fun W1 hp=>rP (s1:=false) (bs:=[]) hp) I (wG I I fun _=>(wS 2 I I I (Aa ?_)))
 rename_i b6
 refine zE (zA (zB (wP I (wP I (wP I (Aa (zE (zH (Ar (X:=Nat) (fun k=>[(0,Af c),(1,slv (some ⟨g,off,none⟩) l.length cap),(6,Af b6),(11,slv (some ⟨g,off,none⟩) l.length cap),(12, .int .i64 (l.length:Nat)),(13, .int .i64 (i:Nat)),(17,slv (some ⟨g,off,none⟩) l.length cap),(18, .int .i64 (l.length:Nat)),(19, .int .i64 (k:Nat))]) (fun _=>[AU (Az W c),caE c false,ptB b6 (Ac P.1) (Ac P.2)]) (fun k=>k<=l.length/\ ∀b,b<k->We l i b) (fun k=>l.length-k) 0 ⟨Nat.zero_le _,fun _ h=>absurd h (Nat.not_lt_zero _)⟩ ⟨I,I,I,I,I,I,I,I,I,tO⟩ [] I ?_)))))))))
 rintro k ⟨hk1,hk2⟩
 have hk1:k<=l.length:=hk1
 have hk2: ∀b,b<k->We l i b:=hk2
 refine zA (zB (wP I ?_))
 by_cases hk:k<l.length
 rotate_left
 ·obtain rfl:k=l.length:=by omega
  refine wU 20 false I (dF (by omega)) (Aa (zE (zA (zS I (zJ (zK (zK (zL (zN (zE (zB (wP I (wV 57 ((i+1:Nat):Int) I (Aw (by omega)) (wP I (Aa ?_)))))))))))))))
  exact Aj (i+1) ⟨hi,fun a ha=>by
   by_cases e:a=i
   ·subst e;exact hk2
   ·exact hi2 a (by omega)⟩ (by show l.length-(i+1)<l.length-i;omega) ⟨I,I,I,I,I,tO⟩ [_] I
 refine wU 20 true I (dT (by omega)) (Aa (zE (zA (zR I (zI (zE (zA (zH (zA (zB ?_))))))))))
 obtain⟨Q,hQ⟩: ∃Q,Q=Au l k:=⟨_,rfl⟩
 have okQQ:okP Q:=hQ▸ok k
 have rQ: ∀ {W1:World} {s1:Bool} {bs:List Bx},Hp (Bc W) (AU (Az W c)::caE c s1::bs) W1->Ai W1 g (off+k*2) [str (Ac Q.1),str (Ac Q.2)]:=fun hp=>by rw[hQ];exact hrow hp k hk
 refine wJ ?_
 refine wL 0 I I (fun W1 hp=>rQ (s1:=false) (bs:=[ptB b6 (Ac P.1) (Ac P.2)]) hp) I (wG I I fun _=>(wS 3 I I I (Aa ?_)))
 rename_i b8
 obtain⟨x1,e1⟩: ∃x,x=kOr false P.1 Q.1:=⟨_,rfl⟩
 obtain⟨x2,e2⟩: ∃x,x=kOr x1.2 P.2 Q.2:=⟨_,rfl⟩
 have c1: ∀W1,KcP c false W1->Ju 356 [Af c,str (Ac P.1),str (Ac Q.1)] c x1 W1:=fun W1 h=>by rw[e1];exact EM c _ _ _ okPP.1 okQQ.1 W1 h
 have c2: ∀W1,KcP c x1.2 W1->Ju 356 [Af c,str (Ac P.2),str (Ac Q.2)] c x2 W1:=fun W1 h=>by rw[e2];exact EM c _ _ _ okPP.2 okQQ.2 W1 h
 have hx:x2.2=false↔BV P.1 Q.1/\BV P.2 Q.2:=by
  rw[e2,Ww,e1,Ww]
  exact⟨fun h=>⟨h.1.2,h.2⟩,fun h=>⟨⟨I,h.1⟩,h.2⟩⟩
 refine zE (zA (zB (wP I (wP I (wB 2 I I I (wP I (wB 3 I I I (Cw 1 c I I I I I I (by kernel_rfl) I (fun W1 hp1=>c1 W1 (h.at_ (bs:=[ptB b6 (Ac P.1) (Ac P.2),ptB b8 (Ac Q.1) (Ac Q.2)]) hp1)) ?_))))))))
 refine Aa (zE (zA (zB (wP I (wP I (wB 2 I I I (wP I (wB 3 I I I (Cw 1 c I I I I I I (by kernel_rfl) I (fun W1 hp1=>c2 W1 (h.at_ (bs:=[ptB b6 (Ac P.1) (Ac P.2),ptB b8 (Ac Q.1) (Ac Q.2)]) hp1)) ?_)))))))))
 refine Aa (zE (zA (zB (wP I (wP I (wP I (Aa (zE (zH ?_)))))))))
 refine Ar (X:=Nat×Bool) (fun s=>[(0,Af c),(1,slv (some ⟨g,off,none⟩) l.length cap),(6,Af b6),(8,Af b8),(11,slv (some ⟨g,off,none⟩) l.length cap),(12, .int .i64 (l.length:Nat)),(13, .int .i64 (i:Nat)),(17,slv (some ⟨g,off,none⟩) l.length cap),(18, .int .i64 (l.length:Nat)),(19, .int .i64 (k:Nat)),(35,slv (some ⟨g,off,none⟩) l.length cap),(36, .int .i64 (l.length:Nat)),(37, .int .i64 (s.1:Nat))]) (fun s=>[AU (Az W c),caE c s.2,ptB b6 (Ac P.1) (Ac P.2),ptB b8 (Ac Q.1) (Ac Q.2)])
  (fun s=>s.1<=l.length/\(0<s.1->s.2=false)/\(s.2=false↔BV P.1 Q.1/\BV P.2 Q.2/\ ∀d,d<s.1->Oy P Q (Au l d))) (fun s=>l.length-s.1) (0,x2.2) ⟨Nat.zero_le _,fun h=>absurd h (Nat.not_lt_zero _),hx.trans ⟨fun h=>⟨h.1,h.2,fun _ hd=>absurd hd (Nat.not_lt_zero _)⟩,fun h=>⟨h.1,h.2.1⟩⟩⟩ ⟨rfl,rfl,rfl,rfl,rfl,rfl,rfl,rfl,rfl,rfl,rfl,rfl,rfl,trivial⟩ [] rfl ?_
 rintro⟨j,s⟩ ⟨hj1,hj2,hj3⟩
 have hj1:j<=l.length:=hj1
 have hj2:0<j->s=false:=hj2
 have hj3:s=false↔BV P.1 Q.1/\BV P.2 Q.2/\ ∀d,d<j->Oy P Q (Au l d):=hj3
 refine zA (zB (wP I ?_))
 by_cases hj:j<l.length
 rotate_left
 ·obtain rfl:j=l.length:=by omega
  obtain rfl:s=false:=hj2 h0
  have hall:=hj3.1 rfl
  refine wU 38 false I (dF (by omega)) (Aa (zE (zA (zS I (zJ (zK (zK (zL (zN (zE (zB (wP I (wV 56 ((k+1:Nat):Int) I (Aw (by omega)) (wP I (Aa ?_)))))))))))))))
  exact Aj (k+1) ⟨hk,fun b hb=>by
   by_cases e:b=k
   ·subst e;exact⟨by rw[<-hP, <-hQ];exact hall.1,by rw[<-hP, <-hQ];exact hall.2.1,by rw[<-hP, <-hQ];exact hall.2.2⟩
   ·exact hk2 b (by omega)⟩ (by show l.length-(k+1)<l.length-k;omega) ⟨I,I,I,I,I,I,I,I,I,tO⟩ [_] I
 refine wU 38 true I (dT (by omega)) (Aa (zE (zA (zR I (zI (zE (zA (zH (zA (zB ?_))))))))))
 obtain⟨Z,hZ⟩: ∃Z,Z=Au l j:=⟨_,rfl⟩
 have okZZ:okP Z:=hZ▸ok j
 have rZ: ∀ {W1:World} {s1:Bool} {bs:List Bx},Hp (Bc W) (AU (Az W c)::caE c s1::bs) W1->Ai W1 g (off+j*2) [str (Ac Z.1),str (Ac Z.2)]:=fun hp=>by rw[hZ];exact hrow hp j hj
 refine wJ ?_
 refine wL 0 I I (fun W1 hp=>rZ (s1:=s) (bs:=[ptB b6 (Ac P.1) (Ac P.2),ptB b8 (Ac Q.1) (Ac Q.2)]) hp) I (wG I I fun _=>(wS 4 I I I (Aa ?_)))
 rename_i b10
 obtain⟨⟨v,s2⟩,e3⟩: ∃x,x=kLf s P Q Z:=⟨_,rfl⟩
 have hs2:s2=false↔s=false/\Oy P Q Z:=by
  have:=aU (s:=s) (p:=P) (q:=Q) (r:=Z)
  rw[<-e3] at this
  exact this
 have c3: ∀W1,KcP c s W1->Ju 325 [Af c,cvV P,cvV Q,cvV Z] c (v,s2) W1:=fun W1 h=>by rw[e3];exact K0 c _ _ _ _ okPP okQQ okZZ W1 h
 refine zE (zA (zB (wP I (wB 2 I I I (wB 3 I I I (wB 4 I I I (Cw 1 c I I I I I I (by kernel_rfl) I (fun W1 hp1=>c3 W1 (h.at_ (bs:=[ptB b6 (Ac P.1) (Ac P.2),ptB b8 (Ac Q.1) (Ac Q.2),ptB b10 (Ac Z.1) (Ac Z.2)]) hp1)) ?_)))))))
 refine Aa ?_
 cases s2 with
 |true=>
  have hno: ¬E8 l:=fun ha=>by
   have hb:=ha i hi k hk
   have h1:Oy P Q Z:=by rw[hP,hQ,hZ];exact hb.t j hj
   have h2:s=false:=hj3.2 ⟨by rw[hP,hQ];exact hb.x,by rw[hP,hQ];exact hb.y,fun d hd=>by rw[hP,hQ];exact hb.t d (by omega)⟩
   exact absurd (hs2.2 ⟨h2,h1⟩) (by decide)
  refine zE (zA (zB (wP I (AM I I I I ?_))))
  refine wP I (wB 1 I I I (wP I (Aa (zE (zR I (zA (zB (wP I (AM I I I I ?_)))))))))
  exact wP I (wB 1 I I I (wP I (Aa (zE (zO (zQ (zP (zP (zQ (zQ (zP (zP (zQ (zQ (zP (zP (zQ (zP (Ax tH I (.tmp I) true I ⟨fun h=>absurd h (by decide),fun h=>absurd h hno⟩ fun W1 hp=>G2 hp)))))))))))))))))))
 |false=>
  obtain⟨rfl,htn⟩:=hs2.1 rfl
  have hall:=hj3.1 rfl
  refine zE (zA (zB (wP I (AM I I I I ?_))))
  refine wP I (wB 1 I I I (wP I (Aa (zE (zS I (zI (zN (zE (zB (wP I (wV 55 ((j+1:Nat):Int) I (Aw (by omega)) (wP I (Aa ?_)))))))))))))
  exact Aj (j+1,false) ⟨hj,fun _=>rfl,⟨fun _=>⟨hall.1,hall.2.1,fun d hd=>by
   by_cases e:d=j
   ·subst e;rw[<-hZ];exact htn
   ·exact hall.2.2 d (by have hd:d<j+1:=hd;omega)⟩,fun _=>rfl⟩⟩ (by show l.length-(j+1)<l.length-j;omega) ⟨I,I,I,I,I,I,I,I,I,I,I,I,I,tO⟩ [_] I
def M5 (x:PtS):Bool:=decide (30<x.1.length)||decide (30<x.2.length)
theorem Qs (x:PtS) (W:World):Ad Tryz.prog 355 #[.agg #[str x.1,str x.2]] W (fun _:Unit=> .bool (M5 x)) (fun _=>True) (fun _=>[]):=by
 have e1: ∀a:List UInt8,decide (((⟨a.toArray⟩:ByteArray).size:Int)>30)=decide (30<a.length):=fun a=>decide_eq_decide.2 (by show((a.toArray.size:Nat):Int)>30↔_;rw[List.size_toArray];omega)
 refine Ab (args:=[.agg #[str x.1,str x.2]]) Tryz.func355 I I I (zA (zB (wF I I fun _=>(wP I (Aa (zE (zA (zB (wP I (wB 0 I I I (wP I (wP I (wU 6 (decide (30<x.1.length)) I (e1 x.1) ?_)))))))))))))
 cases hx:decide (30<x.1.length) with
 |true=>
  refine wP I ?_
  iterate 4 refine Ae I I ?_
  exact wP I (wP I (Aa (zE (zO (wR1 I I (by rw[M5,hx];rfl))))))
 |false=>
  exact wP I (wP I (wB 0 I I I (wP I (wP I (wU 11 (decide (30<x.2.length)) I (e1 x.2) (wP I (wP I (Aa (zE (zO (wR1 I I (by rw[M5,hx];rfl))))))))))))
theorem Rq (xs:List PtS) (hn:xs.length<=100000) (p:Option Addr) (cap:Nat) (W:World) (hS:Rd W p xs):
  Ad Tryz.prog 319 #[slv p xs.length cap] W (fun _:Unit=> .bool (xs.any M5)) (fun _=>True) (fun _=>[]):=by
 exact Ab (args:=[slv p xs.length cap]) Tryz.func319 I I I (zA (zB (wP I (Aa (zE (zA (zB (wP I (wC I I (fun W1 hp=>Lb 355 (by kernel_rfl) M5 Qs xs hn p cap W1 (hS.hp hp)) (wP I (Aa (zE (zO (wR1 I I I))))))))))))))
theorem KcP.beside {c g:Nat} {s:Bool} {W0 W1 W2:World} {bxs:List Bx} {B:Bx} {o:Obj} (hp:Hp W0 bxs W1) (k j:Nat) (hk:nth bxs k=some (caE c s)) (hj:nth bxs j=some B) (hB:(g,o)∈B.blk) (hne:k≠j) (hv:AE W0) (ht:A7 W0) (h2:HC W1 W2 g):KcP c s W2:=by
 rw[Bj] at hk hj
 have hc:=hp.own.cell k _ hk (c,caO s) (List.mem_cons_self ..)
 have hg:=hp.own.cell j _ hj (g,o) hB
 have ne:c≠g:=hp.own.apart k j _ _ hk hj hne (c,_) (List.mem_cons_self ..) (g,o) hB
 exact⟨(h2.at_ c ne (Array.getElem?_eq_some_iff.1 hc.1).1).trans hc.1,fun W3 h3=>⟨hv.below (h3.below (h2.below hp.below hg.2) hc.2),ht.below (h3.below (h2.below hp.below hg.2) hc.2)⟩⟩
def KW (l:List At):List At:=U7 (Ht (CE l))
def ZS (l L:List At) (e:Int):Prop:=E8 l/\3<=(KW l).length/\L=KW l/\e=0\/E8 l/\(KW l).length<3/\L=[]/\e=12\/ ¬E8 l/\L=[]/\e=4
theorem E8.tn {l:List At} (h:E8 l) {x y z:At} (hx:x∈l) (hy:y∈l) (hz:z∈l):Oy x y z:=by
 obtain⟨i,hi,rfl⟩:=F7 hx
 obtain⟨j,hj,rfl⟩:=F7 hy
 obtain⟨k,hk,rfl⟩:=F7 hz
 exact(h i hi j hj).t k hk
theorem E8.dv {l:List At} (h:E8 l) {x y:At} (hx:x∈l) (hy:y∈l):BV x.1 y.1/\BV x.2 y.2:=by
 obtain⟨i,hi,rfl⟩:=F7 hx
 obtain⟨j,hj,rfl⟩:=F7 hy
 exact⟨(h i hi j hj).x,(h i hi j hj).y⟩
theorem Wy (l:List At) (x:At):x∈Ht (CE l)↔x∈l:=((VO (Sz l)).2 x).trans Rx
theorem XB (l:List At):(Ht (CE l)).length<=l.length:=by
 exact Nat.le_trans (Rl (CE l) (CE l).length) (Nat.le_of_eq (NT l))
theorem R5 (l L:List At) (e:Int) (hr:ZS l L e) (hlong:E8 l\/(l.map ptS).any M5=true) (h0:0<l.length) (h12:l.length<=12) (hq: ∀p∈l,okP p) (p:Option Addr) (cap:Nat) (W:World) (hA:BY W p l) (hv:AE W) (ht:A7 W):
  Ad Tryz.prog 280 #[slv p l.length cap] W (fun V:Vec=> .tuple #[V.val L.length, .int .i64 e]) (fun V=>V.OK 2 L.length (ptC L)) (fun V=>[V.bx 62 (ptC L)]):=by
 have hne:l≠[]:=fun h=>by rw[h] at h0;exact absurd h0 (by decide)
 have nilR: ∀ {W1:World} {bs:List Bx},Hp W bs W1->As W W1 [Vec.empty.bx 62 (ptC [])]:=fun _=>Own.one (fun p hp=>by cases hp) List.nodup_nil
 refine Ab (args:=[slv p l.length cap]) Tryz.func280 I I I (zA (zB (wP I (wP I (Aa (zE (zA (zH (zA (zB (wP I (wP I (wP I (wU 13 false I (beq_eq_false_iff_ne.2 (by omega)) (wP I (Aa (zE (zS I (zA (zB (wP I (wP I (wP I ?_)))))))))))))))))))))))
 refine wU 17 false I (dF (by omega)) (wP I (Aa (zE (zS I (zI (zN (zE (zA (zA (zB (wP I (wC I I (fun W1 hp=>H8 W1 p cap l (hA.hp hp) (by omega) hq (hv.hp hp) (ht.hp hp)) (wP I (Aa (zE (zA (zB (wP I (wP I (Aa (zE (zS I (zI ?_)))))))))))))))))))))))
 refine zE (zA (zB (Ap Tryz.hZ tH I I I I I I I I ?_)))
 refine wF I I fun _=>(wG I I fun _=>(wS 1 I I I (Aa ?_)))
 rename_i bC b5
 refine zE (zA (zA (zB (wP I (wC I I (fun W1 hp=>(by have:=Rq (l.map ptS) (by rw[List.length_map];omega) p cap W1 (hA.hp hp).b;rwa [List.length_map] at this)) (Aa (A6 ?_)))))))
 try refine Av ?_
 refine AA (X:=Unit) (fun _=>[(0,slv p l.length cap),(5,Af b5)]) (fun _=>[caE bC false,ckB b5 bC]) (fun _=>E8 l) ?_ ?_
 ·cases hln:(l.map ptS).any M5 with
  |false=>
   have hok:E8 l:=by
    rcases hlong with h|h
    ·exact h
    ·rw[hln] at h;cases h
   exact zS I (zI (An () hok ⟨I,I,tO⟩ [] I))
  |true=>
   refine zR I (zA (zB (wB 1 I I I (wP I (Sw 0 bC (s:=false) (X:=Bool) I I I I I I (by kernel_rfl) I (fun W1 hp=>Og bC l h0 (by omega) hq p cap W1 (hA.hp hp) (KcP.of hp 0 I hv ht)) ?_)))))
   intro s hs
   have hs:s=false↔E8 l:=hs
   cases s with
   |true=>
    have hno: ¬E8 l:=fun h=>absurd (hs.2 h) (by decide)
    obtain⟨rfl,rfl⟩:L=[]/\e=4:=by
     rcases hr with h|h|h
     ·exact absurd h.1 hno
     ·exact absurd h.1 hno
     ·exact h.2
    exact wP I (Aa (zE (zA (zB (wP I (wP I (Aa (zE (zR I (zA (zB (wP I (wP I (wP I (Aa (zE (zO (zP (A0 tH I (.tmp I) (.tmp I) Vec.empty I (Vec.OK.empty 2) fun W1 hp=>nilR hp)))))))))))))))))))
   |false=>
    exact wP I (Aa (zE (zA (zB (wP I (wP I (Aa (zE (zS I (zI (An () (hs.1 I) ⟨I,I,tO⟩ [] I)))))))))))
 intro _ hok
 have hok:E8 l:=hok
 refine zA (zB (wP I (wD (X:=Vec) I I (fun W1 hp=>Oe W1 p cap l (by omega) (hA.hp hp) hne) ?_)))
 rintro⟨pS,cS,jS⟩ ⟨hVS,hpS⟩
 obtain⟨gS,rfl⟩: ∃g,pS=some g:=Option.ne_none_iff_exists'.1 hpS
 have hcS:l.length<=cS:=(hVS.cap (by simp)).1
 refine wP I (Aa (zE (zA (zB (wP I (wB 1 I I I (wP I ?_)))))))
 refine Fc (X:=Unit) (val:=fun _=> .tuple #[]) (Φ:=fun _=>True) (capt:=[]) 2 (B:=BI gS l jS) (L1:=[]) (L2:=[]) (b:=gS) (ob:= .cells (ptC l++jS).toArray 62 (0,0)) (fun _=>BI gS (CE l) jS) (g':=fun _=>gS) (o':=fun _=> .cells (ptC (CE l)++jS).toArray 62 (0,0))
  rfl rfl rfl rfl rfl rfl (by kernel_rfl) rfl rfl (fun _ _=>rfl) (fun W1 hp=> ?_) (fun _ _=> ?_)
 ·exact R4 bC W1 gS cS l jS h12 (hp.own.cell 2 _ I (gS, .cells (ptC l++jS).toArray 62 (0,0)) (List.mem_cons_self ..)).1 fun W2 h2 x hx y hy=>K9.of (hq x hx) (hq y hy) (hok.dv hx hy).1 (hok.dv hx hy).2 (KcP.beside hp 0 2 I I (List.mem_cons_self ..) (by decide) hv ht h2)
 refine Aa ?_
 have hsl:=NT l
 obtain⟨S,hS⟩: ∃S,S=Ht (CE l):=⟨_,rfl⟩
 have hSm: ∀x,x∈S↔x∈l:=fun x=>by rw[hS];exact Wy l x
 have hSl:S.length<=l.length:=by rw[hS];exact XB l
 have hS0:0<S.length:=by
  have:Au l 0∈S:=(hSm _).2 (IF h0 0)
  exact List.length_pos_of_mem this
 have hSP: ∀i,Au S i∈l:=fun i=>(hSm _).1 (IF hS0 i)
 have hH:KW l=U7 S:=by rw[hS];rfl
 refine zE (zA (zB (wP I ?_)))
 refine Fc (X:=List Value) (val:=fun _=> .slice (some ⟨gS,0,none⟩) S.length cS) (Φ:=fun _=>True) (capt:=[]) 2 (B:=BI gS (CE l) jS) (L1:=[]) (L2:=[]) (b:=gS) (ob:= .cells (ptC (CE l)++jS).toArray 62 (0,0)) (fun x=>BI gS S x) (g':=fun _=>gS) (o':=fun x=> .cells (ptC S++x).toArray 62 (0,0))
  rfl rfl rfl rfl rfl rfl (by kernel_rfl) rfl rfl (fun _ _=>rfl) (fun W1 hp=> ?_) ?_
 ·have:=Ln W1 gS cS (CE l) jS (by omega) (by omega) (hp.own.cell 2 _ rfl (gS, .cells (ptC (CE l)++jS).toArray 62 (0,0)) (List.mem_cons_self ..)).1
  rw[<-hS,hsl] at this
  exact this
 intro jT _
 refine wP I (Aa (zE (zA (zB (wP I (wP I (Aa ?_)))))))
 have hleft: ∀ {c:Nat} (P:Nat->At),(∀i,P i∈l)-> ∀(i j k:Nat) {W1 W2:World},KcP c false W1->Below W1.heap.size W1 W2->Lf c (P i) (P j) (P k) W2:=fun {c} P hP i j k {W1 W2} hk hb=>Lf.of (hq _ (hP i)) (hq _ (hP j)) (hq _ (hP k)) (hok.tn (hP i) (hP j) (hP k)) (hk.below hb)
 refine zE (zA (zB (wP I (wP I (wD (X:=Nat) I I (fun W1 _=>TH (some ⟨gS,0,none⟩) S.length cS W1) ?_)))))
 intro b1 _
 refine wD (X:=Vec) (capt:=[Af b5]) I I (fun W1 hp=>Lq b5 bC 359 [Af b1] (by kernel_rfl) S.length (fun k=>k) (Au S) (fun _=>Xq b1 (some ⟨gS,0,none⟩) cS S) (Vi S b1 (some ⟨gS,0,none⟩) cS (by omega)) hS0 (by omega) W1 (Ai.of_bx hp 1 I I)
  (fun _ W2 hb=>⟨(Ai.of_bx hp 3 rfl rfl).below (Nat.le_refl _) hb,(BY.of_row (Ai.of_bx hp 2 rfl rfl)).below (Nat.le_refl _) hb⟩) (fun i j k _ _ _ W2 hb=>hleft (Au S) hSP i j k (KcP.of hp 0 rfl hv ht) hb)) ?_
 rintro⟨p1,c1,j1⟩ ⟨hV1,hp1⟩
 obtain⟨g1,rfl⟩: ∃g,p1=some g:=Option.ne_none_iff_exists'.1 hp1
 rw[Rn] at hV1
 refine wP I (wP I (wD (X:=Nat) I I (fun W1 _=>Rr (some ⟨gS,0,none⟩) S.length cS W1) ?_))
 intro b2 _
 refine wD (X:=Vec) (capt:=[Af b5]) I I (fun W1 hp=>Lq b5 bC 360 [Af b2] (by kernel_rfl) S.length (fun k=>S.length-1-k) (fun k=>Au S (S.length-1-k)) (fun _=>Xq b2 (some ⟨gS,0,none⟩) cS S) (SX S b2 (some ⟨gS,0,none⟩) cS (by omega)) hS0 (by omega) W1 (Ai.of_bx hp 1 I I)
  (fun _ W2 hb=>⟨(Ai.of_bx hp 5 rfl rfl).below (Nat.le_refl _) hb,(BY.of_row (Ai.of_bx hp 2 rfl rfl)).below (Nat.le_refl _) hb⟩) (fun i j k _ _ _ W2 hb=>hleft (fun k=>Au S (S.length-1-k)) (fun i=>hSP _) i j k (KcP.of hp 0 rfl hv ht) hb)) ?_
 rintro⟨p2,c2,j2⟩ ⟨hV2,hp2⟩
 obtain⟨g2,rfl⟩: ∃g,p2=some g:=Option.ne_none_iff_exists'.1 hp2
 rw[Rs] at hV2
 have sl1:=Il (Au S) S.length
 have sl2:=Il (fun k=>Au S (S.length-1-k)) S.length
 have q1:=Rn S
 have q2:=Rs S
 refine Ao Tryz.hZ tH I I I I I I I I I I I fun bR=> ?_
 rw[q1] at sl1
 rw[q2] at sl2
 rw[q1,q2]
 obtain⟨A,eA⟩: ∃A,A=(Ey S).tail.reverse:=⟨_,rfl⟩
 obtain⟨B,eB⟩: ∃B,B=(Ey S.reverse).tail.reverse:=⟨_,rfl⟩
 have lA:(Ey S).length-1=A.length:=by rw[eA,List.length_reverse,List.length_tail]
 have lB:(Ey S.reverse).length-1=B.length:=by rw[eB,List.length_reverse,List.length_tail]
 have hHC:KW l=A++B:=by rw[hH,eA,eB];rfl
 rw[lA] at hV1
 rw[lB] at hV2
 rw[<-eA] at hV1
 rw[<-eB] at hV2
 rw[<-eA, <-eB,lA,lB]
 refine wD (X:=Vec) I I (fun W1 hp=>Dp W1 bR 2 (some ⟨g1,0,none⟩) (some ⟨g2,0,none⟩) A.length B.length c1 c2 (ptC A) (ptC B) (Ai.of_bx hp 7 I I) (.inr ⟨g1,0,I,Dr (Ai.of_bx hp 4 I I:Ai W1 g1 0 (ptC A++j1))⟩) (.inr ⟨g2,0,I,Dr (Ai.of_bx hp 6 I I:Ai W1 g2 0 (ptC B++j2))⟩) (BD A) (BD B) (Fp _) (Fp _) (by omega) (by omega)) ?_
 intro V hV
 have lAB:A.length+B.length=(KW l).length:=by rw[hHC,List.length_append]
 have hV:V.OK 2 (KW l).length (ptC (KW l)):=by
  have h1:V.OK 2 (A.length+B.length) (ptC A++ptC B):=hV
  rw[<-CQ, <-hHC,lAB] at h1
  exact h1
 have hAB:ptC A++ptC B=ptC (KW l):=by rw[hHC,CQ]
 rw[hAB,lAB]
 refine wP I (Aa (zE (zA (zA (zB (wB 1 I I I (AM I I I I ?_)))))))
 refine wP I (wB 0 I I I (wP I (Aa (zE (zS I (zI (zE (zA (zA (zB (wP I ?_)))))))))))
 obtain⟨pV,cV,jV⟩:=V
 by_cases hl3:(KW l).length<3
 ·obtain⟨rfl,rfl⟩:L=[]/\e=12:=by
   rcases hr with h|h|h
   ·exact absurd hl3 (by omega)
   ·exact h.2.2
   ·exact absurd hok h.1
  cases pV with
  |none=>
   have hz:=hV.nil rfl
   rw[hz]
   exact wP I (wP I (Aa (zE (zR I (zA (zB (wP I (wP I (Aa (zE (zO (zP (A0 tH I (.tmp I) (.tmp I) Vec.empty I (Vec.OK.empty 2) fun W1 hp=>nilR hp)))))))))))))
  |some gV=>
   exact wP I (wP I (wU 63 true I (dT (by omega)) (Aa (zE (zR I (zA (zB (wP I (wP I (Aa (zE (zO (zP (A0 tH I (.tmp I) (.tmp I) Vec.empty I (Vec.OK.empty 2) fun W1 hp=>nilR hp))))))))))))))
 ·obtain⟨rfl,rfl⟩:L=KW l/\e=0:=by
   rcases hr with h|h|h
   ·exact h.2.2
   ·exact absurd h.2.1 hl3
   ·exact absurd hok h.1
  cases pV with
  |none=>exact absurd (hV.nil rfl) (by omega)
  |some gV=>
   exact wP I (wP I (wU 63 false I (dF (by omega)) (Aa (zE (zS I (zI (zE (zA (zB (wP I (wP I (wP I (Aa (zE (zO (A0 tH I (.tmp I) (.tmp I) (⟨some gV,cV,jV⟩:Vec) I hV fun W1 hp=>As.of_hp (hp.pick (l:=[(⟨some gV,cV,jV⟩:Vec).bx 62 (ptC (KW l))]) [8] (by decide) I)))))))))))))))))
abbrev f0:FrP:=⟨false,0,1,1,0⟩
abbrev S0:StR:=⟨0,5,0,10,5,5⟩
def Gu:List At:=[(0,0),(10,0),(5,5),(5,5)]
def Ez:List At:=[(0,0),(10,0),(5,5)]
theorem VU:f0.OK:=⟨by decide,by decide, .inl rfl,by unfold szQ;decide+kernel,by unfold szQ;decide+kernel,by decide⟩
theorem Rv:f0.Go:=⟨VU,by unfold szQ;decide+kernel,by unfold szQ;decide+kernel,by decide+kernel⟩
theorem Zj:S0.OK:=⟨by unfold szQ;decide+kernel,by decide+kernel,by decide+kernel,by decide+kernel⟩
theorem XY: ∀x∈Gu,szQ x.1 8/\szQ x.2 8:=by unfold szQ Gu;decide+kernel
theorem Xd: ∀k (hk:k<Gu.length), ¬KB Gu[k] Gu[0]<0:=by decide+kernel
theorem WK:Ht Gu=Ez:=by decide+kernel
theorem Hx (p q:Rat) (W:World):Ad Tryz.prog 271 #[str (Ac p),str (Ac q)] W (fun _:Unit=>cvV (q,p)) (fun _=>True) (fun _=>[]):=by
 refine Ab (args:=[str (Ac p),str (Ac q)]) Tryz.func271 I I I (zA (zB (wG I I fun _=>(Aa (zE (zA (zB (wP I (wP I (Ap Tryz.hZ tH I I I I I I I I ?_))))))))))
 exact wS 0 I I I (Aa (zE (zO (Ax tH I (.cell 0 I I I I I) () I tO fun W _=>As.nil _ _))))
theorem QV (W:World) (hv:AE W) (ht:A7 W):
  Ad Tryz.prog 233 #[frV f0,stV 0 S0] W (fun x:Nat×Nat×List Value=>slv (some ⟨x.1,0,none⟩) 3 x.2.1) (fun _=>True) (fun x=>[BI x.1 Ez x.2.2]):=by
 have h40:0<Gu.length:=by decide
 have a0:f0.at 0=0:=by decide+kernel
 have a5:f0.at 5=5:=by decide+kernel
 refine Ab (args:=[frV f0,stV 0 S0]) Tryz.func233 I I I (zA (zB (wF I I fun _=>(wF I I fun _=>(wP I (Aa ?_))))))
 rename_i b2 b3
 refine zE (zA (zB (wB 0 I I I (wP I (wB 1 I I I (wC I I (fun W1 hp=>(NL f0 VU 0 (by unfold szQ;decide+kernel) W1 (hv.hp hp) (ht.hp hp)).cast (v':= .tuple #[str (Ac 0), .int .i64 0]) (by rw[a0])) (wP I (wP I (wP I (wP I (wP I (Aa (zE (zA (zB (wB 0 I I I (wP I (wB 1 I I I (wC I I (fun W1 hp=>(NL f0 VU 5 (by unfold szQ;decide+kernel) W1 (hv.hp hp) (ht.hp hp)).cast (v':= .tuple #[str (Ac 5), .int .i64 0]) (by rw[a5])) (wP I (wP I (wP I (wP I (wP I ?_))))))))))))))))))))))))
 refine Aa (zE (zA (zB (wP I (Aa (zE (zA (zA (zB (wP I (wB 0 I I I (Aa (zE (zS I (zI (zE (zA (zU (qP I (qP I (qP I (qB 1 I I I (GL (capt:=[]) I I I I I I (by kernel_rfl) (fun W1 _=>Hx 0 0 W1) ?_)))))))))))))))))))))))
 refine qP I (qP I (qP I (qB 1 I I I (GL (capt:=[]) I I I I I I (by kernel_rfl) (fun W1 _=>Hx 0 10 W1) (qP I (qP I (qP I (qB 1 I I I (GL (capt:=[]) I I I I I I (by kernel_rfl) (fun W1 _=>Hx 5 5 W1) (qP I (qP I (qP I (qB 1 I I I (GL (capt:=[]) I I I I I I (by kernel_rfl) (fun W1 _=>Hx 5 5 W1) (A8 ?_)))))))))))))))
 (refine Ao Tryz.hZ tH rfl rfl rfl rfl rfl rfl rfl rfl rfl rfl rfl ?_;intro)
 rename_i bP
 refine wP I (Aa (zE (zA (zA (zB (wP I (wB 0 I I I (wP I (wB 0 I I I (wP I (Fi Tryz.underlying4 I I I I I I ?_)))))))))))
 refine Aa (zE (zS I (zI (zE (zA (zB (wP I (Aa (zE (zA (zB (wP I (wP I (wP I ?_))))))))))))))
 have hpts: ∀ {W0 W1:World} {bxs:List Bx},Hp W0 bxs W1->nth bxs 2=some (⟨bP,62,ptC Gu,true,none⟩:Bx)->BY W1 (some ⟨bP,0,none⟩) Gu:=fun hp h1=>BY.of_row (junk:=[]) (by rw[List.append_nil];exact Ai.of_bx hp 2 h1 rfl)
 refine wC I I (fun W1 hp=>(SJ Gu h40 (by decide) XY Xd (some ⟨bP,0,none⟩) 4 W1 (hpts hp I) (hv.hp hp) (ht.hp hp)).cast (v':=cvV ((0:Rat),(0:Rat))) I) (wC I I (fun W1 hp=>(show Ad Tryz.prog 276 #[slv (some ⟨bP,0,none⟩) 4 4,cvV ((0:Rat),(0:Rat))] W1 (fun _:Unit=> .int .i64 0) (fun _=>True) (fun _=>[]) from Na Gu h40 (by decide) (some ⟨bP,0,none⟩) 4 W1 (hpts hp I))) (wP I (Aa (zE (Av ?_)))))
 refine AW (X:= { V:Vec//V.OK 2 4 (ptC Gu) }) [true,true,false,true,true,false,false,false,false] (fun V=>[(10,V.1.val 4)]) (fun V=>[V.1.bx 62 (ptC Gu)])
  5 [⟨b2,56,(frV f0).cells.toList,true,none⟩,⟨b3,145,(stV 0 S0).cells.toList,true,none⟩,⟨bP,62,ptC Gu,true,none⟩] Tryz.mixed (by kernel_rfl) ?_ ?_
 ·refine qP I (qP I (qP I (qP I (BU (wX (RS.cons ?_ (RS.cons ?_ (RS.nil))))))))
  ·refine Du 0 tH I I I I I I I I (by decide) (by decide) ?_;refine Al 65 (.slice (some ⟨bP,0,none⟩) 4 4) I I ?_
   refine Aa (Ag (wX (wZ (B6 0 tH I I I I I I I I (by decide) ?_))))
   refine Aa (Ag (wX (wZ (Ao Tryz.hZ tH I I I I I I I I I I I fun bL1=> ?_))))
   refine Aa (Ag (wX (wZ ?_)))
   refine wD (X:=Vec) rfl rfl (fun W1 hp=>Dp W1 bL1 2 (some ⟨bP,0,none⟩) (some ⟨bP,0,none⟩) 4 0 4 4 (ptC Gu) [] (Ai.of_bx hp 3 rfl rfl) (BY.cells (hpts hp rfl)) (.inl rfl) rfl rfl (Fp _) (fun u hu=>absurd hu List.not_mem_nil) (by decide) (by decide)) ?_;intro V1 hV1
   refine Aa (Ag (wX (wZ (wP I (Aa (Ag ?_))))))
   rw[List.append_nil] at hV1;rw[List.append_nil];first|refine AD rfl (by((repeat (first|refine AJ.same ?_|refine AJ.off rfl ?_));exact trivial)) ?_|refine AT rfl (by kernel_rfl) ?_
   exact A4 ⟨V1,hV1⟩ ⟨I,tO⟩ [4] (by decide) I
  ·refine B6 0 tH I I I I I I I I (by decide) ?_
   refine Aa (Ag (wX (wZ ?_)))
   refine Du 0 tH I I I I I I I I (by decide) (by decide) ?_;refine Al 65 (.slice (some ⟨bP,0,none⟩) 4 4) I I ?_
   refine Aa (Ag (wX (wZ (Ao Tryz.hZ tH I I I I I I I I I I I fun bL1=> ?_))))
   refine Aa (Ag (wX (wZ ?_)))
   refine wD (X:=Vec) rfl rfl (fun W1 hp=>Dp W1 bL1 2 (some ⟨bP,0,none⟩) (some ⟨bP,0,none⟩) 4 0 4 4 (ptC Gu) [] (Ai.of_bx hp 3 rfl rfl) (BY.cells (hpts hp rfl)) (.inl rfl) rfl rfl (Fp _) (fun u hu=>absurd hu List.not_mem_nil) (by decide) (by decide)) ?_;intro V1 hV1
   refine Aa (Ag (wX (wZ (wP I (Aa (Ag ?_))))))
   rw[List.append_nil] at hV1;rw[List.append_nil];first|refine AD rfl (by((repeat (first|refine AJ.same ?_|refine AJ.off rfl ?_));exact trivial)) ?_|refine AT rfl (by kernel_rfl) ?_
   exact A4 ⟨V1,hV1⟩ ⟨I,tO⟩ [4] (by decide) I
 rintro⟨⟨pS,cS,jS⟩,hVS⟩
 have hVS:Vec.OK ⟨pS,cS,jS⟩ 2 4 (ptC Gu):=hVS
 obtain⟨gS,rfl⟩: ∃g,pS=some g:=by
  cases pS with
  |none=>exact absurd (hVS.nil rfl) (by decide)
  |some g=>exact⟨g,rfl⟩
 have hcS:4<=cS:=(hVS.cap (by simp)).1
 refine zE (zA (zB (wP I ?_)))
 refine Fc (X:=List Value) (val:=fun _=> .slice (some ⟨gS,0,none⟩) 3 cS) (Φ:=fun _=>True) (capt:=[]) 0 (B:=BI gS Gu jS) (L1:=[]) (L2:=[]) (b:=gS) (ob:= .cells (ptC Gu++jS).toArray 62 (0,0)) (fun x=>BI gS Ez x) (g':=fun _=>gS) (o':=fun x=> .cells (ptC Ez++x).toArray 62 (0,0))
  rfl rfl rfl rfl rfl rfl (by kernel_rfl) rfl rfl (fun _ _=>rfl) (fun W1 hp=> ?_) ?_
 ·have:=Ln W1 gS cS Gu jS (by decide) hcS (hp.own.cell 0 _ rfl (gS, .cells (ptC Gu++jS).toArray 62 (0,0)) (List.mem_cons_self ..)).1
  rw[WK] at this
  exact this
 intro jT _
 refine wP I (Aa ?_)
 have hrow: ∀ {W0 W1:World} {bxs:List Bx},Hp W0 bxs W1->nth bxs 0=some (BI gS Ez jT)-> ∀k (hk:k<3),Ai W1 gS (0+k*2) [str (Ac (Ez[k]'hk).1),str (Ac (Ez[k]'hk).2)]:=fun hp h1 k hk=>by
  obtain⟨g,o,e,h⟩:=(BY.of_row (l:=Ez) (junk:=jT) (Ai.of_bx hp 0 h1 rfl)).at_ (show 0<3 by decide)
  cases e
  exact h k hk
 refine zE (Av (Av (zU (qP I (qI I I (by decide) (by decide) (qL 0 I I (fun W1 hp=>hrow hp I 0 (by decide)) I (qP I (qP I (qP I (qP I (qI I I (by decide) (by decide) (qL 0 I I (fun W1 hp=>hrow hp I 2 (by decide)) I (QQ (Ac 0) (Ac 0) (Ac 5) (Ac 5) I I I I I ?_)))))))))))))
 exact qU 82 false I ((PJ (x:=(0,0)) (y:=(5,5))).trans (by decide+kernel)) (A8 (Aa (zE (zS I (zI (zE (zA (zB (wP I (wP I (Aa (zE (zO (Ax tH I (.tmp I) (gS,cS,jT) I tO fun W1 hp=>As.of_hp hp))))))))))))))
theorem LN (W:World) (hv:AE W) (ht:A7 W):
  Ad Tryz.prog 167 #[frV f0,stV 0 S0] W (fun x:Nat×Nat×List Value=> .tuple #[slv (some ⟨x.1,0,none⟩) 3 x.2.1, .int .i64 0]) (fun _=>True) (fun x=>[BI x.1 Ez x.2.2]):=by
 refine Ab (args:=[frV f0,stV 0 S0]) Tryz.func167 I I I (zA (zB (wF I I fun _=>(wF I I fun _=>(wP I (wP I (Aa (zE (zA (zA (zB (wB 0 I I I (wB 1 I I I (wC I I (fun W1 hp=>IW f0 Rv 0 S0 Zj (by decide+kernel) W1 (hv.hp hp) (ht.hp hp)) (wP I (Aa (zE (zA (zB (wP I (wP I (Aa (zE ?_)))))))))))))))))))))))
 refine zS I (zI (zE (zA (zB (wB 0 I I I (wB 1 I I I (wD (X:=Nat×Nat×List Value) I I (fun W1 hp=>QV W1 (hv.hp hp) (ht.hp hp)) ?_)))))))
 intro x _
 exact wP I (wP I (Aa (zE (zO (A0 tH I (.tmp I) (.tmp I) x I tO fun W1 hp=>As.of_hp (hp.pick (l:=[BI x.1 Ez x.2.2]) [2] (by decide) I))))))
abbrev WU (F S A:Value):Value:= .agg #[F,S,A]
theorem RA (p:Option Addr) (n cap:Nat) (S A:Value) (m:Nat) (hm:m<n) (l r lo hi:List UInt8) (W:World):
  Ad Tryz.prog 169 #[WU (slv p n cap) S A,GC m l r lo hi] W (fun _:Unit=> .int .i64 0) (fun _=>True) (fun _=>[]):=by
 refine Ab (args:=[WU (slv p n cap) S A,GC m l r lo hi]) Tryz.func169 I I I (zA (zB (wF I I fun _=>(wF I I fun _=>(wP I (Aa (zE (zA (zA (zB (wP I (wB 1 I I I (wP I (wU 7 false I (dF (by omega)) (wP I (wP I (wB 1 I I I (wP I (wB 0 I I I (wP I (wP I (wU 14 false I (dF (by omega)) (wP I ?_)))))))))))))))))))))))
 exact Aa (zE (zS I (zI (zE (zA (zB (wP I (Aa (zE (zO (wR1 I I I)))))))))))
theorem Jg (s:Int) (l r lo hi:Rat) (ol:okQ l) (or:okQ r) (oo:okQ lo) (oi:okQ hi) (ll:(Ac l).length<=8) (lr:(Ac r).length<=8) (llo:(Ac lo).length<=8) (lhi:(Ac hi).length<=8) (h1:l<r) (h2:lo<hi) (W:World) (hv:AE W) (ht:A7 W):
  Ad Tryz.prog 44 #[GC s (Ac l) (Ac r) (Ac lo) (Ac hi)] W (fun _:Unit=> .int .i64 0) (fun _=>True) (fun _=>[]):=by
 have zl:=DL ll (by decide)
 have zr:=DL lr (by decide)
 have zo:=DL llo (by decide)
 have zi:=DL lhi (by decide)
 have hner:ner [Ac l,Ac r,Ac lo,Ac hi]=0:=by
  unfold ner ner ner ner ner
  rw[CV ol,CV or,CV oo,CV oi]
  rfl
 refine Ab (args:=[GC s (Ac l) (Ac r) (Ac lo) (Ac hi)]) Tryz.func44 I I I (zA (zB (wF I I fun _=>(wP I (Aa (zE (zA (zA (zB (wP I (wB 0 I I I (wP I (wB 0 I I I (wP I (wB 0 I I I (wP I (wB 0 I I I (Ao Tryz.hZ tH I I I I I I I I I I I fun bS=> ?_))))))))))))))))))
 refine wC I I (fun W1 hp=>(I6 W1 (some ⟨bS,0,none⟩) 4 [Ac l,Ac r,Ac lo,Ac hi] (.inr ⟨bS,0,I,Ai.of_bx hp 1 I I⟩) (show 4<=100000 by decide) (fun y hy=>by
  simp only[List.mem_cons,List.not_mem_nil,or_false] at hy
  rcases hy with rfl|rfl|rfl|rfl<;>omega) (hv.hp hp) (ht.hp hp)).cast (v':= .int .i64 0) (by rw[hner])) ?_
 refine wP I (Aa (zE (zA (zB (wP I (wP I (Aa (zE (zS I (zI (zE (zA (zA (zB (wP I (wB 0 I I I (wP I (wB 0 I I I (wC I I (fun W1 hp=>BF l r (sz2 zl zr (by decide)) W1 (hv.hp hp) (ht.hp hp)) (wP I (wU 22 false I ((NU _ _).trans (dF (Rat.not_le.2 h1))) (wP I (wP I ?_)))))))))))))))))))))))
 exact wB 0 I I I (wP I (wB 0 I I I (wC I I (fun W1 hp=>BF lo hi (sz2 zo zi (by decide)) W1 (hv.hp hp) (ht.hp hp)) (wP I (wU 29 false I ((NU _ _).trans (dF (Rat.not_le.2 h2))) (wP I (Aa (zE (zS I (zI (zE (zA (zB (wP I (Aa (zE (zO (wR1 I I I))))))))))))))))))
def crn (l r lo hi:Rat):List At:=[(l,lo),(r,lo),(r,hi),(l,hi)]
def spC (f:FrP) (L:List At):List Value:=L.flatMap fun q=>[str (Ac (f.px q.1 q.2)),str (Ac (f.py q.1 q.2)),str (Ac (f.pz q.2))]
theorem Uq (f:FrP) (a b:List At):spC f (a++b)=spC f a++spC f b:=List.flatMap_append
theorem Ix (f:FrP) (h:f.Go) (s:Int) (l r lo hi:Rat) (zl:szQ l 8) (zr:szQ r 8) (zo:szQ lo 8) (zi:szQ hi 8) (W:World) (hv:AE W) (ht:A7 W):
  Ad Tryz.prog 98 #[frV f,GC s (Ac l) (Ac r) (Ac lo) (Ac hi)] W (fun V:Vec=> .tuple #[V.val 4, .int .i64 0]) (fun V=>V.OK 3 4 (spC f (crn l r lo hi))) (fun V=>[V.bx 45 (spC f (crn l r lo hi))]):=by
 obtain⟨C,hC⟩: ∃C,C=crn l r lo hi:=⟨_,rfl⟩
 have hCl:C.length=4:=by rw[hC];rfl
 have hz: ∀q∈C,szQ q.1 8/\szQ q.2 8:=by
  intro q hq
  rw[hC] at hq
  simp only[crn,List.mem_cons,List.not_mem_nil,or_false] at hq
  rcases hq with rfl|rfl|rfl|rfl
  ·exact⟨zl,zo⟩
  ·exact⟨zr,zo⟩
  ·exact⟨zr,zi⟩
  ·exact⟨zl,zi⟩
 refine Ab (args:=[frV f,GC s (Ac l) (Ac r) (Ac lo) (Ac hi)]) Tryz.func98 I I I (zA (zB (wF I I fun _=>(wF I I fun _=>(wP I (wP I (Aa ?_)))))))
 rename_i b2 b3
 refine zE (zA (zB (wP I (Aa (zE (zA (zA (zB (wP I (wB 1 I I I (wP I (wB 1 I I I (F9 (.agg #[str [],str []]) Tryz.underlying208 (fun W=>by kernel_rfl) Tryz.sizeOf25 I I I I I ?_)))))))))))))
 refine wP I (wB 1 I I I (wP I (wB 1 I I I (F9 (.agg #[str [],str []]) Tryz.underlying208 (fun W=>by kernel_rfl) Tryz.sizeOf25 I I I I I ?_))))
 refine wP I (wB 1 I I I (wP I (wB 1 I I I (F9 (.agg #[str [],str []]) Tryz.underlying208 (fun W=>by kernel_rfl) Tryz.sizeOf25 I I I I I ?_))))
 refine wP I (wB 1 I I I (wP I (wB 1 I I I (F9 (.agg #[str [],str []]) Tryz.underlying208 (fun W=>by kernel_rfl) Tryz.sizeOf25 I I I I I ?_))))
 refine Ao Tryz.hZ tH I I I I I I I I I I I fun bA=> ?_
 refine wP I (wP I (Aa (zE (zH (CI ?_)))))
 refine Ar (X:=Nat×Vec) (fun x=>[(2,Af b2),(6,x.2.val x.1),(31,slv (some ⟨bA,0,none⟩) 4 4),(32, .int .i64 4),(33, .int .i64 (x.1:Nat))]) (fun x=>[⟨b2,56,(frV f).cells.toList,true,none⟩,⟨b3,27,(GC s (Ac l) (Ac r) (Ac lo) (Ac hi)).cells.toList,true,none⟩,⟨bA,208,ptC C,true,none⟩,x.2.bx 45 (spC f (C.take x.1))])
  (fun x=>x.1<=4/\x.2.OK 3 x.1 (spC f (C.take x.1))) (fun x=>4-x.1) (0,Vec.empty) ⟨Nat.zero_le _,Vec.OK.empty 3⟩ ⟨rfl,rfl,rfl,rfl,rfl,trivial⟩ [] (by rw[hC];rfl) ?_
 rintro⟨i,V⟩ ⟨hi,hV⟩
 have hi:i<=4:=hi
 have hV:V.OK 3 i (spC f (C.take i)):=hV
 refine zA (zB (wP I ?_))
 by_cases hlt:i<4
 rotate_left
 ·have e:i=4:=by omega
  subst e
  rw[List.take_of_length_le (by omega)] at hV
  refine wU 34 false I (dF (by omega)) (Aa (zE (zA (zS I (zJ (zK (zK (zL (zE (zA (zB (wP I (wP I (wP I (Aa (zE (zO ?_)))))))))))))))))
  rw[<-hC]
  exact A0 tH I (.tmp I) (.tmp I) V I hV fun W1 hp=>As.of_hp (hp.pick (l:=[V.bx 45 (spC f C)]) [3] (by decide) (by rw[List.take_of_length_le (by omega)];rfl))
 refine wU 34 true I (dT (by omega)) (Aa (zE (zA (zR I (zI (zE (zA (zH (zA (zB ?_))))))))))
 have hi4:i<C.length:=by omega
 have hq:=hz _ (List.getElem_mem hi4)
 have htk:C.take (i+1)=C.take i++[C[i]]:=List.take_succ_eq_append_getElem hi4
 obtain⟨q,hqe⟩: ∃q,q=C[i]:=⟨_,rfl⟩
 rw[<-hqe] at hq htk
 have hrow: ∀ {W0 W1:World} {bxs:List Bx},Hp W0 bxs W1->nth bxs 2=some (⟨bA,208,ptC C,true,none⟩:Bx)->Ai W1 bA (0+i*2) [str (Ac q.1),str (Ac q.2)]:=fun hp h1=>by
  obtain⟨g,o,e,hh⟩:=(BY.of_row (l:=C) (junk:=[]) (by rw[List.append_nil];exact Ai.of_bx hp 2 h1 rfl)).at_ hi4
  cases e
  rw[hqe]
  exact hh i hi4
 refine wJ ?_
 refine wL 0 I I (fun W1 hp=>hrow hp I) I (wG I I fun _=>(wS 4 I I I (Aa ?_)))
 rename_i b8
 refine zE (zA (zB (wB 0 I I I (Ex Tryz.underlying208 Tryz.sizeOf25 I I I I I ⟨by decide,by decide⟩ (wB 4 I I I (Ex Tryz.underlying208 Tryz.sizeOf25 I I I I I ⟨by decide,by decide⟩ (wB 4 I I I (wC I I (fun W1 hp=>LA f h q.1 q.2 (hq.1.mono (by decide)) (hq.2.mono (by decide)) W1 (hv.hp hp) (ht.hp hp)) (wP I (wP I (wP I (wG I I fun _=>(wS 5 I I I (wP I (Aa ?_)))))))))))))))
 rename_i b9
 refine zE (zA (zA (zB (wP I (wP I (Aa (zE (zS I (zI (zE (zB (wP I (wB 5 I I I (Ao Tryz.hZ tH I I I I I I I I I I I fun bN=> ?_))))))))))))))
 refine AK (V:=V) (len:=i) (xs:=spC f (C.take i)) 3 6 Tryz.vec41 (i+1) (spC f (C.take (i+1))) I I I I I I I I I I I hV I I I (by rw[htk,Uq];rfl) (by simp only[maxLen];omega) (by omega) I ?_
 intro gV cV jV hV1
 exact wP I (Aa (zN (zE (zB (wP I (wV 53 ((i+1:Nat):Int) I (Aw (by omega)) (wP I (Aa (Aj (i+1,⟨some gV,cV,jV⟩) ⟨hlt,hV1⟩ (by show 4-(i+1)<4-i;omega) ⟨I,I,I,I,I,tO⟩ [_,_,_] I)))))))))
theorem Uv (f:FrP): ∀L:List At,(spC f L).length=L.length*3
 |[]=>rfl
 |q::L=>by
  show(_++spC f L).length=_
  rw[List.length_append,Uv f L]
  show 3+L.length*3=(L.length+1)*3
  omega
theorem ZR {W0 W:World} {bxs:List Bx} (hp:Hp W0 bxs W) (k:Nat) {g i:Nat} {f:FrP} {L:List At} {junk:List Value} (hk:nth bxs k=some (⟨g,45,spC f L++junk,true,none⟩:Bx)) (hi:i<L.length):
  Ai W g (0+i*3) [str (Ac (f.px L[i].1 L[i].2)),str (Ac (f.py L[i].1 L[i].2)),str (Ac (f.pz L[i].2))]:=by
 refine GZ hp k (A:=spC f (L.take i)) (C:=spC f (L.drop (i+1))++junk) hk ?_ (by rw[Uv,List.length_take];omega)
 have e:spC f L=spC f (L.take i)++([str (Ac (f.px L[i].1 L[i].2)),str (Ac (f.py L[i].1 L[i].2)),str (Ac (f.pz L[i].2))]++spC f (L.drop (i+1))):=by
  conv=>lhs;rw[<-List.take_append_drop i L,List.drop_eq_getElem_cons hi,Uq]
  rfl
 rw[e,List.append_assoc,List.append_assoc]
def rcP (f:FrP) (C:List At):List At:=C.map fun q=>(f.px q.1 q.2,f.py q.1 q.2)
theorem SA (f:FrP) (h:f.Go) (s:Int) (l r lo hi:Rat) (zl:szQ l 8) (zr:szQ r 8) (zo:szQ lo 8) (zi:szQ hi 8) (L:List At) (hH:ZS (rcP f (crn l r lo hi)) L 0) (hok:E8 (rcP f (crn l r lo hi))) (hq: ∀p∈rcP f (crn l r lo hi),okP p) (W:World) (hv:AE W) (ht:A7 W):
  Ad Tryz.prog 234 #[frV f,GC s (Ac l) (Ac r) (Ac lo) (Ac hi)] W (fun V:Vec=> .tuple #[V.val L.length, .int .i64 0]) (fun V=>V.OK 2 L.length (ptC L)) (fun V=>[V.bx 62 (ptC L)]):=by
 obtain⟨C,hC⟩: ∃C,C=crn l r lo hi:=⟨_,rfl⟩
 have hCl:C.length=4:=by rw[hC];rfl
 rw[<-hC] at hH hok hq
 have hPl:(rcP f C).length=4:=by unfold rcP;rw[List.length_map,hCl]
 refine Ab (args:=[frV f,GC s (Ac l) (Ac r) (Ac lo) (Ac hi)]) Tryz.func234 I I I (zA (zB (wF I I fun _=>(wF I I fun _=>(wP I (wP I (Aa ?_)))))))
 rename_i b2 b3
 refine zE (zA (zB (wB 0 I I I (wB 1 I I I (wD (X:=Vec) I I (fun W1 hp=>Ix f h s l r lo hi zl zr zo zi W1 (hv.hp hp) (ht.hp hp)) ?_)))))
 rintro⟨pV,cV,jV⟩ hV
 rw[<-hC] at hV⊢
 have hV:Vec.OK ⟨pV,cV,jV⟩ 3 4 (spC f C):=hV
 obtain⟨gV,rfl⟩: ∃g,pV=some g:=by
  cases pV with
  |none=>exact absurd (hV.nil rfl) (by decide)
  |some g=>exact⟨g,rfl⟩
 refine wP I (wP I (wP I (wP I (wP I (Aa (zE (zA (zA (zB (wP I (wP I (Aa (zE (zS I (zI (zE (zA (zB (wP I (Aa (zE (zA (zA ?_)))))))))))))))))))))))
 refine zB (wP I (wP I (wP I (Aa (zE (zH (CI ?_)))))))
 refine Ar (X:=Nat×Vec) (fun x=>[(8,x.2.val x.1),(20,slv (some ⟨gV,0,none⟩) 4 cV),(21, .int .i64 4),(22, .int .i64 (x.1:Nat))]) (fun x=>[⟨b2,56,(frV f).cells.toList,true,none⟩,⟨b3,27,(GC s (Ac l) (Ac r) (Ac lo) (Ac hi)).cells.toList,true,none⟩,⟨gV,45,spC f C++jV,true,none⟩,x.2.bx 62 (ptC ((rcP f C).take x.1))])
  (fun x=>x.1<=4/\x.2.OK 2 x.1 (ptC ((rcP f C).take x.1))) (fun x=>4-x.1) (0,Vec.empty) ⟨Nat.zero_le _,Vec.OK.empty 2⟩ ⟨rfl,rfl,rfl,rfl,trivial⟩ [] rfl ?_
 rintro⟨i,V⟩ ⟨hi,hV2⟩
 have hi:i<=4:=hi
 have hV2:V.OK 2 i (ptC ((rcP f C).take i)):=hV2
 refine zA (zB (wP I ?_))
 by_cases hlt:i<4
 rotate_left
 ·have e:i=4:=by omega
  subst e
  rw[List.take_of_length_le (by omega)] at hV2
  obtain⟨pU,cU,jU⟩:=V
  obtain⟨gU,rfl⟩: ∃g,pU=some g:=by
   cases pU with
   |none=>exact absurd (hV2.nil rfl) (by decide)
   |some g=>exact⟨g,rfl⟩
  refine wU 23 false I (dF (by omega)) (Aa (zE (zA (zS I (zJ (zK (zK (zL (zE (zA (zB (wP I ?_))))))))))))
  refine wD (X:=Vec) I I (fun W1 hp=>by
   have h2:=R5 (rcP f C) L 0 hH (.inl hok) (by omega) (by omega) hq (some ⟨gU,0,none⟩) cU W1 (BY.of_row (junk:=jU) (Ai.of_bx hp 3 (by rw[List.take_of_length_le (by omega)];rfl) rfl)) (hv.hp hp) (ht.hp hp)
   rw[hPl] at h2
   exact h2) ?_
  intro U hU
  exact wP I (wP I (wP I (wP I (Aa (zE (zO (A0 tH I (.tmp I) (.tmp I) U I hU fun W1 hp=>As.of_hp (hp.pick (l:=[U.bx 62 (ptC L)]) [4] (by decide) I))))))))
 refine wU 23 true I (dT (by omega)) (Aa (zE (zA (zR I (zI (zE (zA (zH (zA (zB ?_))))))))))
 have hi4:i<C.length:=by omega
 have htk:(rcP f C).take (i+1)=(rcP f C).take i++[(f.px C[i].1 C[i].2,f.py C[i].1 C[i].2)]:=by
  rw[List.take_succ_eq_append_getElem (by omega)]
  unfold rcP
  rw[List.getElem_map]
 have hrow: ∀ {W0 W1:World} {bxs:List Bx},Hp W0 bxs W1->nth bxs 2=some (⟨gV,45,spC f C++jV,true,none⟩:Bx)->_:=fun hp h1=>ZR hp 2 h1 hi4
 obtain⟨q,hqe⟩: ∃q,q=C[i]:=⟨_,rfl⟩
 rw[<-hqe] at htk hrow
 refine wJ ?_
 refine wL 0 I I (fun W1 hp=>hrow hp I) I (wG I I fun _=>(wS 4 I I I (Aa (zE (zB (wP I (wP I (wB 4 I I I (wP I (wB 4 I I I (Ap Tryz.hZ tH I I I I I I I I ?_)))))))))))
 refine Ao Tryz.hZ tH I I I I I I I I I I I fun bN=> ?_
 refine AK (V:=V) (len:=i) (xs:=ptC ((rcP f C).take i)) 3 5 Tryz.vec210 (i+1) (ptC ((rcP f C).take (i+1))) I I I I I I I I I I I hV2 I I I (by rw[htk,CQ];rfl) (by simp only[maxLen];omega) (by omega) I ?_
 intro gU cU jU hU1
 exact wP I (Aa (zN (zE (zB (wP I (wV 34 ((i+1:Nat):Int) I (Aw (by omega)) (wP I (Aa (Aj (i+1,⟨some gU,cU,jU⟩) ⟨hlt,hU1⟩ (by show 4-(i+1)<4-i;omega) ⟨I,I,I,I,tO⟩ [_,_] I)))))))))
def lnG (p q:At):Eu:=⟨q.2-p.2,p.1-q.1,(q.2-p.2)*p.1+(p.1-q.1)*p.2⟩
structure MkZ (l:List At) (P Q:At):Prop where
 a:Sz2 Q.2 P.2
 b:Sz2 P.1 Q.1
 c:Sz2 (Q.2-P.2) P.1
 d:Sz2 (P.1-Q.1) P.2
 e:Sz2 ((Q.2-P.2)*P.1) ((P.1-Q.1)*P.2)
 z:ClZ (lnG P Q) l
 k:Gs (lnG P Q) l=l
def StK (p:Option Addr) (cap:Nat) (l:List At) (k:Nat) (pO:Option Addr) (cO:Nat) (o:Bx):Prop:=
 (k=0/\pO=p/\cO=cap)\/ ∃g j,pO=some ⟨g,0,none⟩/\o=(⟨g,62,ptC l++j,true,none⟩:Bx)/\Vec.OK ⟨some g,cO,j⟩ 2 l.length (ptC l)
theorem StK.pts {p:Option Addr} {cap:Nat} {l:List At} {k:Nat} {pO:Option Addr} {cO:Nat} {o:Bx} (h:StK p cap l k pO cO o) {W W1:World} {bxs:List Bx} (hA:BY W p l) (hp:Hp W bxs W1) (j:Nat) (hj:nth bxs j=some o):BY W1 pO l:=by
 rcases h with⟨_,rfl,_⟩|⟨g,jk,rfl,rfl,_⟩
 ·exact hA.hp hp
 ·exact BY.of_row (junk:=jk) (Ai.of_bx hp j hj I)
abbrev erK (b:Nat) (e:Int):Bx:=⟨b,28,[.int .i64 e],true,none⟩
theorem Qx (l M:List At) (hk: ∀k,k<M.length->MkZ l (Au M k) (Au M (k+1))) (p q:Option Addr) (cap cap2:Nat) (W:World) (hA:Nq W p l) (hB:Nq W q M):
  Ad Tryz.prog 235 #[slv p l.length cap,slv q M.length cap2] W (fun x:Nat×Nat×List Value=> .tuple #[slv (some ⟨x.1,0,none⟩) l.length x.2.1, .int .i64 0]) (fun x=>Vec.OK ⟨some x.1,x.2.1,x.2.2⟩ 2 l.length (ptC l)) (fun x=>[⟨x.1,62,ptC l++x.2.2,true,none⟩]):=by
 have hn:=hB.n
 have h3:=hB.n3
 have hlen:((l.length:Nat):Int)≠0:=by have:=hA.n3;omega
 have hv:=hA.v
 have ht:=hA.t
 refine Ab (args:=[slv p l.length cap,slv q M.length cap2]) Tryz.func235 I I I (zA (zB (wG I I fun _=>(wG I I fun _=>(Aa ?_)))))
 rename_i b4 b5
 refine zE (zA (zA (zB (wP I (wC I I (fun W1 hp=>(hA.hp hp).chk cap) (wP I (wP I (wP I (wC I I (fun W1 hp=>(hB.hp hp).chk cap2) (wP I (wP I (Aa (zE (zS I (zI (zE (zA (zB (Ap Tryz.hZ tH I I I I I I I I ?_)))))))))))))))))))
 refine wF I I fun _=>(wG I I fun _=>(wS 3 I I I (Aa ?_)))
 rename_i bC b6
 refine zE (zA (zB (wP I (wG I I fun _=>(wS 4 I I I (Aa ?_))))))
 rename_i b7
 refine zE (zA (zA (zB (wP I (wD (X:=Nat) I I (fun W1 _=>Fy q M.length cap2 W1) ?_)))))
 intro bp _
 refine Aa (zE (zH (CI ?_)))
 refine EE (X:=Nat×Option Addr×Nat×Bx) (fun x=>[lsB b4 (.slice none 0 0),erK b5 0,caB bC,ckB b6 bC,lsB b7 (slv x.2.1 l.length x.2.2.1),lsB bp (slv q M.length cap2),x.2.2.2])
  (fun k x=>x.1=k/\StK p cap l k x.2.1 x.2.2.1 x.2.2.2) (fun _ _=>False) (0,p,cap,Ga) rfl (by kernel_rfl) (Gp M bp q cap2 (by omega)) (fun _=>rfl)
  ⟨rfl, .inl ⟨rfl,rfl,rfl⟩⟩ [] rfl (fun k x W1 _ hp=>⟨Ai.of_bx hp 5 rfl rfl,hB.m.hp hp⟩) ?_ ?_ (fun _ _ _ _ _ h=>h.elim)
 ·rintro k ⟨k',pO,cO,o⟩ d l' rec L hkl ⟨e1,hSt⟩ hrec
  obtain rfl:k'=k:=e1
  have hkl:k'<M.length:=hkl
  have hSt:StK p cap l k' pO cO o:=hSt
  have hz:=hk k' hkl
  obtain⟨P,hP⟩: ∃P,P=Au M k':=⟨_,rfl⟩
  obtain⟨Q,hQ⟩: ∃Q,Q=Au M (k'+1):=⟨_,rfl⟩
  rw[<-hP, <-hQ] at hz
  refine zB (wG I I fun _=>(wS 10 I I I (Aa ?_)))
  rename_i b9
  rw[<-hP, <-hQ]
  refine BJ 9 hrec I ?_
  refine Bv (zA (zU (qB 4 I I I (By Tryz.underlying321 Tryz.sizeOf62 I I I I I ⟨by decide,by decide⟩ (qP I (qB 10 I I I (By Tryz.underlying321 Tryz.sizeOf62 I I I I I ⟨by decide,by decide⟩ (qP I (qB 10 I I I (qC I I (fun W1 hp=>Co bC Q.2 P.2 hz.a W1 (EK hp 3 I) (hv.hp hp) (ht.hp hp)) (qB 4 I I I (By Tryz.underlying321 Tryz.sizeOf62 I I I I I ⟨by decide,by decide⟩ (qP I (qB 10 I I I (By Tryz.underlying321 Tryz.sizeOf62 I I I I I ⟨by decide,by decide⟩ (qP I (qB 10 I I I (qC I I (fun W1 hp=>Co bC P.1 Q.1 hz.b W1 (EK hp 3 I) (hv.hp hp) (ht.hp hp)) (qP I (qP I (A8 (Aa (zE ?_)))))))))))))))))))))))
  refine Av ?_
  refine AW (X:= { x:Nat×Nat×List Value//Vec.OK ⟨some x.1,x.2.1,x.2.2⟩ 2 l.length (ptC l) }) [true,true,true,true,true,true,true,true,true,true,true,true,true,true,true,true,true,true,false,false] (fun _=>[(4,Af b4),(5,Af b5),(6,Af b6),(7,Af b7)]) (fun x=>[AU L,lsB b4 (.slice none 0 0),erK b5 0,caB bC,ckB b6 bC,lsB b7 (slv (some ⟨x.1.1,0,none⟩) l.length x.1.2.1),lsB bp (slv q M.length cap2),⟨x.1.1,62,ptC l++x.1.2.2,true,none⟩,BG d,Be l' rec .busy none])
   2 [AU L,lsB b4 (.slice none 0 0),erK b5 0,caB bC,ckB b6 bC,lsB b7 (slv pO l.length cO),lsB bp (slv q M.length cap2),o,BG d,Be l' rec .busy none,⟨b9,321,(sdV P Q).cells.toList,true,none⟩] Tryz.mixed (by kernel_rfl) ?_ ?_
  ·refine qB 4 I I I (qB 5 I I I (qP I (qP I (qB 4 I I I (qB 4 I I I (qP I (By Tryz.underlying321 Tryz.sizeOf62 I I I I I ⟨by decide,by decide⟩ (qP I (qB 10 I I I (qC I I (fun W1 hp=>CD bC (Q.2-P.2) P.1 hz.c W1 (EK hp 3 I) (hv.hp hp) (ht.hp hp)) (qB 4 I I I (qP I (By Tryz.underlying321 Tryz.sizeOf62 I I I I I ⟨by decide,by decide⟩ (qP I (qB 10 I I I (qC I I (fun W1 hp=>CD bC (P.1-Q.1) P.2 hz.d W1 (EK hp 3 I) (hv.hp hp) (ht.hp hp)) (qC I I (fun W1 hp=>FD bC ((Q.2-P.2)*P.1) ((P.1-Q.1)*P.2) hz.e W1 (EK hp 3 I) (hv.hp hp) (ht.hp hp)) (BU (wX (wZ ?_))))))))))))))))))))
   refine wD (X:=Vec) rfl rfl (fun W1 hp1=>by have:=Ri bC (lnG P Q) l hz.z hA.poly hA.n3 hA.n pO cO W1 (hSt.pts hA.m hp1 7 rfl) (EK hp1 3 rfl) (hv.hp hp1) (ht.hp hp1);rw[hz.k] at this;exact this) ?_;rintro⟨pV,cV,jV⟩ hV;obtain⟨gV,rfl⟩: ∃g,pV=some g:=Option.ne_none_iff_exists'.1 (fun e=>absurd (hV.nil e) (by have:=hA.n3;omega))
   refine Aa (Ag (wX (wZ (wS 5 I I I (Aa (Ag (AT I (by kernel_rfl) ?_)))))))
   exact A4 (⟨(gV,cV,jV),hV⟩: { x:Nat×Nat×List Value//Vec.OK ⟨some x.1,x.2.1,x.2.2⟩ 2 l.length (ptC l) }) ⟨I,I,I,I,tO⟩ [0,1,2,3,4,5,6,11,8,9] (by decide) I
  rintro⟨⟨gV,cV,jV⟩,hV⟩
  refine zE (zA (zA (zB (wB 4 I I I (AM I I I I ?_)))))
  exact wP I (wB 3 I I I (wP I (Aa (zE (zS I (zI (zE (zA (zB (wB 5 I I I (wP I (wP I (wU 73 false I (beq_eq_false_iff_ne.2 hlen) (Aa (zE (zS I (zI (zN (Bk 9 (k'+1,some ⟨gV,0,none⟩,cV,⟨gV,62,ptC l++jV,true,none⟩) hrec I ⟨I, .inr ⟨gV,jV,I,I,hV⟩⟩ [] I)))))))))))))))))))
 ·rintro⟨k',pO,cO,o⟩ d l' rec ⟨e1,hSt⟩
  obtain rfl:k'=M.length:=e1
  have hSt:StK p cap l M.length pO cO o:=hSt
  rcases hSt with⟨h0,_⟩|⟨g,j,rfl,rfl,hV⟩
  ·omega
  refine zN (zE (zA (zB (wB 4 I I I (wS 0 I I I (wS 1 I I I (Aa (zE (zO (Ci 7 I ?_))))))))))
  exact A0 tH I (.cell 0 I I I I I) (.cell 1 I I I I I) (g,cO,j) I hV fun W1 hp=>As.of_hp (hp.pick (l:=[⟨g,62,ptC l++j,true,none⟩]) [6] (by decide) I)
theorem UE:(DV [sqL]).length=4:=(Ia [sqL]).trans rfl
theorem Zl:(DV [sqL])[0]? =some f0:=by
 have h:=U4 (rs:=[sqL]) (r:=0) (i:=0) (by decide) (by decide)
 have e:MD (rg [sqL] 0) 0=f0:=by
  show frO (sqS 0 0) (sqS 10 0)=f0
  have e1:nrm 1 1=1:=by decide+kernel
  have:(frO (sqS 0 0) (sqS 10 0)).sp=1:=e1
  unfold frO at this⊢
  simp only[] at this⊢
  rw[this]
  rfl
 rw[e] at h
 exact h
structure SfX where
 gF:Nat
 cF:Nat
 jF:List Value
 gC:Nat
 cC:Nat
 jC:List Value
 gA:Nat
 cA:Nat
 jA:List Value
abbrev fbB (g:Nat) (j:List Value):Bx:=⟨g,56,frC (DV [sqL])++j,true,none⟩
abbrev arB (g gC cC:Nat) (j:List Value):Bx:=⟨g,210,slv (some ⟨gC,0,none⟩) 3 cC::j,true,none⟩
def SfX.v (x:SfX) (bT:Nat):Value:=WU (slv (some ⟨x.gF,0,none⟩) 4 x.cF) (slv (some ⟨bT,0,none⟩) 1 1) (slv (some ⟨x.gA,0,none⟩) 1 x.cA)
def SfX.bx (x:SfX):List Bx:=[fbB x.gF x.jF,BI x.gC Ez x.jC,arB x.gA x.gC x.cC x.jA]
theorem QC {W0 W:World} {bxs:List Bx} (hp:Hp W0 bxs W) (k:Nat) {g:Nat} {j:List Value} (hk:nth bxs k=some (fbB g j)):Ai W g (0+0*5) (frV f0).cells.toList:=by
 obtain⟨hm,he⟩:=List.getElem?_eq_some_iff.1 Zl
 refine GZ hp k (A:=[]) (C:=frC ((DV [sqL]).drop 1)++j) hk ?_ I
 have e:frC (DV [sqL])=(frV f0).cells.toList++frC ((DV [sqL]).drop 1):=by
  conv=>lhs;rw[List.drop_eq_getElem_cons (i:=0) (l:=DV [sqL]) hm|>fun h=>(List.drop_zero (l:=DV [sqL])).symm.trans h,he]
  rfl
 rw[e,List.append_assoc]
 rfl
abbrev RdS:Type:=Option (Nat×Nat×List Value×Nat×Nat×List Value)
def rdA:RdS->Value
 |none=> .slice none 0 0
 |some y=>slv (some ⟨y.2.2.2.1,0,none⟩) 1 y.2.2.2.2.1
def rdI:RdS->Int
 |none=>0
 |some _=>1
def cQ:RdS->Bx
 |none=>Ga
 |some y=>BI y.1 Ez y.2.2.1
def cP:RdS->Bx
 |none=>Ga
 |some y=>arB y.2.2.2.1 y.1 y.2.1 y.2.2.2.2.2
def rdM:RdS->Nat
 |none=>1
 |some _=>0
theorem Ls (bR bT:Nat) (W:World) (hR:Bd W (some ⟨bR,0,none⟩) [sqL]) (hT:Ai W bT 0 (stV 0 S0).cells.toList) (hd:Fk W) (hv:AE W) (ht:A7 W):
  Ad Tryz.prog 100 #[Gm bR bT] W (fun x:SfX=> .tuple #[x.v bT, .int .i64 0]) (fun _=>True) (fun x=>x.bx):=by
 refine Ab (args:=[Gm bR bT]) Tryz.func100 I I I (zA (zB (wF I I fun _=>(wG I I fun _=>(wP I (Aa ?_))))))
 rename_i b1 b2
 refine zE (zA (zB (wP I (wB 0 I I I ?_))))
 refine wD (X:=Vec) I I (fun W1 hp=>by
  have h:=Hr W1 (some ⟨bR,0,none⟩) 1 [sqL] (by decide) (hR.hp hp) Jo (hd.hp hp) (ht.hp hp)
  rw[UE] at h
  exact h) ?_
 rintro⟨pF,cF,jF⟩ hF
 have hF:Vec.OK ⟨pF,cF,jF⟩ 5 4 (frC (DV [sqL])):=hF
 obtain⟨gF,rfl⟩: ∃g,pF=some g:=Option.ne_none_iff_exists'.1 (fun e=>absurd (hF.nil e) (by decide))
 refine wP I (wP I (wP I (wP I (wP I (Aa (zE (zA (zA (zB (wP I (wP I (wP I (wP I (wB 0 I I I (wP I (wP I (wP I (Aa (zE (zS I (zI (zE (zA ?_)))))))))))))))))))))))
 refine zB (wP I (wP I (wB 0 I I I (Ap Tryz.hZ tH I I I I I I I I ?_))))
 refine wG I I fun _=>(wS 3 I I I (Aa ?_))
 rename_i b6
 refine zE (zA (zA (zB (wP I (wB 0 I I I (wP I (wP I (Aa (zE (zH ?_))))))))))
 iterate 2 refine CI ?_
 refine Ar (X:=RdS) (fun x=>[(2,Af b2),(4,slv (some ⟨gF,0,none⟩) 4 cF),(6,Af b6),(31,slv (some ⟨bT,0,none⟩) 1 1),(32, .int .i64 1),(33, .int .i64 (rdI x))])
  (fun x=>[⟨b1,81,(Gm bR bT).cells.toList,true,none⟩,⟨b2,148,[.slice none 0 0, .slice none 0 0, .slice none 0 0],true,none⟩,fbB gF jF,⟨b6,148,[slv (some ⟨gF,0,none⟩) 4 cF,slv (some ⟨bT,0,none⟩) 1 1,rdA x],true,none⟩,cQ x,cP x])
  (fun _=>True) rdM none trivial ⟨rfl,rfl,rfl,rfl,rfl,rfl,trivial⟩ [] rfl ?_
 intro x _
 rcases x with _|⟨gC,cC,jC,gA,cA,jA⟩
 rotate_left
 ·exact zA (zB (wP I (Aa (zE (zA (zS I (zJ (zK (zK (zL (zE (zA (zB (wB 3 I I I (wS 1 I I I (wP I (Aa (zE (zO (A0 tH I (.cell 1 I I I I I) (.tmp I) (⟨gF,cF,jF,gC,cC,jC,gA,cA,jA⟩:SfX) I tO fun W1 hp=>As.of_hp (hp.pick (l:=[fbB gF jF,BI gC Ez jC,arB gA gC cC jA]) [2,4,5] (by decide) I)))))))))))))))))))))
 refine zA (zB (wP I (Aa (zE (zA (zR I (zI (zE (zA (zH (zA (zB (wI I I (by decide) (by decide) (wL 0 I I (fun W1 hp=>hT.hp hp) I (wG I I fun _=>(wS 6 I I I (Aa ?_)))))))))))))))))
 rename_i b8
 refine zE (zA (zA (zB (wP I (wB 6 I I I (wP I (wP I (wP I (wB 6 I I I (wP I (wP I (wP I (wP I (Aa (zE (zS I (zI (zE (Av ?_)))))))))))))))))))
 refine AW (X:=Nat×Nat×List Value) [true,true,true,true,true,true,false,false,false,false,false,false] (fun y=>[(2,Af b2),(4,slv (some ⟨gF,0,none⟩) 4 cF),(6,Af b6),(9,slv (some ⟨y.1,0,none⟩) 3 y.2.1),(10, .int .i64 0),(31,slv (some ⟨bT,0,none⟩) 1 1),(32, .int .i64 1),(33, .int .i64 0)])
  (fun y=>[⟨b1,81,(Gm bR bT).cells.toList,true,none⟩,⟨b2,148,[.slice none 0 0, .slice none 0 0, .slice none 0 0],true,none⟩,fbB gF jF,⟨b6,148,[slv (some ⟨gF,0,none⟩) 4 cF,slv (some ⟨bT,0,none⟩) 1 1, .slice none 0 0],true,none⟩,BI y.1 Ez y.2.2,Ga])
  6 [⟨b1,81,(Gm bR bT).cells.toList,true,none⟩,⟨b2,148,[.slice none 0 0, .slice none 0 0, .slice none 0 0],true,none⟩,fbB gF jF,⟨b6,148,[slv (some ⟨gF,0,none⟩) 4 cF,slv (some ⟨bT,0,none⟩) 1 1, .slice none 0 0],true,none⟩,Ga,Ga,⟨b8,145,(stV 0 S0).cells.toList,true,none⟩] Tryz.mixed (by kernel_rfl) ?_ ?_
 ·refine qP I (qP I (qB 6 I I I (qI I I (by decide) (by decide) (qL 0 I I (fun W1 hp=>QC hp 2 I) I (qB 6 I I I (BU (wX (wZ ?_))))))))
  refine wD (X:=Nat×Nat×List Value) rfl rfl (fun W1 hp=>LN W1 (hv.hp hp) (ht.hp hp)) ?_;rintro⟨gC,cC,jC⟩ _
  refine Aa (Ag (wX (wZ (wP I (Aa (Ag (wX (RS.cons ?_ (RS.cons ?_ (RS.nil))))))))))
  ·refine wP I (Aa (Ag (wX (RS.cons ?_ (RS.cons ?_ (RS.nil))))))
   ·refine wP I (Aa (Ag (wX (wZ (wP I (Aa (Ag (wX (wZ (wP I (Aa (Ag ?_))))))))))))
    refine AD I (by((repeat (first|refine AJ.same ?_|refine AJ.off I ?_));exact tO)) ?_
    exact A4 (gC,cC,jC) ⟨I,I,I,I,I,I,I,I,tO⟩ [0,1,2,3,7,5] (by decide) I
   ·refine wP I (Aa (Ag (wX (wZ (wP I (Aa (Ag (wX (wZ (wP I (Aa (Ag ?_))))))))))))
    refine AD I (by((repeat (first|refine AJ.same ?_|refine AJ.off I ?_));exact tO)) ?_
    exact A4 (gC,cC,jC) ⟨I,I,I,I,I,I,I,I,tO⟩ [0,1,2,3,7,5] (by decide) I
  ·refine wP I (Aa (Ag (wX (wZ (wP I (Aa (Ag (wX (wZ (wP I (Aa (Ag (wX (wZ (wP I (Aa (Ag ?_)))))))))))))))))
   refine AD I (by((repeat (first|refine AJ.same ?_|refine AJ.off I ?_));exact tO)) ?_
   exact A4 (gC,cC,jC) ⟨I,I,I,I,I,I,I,I,tO⟩ [0,1,2,3,7,5] (by decide) I
 rintro⟨gC,cC,jC⟩
 refine zE (zA (zA (zB (wP I (wP I (Aa (zE (zS I (zI (zE (zB (wP I (wB 3 I I I (wP I (Ao Tryz.hZ tH I I I I I I I I I I I fun bN=> ?_)))))))))))))))
 refine AK (V:=Vec.empty) (len:=0) (xs:=[]) 5 6 Tryz.vec146 1 [slv (some ⟨gC,0,none⟩) 3 cC] I I I I I I I I I I I (Vec.OK.empty 1) I I I I (by decide) (by decide) I ?_
 intro gA cA jA _
 exact wP I (wS 3 I I I (Aa (zN (zE (zB (wP I (wP I (Aa (Aj (some (gC,cC,jC,gA,cA,jA)) tO (by show 0<1;decide) ⟨I,I,I,I,I,I,tO⟩ [_] I)))))))))
def rcO:List At:=[(3,1),(7,1),(7,3),(3,3)]
theorem QR:rcP f0 (crn 3 7 1 3)=rcO:=by decide+kernel
theorem bV {i:Nat} (h:i<rcO.length):i=0\/i=1\/i=2\/i=3:=by have h:i<4:=h;omega
theorem cL {i:Nat} (h:i<Ez.length):i=0\/i=1\/i=2:=by have h:i<3:=h;omega
theorem Xh:ID rcO:=by
 refine⟨by decide,by decide+kernel,fun i j k h1 h2 h3=> ?_⟩
 have h3:k<4:=h3
 have:(i=0/\j=1/\k=2)\/(i=0/\j=1/\k=3)\/(i=0/\j=2/\k=3)\/(i=1/\j=2/\k=3):=by omega
 rcases this with⟨rfl,rfl,rfl⟩|⟨rfl,rfl,rfl⟩|⟨rfl,rfl,rfl⟩|⟨rfl,rfl,rfl⟩<;>decide+kernel
theorem WJ:ID Ez:=by
 refine⟨by decide,by decide+kernel,fun i j k h1 h2 h3=> ?_⟩
 have h3:k<3:=h3
 obtain⟨rfl,rfl,rfl⟩:i=0/\j=1/\k=2:=by omega
 decide+kernel
theorem NZ:Ko 8 rcO:=by unfold Ko szQ rcO;decide+kernel
theorem aG:Ko 8 Ez:=by unfold Ko szQ Ez;decide+kernel
theorem Ko.monoO {a b:Nat} {l:List At} (h:Ko a l) (hab:a<=b):Ko b l:=fun p hp=>⟨(h p hp).1.mono hab,(h p hp).2.mono hab⟩
theorem Ra {W:World} {p:Option Addr} (h:BY W p rcO) (hv:AE W) (ht:A7 W):Nq W p rcO:=⟨Xh,by decide,by decide,NZ.monoO (by decide),h,hv,ht⟩
theorem Xl {W:World} {p:Option Addr} (h:BY W p Ez) (hv:AE W) (ht:A7 W):Nq W p Ez:=⟨WJ,by decide,by decide,aG.monoO (by decide),h,hv,ht⟩
theorem sO {q:Rat} (h:q.num.natAbs<10^8/\q.den<10^8):szQ q 8:=h
theorem eO {p q:Rat} (h:(p.num.natAbs<10^8/\p.den<10^8)/\(q.num.natAbs<10^8/\q.den<10^8)):Sz2 p q:=sz2 (sO h.1) (sO h.2) (by decide)
theorem aH:ArZ rcO:=by
 refine⟨fun i hi=> ?_,fun i hi=> ?_,eO (by decide+kernel)⟩
 ·rcases bV hi with rfl|rfl|rfl|rfl<;>exact⟨eO (by decide+kernel),eO (by decide+kernel),eO (by decide+kernel)⟩
 ·rcases bV hi with rfl|rfl|rfl|rfl<;>exact eO (by decide+kernel)
theorem Wu:Q2 rcO/2=8:=by decide+kernel
def Z2 (P Q:At):Prop:=
 (∀q∈rcO,(((lnG P Q).a.num.natAbs<10^8/\(lnG P Q).a.den<10^8)/\(q.1.num.natAbs<10^8/\q.1.den<10^8))/\(((lnG P Q).b.num.natAbs<10^8/\(lnG P Q).b.den<10^8)/\(q.2.num.natAbs<10^8/\q.2.den<10^8))
  /\((((lnG P Q).a*q.1).num.natAbs<10^8/\((lnG P Q).a*q.1).den<10^8)/\(((lnG P Q).b*q.2).num.natAbs<10^8/\((lnG P Q).b*q.2).den<10^8))
  /\((((lnG P Q).a*q.1+(lnG P Q).b*q.2).num.natAbs<10^8/\((lnG P Q).a*q.1+(lnG P Q).b*q.2).den<10^8)/\((lnG P Q).c.num.natAbs<10^8/\(lnG P Q).c.den<10^8)))
 /\(∀i,i<4-> ¬(lnG P Q).at (Au rcO i)*(lnG P Q).at (Au rcO (i+1))<0)
 /\C9 (lnG P Q) rcO=rcO/\Gs (lnG P Q) rcO=rcO
instance (P Q:At):Decidable (Z2 P Q):=by unfold Z2;infer_instance
theorem bK {P Q:At} (h:Z2 P Q) (ha:(Q.2.num.natAbs<10^8/\Q.2.den<10^8)/\(P.2.num.natAbs<10^8/\P.2.den<10^8)) (hb:(P.1.num.natAbs<10^8/\P.1.den<10^8)/\(Q.1.num.natAbs<10^8/\Q.1.den<10^8))
  (hc:((Q.2-P.2).num.natAbs<10^8/\(Q.2-P.2).den<10^8)/\(P.1.num.natAbs<10^8/\P.1.den<10^8)) (hd:((P.1-Q.1).num.natAbs<10^8/\(P.1-Q.1).den<10^8)/\(P.2.num.natAbs<10^8/\P.2.den<10^8))
  (he:(((Q.2-P.2)*P.1).num.natAbs<10^8/\((Q.2-P.2)*P.1).den<10^8)/\(((P.1-Q.1)*P.2).num.natAbs<10^8/\((P.1-Q.1)*P.2).den<10^8)):MkZ rcO P Q:=by
 obtain⟨h1,h2,h3,h4⟩:=h
 exact⟨eO ha,eO hb,eO hc,eO hd,eO he,⟨fun q hq=>⟨eO (h1 q hq).1,eO (h1 q hq).2.1,eO (h1 q hq).2.2.1,eO (h1 q hq).2.2.2⟩,fun i hi hn=>absurd hn (h2 i hi),by rw[h3];exact NZ.monoO (by decide)⟩,h4⟩
theorem ZO: ∀k,k<Ez.length->MkZ rcO (Au Ez k) (Au Ez (k+1)):=fun k hk=>by
 rcases cL hk with rfl|rfl|rfl<;>exact bK (by decide+kernel) (by decide+kernel) (by decide+kernel) (by decide+kernel) (by decide+kernel) (by decide+kernel)
theorem Xz {p q r:At} (h:aE p q r):Oy p q r:=
 ⟨EB.2 ⟨⟨h.s1.c1,h.s1.c2⟩,h.s1.sub,h.s1.d⟩,EB.2 ⟨⟨h.s2.c1,h.s2.c2⟩,h.s2.sub,h.s2.d⟩,EB.2 ⟨⟨h.s3.c1,h.s3.c2⟩,h.s3.sub,h.s3.d⟩,EB.2 ⟨⟨h.s4.c1,h.s4.c2⟩,h.s4.sub,h.s4.d⟩,⟨h.m1.n,h.m1.d⟩,⟨h.m2.n,h.m2.d⟩,⟨h.o.c1,h.o.c2⟩⟩
theorem Vr {l:List At} (h:Ko 36 l):E8 l:=fun a ha b hb=>by
 have h0:0<l.length:=by omega
 have pa:=h.at_ h0 a
 have pb:=h.at_ h0 b
 have s1:=sz2 pa.1 pb.1 (by decide)
 have s2:=sz2 pa.2 pb.2 (by decide)
 exact⟨⟨s1.c1,s1.c2⟩,⟨s2.c1,s2.c2⟩,fun d _=>Xz (UC pa pb (h.at_ h0 d) (by decide))⟩
theorem UD:E8 (rcP f0 (crn 3 7 1 3)):=by rw[QR];exact Vr (NZ.monoO (by decide))
theorem Ya: ∀p∈rcP f0 (crn 3 7 1 3),okP p:=by rw[QR];exact fun p hp=>⟨(NZ p hp).1.ok (by decide),(NZ p hp).2.ok (by decide)⟩
theorem Yp:ZS (rcP f0 (crn 3 7 1 3)) rcO 0:=by
 have e:KW (rcP f0 (crn 3 7 1 3))=rcO:=by rw[QR];decide+kernel
 exact .inl ⟨UD,by rw[e];decide,e.symm,I⟩
theorem nO0:Ac 0=[48]:=Cv
theorem nO1:Ac 1=[49]:=by decide+kernel
theorem nO3:Ac 3=[51]:=by decide+kernel
theorem nO7:Ac 7=[55]:=by decide+kernel
theorem nO8:Ac 8=[56]:=by decide+kernel
structure SfP (W:World) (x:SfX) (bT:Nat):Prop where
 f:Ai W x.gF 0 (frV f0).cells.toList
 t:Ai W bT 0 (stV 0 S0).cells.toList
 a:Ai W x.gA 0 [slv (some ⟨x.gC,0,none⟩) 3 x.cC]
 c:BY W (some ⟨x.gC,0,none⟩) Ez
theorem SfP.hp {W0 W:World} {bxs:List Bx} {x:SfX} {bT:Nat} (h:SfP W0 x bT) (hp:Hp W0 bxs W):SfP W x bT:=⟨h.f.hp hp,h.t.hp hp,h.a.hp hp,h.c.hp hp⟩
abbrev opE:Value:=GC 0 (Ac 3) (Ac 7) (Ac 1) (Ac 3)
def smS (b:Bool):List UInt8:=if b then[56] else[48]
def cE (b:Bool):Int:=if b then 1 else 0
def smM (b:Bool):Nat:=if b then 0 else 1
theorem Sv (x:SfX) (bT:Nat) (W:World) (h:SfP W x bT) (hv:AE W) (ht:A7 W):
  Ad Tryz.prog 170 #[x.v bT,opE] W (fun _:Unit=> .int .i64 0) (fun _=>True) (fun _=>[]):=by
 have zz: ∀q:Rat,(q.num.natAbs<10^8/\q.den<10^8)->szQ q 8:=fun q hq=>hq
 have z1:=zz 1 (by decide+kernel)
 have z3:=zz 3 (by decide+kernel)
 have z7:=zz 7 (by decide+kernel)
 have e8:((7:Rat)-3)*(3-1)=8:=by decide+kernel
 refine Ab (args:=[WU (slv (some ⟨x.gF,0,none⟩) 4 x.cF) (slv (some ⟨bT,0,none⟩) 1 1) (slv (some ⟨x.gA,0,none⟩) 1 x.cA),opE]) Tryz.func170 I I I (zA (zB (wF I I fun _=>(wF I I fun _=>(wP I (Aa ?_))))))
 rename_i b2 b3
 refine zE (Av ?_)
 refine AW (X:= { y:Nat×Nat×List Value//Vec.OK ⟨some y.1,y.2.1,y.2.2⟩ 2 4 (ptC rcO) }) [true,true,true,true,true,true,true,false,false,false,false,false,false] (fun y=>[(2,Af b2),(3,Af b3),(4, .int .i64 0),(5,slv (some ⟨y.1.1,0,none⟩) 4 y.1.2.1),(6, .int .i64 0)])
  (fun y=>[⟨b2,148,(x.v bT).cells.toList,true,none⟩,⟨b3,27,opE.cells.toList,true,none⟩,BI y.1.1 rcO y.1.2.2])
  6 [⟨b2,148,(x.v bT).cells.toList,true,none⟩,⟨b3,27,opE.cells.toList,true,none⟩] Tryz.mixed (by kernel_rfl) ?_ ?_
 ·refine qP I (qB 0 I I I (qP I (qB 1 I I I (qI I I (by decide) (by decide) (qL 0 I I (fun W1 hp=>h.f.hp hp) I (qB 1 I I I (BU (wX (wZ ?_)))))))))
  refine wD (X:=Vec) rfl rfl (fun W1 hp=>SA f0 Rv 0 3 7 1 3 z3 z7 z1 z3 rcO Yp UD Ya W1 (hv.hp hp) (ht.hp hp)) ?_;rintro⟨pV,cV,jV⟩ hV;have hV:Vec.OK ⟨pV,cV,jV⟩ 2 4 (ptC rcO):=hV;obtain⟨gV,rfl⟩: ∃g,pV=some g:=Option.ne_none_iff_exists'.1 (fun e=>absurd (hV.nil e) (by decide))
  refine Aa (Ag (wX (wZ (wP I (Aa (Ag (wX (RS.cons ?_ (RS.cons ?_ (RS.nil))))))))))
  ·refine wP I (Aa (Ag (wX (RS.cons ?_ (RS.cons ?_ (RS.nil))))))
   ·refine wP I (Aa (Ag (wX (wZ (wP I (Aa (Ag (wX (wZ (wP I (Aa (Ag ?_))))))))))))
    refine AD I (by((repeat (first|refine AJ.same ?_|refine AJ.off I ?_));exact tO)) ?_
    exact A4 (⟨(gV,cV,jV),hV⟩: { y:Nat×Nat×List Value//Vec.OK ⟨some y.1,y.2.1,y.2.2⟩ 2 4 (ptC rcO) }) ⟨I,I,I,I,I,tO⟩ [0,1,2] (by decide) I
   ·refine wP I (Aa (Ag (wX (wZ (wP I (Aa (Ag (wX (wZ (wP I (Aa (Ag ?_))))))))))))
    refine AD I (by((repeat (first|refine AJ.same ?_|refine AJ.off I ?_));exact tO)) ?_
    exact A4 (⟨(gV,cV,jV),hV⟩: { y:Nat×Nat×List Value//Vec.OK ⟨some y.1,y.2.1,y.2.2⟩ 2 4 (ptC rcO) }) ⟨I,I,I,I,I,tO⟩ [0,1,2] (by decide) I
  ·refine wP I (Aa (Ag (wX (wZ (wP I (Aa (Ag (wX (wZ (wP I (Aa (Ag (wX (wZ (wP I (Aa (Ag ?_)))))))))))))))))
   refine AD I (by((repeat (first|refine AJ.same ?_|refine AJ.off I ?_));exact tO)) ?_
   exact A4 (⟨(gV,cV,jV),hV⟩: { y:Nat×Nat×List Value//Vec.OK ⟨some y.1,y.2.1,y.2.2⟩ 2 4 (ptC rcO) }) ⟨I,I,I,I,I,tO⟩ [0,1,2] (by decide) I
 rintro⟨⟨gV,cV,jV⟩,hV⟩
 refine zE (zA (zA (zB (wP I (wP I (Aa (zE (zS I (zI (zE (zA (zB (wP I (Aa (zE (zA (zA (zB (wP I (wB 0 I I I (wP I (wP I (Aa ?_)))))))))))))))))))))))
 refine zE (zH ?_)
 refine Ar (X:=Bool) (fun b=>[(2,Af b2),(3,Af b3),(4, .int .i64 0),(5,slv (some ⟨gV,0,none⟩) 4 cV),(6, .int .i64 0),(7,str (smS b)),(29,slv (some ⟨x.gA,0,none⟩) 1 x.cA),(30, .int .i64 1),(31, .int .i64 (cE b))])
  (fun _=>[⟨b2,148,(x.v bT).cells.toList,true,none⟩,⟨b3,27,opE.cells.toList,true,none⟩,BI gV rcO jV])
  (fun _=>True) smM false trivial ⟨rfl,rfl,rfl,rfl,rfl,rfl,rfl,rfl,rfl,trivial⟩ [] rfl ?_
 intro b _
 cases b with
 |true=>
  refine zA (zB (wP I (Aa (zE (zA (zS I (zJ (zK (zK (zL (zE (zA (zB (wB 1 I I I (wC I I (fun W1 hp=>(IS 0 3 7 1 3 z3 z7 z1 z3 W1 (hv.hp hp) (ht.hp hp)).cast (v':= .tuple #[str [56], .int .i64 0]) (by rw[e8,nO8])) (wP I (wP I (wP I (wP I (wP I (Aa (zE (zA (zA ?_))))))))))))))))))))))))
  refine zB (wP I (wP I (Aa (zE (zS I (zI (zE (zA (zA (zB (wP I (wP I (wP I (wU 82 false I (congrArg (!·) ((AS _ _).trans (dT I))) (Aa (zE (zS I (zI (zE (zA (zB (wP I (Aa ?_)))))))))))))))))))))))
  exact zE (zO (wR1 I I I))
 |false=>
  refine zA (zB (wP I (Aa (zE (zA (zR I (zI (zE (zA (zH (zA (zB (wP I (wI I I (by decide) (by decide) (wL 0 I I (fun W1 hp=>h.a.hp hp) I (wP I (wP I (Aa (zE (zA (zA (zU (qP I ?_)))))))))))))))))))))))
  refine qB 0 I I I (qP I (qI I I (by decide) (by decide) (qP I (qL 0 I I (fun W1 hp=>(h.t.hp hp).sub 0) I (qP I (qB 1 I I I (qP I (A8 (Aa (zE (zS I (zI (zE (zA (zB (wP I (wP I (wD (X:=Nat×Nat×List Value) I I (fun W1 hp=>Qx rcO Ez ZO (some ⟨gV,0,none⟩) (some ⟨x.gC,0,none⟩) cV x.cC W1 (Ra (BY.of_row (junk:=jV) (Ai.of_bx hp 2 I I)) (hv.hp hp) (ht.hp hp)) (Xl (h.c.hp hp) (hv.hp hp) (ht.hp hp))) ?_))))))))))))))))))
  rintro⟨gM,cM,jM⟩ hM
  have hM:Vec.OK ⟨some gM,cM,jM⟩ 2 4 (ptC rcO):=hM
  refine wP I (wP I (wP I (wP I (wP I (Aa (zE (zA (zA (zB (wP I (wP I (Aa (zE (zS I (zI (zE (zA (zA (zB (wP I (wP I (wP I (Aa ?_)))))))))))))))))))))))
  refine zE (zS I (zI (zE (zA (zB (wP I (wC I I (fun W1 hp=>(Sl rcO aH (some ⟨gM,0,none⟩) cM W1 (Ra (BY.of_row (junk:=jM) (Ai.of_bx hp 3 I I)) (hv.hp hp) (ht.hp hp))).cast (v':= .tuple #[str [56], .int .i64 0]) (by rw[Wu,nO8])) (wP I (wP I (wP I (wP I (wP I (Aa (zE (zA (zA (zB (wP I (wP I (Aa (zE (zS I (zI ?_)))))))))))))))))))))))
  refine zE (zA (zB (wP I (wP I ?_))))
  refine wC I I (fun W1 hp=>(show Ad Tryz.prog 19 #[str [48],str [56]] W1 (fun _:Unit=> .tuple #[str [56], .int .i64 0]) (fun _=>True) (fun _=>[]) by
   have h2:=Ca 0 8 (eO (by decide+kernel)) W1 (hv.hp hp) (ht.hp hp)
   rwa [Rat.zero_add,nO0,nO8] at h2)) ?_
  exact wP I (wP I (wP I (wP I (wP I (Aa (zE (zA (zB (wP I (wP I (Aa (zE (zS I (zI (zN (zE (zB (wP I (wP I (Aa (Aj true tO (by decide) ⟨I,I,I,I,I,I,I,I,I,tO⟩ [_] I)))))))))))))))))))))
end
end Go.Proofs.YtndkgionklmdfaaGreatDoor
