/-
  Lemmas that the theorem convexSections_upto_card needs (part 6 of 7).
-/
import Derived.Test.YthndmdimmgkpgaaGreatDoorCse
import Derived.Laws.StructEq
set_option maxHeartbeats 64000000
namespace Go.Proofs.YthndmdimmgkpgaaGreatDoor
section
open Go Go.RowKit Go.Am Go.Lib
set_option maxRecDepth 10000
-- BOXES 6
-- CODE2
structure Xb (p q:Ag) (u v:Rat):Prop where
 s:Sz2 u v
 d:Sz2 u (u-v)
 nz:(u-v).num≠0
 x1:Sz2 q.1 p.1
 x2:Sz2 (u/(u-v)) (q.1-p.1)
 x3:Sz2 p.1 (u/(u-v)*(q.1-p.1))
 y1:Sz2 q.2 p.2
 y2:Sz2 (u/(u-v)) (q.2-p.2)
 y3:Sz2 p.2 (u/(u-v)*(q.2-p.2))
theorem Mj (c:Nat) (p q:Ag) (u v:Rat) (hz:Xb p q u v) (W:World) (hc:CH W c) (hv:BL W) (ht:AM W):
  Ai Tryz.prog 69 #[Aj c,cvV p,cvV q,str (Ad u),str (Ad v)] W (fun _:Unit=>cvV (DR (u/(u-v)) p q)) (fun _=>True) (fun _=>[]):=by
 refine Ab (args:=[Aj c,cvV p,cvV q,str (Ad u),str (Ad v)]) Tryz.func69 I I I ?_
 refine zA (zB ?_)
 (refine A5 rfl rfl rfl rfl ?_;intro)
 (refine A5 rfl rfl rfl rfl ?_;intro)
 (refine Ah Tryz.hZ rfl rfl rfl rfl ?_;intro)
 refine Aa (zE (zA (zB ?_)))
 iterate 5 refine wP I ?_
 refine wC I I (fun W hp=>CJ c u v hz.s W (hc.hp hp) (hv.hp hp) (ht.hp hp)) (wC I I (fun W hp=>GL c u (u-v) hz.d hz.nz W (hc.hp hp) (hv.hp hp) (ht.hp hp)) (wP I (Aa (zE (zA (zU (qP I (qP I (qB 0 I I I (qP I (qP I (qP I (qP I ?_)))))))))))))
 refine qB 1 I I I (qP I (qB 0 I I I (qC I I (fun W hp=>CJ c q.1 p.1 hz.x1 W (hc.hp hp) (hv.hp hp) (ht.hp hp)) (qC I I (fun W hp=>Co c (u/(u-v)) (q.1-p.1) hz.x2 W (hc.hp hp) (hv.hp hp) (ht.hp hp)) (qC I I (fun W hp=>CK c p.1 (u/(u-v)*(q.1-p.1)) hz.x3 W (hc.hp hp) (hv.hp hp) (ht.hp hp)) (qP I (AT (Aa (zE (zA (zU (qP I (qP I ?_)))))))))))))
 refine qB 0 I I I (qP I (qP I (qP I (qP I (qB 1 I I I (qP I (qB 0 I I I (qC I I (fun W hp=>CJ c q.2 p.2 hz.y1 W (hc.hp hp) (hv.hp hp) (ht.hp hp)) (qC I I (fun W hp=>Co c (u/(u-v)) (q.2-p.2) hz.y2 W (hc.hp hp) (hv.hp hp) (ht.hp hp)) (qC I I (fun W hp=>CK c p.2 (u/(u-v)*(q.2-p.2)) hz.y3 W (hc.hp hp) (hv.hp hp) (ht.hp hp)) (qP I (AT (Aa ?_)))))))))))))
 refine zE (zA (zB (wP I (wP I ?_))))
 refine Az Tryz.hZ tH I I I I I I I I ?_
 exact wS 2 I I I (Aa (zE (zO (Au tH I (.cell 2 I I I I I) () I tO fun W _=>As.nil _ _))))
theorem OT (q:Rat):decide (Fh q<0)=decide (q<0):=by
 refine decide_eq_decide.2 ?_
 have h:q.num<0↔q<0:=by rw[←Rat.not_le, ←Rat.num_nonneg];omega
 rw[←h]
 unfold Fh
 split
 ·omega
 ·split<;>omega
theorem Oj (q:Rat) (W:World):Ai Tryz.prog 98 #[str (Ad q)] W (fun _:Unit=> .bool (decide (q<0))) (fun _=>True) (fun _=>[]):=by
 refine Ab (args:=[str (Ad q)]) Tryz.func98 I I I ?_
 refine zA (zB (wP I (Aa (zE (zA (zB (wP I (wC I I (fun W hp=>EM q W) (wP I (wU 5 (decide (q<0)) I (OT q) (wP I (Aa (zE ?_)))))))))))))
 exact zO (wR1 I I I)
theorem Tl {α:Type} {p:α→Bool} {l:List α} {i:Nat} (hi:i<l.length):(l.drop i).any p=(p l[i]||(l.drop (i+1)).any p):=by
 rw[List.drop_eq_getElem_cons hi,List.any_cons]
theorem MW (g:Nat) (hE:Bf Tryz.prog g=true) (F:Rat→Bool) (hg: ∀q W,Ai Tryz.prog g #[str (Ad q)] W (fun _:Unit=> .bool (F q)) (fun _=>True) (fun _=>[])) (l:List Rat) (hn:l.length≤100000) (p:Option Addr) (cap:Nat) (W:World) (hS:H2 W p (l.map Ad)):
  Ai Tryz.prog 147 #[slv p l.length cap, .func (.func g) #[] #[]] W (fun z:Int=> .int .i64 z) (fun z=>0≤z↔l.any F=true) (fun _=>[]):=by
 refine Ab (args:=[slv p l.length cap, .func (.func g) #[] #[]]) Tryz.func147 I I I ?_
 refine zA (zB (wP I (Aa (zE (zA (zA (zB (wP I (wP I (wP I (Aa (zE (zH ?_)))))))))))))
 refine AA (X:=Nat) (fun i=>[(0,slv p l.length cap),(1, .func (.func g) #[] #[]),(6,slv p l.length cap),(7, .int .i64 (l.length:Nat)),(8, .int .i64 (i:Nat))]) (fun _=>[]) (fun i=>i≤l.length∧l.any F=(l.drop i).any F) (fun i=>l.length-i) 0 ⟨Nat.zero_le _,by rw[List.drop_zero]⟩ ⟨I,I,I,I,I,tO⟩ [] I ?_
 intro i hi
 obtain⟨hi,hA⟩:i≤l.length∧l.any F=(l.drop i).any F:=hi
 refine zA (zB (wP I ?_))
 by_cases hlt:i<l.length
 rotate_left
 ·refine wU 9 false I (dF (by omega)) (Aa (zE (zA (zS I (zJ (zK (zK (zL (zE (zA (zB (wP I (Aa ?_)))))))))))))
  refine zE (zO ?_)
  rw[List.drop_of_length_le (by omega)] at hA
  exact Au tH I (.tmp I) (-1:Int) I (by rw[hA];exact⟨fun h=>absurd h (by decide),fun h=>absurd (show false=true from h) (by decide)⟩) fun W _=>As.nil _ _
 refine wU 9 true I (dT (by omega)) (Aa (zE (zA (zR I (zI (zE (zA (zH (zA (zB ?_))))))))))
 obtain⟨b,off,rfl,hrow⟩:=hS.row (i:=i) (by rw[List.length_map];exact hlt)
 have hr:=hrow i (by rw[List.length_map];exact hlt)
 rw[List.getElem_map] at hr
 rw[Tl hlt] at hA
 obtain⟨q,hq⟩: ∃q,q=l[i]:=⟨_,rfl⟩
 rw[←hq] at hr hA
 refine wP I (wP I (Aa (zE (zA (zB (wP I (wP I (wP I ?_))))))))
 refine wJ ?_
 refine wL 0 I I (fun W1 hp=>hr.hp hp) I ?_
 refine Bo (capt:=[]) I I I I I I hE (fun W1 _=>hg q W1) ?_
 refine Aa (zE ?_)
 refine Av I (fun hc=> ?_) (fun hc=> ?_)
 ·have hc:F q=true:=hc
  exact zA (zB (wP I (wP I (Aa (zE (zO (zQ (zP (zP (zQ (zP (Au tH I (.tmp I) ((i:Nat):Int) I ⟨fun _=>by rw[hA,hc];rfl,fun _=>by omega⟩ fun W _=>As.nil _ _))))))))))))
 ·have hc:F q=false:=hc
  rw[hc,Bool.false_or] at hA
  exact zI (zN (zE (zB (wP I (wV 18 ((i+1:Nat):Int) I (Ay (by omega)) (wP I (Aa (A6 (i+1) ⟨hlt,hA⟩ (by show l.length-(i+1)<l.length-i;omega) ⟨I,I,I,I,I,tO⟩ [] I))))))))
theorem JV (g:Nat) (hE:Bf Tryz.prog g=true) (F:Rat→Bool) (hg: ∀q W,Ai Tryz.prog g #[str (Ad q)] W (fun _:Unit=> .bool (F q)) (fun _=>True) (fun _=>[])) (l:List Rat) (hn:l.length≤100000) (p:Option Addr) (cap:Nat) (W:World) (hS:H2 W p (l.map Ad)):
  Ai Tryz.prog 97 #[slv p l.length cap, .func (.func g) #[] #[]] W (fun _:Unit=> .bool (l.any F)) (fun _=>True) (fun _=>[]):=by
 refine Ab (args:=[slv p l.length cap, .func (.func g) #[] #[]]) Tryz.func97 I I I ?_
 refine zA (zB (wP I (Aa (zE (zA (zB (wP I (wP I ?_))))))))
 refine wD (X:=Int) I I (fun W1 hp=>MW g hE F hg l hn p cap W1 (hS.hp hp)) ?_
 intro z hz
 have hz:0≤z↔l.any F=true:=hz
 refine wP I ?_
 refine Af 8 (.bool (l.any F)) I (congrArg Value.bool (by
  cases h:l.any F with
  |true=>exact dT (hz.2 h)
  |false=>exact dF fun h2=>by rw[hz.1 h2] at h;cases h)) ?_
 exact wP I (Aa (zE (zO (wR1 I I I))))
theorem S2 (p q:Rat):(p<q∧Dy p q= -1)∨(p=q∧Dy p q=0)∨(q<p∧Dy p q=1):=by
 have h1:=Ql p q
 have h2:=Mw p q
 rcases F3 p q with e|e|e<;>rw[e] at h1 h2⊢
 ·exact .inl ⟨of_decide_eq_true h1.symm,I⟩
 ·refine .inr (.inl ⟨?_,I⟩)
  have a:=of_decide_eq_false h1.symm
  have b:=of_decide_eq_false h2.symm
  exact Rat.le_antisymm (Rat.not_lt.1 b) (Rat.not_lt.1 a)
 ·exact .inr (.inr ⟨of_decide_eq_true h2.symm,I⟩)
theorem Lb (p q:Ag):decide (Ic p q<0)=BD p q:=by
 unfold Ic BD
 have h1:=S2 p.1 q.1
 have h2:=S2 p.2 q.2
 rcases h1 with⟨a,e⟩|⟨a,e⟩|⟨a,e⟩
 ·rw[e,if_neg (by decide),dT a];rfl
 ·rw[e,if_pos rfl,Ql,dF (show¬p.1<q.1 by grind),dT a,Bool.false_or,Bool.true_and]
 ·rw[e,if_neg (by decide),dF (show¬p.1<q.1 by grind),dF (show¬p.1=q.1 by grind)];rfl
abbrev ptC (l:List Ag):List Value:=l.flatMap fun q=>[str (Ad q.1),str (Ad q.2)]
theorem BX (a b:List Ag):ptC (a++b)=ptC a++ptC b:=List.flatMap_append
theorem AR (l:List Ag):(ptC l).length=l.length*2:=by
 induction l with
 |nil=>rfl
 |cons p l ih=>show(ptC l).length+1+1=(l.length+1)*2;rw[ih];omega
theorem GU (l:List Ag): ∀u∈ptC l,u.oneCell'=true:=fun u hu=>by
 obtain⟨q,_,h⟩:=List.mem_flatMap.1 hu
 rcases List.mem_cons.1 h with rfl|h
 ·rfl
 ·obtain rfl:=List.mem_singleton.1 h;rfl
theorem Cv {W:World} {g off:Nat} {a b:List Value} (h:Ak W g off (a++b)):Ak W g off a:=⟨h.lt,fun k u hu=>h.get k u (by rw[List.getElem?_append_left (List.getElem?_eq_some_iff.1 hu).1];exact hu)⟩
theorem HV {W:World} {g off:Nat} {a b:List Value} (h:Ak W g off (a++b)):Ak W g (off+a.length) b:=⟨h.lt,fun k u hu=>by
 have:=h.get (a.length+k) u (by rw[List.getElem?_append_right (by omega),Nat.add_sub_cancel_left];exact hu)
 rwa [←Nat.add_assoc] at this⟩
theorem UX {l:List Ag} {i:Nat} (hi:i<l.length):ptC l=ptC (l.take i)++([str (Ad l[i].1),str (Ad l[i].2)]++ptC (l.drop (i+1))):=by
 conv=>lhs;rw[←List.take_append_drop i l,List.drop_eq_getElem_cons hi,BX]
 rfl
theorem Ci.of_row {W:World} {g off:Nat} {l:List Ag} {junk:List Value} (h:Ak W g off (ptC l++junk)):Ci W (some ⟨g,off,none⟩) l:= .inr ⟨g,off,rfl,fun i hi=>by
 have h1:=Cv h
 rw[UX hi] at h1
 have h2:=Cv (HV h1)
 rwa [AR,List.length_take,Nat.min_eq_left (Nat.le_of_lt hi)] at h2⟩
theorem Ox (c:Nat) (l:List Ag) (k:Nat) (hk:k≤149) (hs:Ie k l) (h0:0<l.length) (hn:l.length≤100000) (g cap:Nat) (hcap:l.length≤cap) (W:World) (hrow:Ak W g 0 (ptC l)) (hc:CH W c) (hv:BL W) (ht:AM W):
  Ai Tryz.prog 99 #[Aj c,slv (some ⟨g,0,none⟩) l.length cap] W (fun V:Vec=>V.val l.length) (fun V=>V.OK 2 l.length (ptC (B1 l))) (fun V=>[V.bx 35 (ptC (B1 l))]):=by
 have hrow':Ak W g 0 (ptC l++[]):=by rw[List.append_nil];exact hrow
 have hA:=Ci.of_row hrow'
 have hr: ∀i,i<l.length→Ak W g (0+i*2) [str (Ad (Ae l i).1),str (Ad (Ae l i).2)]:=fun i hi=>by
  obtain⟨g',off',e,h⟩:=hA.at_ hi
  cases e
  rw[AE hi]
  exact h i hi
 have hlst: ∀i,i≤l.length→C7 l i<l.length:=fun i hi=>by
  rcases(Hg l i).1 with e|e<;>omega
 refine Ab (args:=[Aj c,slv (some ⟨g,0,none⟩) l.length cap]) Tryz.func99 I I I ?_
 refine zA (zB (wP I (Aa (zE (zA (zB (wP I (Aa (zE (zA (zA (zB (wP I ?_)))))))))))))
 refine Aa (zE (zH ?_))
 have e1:C7 l 1=0:=by show(if BD (Ae l 0) (Ae l 0)=true then 0 else 0)=0;split<;>rfl
 refine AA (X:=Nat) (fun i=>[(0,Aj c),(1,slv (some ⟨g,0,none⟩) l.length cap),(5, .int .i64 (C7 l i:Nat)),(6, .int .i64 (i:Nat))]) (fun _=>[]) (fun i=>1≤i∧i≤l.length) (fun i=>l.length-i) 1 ⟨Nat.le_refl _,h0⟩ ⟨I,I,congrArg (fun n:Nat=>some (Value.int .i64 (n:Int))) e1.symm,I,tO⟩ [] I ?_
 intro i hi
 obtain⟨hi1,hi⟩:1≤i∧i≤l.length:=hi
 have hls:=hlst i hi
 refine zA (zA (zB (wP I (wP I (wP I (wP I ?_))))))
 by_cases hlt:i<l.length
 ·refine wU 10 true I (dT (by omega)) (Aa (zE (zR I (zI (zE (zA (zH (zA (zU ?_)))))))))
  have hsu:C7 l (i+1)=if BD (Ae l i) (Ae l (C7 l i))=true then i else C7 l i:=rfl
  have zi:=hs.at_ h0 i
  have zj:=hs.at_ h0 (C7 l i)
  refine qP I (qP I (qP I ?_))
  refine qJ ?_
  refine qL 0 I I (fun W1 hp=>(hr i hlt).hp hp) I (qP I (qP I ?_))
  refine qJ ?_
  refine qL 0 I I (fun W1 hp=>(hr (C7 l i) hls).hp hp) I (qC I I (fun W1 hp=>K5 c (Ae l i) (Ae l (C7 l i)) (sz2 zi.1 zj.1 (by omega)) (sz2 zi.2 zj.2 (by omega)) W1 (hc.hp hp) (hv.hp hp) (ht.hp hp)) (qP I (qU 23 (BD (Ae l i) (Ae l (C7 l i))) I (Lb _ _) (AT (Aa (zE ?_))))))
  refine Av I (fun hc2=> ?_) (fun hc2=> ?_)
  ·have hc2:BD (Ae l i) (Ae l (C7 l i))=true:=hc2
   rw[if_pos hc2] at hsu
   exact zB (wP I (wP I (Aa (zN (zE (zB (wP I (wP I (wV 12 ((i+1:Nat):Int) I (Ay (by omega)) (wP I (Aa (A6 (i+1) ⟨by omega,hlt⟩ (by show l.length-(i+1)<l.length-i;omega) ⟨I,I,congrArg (fun n:Nat=>some (Value.int .i64 (n:Int))) hsu.symm,I,tO⟩ [] I))))))))))))
  ·have hc2:BD (Ae l i) (Ae l (C7 l i))=false:=hc2
   rw[hc2,if_neg (by decide)] at hsu
   exact zI (zN (zE (zB (wP I (wP I (wV 12 ((i+1:Nat):Int) I (Ay (by omega)) (wP I (Aa (A6 (i+1) ⟨by omega,hlt⟩ (by show l.length-(i+1)<l.length-i;omega) ⟨I,I,congrArg (fun n:Nat=>some (Value.int .i64 (n:Int))) hsu.symm,I,tO⟩ [] I)))))))))
 have e:i=l.length:=by omega
 subst e
 obtain⟨m,hm⟩: ∃m,m=C7 l l.length:=⟨_,rfl⟩
 rw[←hm] at hls
 rw[←hm]
 have hB:B1 l=l.drop m++l.take m:=by rw[hm];rfl
 have hBC:ptC (B1 l)=ptC (l.drop m)++ptC (l.take m):=by rw[hB,BX]
 have hl1:(l.drop m).length=l.length-m:=List.length_drop
 have hl2:(l.take m).length=m:=by rw[List.length_take];omega
 have hsplit:ptC l=ptC (l.take m)++ptC (l.drop m):=by rw[←BX,List.take_append_drop]
 have ra:Ak W g 0 (ptC (l.take m)):=by rw[hsplit] at hrow;exact Cv hrow
 have rb:Ak W g (m*2) (ptC (l.drop m)):=by
  rw[hsplit] at hrow
  have:=HV hrow
  rwa [AR,hl2,Nat.zero_add] at this
 refine wU 10 false I (dF (by omega)) (Aa (zE (zS I (zJ (zK (zK (zL (zE (A0 ?_)))))))))
 refine Bg (X:= { V:Vec//V.OK 2 l.length (ptC (B1 l)) }) [true,true,false,true,true,false,false,false,false] (fun V=>[(4,V.1.val l.length)]) (fun V=>[V.1.bx 35 (ptC (B1 l))])
  5 [] Tryz.mixed (by kernel_rfl) ?_ ?_
 ·refine qP I (qP I (qP I (qP I (C1 (wX ?_)))))
  refine RS.cons ?_ (RS.cons ?_ (RS.nil))
  ·refine Eu m tH I I I I I I I I (by omega) (by omega) ?_;refine Af 27 (.slice (some ⟨g,m*2,none⟩) (l.length-m) (cap-m)) I (by rw[if_neg (by omega),Nat.zero_add]) ?_
   refine Aa (Ac (wX (wZ ?_)))
   refine C6 m tH I I I I I I I I (by omega) ?_
   refine Aa (Ac (wX (wZ ?_)))
   refine AF Tryz.hZ tH I I I I I I I I I I I fun bL1=> ?_
   refine Aa (Ac (wX (wZ ?_)))
   refine wD (X:=Vec) rfl rfl (fun W1 hp=>FE W1 bL1 2 (some ⟨g,m*2,none⟩) (some ⟨g,0,none⟩) (l.length-m) m (cap-m) cap (ptC (l.drop m)) (ptC (l.take m)) (Ak.of_bx hp 0 rfl rfl) (.inr ⟨g,m*2,rfl,rb.hp hp⟩) (.inr ⟨g,0,rfl,ra.hp hp⟩) (by rw[AR,hl1]) (by rw[AR,hl2]) (GU _) (GU _) (by omega) (by omega)) ?_;intro V1 hV1;refine Af 32 (V1.val l.length) rfl (by rw[show l.length-m+m=l.length by omega]) ?_
   refine Aa (Ac (wX (wZ (wP I (Aa (Ac ?_))))))
   rw[show l.length-m+m=l.length by omega, ←hBC] at hV1;rw[←hBC];first|refine A9 rfl (by((repeat (first|refine AC.same ?_|refine AC.off rfl ?_));exact trivial)) ?_|refine AN rfl (by kernel_rfl) ?_
   exact Ar ⟨V1,hV1⟩ ⟨I,tO⟩ [1] (by decide) I
  ·refine C6 m tH I I I I I I I I (by omega) ?_
   refine Aa (Ac (wX (wZ ?_)))
   refine Eu m tH I I I I I I I I (by omega) (by omega) ?_;refine Af 27 (.slice (some ⟨g,m*2,none⟩) (l.length-m) (cap-m)) I (by rw[if_neg (by omega),Nat.zero_add]) ?_
   refine Aa (Ac (wX (wZ ?_)))
   refine AF Tryz.hZ tH I I I I I I I I I I I fun bL1=> ?_
   refine Aa (Ac (wX (wZ ?_)))
   refine wD (X:=Vec) rfl rfl (fun W1 hp=>FE W1 bL1 2 (some ⟨g,m*2,none⟩) (some ⟨g,0,none⟩) (l.length-m) m (cap-m) cap (ptC (l.drop m)) (ptC (l.take m)) (Ak.of_bx hp 0 rfl rfl) (.inr ⟨g,m*2,rfl,rb.hp hp⟩) (.inr ⟨g,0,rfl,ra.hp hp⟩) (by rw[AR,hl1]) (by rw[AR,hl2]) (GU _) (GU _) (by omega) (by omega)) ?_;intro V1 hV1;refine Af 32 (V1.val l.length) rfl (by rw[show l.length-m+m=l.length by omega]) ?_
   refine Aa (Ac (wX (wZ (wP I (Aa (Ac ?_))))))
   rw[show l.length-m+m=l.length by omega, ←hBC] at hV1;rw[←hBC];first|refine A9 rfl (by((repeat (first|refine AC.same ?_|refine AC.off rfl ?_));exact trivial)) ?_|refine AN rfl (by kernel_rfl) ?_
   exact Ar ⟨V1,hV1⟩ ⟨I,tO⟩ [1] (by decide) I
 rintro⟨V,hV⟩
 exact zE (zO (Au tH I (.tmp I) V I hV fun W1 hp=>As.of_hp hp))
-- BOXES 12
-- CODE2
theorem O7 (q:Rat):decide (Fh q≤0)=decide (q≤0):=by
 refine decide_eq_decide.2 ?_
 have h:0<q.num↔0<q:=by
  have h1:0≤q.num↔0≤q:=Rat.num_nonneg
  have h2:q.num=0↔q=0:=Rat.num_eq_zero
  constructor
  ·intro h
   exact Rat.lt_of_le_of_ne (h1.1 (by omega)) (fun e=>by rw[←e] at h;exact absurd h (by decide))
  ·intro h
   have a:=h1.2 (Rat.le_of_lt h)
   have b:q.num≠0:=fun e=>by rw[h2.1 e] at h;exact Rat.lt_irrefl h
   omega
 rw[←Rat.not_lt, ←h]
 unfold Fh
 split
 ·omega
 ·split<;>omega
theorem Jg (q:Rat):Fh q= -1∨Fh q=0∨Fh q=1:=by
 unfold Fh
 split
 ·exact .inr (.inl I)
 ·split
  ·exact .inl I
  ·exact .inr (.inr I)
theorem Ss (u v:Rat):decide (w64 (Fh u*Fh v)<0)=decide (u*v<0):=by
 have hu:=OT u
 have hu2:=O7 u
 have hv:=OT v
 have hv2:=O7 v
 rw[decide_eq_decide] at hu hu2 hv hv2
 rw[decide_eq_decide,EB]
 have hw:w64 (Fh u*Fh v)=Fh u*Fh v:=by
  rcases Jg u with a|a|a<;>rcases Jg v with b|b|b<;>rw[a,b]<;>rfl
 rw[hw]
 rw[show 0<v↔ ¬v≤0 from Rat.not_le.symm,show 0<u↔ ¬u≤0 from Rat.not_le.symm, ←hu, ←hu2, ←hv, ←hv2]
 rcases Jg u with a|a|a<;>rcases Jg v with b|b|b<;>rw[a,b]<;>decide
theorem Sz {W0 W:World} {bxs:List Bx} (hp:Hp W0 bxs W) (k:Nat) {g:Nat} {l:List Rat} {junk:List Value} {i:Nat} (hk:nth bxs k=some ⟨g,23,vsC l++junk,true,none⟩) (hi:i<l.length):Ak W g (0+i*1) [str (Ad l[i])]:=by
 have h:=Cv (Ak.of_bx hp k hk rfl)
 refine⟨h.lt,fun m u hu=> ?_⟩
 cases m with
 |zero=>
  obtain rfl:str (Ad l[i])=u:=by simpa using hu
  have:=h.get i (str (Ad l[i])) (by rw[List.getElem?_map,List.getElem?_eq_getElem hi];rfl)
  rw[Nat.zero_add,Nat.mul_one,Nat.add_zero]
  rwa [Nat.zero_add] at this
 |succ m=>simp at hu
structure ClZ (f:AL) (l:List Ag):Prop where
 v: ∀q∈l,UC f q
 c: ∀i,i<l.length→f.at (Ae l i)*f.at (Ae l (i+1))<0→Xb (Ae l i) (Ae l (i+1)) (f.at (Ae l i)) (f.at (Ae l (i+1)))
 o:Ie 149 (BW f l)
def En (f:AL) (l:List Ag) (k:Nat):List Ag:=(C0 (Ae l) k f).map (Cj (Ae l))
def FZ (f:AL) (l:List Ag) (k:Nat):List Ag:=En f l k++(if f.at (Ae l k)≤0 then[Ae l k] else[])
theorem JQ (f:AL) (l:List Ag) (k:Nat):En f l (k+1)=FZ f l k++(if f.at (Ae l k)*f.at (Ae l (k+1))<0 then[DR (f.at (Ae l k)/(f.at (Ae l k)-f.at (Ae l (k+1)))) (Ae l k) (Ae l (k+1))] else[]):=by
 unfold En FZ
 rw[Ol,NS,List.append_assoc]
 rfl
theorem HI (f:AL) (l:List Ag): ∀k,(En f l k).length≤2*k
 |0=>Nat.le_refl _
 |k+1=>by
  have ih:=HI f l k
  rw[JQ]
  unfold FZ
  rw[List.length_append,List.length_append]
  have a:(if f.at (Ae l k)≤0 then[Ae l k] else[]).length≤1:=by split<;>simp
  have b:(if f.at (Ae l k)*f.at (Ae l (k+1))<0 then[DR (f.at (Ae l k)/(f.at (Ae l k)-f.at (Ae l (k+1)))) (Ae l k) (Ae l (k+1))] else[]).length≤1:=by split<;>simp
  omega
theorem UR (f:AL) (l:List Ag) (k:Nat):(FZ f l k).length≤2*k+1:=by
 unfold FZ
 have:=HI f l k
 rw[List.length_append]
 have a:(if f.at (Ae l k)≤0 then[Ae l k] else[]).length≤1:=by split<;>simp
 omega
theorem VO (f:AL) (l:List Ag):(l.map f.at).any (fun q=>decide (q<0))=JT f l:=by
 unfold JT
 rw[List.any_map];rfl
abbrev ckB (b c:Nat):Bx:=⟨b,59,[Aj c],true,none⟩
abbrev lsB (b:Nat) (v:Value):Bx:=⟨b,22,[v],true,none⟩
abbrev nmB (b:Nat) (v:Value):Bx:=⟨b,87,[v],true,none⟩
theorem Pr (c:Nat) (f:AL) (l:List Ag) (hz:ClZ f l) (hP:AY l) (h3:3≤l.length) (hn:l.length≤4096) (p:Option Addr) (cap:Nat) (W:World) (hA:Ci W p l) (hc:CH W c) (hv:BL W) (ht:AM W):
  Ai Tryz.prog 42 #[Aj c,slv p l.length cap,str (Ad f.a),str (Ad f.b),str (Ad f.c)] W (fun V:Vec=>V.val (BT f l).length) (fun V=>V.OK 2 (BT f l).length (ptC (BT f l))) (fun V=>[V.bx 35 (ptC (BT f l))]):=by
 have hn0:0<l.length:=by omega
 have hzz:(l.length:Int)≠0:=by omega
 have hvl:(l.map f.at).length=l.length:=List.length_map _
 refine Ab (args:=[Aj c,slv p l.length cap,str (Ad f.a),str (Ad f.b),str (Ad f.c)]) Tryz.func42 I I I ?_
 refine zA (zB ?_)
 (refine A5 rfl rfl rfl rfl ?_;intro)
 (refine A5 rfl rfl rfl rfl ?_;intro)
 refine wP I (Aa ?_)
 rename_i b5 b6
 refine zE (A0 ?_)
 refine Bg (X:= { s:Nat×Vec//s.2.OK 1 l.length (vsC (l.map f.at)) }) [true,true,true,true,true,false,false,false,false] (fun s=>[(5,Aj b5),(6,Aj b6),(11,Aj s.1.1)]) (fun s=>[ckB b5 c,lsB b6 (slv p l.length cap),nmB s.1.1 (s.1.2.val l.length),s.1.2.bx 23 (vsC (l.map f.at))])
  4 [ckB b5 c,lsB b6 (slv p l.length cap)] Tryz.mixed (by kernel_rfl) ?_ ?_
 ·refine qB 1 I I I (qB 0 I I I (qP I (qP I (qP I (C1 (wX ?_))))))
  refine RS.cons ?_ (RS.cons ?_ (RS.nil))
  ·refine wD (X:=Nat×Nat×Nat×Nat) rfl rfl (fun W1 _=>Fb c f W1) ?_;rintro⟨v4,v5,v6,v7⟩ _
   refine Aa (Ac (wX ?_))
   refine RS.cons ?_ (RS.cons ?_ (RS.nil))
   ·refine wD (X:=Vec) rfl rfl (fun W1 hp=>CR l f.at 132 [Aj v4,Aj v5,Aj v6,Aj v7] (by kernel_rfl) hn p cap W1 (hA.hp hp) (fun q hq W2 hb=>CS v4 v5 v6 v7 c f q (hz.v q hq) W2 (JO.below (by first|exact⟨Ak.of_bx hp 2 rfl rfl,Ak.of_bx hp 3 rfl rfl,Ak.of_bx hp 4 rfl rfl,Ak.of_bx hp 5 rfl rfl,hc.hp hp,hv.hp hp,ht.hp hp⟩|exact⟨Ak.of_bx hp 3 rfl rfl,Ak.of_bx hp 4 rfl rfl,Ak.of_bx hp 5 rfl rfl,Ak.of_bx hp 6 rfl rfl,hc.hp hp,hv.hp hp,ht.hp hp⟩) hb))) ?_;rintro⟨pV1,cV1,jV1⟩ hV1;obtain⟨gV1,rfl⟩: ∃g,pV1=some g:=Option.ne_none_iff_exists'.1 (fun e=>absurd (hV1.nil e) (by omega))
    refine Aa (Ac (wX (wZ ?_)))
    refine Ah Tryz.hZ rfl rfl rfl rfl ?_;intro b11
    refine Aa (Ac (wX (wZ (wS 7 I I I (Aa (Ac ?_))))))
    refine A9 I (by((repeat (first|refine AC.same ?_|refine AC.off I ?_));exact tO)) ?_
    exact Ar (⟨(b11,⟨some gV1,cV1,jV1⟩),hV1⟩: { s:Nat×Vec//s.2.OK 1 l.length (vsC (l.map f.at)) }) ⟨I,I,I,tO⟩ [0,1,7,6] (by decide) I
   ·refine Ah Tryz.hZ rfl rfl rfl rfl ?_;intro b11
    refine Aa (Ac (wX (wZ ?_)))
    refine wD (X:=Vec) rfl rfl (fun W1 hp=>CR l f.at 132 [Aj v4,Aj v5,Aj v6,Aj v7] (by kernel_rfl) hn p cap W1 (hA.hp hp) (fun q hq W2 hb=>CS v4 v5 v6 v7 c f q (hz.v q hq) W2 (JO.below (by first|exact⟨Ak.of_bx hp 2 rfl rfl,Ak.of_bx hp 3 rfl rfl,Ak.of_bx hp 4 rfl rfl,Ak.of_bx hp 5 rfl rfl,hc.hp hp,hv.hp hp,ht.hp hp⟩|exact⟨Ak.of_bx hp 3 rfl rfl,Ak.of_bx hp 4 rfl rfl,Ak.of_bx hp 5 rfl rfl,Ak.of_bx hp 6 rfl rfl,hc.hp hp,hv.hp hp,ht.hp hp⟩) hb))) ?_;rintro⟨pV1,cV1,jV1⟩ hV1;obtain⟨gV1,rfl⟩: ∃g,pV1=some g:=Option.ne_none_iff_exists'.1 (fun e=>absurd (hV1.nil e) (by omega))
    refine Aa (Ac (wX (wZ (wS 6 I I I (Aa (Ac ?_))))))
    refine A9 I (by((repeat (first|refine AC.same ?_|refine AC.off I ?_));exact tO)) ?_
    exact Ar (⟨(b11,⟨some gV1,cV1,jV1⟩),hV1⟩: { s:Nat×Vec//s.2.OK 1 l.length (vsC (l.map f.at)) }) ⟨I,I,I,tO⟩ [0,1,6,7] (by decide) I
  ·refine Ah Tryz.hZ rfl rfl rfl rfl ?_;intro b11
   refine Aa (Ac (wX (wZ ?_)))
   refine wD (X:=Nat×Nat×Nat×Nat) rfl rfl (fun W1 _=>Fb c f W1) ?_;rintro⟨v4,v5,v6,v7⟩ _
   refine Aa (Ac (wX (wZ ?_)))
   refine wD (X:=Vec) rfl rfl (fun W1 hp=>CR l f.at 132 [Aj v4,Aj v5,Aj v6,Aj v7] (by kernel_rfl) hn p cap W1 (hA.hp hp) (fun q hq W2 hb=>CS v4 v5 v6 v7 c f q (hz.v q hq) W2 (JO.below (by first|exact⟨Ak.of_bx hp 2 rfl rfl,Ak.of_bx hp 3 rfl rfl,Ak.of_bx hp 4 rfl rfl,Ak.of_bx hp 5 rfl rfl,hc.hp hp,hv.hp hp,ht.hp hp⟩|exact⟨Ak.of_bx hp 3 rfl rfl,Ak.of_bx hp 4 rfl rfl,Ak.of_bx hp 5 rfl rfl,Ak.of_bx hp 6 rfl rfl,hc.hp hp,hv.hp hp,ht.hp hp⟩) hb))) ?_;rintro⟨pV1,cV1,jV1⟩ hV1;obtain⟨gV1,rfl⟩: ∃g,pV1=some g:=Option.ne_none_iff_exists'.1 (fun e=>absurd (hV1.nil e) (by omega))
   refine Aa (Ac (wX (wZ (wS 2 I I I (Aa (Ac ?_))))))
   refine A9 I (by((repeat (first|refine AC.same ?_|refine AC.off I ?_));exact tO)) ?_
   exact Ar (⟨(b11,⟨some gV1,cV1,jV1⟩),hV1⟩: { s:Nat×Vec//s.2.OK 1 l.length (vsC (l.map f.at)) }) ⟨I,I,I,tO⟩ [0,1,2,7] (by decide) I
 rintro⟨⟨b11,⟨pV,cV,jV⟩⟩,hV⟩
 obtain⟨gV,rfl⟩: ∃g,pV=some g:=by
  cases pV with
  |none=>have:=hV.nil rfl;omega
  |some g=>exact⟨g,rfl⟩
 have hcapV:=(hV.cap (by simp)).1
 refine zE (zA (zA (zB (wB 0 I I I ?_))))
 refine AO I I I I ?_
 refine wP I (wL 0 I I (fun W1 hp=>(hc.hp hp).row) I (wP I (Aa (zE (zS I (zI (zE (zA (zB ?_)))))))))
 (refine Ah Tryz.hZ rfl rfl rfl rfl ?_;intro)
 refine Aa ?_
 rename_i b12
 refine zE (zA (zA (zB (wB 1 I I I ?_))))
 refine wD (X:=Nat) I I (fun W1 _=>Ee p l.length cap W1) ?_
 intro bp _
 refine Aa (zE (zH ?_))
 refine F6 ?_
 refine Fp (X:=Nat×Vec) (fun x=>[ckB b5 c,lsB b6 (slv p l.length cap),nmB b11 (.slice (some ⟨gV,0,none⟩) l.length cV),⟨gV,23,vsC (l.map f.at)++jV,true,none⟩,lsB b12 (x.2.val (En f l x.1).length),lsB bp (slv p l.length cap),x.2.bx 35 (ptC (En f l x.1))])
  (fun j x=>x.1=j∧x.2.OK 2 (En f l x.1).length (ptC (En f l x.1))) (fun _ _=>False) (0,Vec.empty) rfl (by kernel_rfl) (EE l bp p cap (by omega)) (fun _=>rfl)
  ⟨rfl,Vec.OK.empty 2⟩ [] rfl (fun k x W1 _ hp=>⟨Ak.of_bx hp 5 rfl rfl,hA.hp hp⟩) ?_ ?_ (fun _ _ _ _ _ h=>h.elim)
 ·rintro k ⟨k',O⟩ d l' rec L hk ⟨e1,hO⟩ hrec
  obtain rfl:k'=k:=e1
  have hk:k'<l.length:=hk
  have hO:O.OK 2 (En f l k').length (ptC (En f l k')):=hO
  have hol:=HI f l k'
  have hml:=UR f l k'
  have hsl:=HI f l (k'+1)
  have hk2:(k'+1)%l.length<l.length:=Nat.mod_lt _ hn0
  have ev: ∀i (hi:i<l.length),(l.map f.at)[i]'(by rw[hvl];exact hi)=f.at (Ae l i):=fun i hi=>by rw[List.getElem_map,AE hi]
  have hr1: ∀ {W0 W1:World} {bxs:List Bx} (hp:Hp W0 bxs W1) (m:Nat) (hm:nth bxs m=some ⟨gV,23,vsC (l.map f.at)++jV,true,none⟩),Ak W1 gV (0+k'*1) [str (Ad (f.at (Ae l k')))]:=fun hp m hm=>by
   have:=Sz hp m hm (i:=k') (by rw[hvl];exact hk)
   rwa [ev k' hk] at this
  have hr2: ∀ {W0 W1:World} {bxs:List Bx} (hp:Hp W0 bxs W1) (m:Nat) (hm:nth bxs m=some ⟨gV,23,vsC (l.map f.at)++jV,true,none⟩),Ak W1 gV (0+((k'+1)%l.length)*1) [str (Ad (f.at (Ae l (k'+1))))]:=fun hp m hm=>by
   have:=Sz hp m hm (i:=(k'+1)%l.length) (by rw[hvl];exact hk2)
   rwa [ev _ hk2,B6] at this
  obtain⟨u,hu⟩: ∃u,u=f.at (Ae l k'):=⟨_,rfl⟩
  obtain⟨v,hvv⟩: ∃v,v=f.at (Ae l (k'+1)):=⟨_,rfl⟩
  have hsu:=JQ f l k'
  have hmu:FZ f l k'=En f l k'++(if u≤0 then[Ae l k'] else[]):=by rw[hu];rfl
  have hcz:=hz.c k' hk
  rw[←hu, ←hvv] at hsu hcz
  rw[←hu] at hr1
  rw[←hvv] at hr2
  refine zA (zB (wP I (Aa (zE (zB ?_)))))
  (refine Ah Tryz.hZ rfl rfl rfl rfl ?_;intro)
  refine wS 10 I I I (Aa ?_)
  rename_i b14
  refine Dc 9 hrec I ?_
  refine CP (zA (zU (qB 3 I I I (qP I ?_))))
  refine qJ ?_
  refine qL 0 I I (fun W1 hp=>hr1 hp 4 I) I (qC I I (fun W1 _=>EM u W1) (qB 3 I I I (qP I (qP I (qV 40 ((k'+1:Nat):Int) I (Ay (by omega)) (qB 2 I I I (qP I ?_)))))))
  refine Ex I I I I I hzz ?_
  refine D9 43 (.int .i64 (((k'+1)%l.length:Nat):Int)) I I ?_
  refine qJ ?_
  refine qL 0 I I (fun W1 hp=>hr2 hp 4 I) I (qC I I (fun W1 _=>EM v W1) (qP I (qP I (AT (Aa (zE (zA (zA (zB (wP I (wP I (wU 48 (decide (u≤0)) I (O7 u) (Aa ?_)))))))))))))
  refine AI ?_
  refine AG (X:=Vec) (fun _=>[(5,Aj b5),(6,Aj b6),(11,Aj b11),(12,Aj b12),(13, .int .i64 (k':Nat)),(14,Aj b14),(15, .int .i64 (Fh u)),(16, .int .i64 (Fh v))])
   (fun O=>[AP L,ckB b5 c,lsB b6 (slv p l.length cap),nmB b11 (.slice (some ⟨gV,0,none⟩) l.length cV),⟨gV,23,vsC (l.map f.at)++jV,true,none⟩,lsB b12 (O.val (FZ f l k').length),lsB bp (slv p l.length cap),O.bx 35 (ptC (FZ f l k')),BF d,Bl l' rec .busy none,⟨b14,66,(sdV (Ae l k') (Ae l (k'+1))).cells.toList,true,none⟩])
   (fun O=>O.OK 2 (FZ f l k').length (ptC (FZ f l k'))) ?_ ?_
  ·refine Av I (fun hc1=> ?_) (fun hc1=> ?_)
   ·rw[if_pos (of_decide_eq_true hc1)] at hmu
    have hlm:(En f l k').length+1=(FZ f l k').length:=by rw[hmu,List.length_append];rfl
    refine zB (wB 5 I I I ?_)
    refine EX Tryz.underlying66 Tryz.sizeOf35 I I I I I ⟨by decide,by decide⟩ ?_
    refine wB 10 I I I ?_
    refine AF Tryz.hZ tH I I I I I I I I I I I fun bS=> ?_
    refine Bs (V:=O) (len:=(En f l k').length) (xs:=ptC (En f l k')) 7 11 Tryz.vec22 (FZ f l k').length (ptC (FZ f l k')) I I I I I I I I I I I hO I I hlm (by rw[hmu,BX];rfl) (by simp only[maxLen];omega) (by omega) I ?_
    intro gO cO jO hO1
    exact wS 5 I I I (Aa (An ⟨some gO,cO,jO⟩ hO1 ⟨I,I,I,I,I,I,I,I,tO⟩ [_] I))
   ·rw[if_neg (of_decide_eq_false hc1),List.append_nil] at hmu
    exact zI (An O (by rw[hmu];exact hO) ⟨I,I,I,I,I,I,I,I,tO⟩ [] (by rw[hmu];rfl))
  intro O1 hO1
  have hO1:O1.OK 2 (FZ f l k').length (ptC (FZ f l k')):=hO1
  refine zA (zB (wP I (wP I (wP I (wP I (wU 57 (decide (u*v<0)) I (Ss u v) (Aa (zE ?_))))))))
  refine Av I (fun hc2=> ?_) (fun hc2=> ?_)
  ·have hc2':u*v<0:=of_decide_eq_true hc2
   rw[if_pos hc2'] at hsu
   have hlm:(FZ f l k').length+1=(En f l (k'+1)).length:=by rw[hsu,List.length_append];rfl
   refine Bg (X:= { O:Vec//O.OK 2 (En f l (k'+1)).length (ptC (En f l (k'+1))) }) [true,true,true,true,true,true,true,true,true,true,true,true,true,true,true,true,true,true,true,false,false,false] (fun _=>[(5,Aj b5)])
    (fun O=>[AP L,ckB b5 c,lsB b6 (slv p l.length cap),nmB b11 (.slice (some ⟨gV,0,none⟩) l.length cV),⟨gV,23,vsC (l.map f.at)++jV,true,none⟩,lsB b12 (O.1.val (En f l (k'+1)).length),lsB bp (slv p l.length cap),O.1.bx 35 (ptC (En f l (k'+1))),BF d,Bl l' rec .busy none])
    3 [AP L,ckB b5 c,lsB b6 (slv p l.length cap),nmB b11 (.slice (some ⟨gV,0,none⟩) l.length cV),⟨gV,23,vsC (l.map f.at)++jV,true,none⟩,lsB b12 (O1.val (FZ f l k').length),lsB bp (slv p l.length cap),O1.bx 35 (ptC (FZ f l k')),BF d,Bl l' rec .busy none,⟨b14,66,(sdV (Ae l k') (Ae l (k'+1))).cells.toList,true,none⟩] Tryz.mixed (by kernel_rfl) ?_ ?_
   ·refine qB 5 I I I (qB 1 I I I ?_)
    refine B3 Tryz.underlying66 Tryz.sizeOf35 I I I I I ⟨by decide,by decide⟩ ?_
    refine qB 10 I I I ?_
    refine B3 Tryz.underlying66 Tryz.sizeOf35 I I I I I ⟨by decide,by decide⟩ ?_
    refine qB 10 I I I (qB 3 I I I (qP I ?_))
    refine qJ ?_
    refine qL 0 I I (fun W1 hp=>hr1 hp 4 I) I (qB 3 I I I (qP I (qP I (qV 70 ((k'+1:Nat):Int) I (Ay (by omega)) (qB 2 I I I (qP I ?_))))))
    refine Ex I I I I I hzz ?_
    refine D9 73 (.int .i64 (((k'+1)%l.length:Nat):Int)) I I ?_
    refine qJ ?_
    refine qL 0 I I (fun W1 hp=>hr2 hp 4 I) I (qC I I (fun W1 hp=>Mj c (Ae l k') (Ae l (k'+1)) u v (hcz hc2') W1 (hc.hp hp) (hv.hp hp) (ht.hp hp)) (C1 (wX (wZ ?_))))
    refine AF Tryz.hZ tH I I I I I I I I I I I fun bS=> ?_
    refine Aa (Ac (wX (wZ ?_)))
    refine Bs (V:=O1) (len:=(FZ f l k').length) (xs:=ptC (FZ f l k')) 7 11 Tryz.vec22 (En f l (k'+1)).length (ptC (En f l (k'+1))) rfl rfl rfl rfl rfl rfl rfl rfl rfl rfl rfl hO1 rfl rfl hlm (by rw[hsu,BX];rfl) (by simp only[maxLen];omega) (by omega) rfl ?_;intro gO cO jO hO2
    refine Aa (Ac (wY (wZ (wS 5 I I I (Aa (Ac ?_))))))
    refine AN I (by kernel_rfl) ?_
    exact Ar (⟨⟨some gO,cO,jO⟩,hO2⟩: { O:Vec//O.OK 2 (En f l (k'+1)).length (ptC (En f l (k'+1))) }) ⟨I,tO⟩ [0,1,2,3,4,5,6,7,8,9] (by decide) I
   rintro⟨O2,hO2⟩
   exact zN (Cu 9 (k'+1,O2) hrec I ⟨I,hO2⟩ [] I)
  ·rw[if_neg (of_decide_eq_false hc2),List.append_nil] at hsu
   exact zI (zN (Cu 9 (k'+1,O1) hrec I ⟨I,by show O1.OK 2 (En f l (k'+1)).length (ptC (En f l (k'+1)));rw[hsu];exact hO1⟩ [_] (by rw[hsu];rfl)))
 ·rintro⟨k',O⟩ d l' rec ⟨e1,hO⟩
  obtain rfl:k'=l.length:=e1
  have hO:O.OK 2 (BW f l).length (ptC (BW f l)):=hO
  have hoe:En f l l.length=BW f l:=rfl
  have hol:=HI f l l.length
  rw[hoe] at hol
  rw[hoe]
  refine zN (zE (zA (zA (zB (wB 0 I I I ?_)))))
  refine AO I I I I ?_
  refine wP I (wL 0 I I (fun W1 hp=>(hc.hp hp).row) I (wP I (wP I (wB 2 I I I ?_))))
  refine wC I I (fun W1 hp=>(by
   have h:=JV 98 (by kernel_rfl) (fun q=>decide (q<0)) Oj (l.map f.at) (by rw[hvl];omega) (some ⟨gV,0,none⟩) cV W1 (.inr ⟨gV,0,rfl,by
    have:=Cv (Ak.of_bx hp 3 rfl rfl:Ak W1 gV 0 (vsC (l.map f.at)++jV))
    rw[List.map_map];exact this⟩)
   rwa [hvl,VO] at h)) ?_
  cases hneg:JT f l with
  |false=>
   refine wP I (wP I (Aa (zE (zR I (zA (zB (wP I (Aa (zE (zO (zP ?_)))))))))))
   refine CW 7 I ?_
   have e0:BT f l=[]:=by unfold BT;rw[hneg];rfl
   exact Au tH I (.tmp I) Vec.empty (by rw[e0];rfl) (by rw[e0];exact Vec.OK.empty 2) fun W1 hp=>by
    rw[e0]
    exact Own.one (fun p hp=>by cases hp) List.nodup_nil
  |true=>
   have e0:BT f l=B1 (BW f l):=by unfold BT;rw[hneg];rfl
   have hlb:(B1 (BW f l)).length=(BW f l).length:=DD (Gj _)
   obtain⟨q,hq,hqn⟩:=IM.1 hneg
   have hpos:0<(BW f l).length:=by
    obtain⟨i,hi,e⟩:=Cs hq
    have:=Sv hP hi (by rw[e];exact hqn)
    rw[Hr]
    omega
   obtain⟨pO,cO,jO⟩:=O
   obtain⟨gO,rfl⟩: ∃g,pO=some g:=Option.ne_none_iff_exists'.1 (fun e=>absurd (hO.nil e) (by omega))
   have hcO:=(hO.cap (by simp)).1
   refine wP I (wP I (Aa (zE (zS I (zI (zE (zA (zB (wB 0 I I I (wB 4 I I I ?_))))))))))
   refine wD (X:=Vec) I I (fun W1 hp=>Ox c (BW f l) 149 (by decide) hz.o hpos (by omega) gO cO hcO W1 (Cv (Ak.of_bx hp 6 I I:Ak W1 gO 0 (ptC (BW f l)++jO))) (hc.hp hp) (hv.hp hp) (ht.hp hp)) ?_
   intro V2 hV2
   have hV2:V2.OK 2 (BW f l).length (ptC (B1 (BW f l))):=hV2
   refine wP I (Aa (zE (zO ?_)))
   refine CW 7 I ?_
   exact Au tH I (.tmp I) V2 (by rw[e0,hlb]) (by rw[e0,hlb];exact hV2) fun W1 hp=>by
    rw[e0]
    exact As.of_hp (hp.pick (l:=[V2.bx 35 (ptC (B1 (BW f l)))]) [9] (by decide) I)
-- BOXES 12
-- CODE2
structure Pg (f:AL):Prop where
 a:okQ f.a
 b:okQ f.b
 c:okQ f.c
 n:f.a≠0∨f.b≠0
theorem K8 (f:AL) (hf:Pg f) (l:List Ag) (hz:ClZ f l) (p:Option Addr) (cap:Nat) (W:World) (h:He W p l):
  Ai Tryz.prog 12 #[slv p l.length cap,str (Ad f.a),str (Ad f.b),str (Ad f.c)] W (fun V:Vec=> .tuple #[V.val (BT f l).length, .int .i64 0]) (fun V=>V.OK 2 (BT f l).length (ptC (BT f l))) (fun V=>[V.bx 35 (ptC (BT f l))]):=by
 refine Ab (args:=[slv p l.length cap,str (Ad f.a),str (Ad f.b),str (Ad f.c)]) Tryz.func12 I I I ?_
 refine zA (zB (wP I (wP I (Aa (zE (zA (zA (zB (wP I (wP I (wP I (wP I ?_))))))))))))
 refine AF Tryz.hZ tH I I I I I I I I I I I fun bS=> ?_
 refine wC I I (fun W1 hp=>Il l p cap f.a f.b f.c hf.a hf.b hf.c hf.n bS 3 W1 (h.hp hp) (Ak.of_bx hp 0 I I)) (wP I (Aa (zE (zA (zB (wP I (wP I (Aa (zE (zS I (zI (zE (zA ?_)))))))))))))
 refine zB ?_
 refine Az Tryz.hZ tH I I I I I I I I ?_
 (refine A5 rfl rfl rfl rfl ?_;intro)
 refine wP I (Aa ?_)
 rename_i bC
 refine zE (zA (zB ?_))
 iterate 5 refine wP I ?_
 refine wD (X:=Vec) I I (fun W1 hp=>Pr bC f l hz h.poly h.n3 h.n p cap W1 (h.hp hp).m (B9 hp 1 I) (h.hp hp).v (h.hp hp).t) ?_
 intro V hV
 have hV:V.OK 2 (BT f l).length (ptC (BT f l)):=hV
 refine wP I (Aa (zE (zA (zA (zB (wP I ?_))))))
 refine AO I I I I ?_
 refine wP I (wB 1 I I I (wP I (Aa (zE (zS I (zI (zE (zA (zB (wP I (wP I (wP I (Aa ?_)))))))))))))
 exact zE (zO (AJ tH I (.tmp I) (.tmp I) V I hV fun W1 hp=>As.of_hp (hp.pick (l:=[V.bx 35 (ptC (BT f l))]) [2] (by decide) I)))
theorem Nm : ∃ f1 f2 : Field, (Tryz.prog.fieldsOf 35).toList = [f1, f2] ∧ (f1.name ≠ "_" ∧ f1.type = 23 ∧ f1.offset = 0) ∧ (f2.name ≠ "_" ∧ f2.type = 23 ∧ f2.offset = 1) := by
 unfold Program.fieldsOf;rw[Tryz.underlying35]
 exact⟨_,_,I,⟨by decide,I,I⟩,⟨by decide,I,I⟩⟩
theorem Ur (W:World) (a b c d:List UInt8):(binOp .eql 35 (.agg #[str a,str b]) (.agg #[str c,str d])).run Tryz.prog W= .ok (.bool (decide (a=c∧b=d))) W:=by
 rw[run_eql_struct,run_equalIn_agg W 9999 35 _ _ (by kernel_rfl) (by kernel_rfl)]
 obtain⟨f1,f2,hf,⟨n1,t1,o1⟩,⟨n2,t2,o2⟩⟩:=Nm
 rw[hf]
 have e: ∀(x y:List UInt8) W,(Op.equalIn 9999 23 (str x) (str y)).run Tryz.prog W= .ok (decide (x=y)) W:=fun x y W=>by
  rw[run_equalIn_string W 9998 23 _ _ Tryz.underlying23,Bd]
 by_cases h1:a=c<;>by_cases h2:b=d<;>simp[Op.eqFields,part,Tryz.isAgg23,e,h1,h2,n1,n2,t1,t2,o1,o2]
theorem X2 (W:World) (a b c d:List UInt8):(binOp .neq 35 (.agg #[str a,str b]) (.agg #[str c,str d])).run Tryz.prog W= .ok (.bool (!decide (a=c∧b=d))) W:=by
 rw[run_neq_struct,run_equalIn_agg W 9999 35 _ _ (by kernel_rfl) (by kernel_rfl)]
 obtain⟨f1,f2,hf,⟨n1,t1,o1⟩,⟨n2,t2,o2⟩⟩:=Nm
 rw[hf]
 have e: ∀(x y:List UInt8) W,(Op.equalIn 9999 23 (str x) (str y)).run Tryz.prog W= .ok (decide (x=y)) W:=fun x y W=>by
  rw[run_equalIn_string W 9998 23 _ _ Tryz.underlying23,Bd]
 by_cases h1:a=c<;>by_cases h2:b=d<;>simp[Op.eqFields,part,Tryz.isAgg23,e,h1,h2,n1,n2,t1,t2,o1,o2]
section
variable {r:Option Nat} {n:Nat} {N:Nat} {D:List Deferred} {ops:List Oper} {Q:Exit→Act→World→Prop} {o:Oper} {rest:List Oper} {env:Env} {A A2:World→Prop} {R:Act→World→Prop}
theorem AS (a b c d:List UInt8) {t:Nat} {u:TypeId} {x y:Operand} (hg:A8 ops N env o=some true) (hd:o.dst=some t) (ho:o.op= .binOp .eql 35 x y u)
  (hx:evO N env x=some (.agg #[str a,str b])) (hy:evO N env y=some (.agg #[str c,str d]))
  (h:WL r n Tryz.prog N D ops Q rest ((t, .bool (decide (a=c∧b=d)))::env) A):WL r n Tryz.prog N D ops Q (o::rest) env A:=
 Da hg hd (fun c e=>by rw[ho] at e;cases e) (fun _ W hρ _=>by
  have hm:Tryz.prog.eqGuardType Tryz.prog.depth 35=false:=by kernel_rfl
  simp[execOp,ho,hρ _ _ hx,hρ _ _ hy,run_eqGuard_agg W .eql 35 x y _ _ hm,Ur]) h
theorem VS (a b c d:List UInt8) {t:Nat} {u:TypeId} {x y:Operand} (hg:A8 ops N env o=some true) (hd:o.dst=some t) (ho:o.op= .binOp .eql 35 x y u)
  (hx:evO N env x=some (.agg #[str a,str b])) (hy:evO N env y=some (.agg #[str c,str d]))
  (h:WQ Tryz.prog N D ops A2 R rest ((t, .bool (decide (a=c∧b=d)))::env) A):WQ Tryz.prog N D ops A2 R (o::rest) env A:=
 D7 hg hd (fun c e=>by rw[ho] at e;cases e) (fun _ W hρ _=>by
  have hm:Tryz.prog.eqGuardType Tryz.prog.depth 35=false:=by kernel_rfl
  simp[execOp,ho,hρ _ _ hx,hρ _ _ hy,run_eqGuard_agg W .eql 35 x y _ _ hm,Ur]) h
theorem S5 (a b c d:List UInt8) {t:Nat} {u:TypeId} {x y:Operand} (hg:A8 ops N env o=some true) (hd:o.dst=some t) (ho:o.op= .binOp .neq 35 x y u)
  (hx:evO N env x=some (.agg #[str a,str b])) (hy:evO N env y=some (.agg #[str c,str d]))
  (h:WQ Tryz.prog N D ops A2 R rest ((t, .bool (!decide (a=c∧b=d)))::env) A):WQ Tryz.prog N D ops A2 R (o::rest) env A:=
 D7 hg hd (fun c e=>by rw[ho] at e;cases e) (fun _ W hρ _=>by
  have hm:Tryz.prog.eqGuardType Tryz.prog.depth 35=false:=by kernel_rfl
  simp[execOp,ho,hρ _ _ hx,hρ _ _ hy,run_eqGuard_agg W .neq 35 x y _ _ hm,X2]) h
end
theorem J4 (l:List Ag) (hn:l.length≤100000) (p q:Option Addr) (cap cap2:Nat) (W:World) (hA:Ci W p l) (hB:Ci W q l):
  Ai Tryz.prog 23 #[slv p l.length cap,slv q l.length cap2] W (fun _:Unit=> .bool true) (fun _=>True) (fun _=>[]):=by
 refine Ab (args:=[slv p l.length cap,slv q l.length cap2]) Tryz.func23 I I I ?_
 refine zA (zB (wP I (Aa (zE (zA (zA (zB ?_)))))))
 iterate 5 refine wP I ?_
 refine wU 10 false I (bne_eq_false_iff_eq.2 I) (Aa (zE (zS I (zI (zE (zA (zA (zB (wP I (wP I (wP I (Aa (zE ?_)))))))))))))
 refine zH ?_
 refine AA (X:=Nat) (fun i=>[(0,slv p l.length cap),(1,slv q l.length cap2),(12, .int .i64 (l.length:Nat)),(13, .int .i64 (i:Nat))]) (fun _=>[]) (fun i=>i≤l.length) (fun i=>l.length-i) 0 (Nat.zero_le _) ⟨I,I,I,I,tO⟩ [] I ?_
 intro i hi
 have hi:i≤l.length:=hi
 refine zA (zB (wP I ?_))
 by_cases hlt:i<l.length
 ·refine wU 14 true I (dT (by omega)) (Aa (zE (zA (zR I (zI (zE (zA (zH (zA (zB ?_))))))))))
  obtain⟨g,off,e1,h1⟩:=hA.at_ hlt
  obtain⟨g2,off2,e2,h2⟩:=hB.at_ hlt
  have h1:=h1 i hlt
  have h2:=h2 i hlt
  obtain⟨x,hx⟩: ∃x,x=l[i]:=⟨_,rfl⟩
  rw[←hx] at h1 h2
  subst e1 e2
  refine wP I (wP I (Aa (zE (zA (zU (qP I (qP I ?_)))))))
  refine qJ ?_
  refine qL 0 I I (fun W1 hp=>h1.hp hp) I (qP I (qP I ?_))
  refine qJ ?_
  refine qL 0 I I (fun W1 hp=>h2.hp hp) I ?_
  refine S5 (Ad x.1) (Ad x.2) (Ad x.1) (Ad x.2) I I I I I ?_
  exact qU 24 false I (by rw[dT ⟨I,I⟩];rfl) (AT (Aa (zE (zS I (zI (zN (zE (zB (wP I (wV 25 ((i+1:Nat):Int) I (Ay (by omega)) (wP I (Aa (A6 (i+1) hlt (by show l.length-(i+1)<l.length-i;omega) ⟨I,I,I,I,tO⟩ [] I)))))))))))))
 refine wU 14 false I (dF (by omega)) (Aa (zE (zA (zS I (zJ (zK (zK (zL (zE (zA (zB (wP I (Aa ?_)))))))))))))
 exact zE (zO (wR1 I I I))
-- BOXES 12
-- CODE2
theorem R4 {N:Nat} {D:List Deferred} {Q:Exit→Act→World→Prop} {ex:Exit} {env:Env} {W0:World} {bxs bxs':List Bx} (e:bxs=bxs') (h:NE N D Q ex env (Hp W0 bxs')):NE N D Q ex env (Hp W0 bxs):=e▸h
theorem V7:Ad 2=[50]:=(congrArg Ad (show(2:Rat)=q2 2 1 by decide+kernel)).trans ns2
theorem Wa:Ad 3=[51]:=(congrArg Ad (show(3:Rat)=q2 3 1 by decide+kernel)).trans ns3
structure QT (p q:Ag):Prop where
 x:Sz2 p.1 q.2
 y:Sz2 q.1 p.2
 s:Sz2 (p.1*q.2) (q.1*p.2)
theorem K6 (c:Nat) (p q:Ag) (hz:QT p q) (W:World) (hc:CH W c) (hv:BL W) (ht:AM W):
  Ai Tryz.prog 46 #[Aj c,sdV p q] W (fun _:Unit=>str (Ad (F0 p q))) (fun _=>True) (fun _=>[]):=by
 refine Ab (args:=[Aj c,sdV p q]) Tryz.func46 I I I ?_
 refine zA (zB ?_)
 (refine A5 rfl rfl rfl rfl ?_;intro)
 refine wP I (Aa (zE (zA (zU (qP I ?_)))))
 refine B3 Tryz.underlying66 Tryz.sizeOf35 I I I I I ⟨by decide,by decide⟩ ?_
 refine qP I (qB 0 I I I ?_)
 refine B3 Tryz.underlying66 Tryz.sizeOf35 I I I I I ⟨by decide,by decide⟩ ?_
 refine qP I (qB 0 I I I (qC I I (fun W hp=>Co c p.1 q.2 hz.x W (hc.hp hp) (hv.hp hp) (ht.hp hp)) (qP I ?_)))
 refine B3 Tryz.underlying66 Tryz.sizeOf35 I I I I I ⟨by decide,by decide⟩ ?_
 refine qP I (qB 0 I I I ?_)
 refine B3 Tryz.underlying66 Tryz.sizeOf35 I I I I I ⟨by decide,by decide⟩ ?_
 refine qP I (qB 0 I I I (qC I I (fun W hp=>Co c q.1 p.2 hz.y W (hc.hp hp) (hv.hp hp) (ht.hp hp)) (qP I (qP I (AT (Aa (zE (zA (zB (wP I (wP I (wP I (wC I I (fun W hp=>CJ c (p.1*q.2) (q.1*p.2) hz.s W (hc.hp hp) (hv.hp hp) (ht.hp hp)) ?_)))))))))))))
 exact wP I (Aa (zE (zO (wR1 I I I))))
def crK (l:List Ag) (k:Nat):Rat:=IL (fun i=>F0 (Ae l i) (Ae l (i+1))) k
theorem Q4 (l:List Ag) (k:Nat):crK l (k+1)=crK l k+F0 (Ae l k) (Ae l (k+1)):=rfl
structure ArZ (l:List Ag):Prop where
 d: ∀i,i<l.length→QT (Ae l i) (Ae l (i+1))
 s: ∀i,i<l.length→Sz2 (crK l i) (F0 (Ae l i) (Ae l (i+1)))
 h:Sz2 (CI l) 2
abbrev caB (c:Nat):Bx:=⟨c,61,[.int .i64 0],true,none⟩
abbrev nuB (b:Nat) (q:Rat):Bx:=⟨b,23,[str (Ad q)],true,none⟩
theorem QH (l:List Ag) (hz:ArZ l) (p:Option Addr) (cap:Nat) (W:World) (h:He W p l):
  Ai Tryz.prog 15 #[slv p l.length cap] W (fun _:Unit=> .tuple #[str (Ad (CI l/2)), .int .i64 0]) (fun _=>True) (fun _=>[]):=by
 have hn:=h.n
 refine Ab (args:=[slv p l.length cap]) Tryz.func15 I I I ?_
 refine zA (zB (wP I (wP I (Aa (zE (zA (zA (zB (wP I (wC I I (fun W1 hp=>Ih l p cap W1 (h.hp hp)) (wP I (Aa (zE ?_)))))))))))))
 refine zA (zB (wP I (wP I (Aa (zE (zS I (zI (zE (zA (zB ?_))))))))))
 refine Az Tryz.hZ tH I I I I I I I I ?_
 (refine A5 rfl rfl rfl rfl ?_;intro)
 (refine Ah Tryz.hZ rfl rfl rfl rfl ?_;intro)
 (refine Ah Tryz.hZ rfl rfl rfl rfl ?_;intro)
 refine wS 1 I I I (wS 2 I I I (Aa ?_))
 rename_i bC b5 b6
 refine R4 (bxs':=[caB bC,ckB b5 bC,nuB b6 (crK l 0)]) (by show _=[caB bC,ckB b5 bC,nuB b6 0];rw[nuB,CE];rfl) ?_
 refine zE (zA (zA (zB (wP I ?_))))
 refine wD (X:=Nat) I I (fun W1 _=>Ee p l.length cap W1) ?_
 intro bp _
 refine Aa (zE (zH ?_))
 refine Fp (X:=Nat) (fun k=>[caB bC,ckB b5 bC,nuB b6 (crK l k),lsB bp (slv p l.length cap)])
  (fun j x=>x=j) (fun _ _=>False) 0 rfl (by kernel_rfl) (EE l bp p cap (by omega)) (fun _=>rfl)
  rfl [] rfl (fun k x W1 _ hp=>⟨Ak.of_bx hp 3 rfl rfl,(h.hp hp).m⟩) ?_ ?_ (fun _ _ _ _ _ h=>h.elim)
 ·rintro k k' d l' rec L hk e1 hrec
  obtain rfl:k'=k:=e1
  have hk:k'<l.length:=hk
  have hsu:=Q4 l k'
  refine zB ?_
  (refine Ah Tryz.hZ rfl rfl rfl rfl ?_;intro)
  refine wS 7 I I I (Aa ?_)
  rename_i b8
  refine Dc 6 hrec I ?_
  refine CP ?_
  refine Bg (X:=Unit) [true,true,true,true,true,true,false] (fun _=>[(5,Aj b5)]) (fun _=>[AP L,caB bC,ckB b5 bC,nuB b6 (crK l (k'+1)),lsB bp (slv p l.length cap),BF d,Bl l' rec .busy none])
   1 [AP L,caB bC,ckB b5 bC,nuB b6 (crK l k'),lsB bp (slv p l.length cap),BF d,Bl l' rec .busy none,⟨b8,66,(sdV (Ae l k') (Ae l (k'+1))).cells.toList,true,none⟩] Tryz.mixed (by kernel_rfl) ?_ ?_
  ·refine qB 2 I I I (qB 3 I I I (qB 2 I I I (qB 7 I I I (qC I I (fun W1 hp=>K6 bC (Ae l k') (Ae l (k'+1)) (hz.d k' hk) W1 (B9 hp 1 I) (h.hp hp).v (h.hp hp).t) (qC I I (fun W1 hp=>CK bC (crK l k') (F0 (Ae l k') (Ae l (k'+1))) (hz.s k' hk) W1 (B9 hp 1 I) (h.hp hp).v (h.hp hp).t) (C1 ?_))))))
   rw[←hsu]
   refine wX (wZ (wS 3 I I I (Aa (Ac ?_))))
   refine AN I (by kernel_rfl) ?_
   exact Ar () ⟨I,tO⟩ [0,1,2,3,4,5,6] (by decide) I
  intro _
  exact zN (Cu 6 (k'+1) hrec I I [] I)
 ·rintro k' d l' rec e1
  obtain rfl:k'=l.length:=e1
  refine zN (zE (zA (zA (zB (wB 1 I I I (wB 2 I I I (wC I I (fun W1 hp=>(by have:=GL bC (CI l) 2 hz.h (by decide) W1 (B9 hp 0 I) (h.hp hp).v (h.hp hp).t;rwa [V7] at this)) (wP I (Aa (zE (zA (zB (wB 1 I I I ?_)))))))))))))
  refine AO I I I I ?_
  refine wP I (wB 0 I I I (wP I (Aa (zE (zR I (zA (zB (wP I (wP I (wP I (Aa (zE (zO ?_)))))))))))))
  refine zP ?_
  refine CW 4 I ?_
  exact wR2 I I I
-- BOXES 12
-- CODE2
def moX (l:List Ag) (k:Nat):Rat:=IL (fun i=>((Ae l i).1+(Ae l (i+1)).1)*F0 (Ae l i) (Ae l (i+1))) k
def moY (l:List Ag) (k:Nat):Rat:=IL (fun i=>((Ae l i).2+(Ae l (i+1)).2)*F0 (Ae l i) (Ae l (i+1))) k
theorem UL (l:List Ag) (k:Nat):moX l (k+1)=moX l k+((Ae l k).1+(Ae l (k+1)).1)*F0 (Ae l k) (Ae l (k+1)):=rfl
theorem Ul (l:List Ag) (k:Nat):moY l (k+1)=moY l k+((Ae l k).2+(Ae l (k+1)).2)*F0 (Ae l k) (Ae l (k+1)):=rfl
structure CeZ (l:List Ag):Prop where
 d: ∀i,i<l.length→QT (Ae l i) (Ae l (i+1))
 s: ∀i,i<l.length→Sz2 (crK l i) (F0 (Ae l i) (Ae l (i+1)))
 x1: ∀i,i<l.length→Sz2 (Ae l i).1 (Ae l (i+1)).1
 x2: ∀i,i<l.length→Sz2 ((Ae l i).1+(Ae l (i+1)).1) (F0 (Ae l i) (Ae l (i+1)))
 x3: ∀i,i<l.length→Sz2 (moX l i) (((Ae l i).1+(Ae l (i+1)).1)*F0 (Ae l i) (Ae l (i+1)))
 y1: ∀i,i<l.length→Sz2 (Ae l i).2 (Ae l (i+1)).2
 y2: ∀i,i<l.length→Sz2 ((Ae l i).2+(Ae l (i+1)).2) (F0 (Ae l i) (Ae l (i+1)))
 y3: ∀i,i<l.length→Sz2 (moY l i) (((Ae l i).2+(Ae l (i+1)).2)*F0 (Ae l i) (Ae l (i+1)))
 m:Sz2 3 (CI l)
 nz:(3*CI l).num≠0
 dx:Sz2 (IJ l) (3*CI l)
 dy:Sz2 (I2 l) (3*CI l)
abbrev ptB (b:Nat) (a c:List UInt8):Bx:=⟨b,35,[str a,str c],true,none⟩
theorem MS (l:List Ag) (hz:CeZ l) (p:Option Addr) (cap:Nat) (W:World) (h:He W p l):
  Ai Tryz.prog 35 #[slv p l.length cap] W (fun _:Unit=> .tuple #[.agg #[str (Ad (IJ l/(3*CI l))),str (Ad (I2 l/(3*CI l)))], .int .i64 0]) (fun _=>True) (fun _=>[]):=by
 have hn:=h.n
 refine Ab (args:=[slv p l.length cap]) Tryz.func35 I I I ?_
 refine zA (zB ?_)
 (refine Ah Tryz.hZ rfl rfl rfl rfl ?_;intro)
 refine wP I (Aa ?_)
 rename_i b2
 refine zE (zA (zA (zB (wP I (wC I I (fun W1 hp=>Ih l p cap W1 (h.hp hp)) (wP I (Aa (zE (zA (zB (wP I (wP I (Aa ?_)))))))))))))
 refine zE (zS I (zI (zE (zA (zB ?_)))))
 refine Az Tryz.hZ tH I I I I I I I I ?_
 (refine A5 rfl rfl rfl rfl ?_;intro)
 (refine Ah Tryz.hZ rfl rfl rfl rfl ?_;intro)
 refine wS 2 I I I (Aa ?_)
 rename_i bC b5
 refine zE (zA (zB ?_))
 (refine Ah Tryz.hZ rfl rfl rfl rfl ?_;intro)
 (refine Ah Tryz.hZ rfl rfl rfl rfl ?_;intro)
 (refine Ah Tryz.hZ rfl rfl rfl rfl ?_;intro)
 refine wS 3 I I I (wS 4 I I I (wS 5 I I I (Aa ?_)))
 rename_i b6 b7 b8
 refine R4 (bxs':=[ptB b2 [] [],caB bC,ckB b5 bC,nuB b6 (moX l 0),nuB b7 (moY l 0),nuB b8 (crK l 0)]) (by show _=[ptB b2 [] [],caB bC,ckB b5 bC,nuB b6 0,nuB b7 0,nuB b8 0];rw[nuB,nuB,nuB,CE];rfl) ?_
 refine zE (zA (zA (zB (wP I ?_))))
 refine wD (X:=Nat) I I (fun W1 _=>Ee p l.length cap W1) ?_
 intro bp _
 refine Aa (zE (zH ?_))
 refine Fp (X:=Nat) (fun k=>[ptB b2 [] [],caB bC,ckB b5 bC,nuB b6 (moX l k),nuB b7 (moY l k),nuB b8 (crK l k),lsB bp (slv p l.length cap)])
  (fun j x=>x=j) (fun _ _=>False) 0 rfl (by kernel_rfl) (EE l bp p cap (by omega)) (fun _=>rfl)
  rfl [] rfl (fun k x W1 _ hp=>⟨Ak.of_bx hp 6 rfl rfl,(h.hp hp).m⟩) ?_ ?_ (fun _ _ _ _ _ h=>h.elim)
 ·rintro k k' d l' rec L hk e1 hrec
  obtain rfl:k'=k:=e1
  have hk:k'<l.length:=hk
  have hsu:=Q4 l k'
  have hsx:=UL l k'
  have hsy:=Ul l k'
  refine zB ?_
  (refine Ah Tryz.hZ rfl rfl rfl rfl ?_;intro)
  refine wS 10 I I I (Aa ?_)
  rename_i b10
  refine Dc 9 hrec I ?_
  refine CP (zA (zB (wB 3 I I I (wB 10 I I I (wC I I (fun W1 hp=>K6 bC (Ae l k') (Ae l (k'+1)) (hz.d k' hk) W1 (B9 hp 2 I) (h.hp hp).v (h.hp hp).t) (wP I (Aa (zE (A0 ?_)))))))))
  refine Bg (X:=Unit) [true,true,true,true,true,true,true,true,true,true,true,true,true,true,false] (fun _=>[(5,Aj b5),(6,Aj b6),(7,Aj b7),(8,Aj b8),(10,Aj b10),(11,str (Ad (F0 (Ae l k') (Ae l (k'+1)))))]) (fun _=>[AP L,ptB b2 [] [],caB bC,ckB b5 bC,nuB b6 (moX l (k'+1)),nuB b7 (moY l k'),nuB b8 (crK l k'),lsB bp (slv p l.length cap),BF d,Bl l' rec .busy none,⟨b10,66,(sdV (Ae l k') (Ae l (k'+1))).cells.toList,true,none⟩])
   1 [AP L,ptB b2 [] [],caB bC,ckB b5 bC,nuB b6 (moX l k'),nuB b7 (moY l k'),nuB b8 (crK l k'),lsB bp (slv p l.length cap),BF d,Bl l' rec .busy none,⟨b10,66,(sdV (Ae l k') (Ae l (k'+1))).cells.toList,true,none⟩] Tryz.mixed (by kernel_rfl) ?_ ?_
  ·refine qB 3 I I I (qB 4 I I I (qB 3 I I I (qB 3 I I I ?_)))
   refine B3 Tryz.underlying66 Tryz.sizeOf35 I I I I I ⟨by decide,by decide⟩ ?_
   refine qP I (qB 10 I I I ?_)
   refine B3 Tryz.underlying66 Tryz.sizeOf35 I I I I I ⟨by decide,by decide⟩ ?_
   refine qP I (qB 10 I I I (qC I I (fun W1 hp=>CK bC (Ae l k').1 (Ae l (k'+1)).1 (hz.x1 k' hk) W1 (B9 hp 2 I) (h.hp hp).v (h.hp hp).t) (qP I (qC I I (fun W1 hp=>Co bC ((Ae l k').1+(Ae l (k'+1)).1) (F0 (Ae l k') (Ae l (k'+1))) (hz.x2 k' hk) W1 (B9 hp 2 I) (h.hp hp).v (h.hp hp).t) (qC I I (fun W1 hp=>CK bC (moX l k') _ (hz.x3 k' hk) W1 (B9 hp 2 I) (h.hp hp).v (h.hp hp).t) (C1 ?_))))))
   rw[←hsx]
   refine wX (wZ (wS 4 I I I (Aa (Ac ?_))))
   refine AN I (by kernel_rfl) ?_
   exact Ar () ⟨I,I,I,I,I,I,tO⟩ [0,1,2,3,4,5,6,7,8,9,10] (by decide) I
  intro _
  refine zE (A0 ?_)
  refine Bg (X:=Unit) [true,true,true,true,true,true,true,true,true,true,true,true,true,true,false] (fun _=>[(5,Aj b5),(8,Aj b8),(11,str (Ad (F0 (Ae l k') (Ae l (k'+1)))))]) (fun _=>[AP L,ptB b2 [] [],caB bC,ckB b5 bC,nuB b6 (moX l (k'+1)),nuB b7 (moY l (k'+1)),nuB b8 (crK l k'),lsB bp (slv p l.length cap),BF d,Bl l' rec .busy none])
   1 [AP L,ptB b2 [] [],caB bC,ckB b5 bC,nuB b6 (moX l (k'+1)),nuB b7 (moY l k'),nuB b8 (crK l k'),lsB bp (slv p l.length cap),BF d,Bl l' rec .busy none,⟨b10,66,(sdV (Ae l k') (Ae l (k'+1))).cells.toList,true,none⟩] Tryz.mixed (by kernel_rfl) ?_ ?_
  ·refine qB 3 I I I (qB 5 I I I (qB 3 I I I (qB 3 I I I ?_)))
   refine B3 Tryz.underlying66 Tryz.sizeOf35 I I I I I ⟨by decide,by decide⟩ ?_
   refine qP I (qB 10 I I I ?_)
   refine B3 Tryz.underlying66 Tryz.sizeOf35 I I I I I ⟨by decide,by decide⟩ ?_
   refine qP I (qB 10 I I I (qC I I (fun W1 hp=>CK bC (Ae l k').2 (Ae l (k'+1)).2 (hz.y1 k' hk) W1 (B9 hp 2 I) (h.hp hp).v (h.hp hp).t) (qP I (qC I I (fun W1 hp=>Co bC ((Ae l k').2+(Ae l (k'+1)).2) (F0 (Ae l k') (Ae l (k'+1))) (hz.y2 k' hk) W1 (B9 hp 2 I) (h.hp hp).v (h.hp hp).t) (qC I I (fun W1 hp=>CK bC (moY l k') _ (hz.y3 k' hk) W1 (B9 hp 2 I) (h.hp hp).v (h.hp hp).t) (C1 ?_))))))
   rw[←hsy]
   refine wX (wZ (wS 5 I I I (Aa (Ac ?_))))
   refine AN I (by kernel_rfl) ?_
   exact Ar () ⟨I,I,I,tO⟩ [0,1,2,3,4,5,6,7,8,9] (by decide) I
  intro _
  refine zE (zB (wB 3 I I I (wB 6 I I I (wP I (wC I I (fun W1 hp=>CK bC (crK l k') (F0 (Ae l k') (Ae l (k'+1))) (hz.s k' hk) W1 (B9 hp 2 I) (h.hp hp).v (h.hp hp).t) ?_)))))
  rw[←hsu]
  exact wS 6 I I I (Aa (zN (Cu 9 (k'+1) hrec I I [] I)))
 ·rintro k' d l' rec e1
  obtain rfl:k'=l.length:=e1
  have ec:crK l l.length=CI l:=rfl
  have ex:moX l l.length=IJ l:=rfl
  have ey:moY l l.length=I2 l:=rfl
  rw[ec,ex,ey]
  refine zN (zE (zA (zB (wB 2 I I I (wB 5 I I I (wC I I (fun W1 hp=>(by have:=Co bC 3 (CI l) hz.m W1 (B9 hp 1 I) (h.hp hp).v (h.hp hp).t;rwa [Wa] at this)) (wS 5 I I I (Aa (zE (A0 ?_))))))))))
  refine Bg (X:=Nat) [true,true,true,true,true,true,true,true,true,false,false] (fun b=>[(2,Aj b2),(5,Aj b5),(12,Aj b)]) (fun b=>[ptB b2 [] [],caB bC,ckB b5 bC,BF d,ptB b (Ad (IJ l/(3*CI l))) (Ad (I2 l/(3*CI l)))])
   2 [ptB b2 [] [],caB bC,ckB b5 bC,nuB b6 (IJ l),nuB b7 (I2 l),nuB b8 (3*CI l),lsB bp (slv p l.length cap),BF d,Bl l' rec .exhausted none] Tryz.mixed (by kernel_rfl) ?_ ?_
  ·refine qB 2 I I I (qB 3 I I I (qB 5 I I I (qC I I (fun W1 hp=>GL bC (IJ l) (3*CI l) hz.dx hz.nz W1 (B9 hp 1 I) (h.hp hp).v (h.hp hp).t) (qB 2 I I I (qB 4 I I I (qB 5 I I I (qC I I (fun W1 hp=>GL bC (I2 l) (3*CI l) hz.dy hz.nz W1 (B9 hp 1 I) (h.hp hp).v (h.hp hp).t) ?_)))))))
   refine HU Tryz.hZ tH I I I I I I I I ?_
   refine C1 (wX (wZ ?_))
   refine Ah Tryz.hZ rfl rfl rfl rfl ?_;intro b
   refine Aa (Ac (wX (wZ (wS 9 I I I (Aa (Ac ?_))))))
   refine A9 I (by((repeat (first|refine AC.same ?_|refine AC.off I ?_));exact tO)) ?_
   exact Ar b ⟨I,I,I,tO⟩ [0,1,2,7,9] (by decide) I
  intro b12
  refine zE (zA (zA (zB (wB 2 I I I ?_))))
  refine AO I I I I ?_
  refine wP I (wB 1 I I I (wP I (Aa (zE (zS I (zI (zE (zA (zB (wB 4 I I I (wS 0 I I I (wP I (Aa ?_)))))))))))))
  refine zE (zO ?_)
  refine CW 3 I ?_
  exact AJ tH I (.cell 0 I I I I I) (.tmp I) () I tO fun W _=>As.nil _ _
-- BOXES 3
-- CODE2
section
variable {P:Program} {W0:World} {N:Nat} {D:List Deferred} {ops:List Oper} {o:Oper} {rest:List Oper} {env:Env} {bxs:List Bx} {A2:World→Prop} {R:Act→World→Prop}
theorem Ti {ρ:Operand→Value} {c:Call} {f:Operand} {g:Nat} {first vs:List Value} {W:World} (ho:o.op= .call c) (hc:c.callee= .value f) (hf:ρ f= .func (.func g) first.toArray #[]) (ha:c.args.map ρ=vs.toArray) (hE:Bf P g=true):
  (execOp ρ o).run P W= .ok (.enter g (first++vs).toArray) W:=by
 simp only[execOp,ho,resolve,hc,hf,ha,Sem.run_bind,Deferred.ofValue,Sem.run_pure,Result.andThen_ok,invoke,FM hE]
 simp
theorem Q2 {c:Call} {f:Operand} {g d:Nat} {first vs:List Value} {v:Value}
  (hg:A8 ops N env o=some true) (hd:o.dst=some d) (ho:o.op= .call c) (hc:c.callee= .value f) (hf:evO N env f=some (.func (.func g) first.toArray #[])) (ha:Cq (evO N env) c.args.toList=some vs) (hE:Bf P g=true)
  (hC: ∀W,Hp W0 bxs W→Ai P g (first++vs).toArray W (fun _:Unit=>v) (fun _=>True) (fun _=>[]))
  (h:WQ P N D ops A2 R rest ((d,v)::env) (Hp W0 bxs)):WQ P N D ops A2 R (o::rest) env (Hp W0 bxs):=
 KP hd (fun a W h1 _ hp=>by
  unfold OpS
  rw[DM h1 hg,if_pos rfl]
  refine⟨fun c e=>(by rw[ho] at e;cases e), .inr ⟨g,_,Ti ho hc (AD h1 _ _ hf) (EW (AD h1) ha) hE,(hC W hp).out.mono ?_⟩⟩
  rintro e W' ⟨x,he,_,hb,_⟩
  exact⟨he,hp.grow hb,hb⟩) h
end
theorem LG (x:Nat) (h:x≤18446744073709551615) (W:World):Ai Tryz.prog 134 #[.int .u64 (x:Nat)] W (fun _:Unit=> .int .i64 (Lib.bitLen x)) (fun _=>True) (fun _=>[]):=by
 refine Ai.of1 ((Go.Proofs.Any.bits_Len (P:=Tryz.prog) (ρ:=Tryz.lays125_ren) { Tryz.lays125 with } (x:Int) W (by omega) (by omega)).mono ?_)
 rintro e w' ⟨rfl,rfl⟩
 exact⟨I,Below.refl _ _⟩
def DW (x y:Ag):List Ag:=if BD y x=true then[y,x] else[x,y]
abbrev lsF (c:Nat):Value:= .func (.func 71) #[Aj c] #[]
abbrev Br (g:Nat) (l:List Ag) (junk:List Value):Bx:=⟨g,35,ptC l++junk,true,none⟩
theorem U9 {W0 W:World} {bxs:List Bx} (hp:Hp W0 bxs W) (k:Nat) {g:Nat} {x y:Ag} {junk:List Value} (hk:nth bxs k=some (Br g [x,y] junk)):Ak W g (0+0*2) [str (Ad x.1),str (Ad x.2)]:=
 Cv (a:=[str (Ad x.1),str (Ad x.2)]) (b:=[str (Ad y.1),str (Ad y.2)]++junk) (Ak.of_bx hp k hk rfl)
theorem Vi {W0 W:World} {bxs:List Bx} (hp:Hp W0 bxs W) (k:Nat) {g:Nat} {x y:Ag} {junk:List Value} (hk:nth bxs k=some (Br g [x,y] junk)):Ak W g (0+1*2) [str (Ad y.1),str (Ad y.2)]:=
 Cv (a:=[str (Ad y.1),str (Ad y.2)]) (b:=junk) (HV (a:=[str (Ad x.1),str (Ad x.2)]) (b:=[str (Ad y.1),str (Ad y.2)]++junk) (Ak.of_bx hp k hk rfl))
structure SrN (c g:Nat) (x y:Ag) (W:World):Prop where
 k: ∀W',Ga W W' g→CH W' c∧BL W'∧AM W'
 s1:Sz2 y.1 x.1
 s2:Sz2 y.2 x.2
theorem SrN.trans {c g:Nat} {x y:Ag} {W W':World} (h:SrN c g x y W) (hk:Ga W W' g):SrN c g x y W':=⟨fun W2 h2=>h.k W2 (hk.trans h2),h.s1,h.s2⟩
theorem RC (c:Nat) (W:World) (g cap:Nat) (x y:Ag) (junk:List Value) (hg:W.heap[g]? =some (.cells (ptC [x,y]++junk).toArray 35 (0,0))) (h:SrN c g x y W):
  Calls Tryz.prog 181 #[.slice (some ⟨g,0,none⟩) 2 cap, .int .i64 0, .int .i64 2,lsF c] W fun e W'=> ∃x1:Unit,e= .returned ((fun _=> .tuple #[]) x1)∧True∧IU W W' g ((fun _=>g) x1) ((fun _=> .cells (ptC (DW x y)++junk).toArray 35 (0,0)) x1):=by
 have key:Calls Tryz.prog 181 [.slice (some ⟨g,0,none⟩) 2 cap, .int .i64 0, .int .i64 2,lsF c].toArray W fun e W'=> ∃x1:Unit,e= .returned ((fun _=> .tuple #[]) x1)∧(fun _=>True) x1∧Below (AZ W).heap.size (AZ W) W'∧As (AZ W) W' ((fun _=>[AP (At W g),Br g (DW x y) junk]) x1):=by
  refine BO (X:=Unit) (val:=fun _=> .tuple #[]) (Φ:=fun _=>True) (nb:=fun _=>[AP (At W g),Br g (DW x y) junk]) (Hp.enterT (B:=Br g [x,y] junk) I hg) Tryz.func181 I I I ?_
  refine zA (zB (wP I (wP I (wP I (Aa (zE (zH ?_)))))))
  refine AA (X:=Bool) (fun b=>[(0, .slice (some ⟨g,0,none⟩) 2 cap),(1, .int .i64 0),(2, .int .i64 2),(3,lsF c),(8, .int .i64 (if b then 2 else 1))]) (fun b=>[AP (At W g),Br g (if b then DW x y else[x,y]) junk]) (fun _=>True) (fun b=>if b then 0 else 1) false tO ⟨I,I,I,I,I,tO⟩ [] I ?_
  intro b _
  cases b with
  |true=>
   exact zA (zA (zB (wP I (wP I (wP I (Aa (zE (zS I (zJ (zK (zK (zL (La (X:=Unit) (val:=fun _=> .tuple #[]) (Φ:=fun _=>True) (nb:=fun _=>[AP (At W g),Br g (DW x y) junk]) (fn:=Tryz.f181) tH I () I tO fun W1 hp=>(hp.pick (l:=[AP (At W g),Br g (DW x y) junk]) [0,1] (by decide) I).own)))))))))))))
  |false=>
   refine zA (zA (zB (wP I (wP I (wP I (Aa (zE (zR I (zI (zE (zA (zH (zA ?_)))))))))))))
   refine zB (wP I (wP I (Aa (zE (zH ?_)))))
   refine AA (X:=Bool) (fun b=>[(0, .slice (some ⟨g,0,none⟩) 2 cap),(1, .int .i64 0),(2, .int .i64 2),(3,lsF c),(8, .int .i64 1),(9, .int .i64 (if b then 0 else 1))]) (fun b=>[AP (At W g),Br g (if b then[y,x] else[x,y]) junk]) (fun b=>b=true→BD y x=true) (fun b=>if b then 0 else 1) false (fun h=>by cases h) ⟨rfl,rfl,rfl,rfl,rfl,rfl,trivial⟩ [] rfl ?_
   intro b hb
   cases b with
   |true=>
    have hlt:=hb rfl
    have e:DW x y=[y,x]:=by unfold DW;rw[if_pos hlt]
    refine zA (zA (zU (qP I (qP I (qP I (qP I ?_))))))
    iterate 12 refine HZ I I ?_
    refine qP I (AT (Aa (zE (zS I (zJ (zK (zK (zL (zN (zE (zB (wP I (wP I (wP I ?_))))))))))))))
    exact Aa (A6 true tO (by decide) ⟨I,I,I,I,I,tO⟩ [] (by show _=[AP (At W g),Br g (DW x y) junk];rw[e];rfl))
   |false=>
    refine zA (zA (zU ?_))
    iterate 7 refine qP I ?_
    refine qI I I (by decide) (by decide) (qL 0 I I (fun W1 hp=>Vi hp 1 I) I (qP I (qP I (qP I (qI I I (by decide) (by decide) (qL 0 I I (fun W1 hp=>U9 hp 1 I) I ?_))))))
    refine Q2 (first:=[Aj c]) I I I I I I (by kernel_rfl) (fun W1 hp=>(by
     obtain⟨hc,hv,ht⟩:=h.k W1 (FN hg ⟨_,List.mem_cons_self ..⟩ hp)
     exact K5 c y x h.s1 h.s2 W1 hc hv ht)) ?_
    refine qP I (qU 33 (BD y x) I (Lb y x) ?_)
    cases hlt:BD y x with
    |false=>
     have e:DW x y=[x,y]:=by unfold DW;rw[hlt];rfl
     refine qP I (AT (Aa (zE (zS I (zJ (zK (zK (zL (zN (zE (zB (wP I (wP I (wP I ?_))))))))))))))
     exact Aa (A6 true tO (by decide) ⟨I,I,I,I,I,tO⟩ [] (by show _=[AP (At W g),Br g (DW x y) junk];rw[e];rfl))
    |true=>
     refine qP I (AT (Aa (zE (zR I (zI (zE (A0 (CP ?_))))))))
     repeat refine A0 ?_
     refine Bg (X:=Unit) [true,true,false,false,false,true,true,true,true,true,true,true,true,true,true,false,false,false] (fun _=>[(0, .slice (some ⟨g,0,none⟩) 2 cap),(1, .int .i64 0),(2, .int .i64 2),(3,lsF c),(8, .int .i64 1),(9, .int .i64 1)]) (fun _=>[AP (At W g),Br g [y,x] junk])
      6 [AP (At W g),Br g [x,y] junk] Tryz.mixed (by kernel_rfl) ?_ ?_
     ·refine qP I (qP I (qP I (qP I (qP I (qI I I (by decide) (by decide) (qL 0 I I (fun W1 hp=>U9 hp 1 I) I (qP I (qP I (qI I I (by decide) (by decide) (qL 0 I I (fun W1 hp=>Vi hp 1 I) I (qI I I (by decide) (by decide) (C1 (wX ?_)))))))))))))
      refine RS.cons ?_ (RS.cons ?_ (RS.cons ?_ (RS.nil)))
      ·refine wP I (Aa (Ac (wX ?_)))
       refine RS.cons ?_ (RS.cons ?_ (RS.nil))
       ·refine wP I (Aa (Ac (wX ?_)))
        refine RS.cons ?_ (RS.cons ?_ (RS.nil))
        ·refine wP I (Aa (Ac (wX (wZ ?_))))
         refine Aw 1 (ptC [x,x]++junk) tH I I I I I I I I I I (by show 0+1*2+2≤(ptC [x,y]++junk).length;rw[List.length_append,AR];show 4≤4+_;omega) I ?_
         refine Aa (Ac (wY (wZ (wI I I (by decide) (by decide) (Aa (Ac (wY (wZ ?_))))))))
         refine Aw 1 (ptC [y,x]++junk) tH I I I I I I I I I I (by show 0+0*2+2≤(ptC [x,x]++junk).length;rw[List.length_append,AR];show 2≤4+_;omega) I ?_
         refine Aa (Ac ?_)
         refine AN I (by kernel_rfl) ?_
         exact Ar () ⟨I,I,I,I,I,I,tO⟩ [0,1] (by decide) I
        ·refine Aw 1 (ptC [x,x]++junk) tH I I I I I I I I I I (by show 0+1*2+2≤(ptC [x,y]++junk).length;rw[List.length_append,AR];show 4≤4+_;omega) I ?_
         refine Aa (Ac (wY (wZ (wP I (Aa (Ac (wY (wZ (wI I I (by decide) (by decide) (Aa (Ac (wY (wZ ?_)))))))))))))
         refine Aw 1 (ptC [y,x]++junk) tH I I I I I I I I I I (by show 0+0*2+2≤(ptC [x,x]++junk).length;rw[List.length_append,AR];show 2≤4+_;omega) I ?_
         refine Aa (Ac ?_)
         refine AN I (by kernel_rfl) ?_
         exact Ar () ⟨I,I,I,I,I,I,tO⟩ [0,1] (by decide) I
       ·refine Aw 1 (ptC [x,x]++junk) tH I I I I I I I I I I (by show 0+1*2+2≤(ptC [x,y]++junk).length;rw[List.length_append,AR];show 4≤4+_;omega) I ?_
        refine Aa (Ac (wY (wZ (wP I (Aa (Ac (wY (wZ (wP I (Aa (Ac (wY (wZ ?_)))))))))))))
        refine wI I I (by decide) (by decide) (Aa (Ac (wY (wZ ?_))))
        refine Aw 1 (ptC [y,x]++junk) tH I I I I I I I I I I (by show 0+0*2+2≤(ptC [x,x]++junk).length;rw[List.length_append,AR];show 2≤4+_;omega) I ?_
        refine Aa (Ac ?_)
        refine AN I (by kernel_rfl) ?_
        exact Ar () ⟨I,I,I,I,I,I,tO⟩ [0,1] (by decide) I
      ·refine wP I (Aa (Ac (wX ?_)))
       refine RS.cons ?_ (RS.cons ?_ (RS.cons ?_ (RS.nil)))
       ·refine wP I (Aa (Ac (wX ?_)))
        refine RS.cons ?_ (RS.cons ?_ (RS.nil))
        ·refine wP I (Aa (Ac (wX (wZ ?_))))
         refine Aw 1 (ptC [x,x]++junk) tH I I I I I I I I I I (by show 0+1*2+2≤(ptC [x,y]++junk).length;rw[List.length_append,AR];show 4≤4+_;omega) I ?_
         refine Aa (Ac (wY (wZ (wI I I (by decide) (by decide) (Aa (Ac (wY (wZ ?_))))))))
         refine Aw 1 (ptC [y,x]++junk) tH I I I I I I I I I I (by show 0+0*2+2≤(ptC [x,x]++junk).length;rw[List.length_append,AR];show 2≤4+_;omega) I ?_
         refine Aa (Ac ?_)
         refine AN I (by kernel_rfl) ?_
         exact Ar () ⟨I,I,I,I,I,I,tO⟩ [0,1] (by decide) I
        ·refine Aw 1 (ptC [x,x]++junk) tH I I I I I I I I I I (by show 0+1*2+2≤(ptC [x,y]++junk).length;rw[List.length_append,AR];show 4≤4+_;omega) I ?_
         refine Aa (Ac (wY (wZ (wP I (Aa (Ac (wY (wZ (wI I I (by decide) (by decide) (Aa (Ac (wY (wZ ?_)))))))))))))
         refine Aw 1 (ptC [y,x]++junk) tH I I I I I I I I I I (by show 0+0*2+2≤(ptC [x,x]++junk).length;rw[List.length_append,AR];show 2≤4+_;omega) I ?_
         refine Aa (Ac ?_)
         refine AN I (by kernel_rfl) ?_
         exact Ar () ⟨I,I,I,I,I,I,tO⟩ [0,1] (by decide) I
       ·refine wP I (Aa (Ac (wX ?_)))
        refine RS.cons ?_ (RS.cons ?_ (RS.nil))
        ·refine wP I (Aa (Ac (wX (wZ ?_))))
         refine Aw 1 (ptC [x,x]++junk) tH I I I I I I I I I I (by show 0+1*2+2≤(ptC [x,y]++junk).length;rw[List.length_append,AR];show 4≤4+_;omega) I ?_
         refine Aa (Ac (wY (wZ (wI I I (by decide) (by decide) (Aa (Ac (wY (wZ ?_))))))))
         refine Aw 1 (ptC [y,x]++junk) tH I I I I I I I I I I (by show 0+0*2+2≤(ptC [x,x]++junk).length;rw[List.length_append,AR];show 2≤4+_;omega) I ?_
         refine Aa (Ac ?_)
         refine AN I (by kernel_rfl) ?_
         exact Ar () ⟨I,I,I,I,I,I,tO⟩ [0,1] (by decide) I
        ·refine Aw 1 (ptC [x,x]++junk) tH I I I I I I I I I I (by show 0+1*2+2≤(ptC [x,y]++junk).length;rw[List.length_append,AR];show 4≤4+_;omega) I ?_
         refine Aa (Ac (wY (wZ (wP I (Aa (Ac (wY (wZ (wI I I (by decide) (by decide) (Aa (Ac (wY (wZ ?_)))))))))))))
         refine Aw 1 (ptC [y,x]++junk) tH I I I I I I I I I I (by show 0+0*2+2≤(ptC [x,x]++junk).length;rw[List.length_append,AR];show 2≤4+_;omega) I ?_
         refine Aa (Ac ?_)
         refine AN I (by kernel_rfl) ?_
         exact Ar () ⟨I,I,I,I,I,I,tO⟩ [0,1] (by decide) I
       ·refine Aw 1 (ptC [x,x]++junk) tH I I I I I I I I I I (by show 0+1*2+2≤(ptC [x,y]++junk).length;rw[List.length_append,AR];show 4≤4+_;omega) I ?_
        refine Aa (Ac (wY ?_))
        refine RS.cons ?_ (RS.cons ?_ (RS.nil))
        ·refine wP I (Aa (Ac (wY (wZ (wP I (Aa (Ac (wY (wZ (wI I I (by decide) (by decide) (Aa (Ac (wY ?_)))))))))))))
         refine wZ ?_
         refine Aw 1 (ptC [y,x]++junk) tH I I I I I I I I I I (by show 0+0*2+2≤(ptC [x,x]++junk).length;rw[List.length_append,AR];show 2≤4+_;omega) I ?_
         refine Aa (Ac ?_)
         refine AN I (by kernel_rfl) ?_
         exact Ar () ⟨I,I,I,I,I,I,tO⟩ [0,1] (by decide) I
        ·refine wP I (Aa (Ac (wY (wZ (wP I (Aa (Ac (wY (wZ (wI I I (by decide) (by decide) (Aa (Ac (wY ?_)))))))))))))
         refine wZ ?_
         refine Aw 1 (ptC [y,x]++junk) tH I I I I I I I I I I (by show 0+0*2+2≤(ptC [x,x]++junk).length;rw[List.length_append,AR];show 2≤4+_;omega) I ?_
         refine Aa (Ac ?_)
         refine AN I (by kernel_rfl) ?_
         exact Ar () ⟨I,I,I,I,I,I,tO⟩ [0,1] (by decide) I
      ·refine Aw 1 (ptC [x,x]++junk) tH I I I I I I I I I I (by show 0+1*2+2≤(ptC [x,y]++junk).length;rw[List.length_append,AR];show 4≤4+_;omega) I ?_
       refine Aa (Ac (wY ?_))
       refine RS.cons ?_ (RS.cons ?_ (RS.nil))
       ·refine wP I (Aa (Ac (wY (wZ (wP I (Aa (Ac (wY (wZ (wP I (Aa (Ac (wY ?_)))))))))))))
        refine wZ (wI I I (by decide) (by decide) (Aa (Ac (wY (wZ ?_)))))
        refine Aw 1 (ptC [y,x]++junk) tH I I I I I I I I I I (by show 0+0*2+2≤(ptC [x,x]++junk).length;rw[List.length_append,AR];show 2≤4+_;omega) I ?_
        refine Aa (Ac ?_)
        refine AN I (by kernel_rfl) ?_
        exact Ar () ⟨I,I,I,I,I,I,tO⟩ [0,1] (by decide) I
       ·refine wP I (Aa (Ac (wY ?_)))
        refine RS.cons ?_ (RS.cons ?_ (RS.nil))
        ·refine wP I (Aa (Ac (wY (wZ (wP I (Aa (Ac (wY (wZ (wI I I (by decide) (by decide) (Aa (Ac (wY ?_)))))))))))))
         refine wZ ?_
         refine Aw 1 (ptC [y,x]++junk) tH I I I I I I I I I I (by show 0+0*2+2≤(ptC [x,x]++junk).length;rw[List.length_append,AR];show 2≤4+_;omega) I ?_
         refine Aa (Ac ?_)
         refine AN I (by kernel_rfl) ?_
         exact Ar () ⟨I,I,I,I,I,I,tO⟩ [0,1] (by decide) I
        ·refine wP I (Aa (Ac (wY (wZ (wP I (Aa (Ac (wY (wZ (wI I I (by decide) (by decide) (Aa (Ac (wY ?_)))))))))))))
         refine wZ ?_
         refine Aw 1 (ptC [y,x]++junk) tH I I I I I I I I I I (by show 0+0*2+2≤(ptC [x,x]++junk).length;rw[List.length_append,AR];show 2≤4+_;omega) I ?_
         refine Aa (Ac ?_)
         refine AN I (by kernel_rfl) ?_
         exact Ar () ⟨I,I,I,I,I,I,tO⟩ [0,1] (by decide) I
     intro _
     exact zN (zE (zB (wP I (wP I (wP I (Aa (A6 true (fun _=>rfl) (by decide) ⟨I,I,I,I,I,I,tO⟩ [] I)))))))
 refine key.mono ?_
 rintro e W' ⟨x1,he,_,hb,hn'⟩
 exact⟨x1,he,tO,E5 hg I hb hn'⟩
theorem Rx (c:Nat) (W:World) (g cap:Nat) (x y:Ag) (junk:List Value) (z:Int) (hg:W.heap[g]? =some (.cells (ptC [x,y]++junk).toArray 35 (0,0))) (h:SrN c g x y W):
  Calls Tryz.prog 133 #[.slice (some ⟨g,0,none⟩) 2 cap, .int .i64 0, .int .i64 2, .int .i64 z,lsF c] W fun e W'=> ∃x1:Unit,e= .returned ((fun _=> .tuple #[]) x1)∧True∧IU W W' g ((fun _=>g) x1) ((fun _=> .cells (ptC (DW x y)++junk).toArray 35 (0,0)) x1):=by
 have key:Calls Tryz.prog 133 [.slice (some ⟨g,0,none⟩) 2 cap, .int .i64 0, .int .i64 2, .int .i64 z,lsF c].toArray W fun e W'=> ∃x1:Unit,e= .returned ((fun _=> .tuple #[]) x1)∧(fun _=>True) x1∧Below (AZ W).heap.size (AZ W) W'∧As (AZ W) W' ((fun _=>[AP (At W g),Br g (DW x y) junk]) x1):=by
  refine BO (X:=Unit) (val:=fun _=> .tuple #[]) (Φ:=fun _=>True) (nb:=fun _=>[AP (At W g),Br g (DW x y) junk]) (Hp.enterT (B:=Br g [x,y] junk) I hg) Tryz.func133 I I I ?_
  refine zA (zB (wP I (Aa (zE (zA (zB (wP I (Aa (zE (zH ?_))))))))))
  refine AA (X:=Unit) (fun _=>[(0, .slice (some ⟨g,0,none⟩) 2 cap),(1, .int .i64 0),(2, .int .i64 2),(3, .int .i64 z),(4,lsF c)]) (fun _=>[AP (At W g),Br g [x,y] junk]) (fun _=>True) (fun _=>0) () tO ⟨I,I,I,I,I,tO⟩ [] I ?_
  intro _ _
  refine zH (zA (zB (wP I (wP I (wP I (wP I (Aa (zE (zA (zA (zB (wP I (wP I ?_)))))))))))))
  refine Aa (zE (zR I (zA (zB (wP I (wP I (wP I (wP I ?_))))))))
  refine D0 (X:=Unit) (val:=fun _=> .tuple #[]) (Φ:=fun _=>True) (capt:=[]) 1 (B:=Br g [x,y] junk) (L1:=[]) (L2:=[]) (b:=g) (ob:= .cells (ptC [x,y]++junk).toArray 35 (0,0)) (fun _=>Br g (DW x y) junk) (g':=fun _=>g) (o':=fun _=> .cells (ptC (DW x y)++junk).toArray 35 (0,0))
   rfl rfl rfl rfl rfl rfl (by kernel_rfl) rfl rfl (fun _ _=>rfl) (fun W1 hp=>RC c W1 g cap x y junk (hp.own.cell 1 _ rfl (g, .cells (ptC [x,y]++junk).toArray 35 (0,0)) (List.mem_cons_self ..)).1 (h.trans (FN hg ⟨_,List.mem_cons_self ..⟩ hp))) (fun _ _=> ?_)
  refine Aa (zE (zO (zP (zQ (zP (zQ ?_))))))
  refine Sl (X:=Unit) (val:=fun _=> .tuple #[]) (Φ:=fun _=>True) (nb:=fun _=>[AP (At W g),Br g (DW x y) junk]) (fn:=Tryz.f133) tH I () I tO fun W1 hp=> ?_
  exact(hp.pick (l:=[AP (At W g),Br g (DW x y) junk]) [0,1] (by decide) I).own
 refine key.mono ?_
 rintro e W' ⟨x1,he,_,hb,hn'⟩
 exact⟨x1,he,tO,E5 hg I hb hn'⟩
theorem QF (c:Nat) (W:World) (g cap:Nat) (x y:Ag) (junk:List Value) (hg:W.heap[g]? =some (.cells (ptC [x,y]++junk).toArray 35 (0,0))) (h:SrN c g x y W):
  Calls Tryz.prog 70 #[.slice (some ⟨g,0,none⟩) 2 cap,lsF c] W fun e W'=> ∃x1:Unit,e= .returned ((fun _=> .tuple #[]) x1)∧True∧IU W W' g ((fun _=>g) x1) ((fun _=> .cells (ptC (DW x y)++junk).toArray 35 (0,0)) x1):=by
 have key:Calls Tryz.prog 70 [.slice (some ⟨g,0,none⟩) 2 cap,lsF c].toArray W fun e W'=> ∃x1:Unit,e= .returned ((fun _=> .tuple #[]) x1)∧(fun _=>True) x1∧Below (AZ W).heap.size (AZ W) W'∧As (AZ W) W' ((fun _=>[AP (At W g),Br g (DW x y) junk]) x1):=by
  refine BO (X:=Unit) (val:=fun _=> .tuple #[]) (Φ:=fun _=>True) (nb:=fun _=>[AP (At W g),Br g (DW x y) junk]) (Hp.enterT (B:=Br g [x,y] junk) I hg) Tryz.func70 I I I ?_
  refine zA (zB (wP I (wP I (wP I (Aa (zE (zB (wP I (wP I (wP I ?_))))))))))
  refine I5 (k:= .u64) (kt:= .i64) (by kernel_rfl) (by kernel_rfl) I I I I ?_
  refine Af 10 (.int .u64 ((2:Nat):Int)) I I ?_
  refine Bo (capt:=[]) I I I I I I (by kernel_rfl) (fun W _=>LG 2 (by decide) W) ?_
  refine wP I ?_
  refine D0 (X:=Unit) (val:=fun _=> .tuple #[]) (Φ:=fun _=>True) (capt:=[]) 1 (B:=Br g [x,y] junk) (L1:=[]) (L2:=[]) (b:=g) (ob:= .cells (ptC [x,y]++junk).toArray 35 (0,0)) (fun _=>Br g (DW x y) junk) (g':=fun _=>g) (o':=fun _=> .cells (ptC (DW x y)++junk).toArray 35 (0,0))
   rfl rfl rfl rfl rfl rfl (by kernel_rfl) rfl rfl (fun _ _=>rfl) (fun W1 hp=>Rx c W1 g cap x y junk _ (hp.own.cell 1 _ rfl (g, .cells (ptC [x,y]++junk).toArray 35 (0,0)) (List.mem_cons_self ..)).1 (h.trans (FN hg ⟨_,List.mem_cons_self ..⟩ hp))) (fun _ _=> ?_)
  refine Aa ?_
  refine La (X:=Unit) (val:=fun _=> .tuple #[]) (Φ:=fun _=>True) (nb:=fun _=>[AP (At W g),Br g (DW x y) junk]) (fn:=Tryz.f70) tH I () I tO fun W1 hp=> ?_
  exact(hp.pick (l:=[AP (At W g),Br g (DW x y) junk]) [0,1] (by decide) I).own
 refine key.mono ?_
 rintro e W' ⟨x1,he,_,hb,hn'⟩
 exact⟨x1,he,tO,E5 hg I hb hn'⟩
-- BOXES 3
-- CODE2
def Hf (x:Ag):List Ag→List Ag
 |[]=>[x]
 |y::l=>if BD x y=true then x::y::l else y::Hf x l
def C8 (l:List Ag):List Ag:=l.foldl (fun s x=>Hf x s) []
theorem PP (x:Ag): ∀l,(Hf x l).length=l.length+1
 |[]=>rfl
 |y::l=>by
  unfold Hf
  split
  ·rfl
  ·rw[List.length_cons,PP x l];rfl
theorem Lr {x y:Ag}: ∀ {l:List Ag},y∈Hf x l↔y=x∨y∈l
 |[]=>by simp[Hf]
 |z::l=>by
  unfold Hf
  split
  ·simp
  ·rw[List.mem_cons,Lr (l:=l),List.mem_cons]
   constructor
   ·rintro(h|h|h)
    ·exact .inr (.inl h)
    ·exact .inl h
    ·exact .inr (.inr h)
   ·rintro(h|h|h)
    ·exact .inr (.inl h)
    ·exact .inl h
    ·exact .inr (.inr h)
theorem Kv {a b c:Ag} (h1: ¬AH b a) (h2: ¬AH c b): ¬AH c a:=fun h=>by
 rcases Do a b with d|d|d
 ·exact h2 (Kq h d)
 ·subst d;exact h2 h
 ·exact h1 d
abbrev SrC (l:List Ag):Prop:=l.Pairwise fun a b=> ¬AH b a
theorem PM {x:Ag}: ∀ {l:List Ag},SrC l→SrC (Hf x l)
 |[],_=>List.pairwise_cons.2 ⟨fun _ h=>absurd h List.not_mem_nil,List.Pairwise.nil⟩
 |y::l,h=>by
  have⟨h1,h2⟩:=List.pairwise_cons.1 h
  unfold Hf
  split
  ·rename_i c
   have c:=Cl.1 c
   refine List.pairwise_cons.2 ⟨fun z hz=> ?_,h⟩
   rcases List.mem_cons.1 hz with rfl|hz
   ·exact Dd c
   ·exact Kv (Dd c) (h1 z hz)
  ·rename_i c
   refine List.pairwise_cons.2 ⟨fun z hz=> ?_,PM h2⟩
   rcases Lr.1 hz with rfl|hz
   ·exact fun d=>c (Cl.2 d)
   ·exact h1 z hz
theorem HN: ∀(l s:List Ag),SrC s→SrC (l.foldl (fun s x=>Hf x s) s)∧(l.foldl (fun s x=>Hf x s) s).length=s.length+l.length∧ ∀y,y∈l.foldl (fun s x=>Hf x s) s↔y∈s∨y∈l
 |[],s,h=>⟨h,rfl,fun y=>by simp⟩
 |x::l,s,h=>by
  obtain⟨a,b,c⟩:=HN l (Hf x s) (PM h)
  refine⟨a,by rw[List.foldl_cons,b,PP,List.length_cons];omega,fun y=> ?_⟩
  rw[List.foldl_cons,c,Lr,List.mem_cons]
  constructor
  ·rintro((h|h)|h)
   ·exact .inr (.inl h)
   ·exact .inl h
   ·exact .inr (.inr h)
  ·rintro(h|h|h)
   ·exact .inl (.inr h)
   ·exact .inl (.inl h)
   ·exact .inr h
theorem LR (l:List Ag):SrC (C8 l):=(HN l [] List.Pairwise.nil).1
theorem LT (l:List Ag):(C8 l).length=l.length:=by
 have:=(HN l [] List.Pairwise.nil).2.1
 rw[List.length_nil,Nat.zero_add] at this;exact this
theorem Pe {l:List Ag} {y:Ag}:y∈C8 l↔y∈l:=by
 have:=(HN l [] List.Pairwise.nil).2.2 y
 exact this.trans (by simp)
theorem T1 (l:List Ag) {i:Nat} (hi:i<l.length):C8 (l.take (i+1))=Hf l[i] (C8 (l.take i)):=by
 rw[C8,List.take_add_one,List.getElem?_eq_getElem hi,List.foldl_append];rfl
theorem L3 {x:Ag}: ∀(s:List Ag) (j:Nat),j≤s.length→(∀y∈s.take j, ¬AH x y)→(∀y∈s.drop j,AH x y)→Hf x s=s.take j++x::s.drop j
 |[],j,hj,_,_=>by
  obtain rfl:j=0:=by simpa using hj
  rfl
 |y::l,0,_,_,h2=>by
  unfold Hf
  rw[if_pos (Cl.2 (h2 y (List.mem_cons_self ..)))];rfl
 |y::l,j+1,hj,h1,h2=>by
  unfold Hf
  rw[if_neg (fun c=>h1 y (by simp) (Cl.1 c)),L3 l j (by simpa using hj) (fun z hz=>h1 z (by simp[hz])) (fun z hz=>h2 z (by simpa using hz))]
  rfl
theorem Tn {x:Ag} {s:List Ag} {j:Nat} (hs:SrC s) (hj:j≤s.length) (h2: ∀y∈s.drop j,AH x y) (h1: ∀(h:0<j), ¬AH x s[j-1]):Hf x s=s.take j++x::s.drop j:=by
 refine L3 s j hj (fun y hy=> ?_) h2
 obtain⟨k,hk,rfl⟩:=List.getElem_of_mem hy
 have hk':k<j:=by simp at hk;omega
 rw[List.getElem_take]
 have h3:=h1 (by omega)
 by_cases e:k=j-1
 ·subst e;exact h3
 ·exact Kv (List.pairwise_iff_getElem.1 hs k (j-1) (by omega) (by omega) (by omega)) h3
theorem RA (l:List Ag):C8 (l.take 1)++l.drop 1=l:=by
 cases l with
 |nil=>rfl
 |cons x l=>rfl
abbrev Kc (c:Nat) (x y:Ag) (W:World):Prop:=Ai Tryz.prog 71 #[Aj c,cvV x,cvV y] W (fun _:Unit=> .int .i64 (Ic x y)) (fun _=>True) (fun _=>[])
theorem Ri (c:Nat) (W:World) (g cap:Nat) (l:List Ag) (junk:List Value) (hn:l.length<4611686018427387904) (hg:W.heap[g]? =some (.cells (ptC l++junk).toArray 35 (0,0)))
  (hf: ∀W',Ga W W' g→ ∀x∈l, ∀y∈l,Kc c x y W'):
  Calls Tryz.prog 181 #[.slice (some ⟨g,0,none⟩) l.length cap, .int .i64 0, .int .i64 (l.length:Nat),lsF c] W fun e W'=> ∃x:Unit,e= .returned ((fun _=> .tuple #[]) x)∧True∧IU W W' g ((fun _=>g) x) ((fun _=> .cells (ptC (C8 l)++junk).toArray 35 (0,0)) x):=by
 have key:Calls Tryz.prog 181 [.slice (some ⟨g,0,none⟩) l.length cap, .int .i64 0, .int .i64 (l.length:Nat),lsF c].toArray W fun e W'=> ∃x:Unit,e= .returned ((fun _=> .tuple #[]) x)∧(fun _=>True) x∧Below (AZ W).heap.size (AZ W) W'∧As (AZ W) W' ((fun _=>[AP (At W g),Br g (C8 l) junk]) x):=by
  refine BO (X:=Unit) (val:=fun _=> .tuple #[]) (Φ:=fun _=>True) (nb:=fun _=>[AP (At W g),Br g (C8 l) junk]) (Hp.enterT (B:=Br g l junk) I hg) Tryz.func181 I I I ?_
  refine zA (zB (wP I (wP I (wP I (Aa (zE (zH ?_)))))))
  refine AA (X:=Nat) (fun i=>[(0, .slice (some ⟨g,0,none⟩) l.length cap),(1, .int .i64 0),(2, .int .i64 (l.length:Nat)),(3,lsF c),(8, .int .i64 (i:Nat))]) (fun i=>[AP (At W g),Br g (C8 (l.take i)++l.drop i) junk])
   (fun i=>1≤i∧(i≤l.length∨i=1)) (fun i=>l.length+1-i) 1 ⟨Nat.le_refl _, .inr rfl⟩ ⟨rfl,rfl,rfl,rfl,rfl,trivial⟩ [] (by rw[RA];rfl) ?_
  rintro i ⟨hi1,hi2⟩
  refine zA (zA (zB (wP I (wP I (wP I ?_)))))
  by_cases hlt:i<l.length
  rotate_left
  ·refine wU 14 false I (dF (by omega)) (Aa (zE (zS I (zJ (zK (zK (zL ?_)))))))
   have e:C8 (l.take i)++l.drop i=C8 l:=by rw[List.take_of_length_le (by omega),List.drop_of_length_le (by omega),List.append_nil]
   refine La (X:=Unit) (val:=fun _=> .tuple #[]) (Φ:=fun _=>True) (nb:=fun _=>[AP (At W g),Br g (C8 l) junk]) (fn:=Tryz.f181) tH I () I tO fun W1 hp=> ?_
   rw[e] at hp
   exact(hp.pick (l:=[AP (At W g),Br g (C8 l) junk]) [0,1] (by decide) I).own
  refine wU 14 true I (dT (by omega)) (Aa (zE (zR I (zI (zE (zA (zH (zA (zB (wP I (wP I (Aa (zE ?_)))))))))))))
  refine zH ?_
  obtain⟨s,hs⟩: ∃s,s=C8 (l.take i):=⟨_,rfl⟩
  obtain⟨x,hx⟩: ∃x,x=l[i]:=⟨_,rfl⟩
  obtain⟨rr,hr⟩: ∃rr,rr=l.drop (i+1):=⟨_,rfl⟩
  have hsl:s.length=i:=by rw[hs,LT,List.length_take];omega
  have hsort:SrC s:=hs▸LR _
  have hdrop:l.drop i=x::rr:=by rw[hx,hr];exact List.drop_eq_getElem_cons hlt
  have hrl:rr.length=l.length-(i+1):=by rw[hr,List.length_drop]
  have hxl:x∈l:=hx▸List.getElem_mem hlt
  have hsm: ∀y∈s,y∈l:=fun y hy=>by rw[hs] at hy;exact List.mem_of_mem_take (Pe.1 hy)
  have hnext: ∀j,j≤s.length→(∀y∈s.drop j,AH x y)→(∀(h:0<j), ¬AH x s[j-1]!)→s.take j++x::s.drop j++rr=C8 (l.take (i+1))++l.drop (i+1):=fun j h1 h2 h3=>by
   rw[T1 l hlt, ←hs, ←hx, ←hr,Tn hsort h1 h2 fun h=>by have:=h3 h;rwa [getElem!_pos s (j-1) (by omega)] at this]
  refine AA (X:=Nat) (fun j=>[(0, .slice (some ⟨g,0,none⟩) l.length cap),(1, .int .i64 0),(2, .int .i64 (l.length:Nat)),(3,lsF c),(8, .int .i64 (i:Nat)),(9, .int .i64 (j:Nat))]) (fun j=>[AP (At W g),Br g (s.take j++x::s.drop j++rr) junk])
   (fun j=>j≤s.length∧ ∀y∈s.drop j,AH x y) (fun j=>j) i ⟨by omega,by rw[←hsl,List.drop_length];exact fun y hy=>absurd hy List.not_mem_nil⟩ ⟨rfl,rfl,rfl,rfl,rfl,rfl,trivial⟩ [] (by rw[←hs,hdrop, ←hsl,List.take_length,List.drop_length,List.append_assoc];rfl) ?_
  rintro j ⟨hj,hgt⟩
  have hj:j≤s.length:=hj
  have hgt: ∀y∈s.drop j,AH x y:=hgt
  refine zA (zA (zU (qP I (qP I (qP I ?_)))))
  cases j with
  |zero=>
   refine D9 20 (.bool false) I I ?_
   refine qP I ?_
   iterate 12 refine HZ I I ?_
   refine qP I (AT (Aa (zE (zS I (zJ (zK (zK (zL (zN (zE (zB (wP I (wP I ?_)))))))))))))
   refine wV 16 ((i+1:Nat):Int) I (Ay (by omega)) (wP I (Aa ?_))
   refine A6 (i+1) ⟨by show 1≤i+1;omega, .inl hlt⟩ (by show l.length+1-(i+1)<l.length+1-i;omega) ⟨I,I,I,I,I,tO⟩ [] ?_
   rw[hnext 0 hj hgt fun h=>absurd h (by decide)];rfl
  |succ m=>
   have hm:m<s.length:=hj
   obtain⟨y,hy⟩: ∃y,y=s[m]:=⟨_,rfl⟩
   have hyl:y∈l:=hsm y (hy▸List.getElem_mem hm)
   have e1:s.take (m+1)=s.take m++[y]:=by rw[List.take_add_one,List.getElem?_eq_getElem hm,hy];rfl
   have e2:s.drop m=y::s.drop (m+1):=by rw[hy];exact List.drop_eq_getElem_cons hm
   have e3:s[m+1-1]! =y:=by rw[Nat.add_sub_cancel,getElem!_pos s m hm,hy]
   have hA:(ptC (s.take m)).length=m*2:=by rw[AR,List.length_take,Nat.min_eq_left (by omega)]
   obtain⟨C,hC⟩: ∃C,C=ptC (s.drop (m+1)++rr)++junk:=⟨_,rfl⟩
   have row1:ptC (s.take (m+1)++x::s.drop (m+1)++rr)++junk=ptC (s.take m)++([str (Ad y.1),str (Ad y.2),str (Ad x.1),str (Ad x.2)]++C):=by rw[e1,hC];simp[ptC,List.flatMap_append]
   have row2:ptC (s.take m++x::s.drop m++rr)++junk=ptC (s.take m)++([str (Ad x.1),str (Ad x.2),str (Ad y.1),str (Ad y.2)]++C):=by rw[e2,hC];simp[ptC,List.flatMap_append]
   refine qU 20 true I (dT (by omega)) (qP I (qP I (qP I (qP I ?_))))
   refine qJ ?_
   refine qL 0 I I (fun W1 hp=>show Ak W1 g (0+(m+1)*2) [str (Ad x.1),str (Ad x.2)] from JM hp 1 (A:=ptC (s.take m)++[str (Ad y.1),str (Ad y.2)]) (C:=C) I (by rw[row1];simp) (by rw[List.length_append,hA];simp only[List.length_cons,List.length_nil];omega)) I (qP I (qP I (qP I (qV 29 (m:Nat) I (show w64 (((m+1:Nat):Int)-1)=_ by rw[Ap (by omega) (by omega)];omega) ?_))))
   refine qJ ?_
   refine qL 0 I I (fun W1 hp=>show Ak W1 g (0+m*2) [str (Ad y.1),str (Ad y.2)] from JM hp 1 (A:=ptC (s.take m)) (C:=[str (Ad x.1),str (Ad x.2)]++C) I (by rw[row1];simp) (by rw[hA];simp)) I ?_
   refine Q2 (first:=[Aj c]) I I I I I I (by kernel_rfl) (fun W1 hp=>hf W1 (FN hg ⟨_,List.mem_cons_self ..⟩ hp) x hxl y hyl) ?_
   refine qP I (qU 33 (BD x y) I (Lb x y) (qP I (AT (Aa (zE ?_)))))
   refine Av I (fun h=> ?_) (fun h=> ?_)
   rotate_left
   ·have hc: ¬AH x y:=fun d=>by rw[Cl.2 d] at h;cases h
    refine zJ (zK (zK (zL (zN (zE (zB (wP I (wP I (wV 16 ((i+1:Nat):Int) I (Ay (by omega)) (wP I (Aa ?_)))))))))))
    refine A6 (i+1) ⟨by show 1≤i+1;omega, .inl hlt⟩ (by show l.length+1-(i+1)<l.length+1-i;omega) ⟨I,I,I,I,I,tO⟩ [] ?_
    rw[hnext (m+1) hj hgt fun _=>by rw[e3];exact hc];rfl
   have hc:AH x y:=Cl.1 h
   clear h
   refine XV (bxs':=[AP (At W g),⟨g,35,ptC (s.take m)++([str (Ad y.1),str (Ad y.2),str (Ad x.1),str (Ad x.2)]++C),true,none⟩]) (by rw[←row1]) ?_
   refine zI (zE (A0 (CP ?_)))
   repeat refine A0 ?_
   refine Bg (X:=Unit) [true,true,false,false,false,true,true,true,true,true,true,true,true,true,true,false,false,false] (fun _=>[(0, .slice (some ⟨g,0,none⟩) l.length cap),(1, .int .i64 0),(2, .int .i64 (l.length:Nat)),(3,lsF c),(8, .int .i64 (i:Nat)),(9, .int .i64 ((m+1:Nat):Int))]) (fun _=>[AP (At W g),⟨g,35,ptC (s.take m)++([str (Ad x.1),str (Ad x.2),str (Ad y.1),str (Ad y.2)]++C),true,none⟩])
    6 [AP (At W g),⟨g,35,ptC (s.take m)++([str (Ad y.1),str (Ad y.2),str (Ad x.1),str (Ad x.2)]++C),true,none⟩] Tryz.mixed (by kernel_rfl) ?_ ?_
   ·refine qP I (qP I (qP I (qP I (qP I (qV 44 (m:Nat) I (show w64 (((m+1:Nat):Int)-1)=_ by rw[Ap (by omega) (by omega)];omega) ?_)))))
    refine qJ ?_
    refine qL 0 I I (fun W1 hp=>show Ak W1 g (0+m*2) [str (Ad y.1),str (Ad y.2)] from JM hp 1 (A:=ptC (s.take m)) (C:=[str (Ad x.1),str (Ad x.2)]++C) I (by simp) (by rw[hA];simp)) I (qP I (qP I ?_))
    refine qJ ?_
    refine qL 0 I I (fun W1 hp=>show Ak W1 g (0+(m+1)*2) [str (Ad x.1),str (Ad x.2)] from JM hp 1 (A:=ptC (s.take m)++[str (Ad y.1),str (Ad y.2)]) (C:=C) I (by simp) (by rw[List.length_append,hA];simp only[List.length_cons,List.length_nil];omega)) I ?_
    refine qJ ?_
    refine C1 ?_
    have h1:B5 (ptC (s.take m)++([str (Ad y.1),str (Ad y.2),str (Ad x.1),str (Ad x.2)]++C)) (0+(m+1)*2) (cvV y).cells.toList=ptC (s.take m)++([str (Ad y.1),str (Ad y.2),str (Ad y.1),str (Ad y.2)]++C):=by
     rw[show 0+(m+1)*2=(ptC (s.take m)).length+2 by rw[hA];omega,Eh];rfl
    have h2:B5 (ptC (s.take m)++([str (Ad y.1),str (Ad y.2),str (Ad y.1),str (Ad y.2)]++C)) (0+m*2) (cvV x).cells.toList=ptC (s.take m)++([str (Ad x.1),str (Ad x.2),str (Ad y.1),str (Ad y.2)]++C):=by
     rw[show 0+m*2=(ptC (s.take m)).length+0 by rw[hA];omega,Eh];rfl
    have h3:0+(m+1)*2+2≤(ptC (s.take m)++([str (Ad y.1),str (Ad y.2),str (Ad x.1),str (Ad x.2)]++C)).length:=by rw[List.length_append,hA,List.length_append];simp only[List.length_cons,List.length_nil];omega
    have h4:0+m*2+2≤(ptC (s.take m)++([str (Ad y.1),str (Ad y.2),str (Ad y.1),str (Ad y.2)]++C)).length:=by rw[List.length_append,hA,List.length_append];simp only[List.length_cons,List.length_nil];omega
    refine wX ?_
    refine RS.cons ?_ (RS.cons ?_ (RS.cons ?_ (RS.nil)))
    ·refine wP I (Aa (Ac (wX ?_)))
     refine RS.cons ?_ (RS.cons ?_ (RS.nil))
     ·refine wP I (Aa (Ac (wX ?_)))
      refine RS.cons ?_ (RS.cons ?_ (RS.nil))
      ·refine wP I (Aa (Ac (wX (wZ ?_))))
       refine Aw 1 _ tH I I I I I I I I I I h3 h1 ?_
       refine Aa (Ac (wY (wZ ?_)))
       refine wV 41 (m:Nat) I (show w64 (((m+1:Nat):Int)-1)=_ by rw[Ap (by omega) (by omega)];omega) ?_;(first|refine wJ ?_|refine qJ ?_)
       refine Aa (Ac (wY (wZ ?_)))
       refine Aw 1 _ tH I I I I I I I I I I h4 h2 ?_
       refine Aa (Ac ?_)
       refine AN I (by kernel_rfl) ?_
       exact Ar () ⟨I,I,I,I,I,I,tO⟩ [0,1] (by decide) I
      ·refine Aw 1 _ tH I I I I I I I I I I h3 h1 ?_
       refine Aa (Ac (wY (wZ (wP I (Aa (Ac (wY (wZ ?_))))))))
       refine wV 41 (m:Nat) I (show w64 (((m+1:Nat):Int)-1)=_ by rw[Ap (by omega) (by omega)];omega) ?_;(first|refine wJ ?_|refine qJ ?_)
       refine Aa (Ac (wY (wZ ?_)))
       refine Aw 1 _ tH I I I I I I I I I I h4 h2 ?_
       refine Aa (Ac ?_)
       refine AN I (by kernel_rfl) ?_
       exact Ar () ⟨I,I,I,I,I,I,tO⟩ [0,1] (by decide) I
     ·refine Aw 1 _ tH I I I I I I I I I I h3 h1 ?_
      refine Aa (Ac (wY (wZ (wP I (Aa (Ac (wY (wZ (wP I (Aa (Ac (wY (wZ ?_)))))))))))))
      refine wV 41 (m:Nat) I (show w64 (((m+1:Nat):Int)-1)=_ by rw[Ap (by omega) (by omega)];omega) ?_;(first|refine wJ ?_|refine qJ ?_)
      refine Aa (Ac (wY (wZ ?_)))
      refine Aw 1 _ tH I I I I I I I I I I h4 h2 ?_
      refine Aa (Ac ?_)
      refine AN I (by kernel_rfl) ?_
      exact Ar () ⟨I,I,I,I,I,I,tO⟩ [0,1] (by decide) I
    ·refine wP I (Aa (Ac (wX ?_)))
     refine RS.cons ?_ (RS.cons ?_ (RS.cons ?_ (RS.nil)))
     ·refine wP I (Aa (Ac (wX ?_)))
      refine RS.cons ?_ (RS.cons ?_ (RS.nil))
      ·refine wP I (Aa (Ac (wX (wZ ?_))))
       refine Aw 1 _ tH I I I I I I I I I I h3 h1 ?_
       refine Aa (Ac (wY (wZ ?_)))
       refine wV 41 (m:Nat) I (show w64 (((m+1:Nat):Int)-1)=_ by rw[Ap (by omega) (by omega)];omega) ?_;(first|refine wJ ?_|refine qJ ?_)
       refine Aa (Ac (wY (wZ ?_)))
       refine Aw 1 _ tH I I I I I I I I I I h4 h2 ?_
       refine Aa (Ac ?_)
       refine AN I (by kernel_rfl) ?_
       exact Ar () ⟨I,I,I,I,I,I,tO⟩ [0,1] (by decide) I
      ·refine Aw 1 _ tH I I I I I I I I I I h3 h1 ?_
       refine Aa (Ac (wY (wZ (wP I (Aa (Ac (wY (wZ ?_))))))))
       refine wV 41 (m:Nat) I (show w64 (((m+1:Nat):Int)-1)=_ by rw[Ap (by omega) (by omega)];omega) ?_;(first|refine wJ ?_|refine qJ ?_)
       refine Aa (Ac (wY (wZ ?_)))
       refine Aw 1 _ tH I I I I I I I I I I h4 h2 ?_
       refine Aa (Ac ?_)
       refine AN I (by kernel_rfl) ?_
       exact Ar () ⟨I,I,I,I,I,I,tO⟩ [0,1] (by decide) I
     ·refine wP I (Aa (Ac (wX ?_)))
      refine RS.cons ?_ (RS.cons ?_ (RS.nil))
      ·refine wP I (Aa (Ac (wX (wZ ?_))))
       refine Aw 1 _ tH I I I I I I I I I I h3 h1 ?_
       refine Aa (Ac (wY (wZ ?_)))
       refine wV 41 (m:Nat) I (show w64 (((m+1:Nat):Int)-1)=_ by rw[Ap (by omega) (by omega)];omega) ?_;(first|refine wJ ?_|refine qJ ?_)
       refine Aa (Ac (wY (wZ ?_)))
       refine Aw 1 _ tH I I I I I I I I I I h4 h2 ?_
       refine Aa (Ac ?_)
       refine AN I (by kernel_rfl) ?_
       exact Ar () ⟨I,I,I,I,I,I,tO⟩ [0,1] (by decide) I
      ·refine Aw 1 _ tH I I I I I I I I I I h3 h1 ?_
       refine Aa (Ac (wY (wZ (wP I (Aa (Ac (wY (wZ ?_))))))))
       refine wV 41 (m:Nat) I (show w64 (((m+1:Nat):Int)-1)=_ by rw[Ap (by omega) (by omega)];omega) ?_;(first|refine wJ ?_|refine qJ ?_)
       refine Aa (Ac (wY (wZ ?_)))
       refine Aw 1 _ tH I I I I I I I I I I h4 h2 ?_
       refine Aa (Ac ?_)
       refine AN I (by kernel_rfl) ?_
       exact Ar () ⟨I,I,I,I,I,I,tO⟩ [0,1] (by decide) I
     ·refine Aw 1 _ tH I I I I I I I I I I h3 h1 ?_
      refine Aa (Ac (wY ?_))
      refine RS.cons ?_ (RS.cons ?_ (RS.nil))
      ·refine wP I (Aa (Ac (wY (wZ (wP I (Aa (Ac (wY (wZ ?_)))))))))
       refine wV 41 (m:Nat) I (show w64 (((m+1:Nat):Int)-1)=_ by rw[Ap (by omega) (by omega)];omega) ?_;(first|refine wJ ?_|refine qJ ?_)
       refine Aa (Ac (wY (wZ ?_)))
       refine Aw 1 _ tH I I I I I I I I I I h4 h2 ?_
       refine Aa (Ac ?_)
       refine AN I (by kernel_rfl) ?_
       exact Ar () ⟨I,I,I,I,I,I,tO⟩ [0,1] (by decide) I
      ·refine wP I (Aa (Ac (wY (wZ (wP I (Aa (Ac (wY (wZ ?_)))))))))
       refine wV 41 (m:Nat) I (show w64 (((m+1:Nat):Int)-1)=_ by rw[Ap (by omega) (by omega)];omega) ?_;(first|refine wJ ?_|refine qJ ?_)
       refine Aa (Ac (wY (wZ ?_)))
       refine Aw 1 _ tH I I I I I I I I I I h4 h2 ?_
       refine Aa (Ac ?_)
       refine AN I (by kernel_rfl) ?_
       exact Ar () ⟨I,I,I,I,I,I,tO⟩ [0,1] (by decide) I
    ·refine Aw 1 _ tH I I I I I I I I I I h3 h1 ?_
     refine Aa (Ac (wY ?_))
     refine RS.cons ?_ (RS.cons ?_ (RS.nil))
     ·refine wP I (Aa (Ac (wY (wZ (wP I (Aa (Ac (wY (wZ (wP I (Aa (Ac (wY ?_)))))))))))))
      refine wZ ?_
      refine wV 41 (m:Nat) I (show w64 (((m+1:Nat):Int)-1)=_ by rw[Ap (by omega) (by omega)];omega) ?_;(first|refine wJ ?_|refine qJ ?_)
      refine Aa (Ac (wY (wZ ?_)))
      refine Aw 1 _ tH I I I I I I I I I I h4 h2 ?_
      refine Aa (Ac ?_)
      refine AN I (by kernel_rfl) ?_
      exact Ar () ⟨I,I,I,I,I,I,tO⟩ [0,1] (by decide) I
     ·refine wP I (Aa (Ac (wY ?_)))
      refine RS.cons ?_ (RS.cons ?_ (RS.nil))
      ·refine wP I (Aa (Ac (wY (wZ (wP I (Aa (Ac (wY (wZ ?_)))))))))
       refine wV 41 (m:Nat) I (show w64 (((m+1:Nat):Int)-1)=_ by rw[Ap (by omega) (by omega)];omega) ?_;(first|refine wJ ?_|refine qJ ?_)
       refine Aa (Ac (wY (wZ ?_)))
       refine Aw 1 _ tH I I I I I I I I I I h4 h2 ?_
       refine Aa (Ac ?_)
       refine AN I (by kernel_rfl) ?_
       exact Ar () ⟨I,I,I,I,I,I,tO⟩ [0,1] (by decide) I
      ·refine wP I (Aa (Ac (wY (wZ (wP I (Aa (Ac (wY (wZ ?_)))))))))
       refine wV 41 (m:Nat) I (show w64 (((m+1:Nat):Int)-1)=_ by rw[Ap (by omega) (by omega)];omega) ?_;(first|refine wJ ?_|refine qJ ?_)
       refine Aa (Ac (wY (wZ ?_)))
       refine Aw 1 _ tH I I I I I I I I I I h4 h2 ?_
       refine Aa (Ac ?_)
       refine AN I (by kernel_rfl) ?_
       exact Ar () ⟨I,I,I,I,I,I,tO⟩ [0,1] (by decide) I
   intro _
   refine zN (zE (zB (wP I (wP I (wV 36 (m:Nat) I (show w64 (((m+1:Nat):Int)-1)=_ by rw[Ap (by omega) (by omega)];omega) (wP I (Aa ?_)))))))
   refine A6 m ⟨by show m≤s.length;omega,fun z hz=> ?_⟩ (by show m<m+1;omega) ⟨I,I,I,I,I,I,tO⟩ [] (by rw[←row2];rfl)
   rw[e2] at hz
   rcases List.mem_cons.1 hz with rfl|hz
   ·exact hc
   ·exact hgt z hz
 refine key.mono ?_
 rintro e W' ⟨x,he,_,hb,hn'⟩
 exact⟨x,he,tO,E5 hg I hb hn'⟩
theorem R6 (c:Nat) (W:World) (g cap:Nat) (l:List Ag) (junk:List Value) (z:Int) (hn:l.length≤12) (hg:W.heap[g]? =some (.cells (ptC l++junk).toArray 35 (0,0)))
  (hf: ∀W',Ga W W' g→ ∀x∈l, ∀y∈l,Kc c x y W'):
  Calls Tryz.prog 133 #[.slice (some ⟨g,0,none⟩) l.length cap, .int .i64 0, .int .i64 (l.length:Nat), .int .i64 z,lsF c] W fun e W'=> ∃x:Unit,e= .returned ((fun _=> .tuple #[]) x)∧True∧IU W W' g ((fun _=>g) x) ((fun _=> .cells (ptC (C8 l)++junk).toArray 35 (0,0)) x):=by
 have key:Calls Tryz.prog 133 [.slice (some ⟨g,0,none⟩) l.length cap, .int .i64 0, .int .i64 (l.length:Nat), .int .i64 z,lsF c].toArray W fun e W'=> ∃x:Unit,e= .returned ((fun _=> .tuple #[]) x)∧(fun _=>True) x∧Below (AZ W).heap.size (AZ W) W'∧As (AZ W) W' ((fun _=>[AP (At W g),Br g (C8 l) junk]) x):=by
  refine BO (X:=Unit) (val:=fun _=> .tuple #[]) (Φ:=fun _=>True) (nb:=fun _=>[AP (At W g),Br g (C8 l) junk]) (Hp.enterT (B:=Br g l junk) I hg) Tryz.func133 I I I ?_
  refine zA (zB (wP I (Aa (zE (zA (zB (wP I (Aa (zE (zH ?_))))))))))
  refine AA (X:=Unit) (fun _=>[(0, .slice (some ⟨g,0,none⟩) l.length cap),(1, .int .i64 0),(2, .int .i64 (l.length:Nat)),(3, .int .i64 z),(4,lsF c)]) (fun _=>[AP (At W g),Br g l junk]) (fun _=>True) (fun _=>0) () tO ⟨I,I,I,I,I,tO⟩ [] I ?_
  intro _ _
  refine zH (zA (zB (wP I (wP I (wP I (wV 23 (l.length:Nat) I (show w64 ((l.length:Nat)-0)=_ by rw[Ap (by omega) (by omega)];omega) (wP I (Aa (zE (zA (zA (zB (wP I (wP I ?_))))))))))))))
  refine wU 25 true I (dT (by omega)) (Aa (zE (zR I (zA (zB (wP I (wP I (wP I (wP I ?_)))))))))
  refine D0 (X:=Unit) (val:=fun _=> .tuple #[]) (Φ:=fun _=>True) (capt:=[]) 1 (B:=Br g l junk) (L1:=[]) (L2:=[]) (b:=g) (ob:= .cells (ptC l++junk).toArray 35 (0,0)) (fun _=>Br g (C8 l) junk) (g':=fun _=>g) (o':=fun _=> .cells (ptC (C8 l)++junk).toArray 35 (0,0))
   rfl rfl rfl rfl rfl rfl (by kernel_rfl) rfl rfl (fun _ _=>rfl) (fun W1 hp=>Ri c W1 g cap l junk (by omega) (hp.own.cell 1 _ rfl (g, .cells (ptC l++junk).toArray 35 (0,0)) (List.mem_cons_self ..)).1 (fun W2 hk=>hf W2 ((FN hg ⟨_,List.mem_cons_self ..⟩ hp).trans hk))) (fun _ _=> ?_)
  refine Aa (zE (zO (zP (zQ (zP (zQ ?_))))))
  refine Sl (X:=Unit) (val:=fun _=> .tuple #[]) (Φ:=fun _=>True) (nb:=fun _=>[AP (At W g),Br g (C8 l) junk]) (fn:=Tryz.f133) tH I () I tO fun W1 hp=> ?_
  exact(hp.pick (l:=[AP (At W g),Br g (C8 l) junk]) [0,1] (by decide) I).own
 refine key.mono ?_
 rintro e W' ⟨x,he,_,hb,hn'⟩
 exact⟨x,he,tO,E5 hg I hb hn'⟩
theorem X8 {n:Nat} (h:n≤12):IntKind.u64.wrap (n:Nat)=(n:Int):=by
 simp only[IntKind.wrap,IntKind.signed,IntKind.bits]
 simp
 omega
theorem Qg (c:Nat) (W:World) (g cap:Nat) (l:List Ag) (junk:List Value) (hn:l.length≤12) (hg:W.heap[g]? =some (.cells (ptC l++junk).toArray 35 (0,0)))
  (hf: ∀W',Ga W W' g→ ∀x∈l, ∀y∈l,Kc c x y W'):
  Calls Tryz.prog 70 #[.slice (some ⟨g,0,none⟩) l.length cap,lsF c] W fun e W'=> ∃x:Unit,e= .returned ((fun _=> .tuple #[]) x)∧True∧IU W W' g ((fun _=>g) x) ((fun _=> .cells (ptC (C8 l)++junk).toArray 35 (0,0)) x):=by
 have key:Calls Tryz.prog 70 [.slice (some ⟨g,0,none⟩) l.length cap,lsF c].toArray W fun e W'=> ∃x:Unit,e= .returned ((fun _=> .tuple #[]) x)∧(fun _=>True) x∧Below (AZ W).heap.size (AZ W) W'∧As (AZ W) W' ((fun _=>[AP (At W g),Br g (C8 l) junk]) x):=by
  refine BO (X:=Unit) (val:=fun _=> .tuple #[]) (Φ:=fun _=>True) (nb:=fun _=>[AP (At W g),Br g (C8 l) junk]) (Hp.enterT (B:=Br g l junk) I hg) Tryz.func70 I I I ?_
  refine zA (zB (wP I (wP I (wP I (Aa (zE (zB (wP I (wP I (wP I ?_))))))))))
  refine I5 (k:= .u64) (kt:= .i64) (by kernel_rfl) (by kernel_rfl) I I I I ?_
  refine Af 10 (.int .u64 (l.length:Nat)) I (congrArg (Value.int .u64) (X8 hn)) ?_
  refine Bo (capt:=[]) I I I I I I (by kernel_rfl) (fun W _=>LG l.length (by omega) W) ?_
  refine wP I ?_
  refine D0 (X:=Unit) (val:=fun _=> .tuple #[]) (Φ:=fun _=>True) (capt:=[]) 1 (B:=Br g l junk) (L1:=[]) (L2:=[]) (b:=g) (ob:= .cells (ptC l++junk).toArray 35 (0,0)) (fun _=>Br g (C8 l) junk) (g':=fun _=>g) (o':=fun _=> .cells (ptC (C8 l)++junk).toArray 35 (0,0))
   rfl rfl rfl rfl rfl rfl (by kernel_rfl) rfl rfl (fun _ _=>rfl) (fun W1 hp=>R6 c W1 g cap l junk _ hn (hp.own.cell 1 _ rfl (g, .cells (ptC l++junk).toArray 35 (0,0)) (List.mem_cons_self ..)).1 (fun W2 hk=>hf W2 ((FN hg ⟨_,List.mem_cons_self ..⟩ hp).trans hk))) (fun _ _=> ?_)
  refine Aa ?_
  refine La (X:=Unit) (val:=fun _=> .tuple #[]) (Φ:=fun _=>True) (nb:=fun _=>[AP (At W g),Br g (C8 l) junk]) (fn:=Tryz.f70) tH I () I tO fun W1 hp=> ?_
  exact(hp.pick (l:=[AP (At W g),Br g (C8 l) junk]) [0,1] (by decide) I).own
 refine key.mono ?_
 rintro e W' ⟨x,he,_,hb,hn'⟩
 exact⟨x,he,tO,E5 hg I hb hn'⟩
-- BOXES 3
-- CODE2
section
variable {r:Option Nat} {n:Nat} {P:Program} {W0:World} {N:Nat} {D:List Deferred} {ops:List Oper} {Q:Exit→Act→World→Prop} {o:Oper} {rest:List Oper} {env:Env} {bxs:List Bx}
theorem Vx (k:Nat) {t e:TypeId} {z:Value} (ht:P.underlying t=some (.slice e)) (hz: ∀W,(zeroValue e).run P W= .ok z W) {c:Call} {x:Operand} {B:Bx} {off m cp:Nat}
  (hg:A8 ops N env o=some true) (hd:o.dst=none) (ho:o.op= .call c) (hc:c.callee= .builtin .clear) (ha:c.args= #[x]) (hat:c.argTypes= #[t])
  (hk:nth bxs k=some B) (hon:B.row=true) (hx:evO N env x=some (.slice (some ⟨B.b,off,none⟩) m cp)) (h1:CU (Cc z.cells.toList m)=true) (hfit:off+(Cc z.cells.toList m).length≤B.cells.length)
  (h:WL r n P N D ops Q rest env (Hp W0 (bxs.set k { B with cells:=B5 B.cells off (Cc z.cells.toList m) }))):WL r n P N D ops Q (o::rest) env (Hp W0 bxs):= .mk fun a W ha' hd' hp=>by
 rw[B0] at hk
 refine BQ hg ha' (fun c e=>by rw[ho] at e;cases e) ?_
 have h3:=(hp.at_ _ _ hk (Bx.row_on hon).1).1
 rw[(Bx.row_on hon).2] at h3
 obtain⟨W',hr,hu⟩:=F1 (P:=P) (o:=off) (Cc z.cells.toList m) 0 B.cells W h3 (by omega) h1
 have e1:c.args.map (ov env a).eval= #[.slice (some ⟨B.b,off,none⟩) m cp]:=by rw[ha];simp[AD ha' _ _ hx]
 have hrun:(Builtin.clear_ #[t] o.type #[.slice (some ⟨B.b,off,none⟩) m cp]).run P W= .ok (.tuple #[]) W':=by
  cases m with
  |zero=>
   have e0:Cc z.cells.toList 0=[]:=rfl
   rw[e0] at hr
   simp[storeCells] at hr
   simp[Builtin.clear_,run_underlying ht,hr]
  |succ m=>simp[Builtin.clear_,run_underlying ht,hz,Gz,hr]
 have:(execOp (ov env a).eval o).run P W= .ok (.value (.tuple #[])) W':=by
  simp only[execOp,ho,resolve,hc,invoke,builtin,e1,hat,Sem.run_bind,Sem.run_pure,Result.andThen_ok,hrun]
 rw[this]
 simp only[Oper.uponIn,hd]
 rw[Nat.add_zero] at hu
 exact h.out a W' ha' hd' (hp.upd hk hon hu)
end
def El (l:List Ag):Nat→List Ag
 |0=>[]
 |n+1=>if 0<n∧l[n]? =l[n-1]? then El l n else El l n++(l[n]?).toList
abbrev Hb (l:List Ag):List Ag:=El l l.length
theorem Pf (l:List Ag): ∀n,(El l n).length≤n
 |0=>Nat.le_refl _
 |n+1=>by
  have ih:=Pf l n
  unfold El
  split
  ·omega
  ·rw[List.length_append]
   have:(l[n]?).toList.length≤1:=by cases l[n]? <;>simp
   omega
theorem Kk {l:List Ag} {n:Nat} (h0:0<n) (h:l[n]? =l[n-1]?):El l (n+1)=El l n:=by
 show(if 0<n∧l[n]? =l[n-1]? then El l n else _)=_
 rw[if_pos ⟨h0,h⟩]
theorem LP {l:List Ag} {n:Nat} (hn:n<l.length) (h: ¬(0<n∧l[n]? =l[n-1]?)):El l (n+1)=El l n++[l[n]]:=by
 show(if 0<n∧l[n]? =l[n-1]? then _ else El l n++(l[n]?).toList)=_
 rw[if_neg h,List.getElem?_eq_getElem hn];rfl
theorem PW (l:List Ag):El l 1=l.take 1:=by
 cases l with
 |nil=>rfl
 |cons x l=>rfl
theorem NN {l:List Ag} (hs:SrC l): ∀n,n≤l.length→(El l n).Pairwise AH∧(∀x,x∈El l n↔x∈l.take n)
 |0,_=>⟨List.Pairwise.nil,fun x=>by simp[El]⟩
 |n+1,hn=>by
  obtain⟨a,b⟩:=NN hs n (by omega)
  have hn':n<l.length:=hn
  have et:l.take (n+1)=l.take n++[l[n]]:=by rw[List.take_add_one,List.getElem?_eq_getElem hn'];rfl
  by_cases h:0<n∧l[n]? =l[n-1]?
  ·rw[Kk h.1 h.2]
   refine⟨a,fun x=> ?_⟩
   rw[b,et,List.mem_append,List.mem_singleton]
   refine⟨.inl,fun h2=> ?_⟩
   rcases h2 with h2|rfl
   ·exact h2
   ·have e:l[n]=l[n-1]'(by omega):=by
     have:=h.2
     rw[List.getElem?_eq_getElem hn',List.getElem?_eq_getElem (by omega)] at this
     exact Option.some.inj this
    rw[e]
    exact List.mem_iff_getElem.2 ⟨n-1,by rw[List.length_take];omega,by rw[List.getElem_take]⟩
  ·rw[LP hn' h]
   refine⟨List.pairwise_append.2 ⟨a,List.pairwise_cons.2 ⟨fun _ h=>absurd h List.not_mem_nil,List.Pairwise.nil⟩,fun x hx y hy=> ?_⟩,fun x=> ?_⟩
   ·obtain rfl:=List.mem_singleton.1 hy
    obtain⟨i,hi,rfl⟩:=List.mem_iff_getElem.1 ((b x).1 hx)
    rw[List.length_take] at hi
    rw[List.getElem_take]
    have hp:=List.pairwise_iff_getElem.1 hs
    have h1:=hp i n (by omega) hn' (by omega)
    rcases Do l[i] l[n] with d|d|d
    ·exact d
    ·exfalso
     refine h ⟨by omega, ?_⟩
     rw[List.getElem?_eq_getElem hn',List.getElem?_eq_getElem (show n-1<l.length by omega)]
     congr 1
     by_cases ei:i=n-1
     ·subst ei;exact d.symm
     ·have h2:=hp i (n-1) (by omega) (by omega) (by omega)
      have h3:=hp (n-1) n (by omega) hn' (by omega)
      rw[d] at h2
      rcases Do l[n] (l[n-1]'(by omega)) with d2|d2|d2
      ·exact absurd d2 h3
      ·exact d2
      ·exact absurd d2 h2
    ·exact absurd d h1
   ·rw[et,List.mem_append,List.mem_append,b]
theorem ND {l:List Ag} (hs:SrC l):(Hb l).Pairwise AH∧ ∀x,x∈Hb l↔x∈l:=by
 have:=NN hs l.length (Nat.le_refl _)
 rw[List.take_length] at this
 exact this
theorem SX {x y:Ag}:decide (Ad x.1=Ad y.1∧Ad x.2=Ad y.2)=decide (x=y):=decide_eq_decide.2 ⟨fun h=>Prod.ext (Gs.1 h.1) (Gs.1 h.2),fun h=>by rw[h];exact⟨rfl,rfl⟩⟩
theorem OB {W0 W:World} {bxs:List Bx} (hp:Hp W0 bxs W) (k:Nat) {g:Nat} {l:List Ag} {junk:List Value} (hk:nth bxs k=some (Br g l junk)) {i:Nat} (hi:i<l.length):Ak W g (0+i*2) [str (Ad l[i].1),str (Ad l[i].2)]:=by
 obtain⟨g',off',e,h⟩:=(Ci.of_row (Ak.of_bx hp k hk rfl)).at_ hi
 cases e
 exact h i hi
theorem Sc: ∀m,CU (Cc (Value.agg #[str [],str []]).cells.toList m)=true
 |0=>rfl
 |m+1=>by
  have ih:=Sc m
  show CU (str []::str []::Cc _ m)=true
  exact ih
theorem SR (m:Nat):(Cc (Value.agg #[str [],str []]).cells.toList m).length=m*2:=EI _ m
theorem PY (W:World) (g cap:Nat) (l:List Ag) (junk:List Value) (hn:l.length≤100000) (hcap:l.length≤cap) (hg:W.heap[g]? =some (.cells (ptC l++junk).toArray 35 (0,0))):
  Calls Tryz.prog 75 #[.slice (some ⟨g,0,none⟩) l.length cap] W fun e W'=> ∃x:List Value,e= .returned ((fun _=> .slice (some ⟨g,0,none⟩) (Hb l).length cap) x)∧True∧IU W W' g ((fun _=>g) x) ((fun x=> .cells (ptC (Hb l)++x).toArray 35 (0,0)) x):=by
 have key:Calls Tryz.prog 75 [.slice (some ⟨g,0,none⟩) l.length cap].toArray W fun e W'=> ∃x:List Value,e= .returned ((fun _=> .slice (some ⟨g,0,none⟩) (Hb l).length cap) x)∧(fun _=>True) x∧Below (AZ W).heap.size (AZ W) W'∧As (AZ W) W' ((fun x=>[AP (At W g),Br g (Hb l) x]) x):=by
  refine BO (X:=List Value) (val:=fun _=> .slice (some ⟨g,0,none⟩) (Hb l).length cap) (Φ:=fun _=>True) (nb:=fun x=>[AP (At W g),Br g (Hb l) x]) (Hp.enterT (B:=Br g l junk) I hg) Tryz.func75 I I I ?_
  refine zA (zB (wP I (Aa (zE (zA (zA (zB (wP I (wP I (wP I ?_))))))))))
  by_cases hlt:l.length<2
  ·have e:Hb l=l:=by
    rcases(show l.length=0∨l.length=1 by omega) with e|e
    ·rw[Hb,e,List.length_eq_zero_iff.1 e];rfl
    ·rw[Hb,e,PW,List.take_of_length_le (by omega)]
   refine wU 8 true I (dT (by omega)) (Aa (zE (zR I (zA (zB (wP I (wP I (Aa (zE (zO (zP ?_)))))))))))
   rw[e]
   exact Au tH I (.tmp I) junk I tO fun W1 hp=>(hp.pick (l:=[AP (At W g),Br g l junk]) [0,1] (by decide) I).own
  refine wU 8 false I (dF (by omega)) (Aa (zE (zS I (zI (zE (zA (zA (zB (wP I (Aa (zE (zH ?_))))))))))))
  refine AA (X:=Nat) (fun i=>[(0, .slice (some ⟨g,0,none⟩) l.length cap),(3, .int .i64 (i:Nat))]) (fun _=>[AP (At W g),Br g l junk]) (fun i=>1≤i∧i≤l.length∧El l i=l.take i) (fun i=>l.length-i) 1 ⟨Nat.le_refl _,by omega,PW l⟩ ⟨I,I,tO⟩ [] I ?_
  rintro i ⟨hi1,hi2,hc⟩
  have hi1:1≤i:=hi1
  have hi2:i≤l.length:=hi2
  have hc:El l i=l.take i:=hc
  refine zA (zA (zB (wP I (wP I (wP I (wP I ?_))))))
  by_cases hi:i<l.length
  rotate_left
  ·obtain rfl:i=l.length:=by omega
   have e:Hb l=l:=by rw[Hb,hc,List.take_length]
   refine wU 13 false I (dF (by omega)) (Aa (zE (zS I (zJ (zK (zK (zL (zE (zA (zB (wP I (wP I (Aa ?_)))))))))))))
   refine zE (zO ?_)
   rw[e]
   exact Au tH I (.tmp I) junk I tO fun W1 hp=>(hp.pick (l:=[AP (At W g),Br g l junk]) [0,1] (by decide) I).own
  refine wU 13 true I (dT (by omega)) (Aa (zE (zR I (zI (zE (zA (zH (zA (zU ?_)))))))))
  have hm:i-1<l.length:=by omega
  obtain⟨x,hx⟩: ∃x,x=l[i]:=⟨_,rfl⟩
  obtain⟨y,hy⟩: ∃y,y=l[i-1]:=⟨_,rfl⟩
  have ex:l[i]? =some x:=by rw[List.getElem?_eq_getElem hi,hx]
  have ey:l[i-1]? =some y:=by rw[List.getElem?_eq_getElem hm,hy]
  have rx: ∀ {W1:World},Hp (AZ W) [AP (At W g),Br g l junk] W1→Ak W1 g (0+i*2) [str (Ad x.1),str (Ad x.2)]:=fun hp=>by rw[hx];exact OB hp 1 rfl hi
  have ry: ∀ {W1:World},Hp (AZ W) [AP (At W g),Br g l junk] W1→Ak W1 g (0+(i-1)*2) [str (Ad y.1),str (Ad y.2)]:=fun hp=>by rw[hy];exact OB hp 1 rfl hm
  refine qP I (qP I ?_)
  refine qJ ?_
  refine qL 0 I I (fun W1 hp=>rx hp) I (qP I (qP I (qP I (qV 22 ((i-1:Nat):Int) I (show w64 ((i:Int)-1)=_ by rw[Ap (by omega) (by omega)];omega) ?_))))
  refine qJ ?_
  refine qL 0 I I (fun W1 hp=>ry hp) I ?_
  refine VS (Ad x.1) (Ad x.2) (Ad y.1) (Ad y.2) I I I I I ?_
  refine qU 25 (decide (x=y)) I SX (AT (Aa (zE ?_)))
  refine Av I (fun hxy=> ?_) (fun hxy=> ?_)
  rotate_left
  ·have hne:x≠y:=of_decide_eq_false hxy
   refine zI (zN (zE (zB (wP I (wP I (wV 15 ((i+1:Nat):Int) I (Ay (by omega)) (wP I (Aa ?_))))))))
   exact A6 (i+1) ⟨by omega,hi,by
    rw[LP hi (fun h=>hne (by rw[ex,ey] at h;exact Option.some.inj h.2)),hc,List.take_add_one,List.getElem?_eq_getElem hi];rfl⟩ (by show l.length-(i+1)<l.length-i;omega) ⟨rfl,rfl,trivial⟩ [] rfl
  have hxe:x=y:=of_decide_eq_true hxy
  have hsame:El l (i+1)=l.take i:=by rw[Kk (by omega) (by rw[ex,ey,hxe]),hc]
  refine zA (zB (wP I (wP I ?_)))
  refine Eu i tH I I I I I I I I (by omega) hcap ?_
  refine Af 28 (.slice (some ⟨g,0+i*2,none⟩) (l.length-i) (cap-i)) I (by rw[if_neg (by omega)]) ?_
  refine wP I (Aa (zE (zA (zA (zB (wP I (Aa (zE (zH ?_)))))))))
  refine AA (X:=Nat) (fun k=>[(0, .slice (some ⟨g,0,none⟩) l.length cap),(3, .int .i64 ((El l (i+k)).length:Nat)),(4, .slice (some ⟨g,0+i*2,none⟩) (l.length-i) (cap-i)),(5, .int .i64 (k:Nat))]) (fun k=>[AP (At W g),Br g (El l (i+k)++l.drop (El l (i+k)).length) junk])
   (fun k=>1≤k∧i+k≤l.length∧1≤(El l (i+k)).length∧(El l (i+k)).length+1≤i+k) (fun k=>l.length-i-k) 1 ⟨Nat.le_refl _,hi,by rw[hsame,List.length_take];omega,by rw[hsame,List.length_take];omega⟩ ⟨rfl,by rw[hsame,List.length_take,Nat.min_eq_left (by omega)];rfl,rfl,rfl,trivial⟩ [] (by rw[hsame,List.length_take,Nat.min_eq_left (by omega),List.take_append_drop];rfl) ?_
  rintro k ⟨hk1,hk2,hk3,hk4⟩
  have hk1:1≤k:=hk1
  have hk2:i+k≤l.length:=hk2
  have hk3:1≤(El l (i+k)).length:=hk3
  have hk4:(El l (i+k)).length+1≤i+k:=hk4
  obtain⟨C,hC⟩: ∃C,C=El l (i+k):=⟨_,rfl⟩
  rw[←hC] at hk3 hk4
  rw[←hC]
  have hlen:(C++l.drop C.length).length=l.length:=by rw[List.length_append,List.length_drop];omega
  refine zA (zA (zB (wP I (wP I (wP I (wP I ?_))))))
  by_cases hlk:k<l.length-i
  ·refine wU 32 true I (dT (by omega)) (Aa (zE (zR I (zI (zE (zA (zH (zA (zU ?_)))))))))
   have old: ∀j (hj:j<l.length),C.length≤j→(C++l.drop C.length)[j]'(by rw[hlen];exact hj)=l[j]:=fun j hj h=>by
    rw[List.getElem_append_right h,List.getElem_drop]
    congr 1;omega
   have h1:i+k<l.length:=by omega
   have h2:i+k-1<l.length:=by omega
   obtain⟨u,hu⟩: ∃u,u=l[i+k]:=⟨_,rfl⟩
   obtain⟨v,hv⟩: ∃v,v=l[i+k-1]:=⟨_,rfl⟩
   have eu:l[i+k]? =some u:=by rw[List.getElem?_eq_getElem h1,hu]
   have ev:l[i+k-1]? =some v:=by rw[List.getElem?_eq_getElem h2,hv]
   have ru: ∀ {W1:World},Hp (AZ W) [AP (At W g),Br g (C++l.drop C.length) junk] W1→Ak W1 g (0+i*2+k*2) [str (Ad u.1),str (Ad u.2)]:=fun hp=>by
    have:=OB hp 1 rfl (i:=i+k) (by rw[hlen];exact h1)
    rw[old _ h1 (by omega), ←hu] at this
    rwa [show 0+i*2+k*2=0+(i+k)*2 by omega]
   have rv: ∀ {W1:World},Hp (AZ W) [AP (At W g),Br g (C++l.drop C.length) junk] W1→Ak W1 g (0+i*2+(k-1)*2) [str (Ad v.1),str (Ad v.2)]:=fun hp=>by
    have:=OB hp 1 rfl (i:=i+k-1) (by rw[hlen];exact h2)
    rw[old _ h2 (by omega), ←hv] at this
    rwa [show 0+i*2+(k-1)*2=0+(i+k-1)*2 by omega]
   refine qP I (qP I ?_)
   refine qJ ?_
   refine qL 0 I I (fun W1 hp=>ru hp) I (qP I (qP I (qP I (qV 41 ((k-1:Nat):Int) I (show w64 ((k:Int)-1)=_ by rw[Ap (by omega) (by omega)];omega) ?_))))
   refine qJ ?_
   refine qL 0 I I (fun W1 hp=>rv hp) I ?_
   refine S5 (Ad u.1) (Ad u.2) (Ad v.1) (Ad v.2) I I I I I ?_
   refine D9 44 (.bool (!decide (u=v))) I (congrArg (fun b=>Value.bool (!b)) SX) ?_
   refine AT (Aa (zE ?_))
   refine Av I (fun huv=> ?_) (fun huv=> ?_)
   ·have hne:u≠v:=fun e=>by rw[e,dT rfl] at huv;cases huv
    have hnew:El l (i+(k+1))=C++[u]:=by
     rw[show i+(k+1)=i+k+1 by omega,LP h1 (fun h=>hne (by rw[eu,ev] at h;exact Option.some.inj h.2)), ←hC,hu]
    have hd:l.drop C.length=l[C.length]'(by omega)::l.drop (C.length+1):=List.drop_eq_getElem_cons (by omega)
    have hs1:B5 (ptC (C++l.drop C.length)++junk) (0+C.length*2) (cvV u).cells.toList=ptC (C++[u]++l.drop (C++[u]).length)++junk:=by
     rw[hd,BX,List.append_assoc,show 0+C.length*2=(ptC C).length+0 by rw[AR];omega,Eh]
     simp only[List.length_append,List.length_cons,List.length_nil,Nat.zero_add,BX,List.append_assoc]
     rfl
    have hs2:0+C.length*2+2≤(ptC (C++l.drop C.length)++junk).length:=by rw[List.length_append,AR,hlen];omega
    refine zA (zB (wP I (wP I (wP I (wP I ?_)))))
    refine wJ ?_
    refine wL 0 I I (fun W1 hp=>ru hp) I ?_
    refine wJ ?_
    refine Aw 1 _ tH I I I I I I I I I I hs2 hs1 ?_
    refine Aa (zE (zB (wP I (wP I (wV 53 ((C.length+1:Nat):Int) I (Ay (by omega)) (wP I (Aa (zN (zE (zB (wP I (wP I (wV 34 ((k+1:Nat):Int) I (Ay (by omega)) ?_)))))))))))))
    exact wP I (Aa (A6 (k+1) ⟨by omega,by omega,by rw[hnew,List.length_append];omega,by rw[hnew,List.length_append,List.length_singleton];omega⟩ (by show l.length-i-(k+1)<l.length-i-k;omega) ⟨I,by rw[hnew,List.length_append];rfl,I,I,tO⟩ [] (by rw[hnew];rfl)))
   ·have he:u=v:=by
     cases hd:decide (u=v) with
     |true=>exact of_decide_eq_true hd
     |false=>rw[hd] at huv;cases huv
    have hsm:El l (i+(k+1))=C:=by rw[show i+(k+1)=i+k+1 by omega,Kk (by omega) (by rw[eu,ev,he]), ←hC]
    exact zI (zN (zE (zB (wP I (wP I (wV 34 ((k+1:Nat):Int) I (Ay (by omega)) (wP I (Aa (A6 (k+1) ⟨by omega,by omega,by rw[hsm];exact hk3,by rw[hsm];omega⟩ (by show l.length-i-(k+1)<l.length-i-k;omega) ⟨I,by rw[hsm];rfl,I,I,tO⟩ [] (by rw[hsm];rfl))))))))))
  have ek:i+k=l.length:=by omega
  rw[ek] at hC
  have hCC:Hb l=C:=hC.symm
  refine wU 32 false I (dF (by omega)) (Aa (zE (zS I (zJ (zK (zK (zL (zE (zA (zB ?_))))))))))
  have hd1:(ptC (l.drop C.length)).length=(l.length-C.length)*2:=by rw[AR,List.length_drop]
  refine wP I (wP I ?_)
  refine Eu C.length tH I I I I I I I I (by omega) hcap ?_
  refine Af 56 (.slice (some ⟨g,0+C.length*2,none⟩) (l.length-C.length) (cap-C.length)) I (by rw[if_neg (by omega)]) ?_
  refine Vx 1 (e:=35) (z:= .agg #[str [],str []]) Tryz.underlying22 Tryz.zeroValue35 I I I I I I I I I (Sc _) (by rw[SR];show 0+C.length*2+_≤(ptC (C++l.drop C.length)++junk).length;rw[List.length_append,AR,hlen];omega) ?_
  refine Aa (zE (zA (zB (wP I (wP I ?_)))))
  refine C6 C.length tH I I I I I I I I (by omega) ?_
  refine wP I (Aa (zE (zO (zQ (zP (zP (zQ (zP ?_))))))))
  have hs3:B5 (ptC (C++l.drop C.length)++junk) (0+C.length*2) (Cc (Value.agg #[str [],str []]).cells.toList (l.length-C.length))=ptC C++(Cc (Value.agg #[str [],str []]).cells.toList (l.length-C.length)++junk):=by
   rw[BX,List.append_assoc,show 0+C.length*2=(ptC C).length by rw[AR];omega]
   exact R7 (ptC C) (ptC (l.drop C.length)) junk _ (by rw[hd1,SR])
  rw[hCC]
  exact Au tH I (.tmp I) (Cc (Value.agg #[str [],str []]).cells.toList (l.length-C.length)++junk) I tO fun W1 hp=>by
   rw[show[AP (At W g),Br g (C++l.drop C.length) junk].set 1 _=[AP (At W g),(⟨g,35,B5 (ptC (C++l.drop C.length)++junk) (0+C.length*2) (Cc (Value.agg #[str [],str []]).cells.toList (l.length-C.length)),true,none⟩:Bx)] from rfl,hs3] at hp
   exact(hp.pick (l:=[AP (At W g),Br g C (Cc (Value.agg #[str [],str []]).cells.toList (l.length-C.length)++junk)]) [0,1] (by decide) I).own
 refine key.mono ?_
 rintro e W' ⟨x,he,_,hb,hn'⟩
 exact⟨x,he,tO,E5 hg I hb hn'⟩
theorem Ci.cells {W:World} {p:Option Addr} {l:List Ag} (h:Ci W p l):LQ W p (ptC l):=by
 rcases h with rfl|⟨b,off,e,h⟩
 ·exact .inl I
 ·by_cases h0:l=[]
  ·exact .inl (by rw[h0];rfl)
  refine .inr ⟨b,off,e, ?_⟩
  have hpos:0<l.length:=List.length_pos_iff.2 h0
  refine⟨(h 0 hpos).lt,fun m u hu=> ?_⟩
  have hm:m<l.length*2:=by rw[←AR];exact(List.getElem?_eq_some_iff.1 hu).1
  have hi:m/2<l.length:=by omega
  have hr:=h (m/2) hi
  have hd:=UX hi
  rw[hd,List.getElem?_append_right (by rw[AR,List.length_take];omega),AR,List.length_take,Nat.min_eq_left (by omega),List.getElem?_append_left (by show _<2;omega)] at hu
  have:=hr.get (m-m/2*2) u hu
  rwa [show off+m/2*2+(m-m/2*2)=off+m by omega] at this
theorem FT (W:World) (p:Option Addr) (cap:Nat) (l:List Ag) (hn:l.length≤100000) (hA:Ci W p l) (hne:l≠[]):
  Ai Tryz.prog 27 #[slv p l.length cap] W (fun V:Vec=>V.val l.length) (fun V=>V.OK 2 l.length (ptC l)∧V.p≠none) (fun V=>[V.bx 35 (ptC l)]):=by
 have hc:=hA.cells
 obtain⟨b,off,rfl,hR⟩: ∃b off,p=some ⟨b,off,none⟩∧Ak W b off (ptC l):=by
  rcases hc with h|h
  ·exfalso
   have h2:l.length*2=0:=by rw[←AR,h];rfl
   exact hne (List.length_eq_zero_iff.1 (by omega))
  ·exact h
 refine Ab (args:=[slv (some ⟨b,off,none⟩) l.length cap]) Tryz.func27 I I I ?_
 refine zA (zB (wP I (Aa (zE (zA (zA (zB (wP I ?_))))))))
 refine UZ tH I I I I I I I ?_
 refine zC (zE (zS I (zI (zE (zA (zB ?_))))))
 refine E3 tH I I I I I ?_
 intro g
 refine wP I ?_
 refine Gh (len:=0) (V:=⟨some g,0,[]⟩) (xs:=[]) 0 Tryz.vec22 rfl rfl rfl rfl rfl rfl rfl rfl rfl ⟨rfl,(fun h=>by cases h),fun _=>⟨Nat.le_refl _,Nat.zero_le _,rfl⟩⟩ (AR l) (fun W hp j u hj=> ?_) (GU _) (by simp only[maxLen];omega) (by omega) ?_
 ·rw[Addr.add_none]
  exact((hR.hp hp).get j u hj)
 intro V hV hp0
 refine wP I (Aa (zE (zO ?_)))
 have e0:0+l.length=l.length:=Nat.zero_add _
 rw[e0,List.nil_append] at hV
 exact Au tH I (.tmp I) V (by rw[e0]) ⟨hV,fun h=>hne (List.length_eq_zero_iff.1 (hp0 h))⟩ fun W hp=>As.of_hp1 hp 0 I
-- BOXES 3
-- CODE2
abbrev Ub (ix:Nat→Nat) (P:Nat→Ag) (k:Nat):List Value:=[.int .i64 (ix k:Nat),cvV (P k)]
theorem Ru (p:Option Addr) (n cap:Nat) (W:World):Ai Tryz.prog 78 #[slv p n cap] W (fun b:Nat=> .func (.func 139) #[] #[Aj b]) (fun _=>True) (fun b=>[⟨b,22,[slv p n cap],true,none⟩]):=by
 refine Ab (args:=[slv p n cap]) Tryz.func78 I I I ?_
 refine zA (zB ?_)
 (refine A5 rfl rfl rfl rfl ?_;intro)
 refine wP I (Aa ?_)
 rename_i b
 exact zE (zA (zB (wP I (wP I (Aa (zE (zO (Au tH I (.tmp I) b I tO fun W1 hp=>As.of_hp hp))))))))
theorem PG (p:Option Addr) (n cap:Nat) (W:World):Ai Tryz.prog 79 #[slv p n cap] W (fun b:Nat=> .func (.func 140) #[] #[Aj b]) (fun _=>True) (fun b=>[⟨b,22,[slv p n cap],true,none⟩]):=by
 refine Ab (args:=[slv p n cap]) Tryz.func79 I I I ?_
 refine zA (zB ?_)
 (refine A5 rfl rfl rfl rfl ?_;intro)
 refine wP I (Aa ?_)
 rename_i b
 exact zE (zA (zB (wP I (wP I (Aa (zE (zO (Au tH I (.tmp I) b I tO fun W1 hp=>As.of_hp hp))))))))
theorem Tm (l:List Ag) (b1:Nat) (p:Option Addr) (cap:Nat) (hn:l.length<1099511627776):Q6 Tryz.prog 139 [Aj b1] l.length (Ub (fun k=>k) (Ae l)) (fun _=>Ug b1 p cap l):=by
 refine⟨fun y J Jx hN hB hA hU hY W hJ=> ?_⟩
 have hp0:=(hN _ _ W hJ).1.pts
 refine Ev (args:=[.func (.yield y) #[] #[],Aj b1]) (J0:=J 0 []) (Jm:=fun W=> ∃L,J l.length L W) Tryz.func139 I I I hJ ?_
 refine zA (zB (wL 0 I I (fun W hp=>(hN _ _ W hp).1.var) I (wP I (wP I (Aa (zE (zH ?_)))))))
 refine Ea (X:=Nat×List (Nat×Obj)) (fun s=>[(0, .func (.yield y) #[] #[]),(1,Aj b1),(5,slv p l.length cap),(6, .int .i64 (l.length:Nat)),(7, .int .i64 (s.1:Nat))]) (fun s W=>J s.1 s.2 W)
  (fun s=>s.1≤l.length) (fun s=>l.length-s.1) (0,[]) (Nat.zero_le _) ⟨rfl,rfl,rfl,rfl,rfl,trivial⟩ (fun W hp=>hp) ?_
 rintro⟨i,L⟩ hi
 have hi:i≤l.length:=hi
 refine zA (zB (wP I ?_))
 by_cases hlt:i<l.length
 rotate_left
 ·refine wU 8 false I (dF (by omega)) (Aa (zE (zA (zS I (zJ (zK (zK (zL ?_))))))))
  exact HY I fun W hp=>⟨L,by
   have e:i=l.length:=by omega
   have hp:J i L W:=hp
   rw[e] at hp
   exact hp⟩
 refine wU 8 true I (dT (by omega)) (Aa (zE (zA (zR I (zI (zE (zA (zH (zA (zB ?_))))))))))
 obtain⟨g,off,hpe,hrow⟩: ∃g off,p=some ⟨g,off,none⟩∧ ∀W k L,J k L W→ ∀j,j<l.length→Ak W g (off+j*2) [str (Ad (Ae l j).1),str (Ad (Ae l j).2)]:=by
  obtain⟨g,off,e,_⟩:=hp0.at_ hlt
  refine⟨g,off,e,fun W1 k L1 h1 j hj=> ?_⟩
  obtain⟨g',off',e',h2⟩:=(hN _ _ W1 h1).1.pts.at_ hj
  rw[e] at e'
  cases e'
  rw[AE hj]
  exact h2 j hj
 subst hpe
 refine wP I ?_
 refine wJ ?_
 refine wL 0 I I (fun W hp=>hrow W _ _ hp i hlt) I ?_
 refine N1 (fun b W=>J i [(b, .cells (Value.agg #[str [],str []]).cells 35 (0,0))] W) I I I (Tryz.hZ.get I) (fun W W' b hp hb hl ho=>hA _ _ W W' b _ hp hb hl ho) fun b=> ?_
 refine wP I ?_
 refine N3 (cs:=[str [],str []]) (ty:=35) (fun W=>J i (MI b (Ae l i)) W) tH I I I I I I (fun W hp=>(hN _ _ W hp).2 (b,_) (List.mem_cons_self ..)) I I I (fun W W' hp hu=>hU _ _ _ _ W W' hp hu) ?_
 refine Aa (zE (zA (zB (wP I (wP I (wL 0 I I (fun W hp=>show Ak W b 0 (cvV (Ae l i)).cells.toList from Ak.of_block ((hN _ _ W hp).2 (b,_) (List.mem_cons_self ..))) I ?_))))))
 have hYk: ∀W,J i (MI b (Ae l i)) W→YieldAt (Fw none) 0 Tryz.prog y (Ub (fun k=>k) (Ae l) i).toArray W fun e W'=>(e= .returned (.bool true)∧J (i+1) (MI b (Ae l i)) W')∨(e= .returned (.bool false)∧Jx W'):=fun W h=>hY _ _ W hlt h
 refine Gi (A1:=fun W=>J (i+1) (MI b (Ae l i)) W) (A2:=Jx) I I I I I I hYk ?_ ?_
 rotate_left
 ·exact wP I (Aa (zE (zR I (zO (zQ (zP (zP (zQ (Dn I (fun W h=>h))))))))))
 exact wP I (Aa (zE (zS I (zI (zN (zE (zB (wP I (wV 17 ((i+1:Nat):Int) I (Ay (by omega)) (wP I (Aa (Ei (i+1,MI b (Ae l i)) hlt (by show l.length-(i+1)<l.length-i;omega) ⟨I,I,I,I,I,tO⟩ (fun W hp=>hp)))))))))))))
theorem QP (l:List Ag) (b1:Nat) (p:Option Addr) (cap:Nat) (hn:l.length<1099511627776):Q6 Tryz.prog 140 [Aj b1] l.length (Ub (fun k=>l.length-1-k) (fun k=>Ae l (l.length-1-k))) (fun _=>Ug b1 p cap l):=by
 refine⟨fun y J Jx hN hB hA hU hY W hJ=> ?_⟩
 have hp0:=(hN _ _ W hJ).1.pts
 refine Ev (args:=[.func (.yield y) #[] #[],Aj b1]) (J0:=J 0 []) (Jm:=fun W=> ∃L,J l.length L W) Tryz.func140 I I I hJ ?_
 refine zA (zB (wL 0 I I (fun W hp=>(hN _ _ W hp).1.var) I (wP I (wP I (wV 6 ((l.length:Int)-1-(0:Nat)) I (show w64 ((l.length:Int)-1)=_ by rw[Ap (by omega) (by omega)];omega) (wP I (Aa (zE (zH ?_)))))))))
 refine Ea (X:=Nat) (fun k=>[(0, .func (.yield y) #[] #[]),(1,Aj b1),(3, .int .i64 ((l.length:Int)-1-(k:Nat)))]) (fun k W=>J k [] W)
  (fun k=>k≤l.length) (fun k=>l.length-k) 0 (Nat.zero_le _) ⟨rfl,rfl,rfl,trivial⟩ (fun W hp=>hp) ?_
 intro k hk
 have hk:k≤l.length:=hk
 refine zA (zA (zB (wP I (wP I ?_))))
 by_cases hlt:k<l.length
 rotate_left
 ·refine wU 8 false I (dF (by omega)) (Aa (zE (zS I (zJ (zK (zK (zL ?_)))))))
  exact HY I fun W hp=>⟨[],by
   have e:k=l.length:=by omega
   have hp:J k [] W:=hp
   rw[e] at hp
   exact hp⟩
 refine wU 8 true I (dT (by omega)) (Aa (zE (zR I (zI (zE (zA (zH (zA (zB ?_)))))))))
 obtain⟨g,off,hpe,hrow⟩: ∃g off,p=some ⟨g,off,none⟩∧ ∀W k L,J k L W→ ∀j,j<l.length→Ak W g (off+j*2) [str (Ad (Ae l j).1),str (Ad (Ae l j).2)]:=by
  obtain⟨g,off,e,_⟩:=hp0.at_ hlt
  refine⟨g,off,e,fun W1 k L1 h1 j hj=> ?_⟩
  obtain⟨g',off',e',h2⟩:=(hN _ _ W1 h1).1.pts.at_ hj
  rw[e] at e'
  cases e'
  rw[AE hj]
  exact h2 j hj
 subst hpe
 have ej:(l.length:Int)-1-(k:Nat)=((l.length-1-k:Nat):Int):=by omega
 have hj:l.length-1-k<l.length:=by omega
 refine wP I (wP I (wV 12 ((l.length-1-k:Nat):Int) I ej (wL 0 I I (fun W hp=>(hN _ _ W hp).1.var) I (wP I (wV 14 ((l.length-1-k:Nat):Int) I ej ?_)))))
 refine wJ ?_
 refine wL 0 I I (fun W hp=>hrow W _ _ hp (l.length-1-k) hj) I ?_
 have hYk: ∀W,J k [] W→YieldAt (Fw none) 0 Tryz.prog y (Ub (fun k=>l.length-1-k) (fun k=>Ae l (l.length-1-k)) k).toArray W fun e W'=>(e= .returned (.bool true)∧J (k+1) [] W')∨(e= .returned (.bool false)∧Jx W'):=fun W h=>hY _ _ W hlt h
 refine Gi (A1:=fun W=>J (k+1) [] W) (A2:=Jx) I I I I I I hYk ?_ ?_
 rotate_left
 ·exact wP I (Aa (zE (zR I (zO (zQ (zP (zP (zQ (Dn I (fun W h=>h))))))))))
 exact wP I (Aa (zE (zS I (zI (zN (zE (zB (wP I (wP I (wV 10 ((l.length:Int)-1-((k+1:Nat):Int)) I (show w64 ((l.length:Int)-1-(k:Nat)-1)=_ by rw[Ap (by omega) (by omega)];omega) (wP I (Aa (Ei (k+1) hlt (by show l.length-(k+1)<l.length-k;omega) ⟨I,I,I,tO⟩ (fun W hp=>hp))))))))))))))
-- BOXES 6
-- CODE2
def Dh (P:Nat→Ag):Nat→List Ag
 |0=>[]
 |k+1=>P k::By (P k) (Dh P k)
theorem I1 (p:Ag):By p []=[]:=by simp[By]
theorem IG (p b:Ag):By p [b]=[b]:=by simp[By]
theorem IS {p a b:Ag} {t:List Ag} (h:A7 a b p≤0):By p (b::a::t)=By p (a::t):=by rw[By,if_pos h]
theorem H7 {p a b:Ag} {t:List Ag} (h: ¬A7 a b p≤0):By p (b::a::t)=b::a::t:=by rw[By,if_neg h]
theorem I6 (p:Ag): ∀r,(By p r).length≤r.length
 |[]=>by rw[I1];exact Nat.le_refl _
 |[b]=>by rw[IG];exact Nat.le_refl _
 |b::a::t=>by
  by_cases h:A7 a b p≤0
  ·rw[IS h]
   have:=I6 p (a::t)
   simp only[List.length_cons] at this⊢
   omega
  ·rw[H7 h];exact Nat.le_refl _
theorem Ms {p x:Ag}: ∀ {r:List Ag},x∈By p r→x∈r
 |[],h=>by rwa [I1] at h
 |[b],h=>by rwa [IG] at h
 |b::a::t,h=>by
  by_cases c:A7 a b p≤0
  ·rw[IS c] at h
   exact List.mem_cons_of_mem _ (Ms h)
  ·rwa [H7 c] at h
theorem H1 (P:Nat→Ag): ∀k,(Dh P k).length≤k
 |0=>Nat.le_refl _
 |k+1=>by
  have h1:=H1 P k
  have h2:=I6 (P k) (Dh P k)
  show(By (P k) (Dh P k)).length+1≤k+1
  omega
theorem Pw {P:Nat→Ag} {x:Ag}: ∀ {k:Nat},x∈Dh P k→ ∃i,i<k∧x=P i
 |0,h=>absurd h List.not_mem_nil
 |k+1,h=>by
  rcases List.mem_cons.1 h with rfl|h
  ·exact⟨k,by omega,I⟩
  ·obtain⟨i,hi,e⟩:=Pw (Ms h)
   exact⟨i,by omega,e⟩
theorem Ns (l:List Ag): ∀(P:Nat→Ag),(∀i (h:i<l.length),P i=l[i])→Dh P l.length=Ao l:=by
 have key: ∀(m:List Ag) (r:List Ag) (P:Nat→Ag) (j:Nat),Dh P j=r→(∀i (h:i<m.length),P (j+i)=m[i])→Dh P (j+m.length)=m.foldl (fun r p=>p::By p r) r:=by
  intro m
  induction m with
  |nil=>exact fun r P j h _=>h
  |cons x m ih=>
   intro r P j h hP
   have e0:P j=x:=hP 0 (by simp)
   rw[List.length_cons,show j+(m.length+1)=j+1+m.length by omega]
   rw[List.foldl_cons]
   refine ih _ P (j+1) ?_ fun i hi=> ?_
   ·show P j::By (P j) (Dh P j)=_
    rw[e0,h]
   ·have:=hP (i+1) (by rw[List.length_cons];omega)
    rw[show j+1+i=j+(i+1) by omega,this];rfl
 intro P hP
 have:=key l [] P 0 rfl (fun i h=>by rw[Nat.zero_add];exact hP i h)
 rwa [Nat.zero_add] at this
theorem Qu (l:List Ag):Dh (Ae l) l.length=Ao l:=Ns l _ fun _ h=>AE h
theorem Pc (l:List Ag):Dh (fun k=>Ae l (l.length-1-k)) l.length=Ao l.reverse:=by
 have:=Ns l.reverse (fun k=>Ae l (l.length-1-k)) fun i h=>by
  rw[List.length_reverse] at h
  show Ae l (l.length-1-i)=_
  rw[AE (by omega),List.getElem_reverse]
 rwa [List.length_reverse] at this
theorem Wj (p q r:Ag):decide (RR p q r≤0)=decide (A7 p q r≤0):=by
 unfold RR
 rw[Sn]
 exact decide_eq_decide.2 (by unfold A7;constructor<;>intro h<;>grind)
abbrev JS (c:Nat) (x y z:Ag) (W:World):Prop:=Ai Tryz.prog 55 #[Aj c,cvV x,cvV y,cvV z] W (fun _:Unit=> .int .i64 (RR x y z)) (fun _=>True) (fun _=>[])
theorem So (a b:Ag) (t:List Ag) (j:List Value):ptC (b::a::t).reverse++j=ptC t.reverse++([str (Ad a.1),str (Ad a.2)]++([str (Ad b.1),str (Ad b.2)]++j)):=by
 rw[List.reverse_cons,List.reverse_cons,BX,BX,List.append_assoc,List.append_assoc];rfl
theorem SF (b:Ag) (t:List Ag) (j:List Value):ptC t.reverse++(ptC [b]++j)=ptC (b::t).reverse++j:=by
 rw[List.reverse_cons,BX,List.append_assoc]
theorem S7 {g cap:Nat} {j:List Value} {b:Ag} {t:List Ag} (h:(⟨some g,cap,j⟩:Vec).OK 2 (b::t).length (ptC (b::t).reverse)):(⟨some g,cap,ptC [b]++j⟩:Vec).OK 2 t.length (ptC t.reverse):=by
 obtain⟨h1,h2,h3⟩:=h.cap (by simp)
 refine⟨by rw[AR,List.length_reverse],(fun e=>by cases e),fun _=>⟨?_,h2, ?_⟩⟩
 ·have h1:t.length+1≤cap:=h1
  show t.length≤cap
  omega
 ·rw[AR,List.length_reverse] at h3
  show(ptC t.reverse).length+(ptC [b]++j).length=cap*2
  have h3:(t.length+1)*2+j.length=cap*2:=h3
  rw[AR,List.length_reverse,List.length_append]
  show t.length*2+(2+j.length)=cap*2
  omega
theorem Ky (bk c gf:Nat) (lb:List Value) (hE:Bf Tryz.prog gf=true) (m:Nat) (ix:Nat→Nat) (P:Nat→Ag) (Need:Nat→World→Prop) (hI:Q6 Tryz.prog gf lb m (Ub ix P) Need) (h0:0<m) (hm:m≤4096) (W:World) (hk:Ak W bk 0 [Aj c])
  (hN: ∀k W1,Below W.heap.size W W1→Need k W1) (hL: ∀i j k,i<m→j<m→k<m→ ∀W1,Below W.heap.size W W1→JS c (P i) (P j) (P k) W1):
  Ai Tryz.prog 76 #[.func (.func gf) #[] lb.toArray,Aj bk] W (fun V:Vec=>V.val ((Dh P m).length-1)) (fun V=>V.OK 2 ((Dh P m).length-1) (ptC (Dh P m).tail.reverse)∧V.p≠none) (fun V=>[V.bx 35 (ptC (Dh P m).tail.reverse)]):=by
 obtain⟨S,hS⟩: ∃S,S=Dh P m:=⟨_,rfl⟩
 rw[←hS]
 refine Ab (args:=[.func (.func gf) #[] lb.toArray,Aj bk]) Tryz.func76 I I I ?_
 refine zA (zB (wP I (Aa (zE (zA (zB ?_))))))
 (refine Ah Tryz.hZ rfl rfl rfl rfl ?_;intro)
 refine Aa ?_
 rename_i b4
 refine zE (zA (zA (zB (wP I (Aa (zE (zH ?_)))))))
 refine F6 ?_
 refine Fp (X:=Nat×Vec) (fun x=>[lsB b4 (x.2.val (Dh P x.1).length),x.2.bx 35 (ptC (Dh P x.1).reverse)])
  (fun j x=>x.1=j∧x.2.OK 2 (Dh P x.1).length (ptC (Dh P x.1).reverse)) (fun _ _=>False) (0,Vec.empty) rfl hE hI (fun _=>rfl)
  ⟨rfl,Vec.OK.empty 2⟩ [] rfl (fun k x W1 _ hp=>hN k W1 hp.below) ?_ ?_ (fun _ _ _ _ _ h=>h.elim)
 ·rintro k ⟨k',O⟩ d l' rec L hk1 ⟨e1,hO⟩ hrec
  obtain rfl:k'=k:=e1
  have hk1:k'<m:=hk1
  have hO:O.OK 2 (Dh P k').length (ptC (Dh P k').reverse):=hO
  have hlen:=H1 P k'
  have hsu:Dh P (k'+1)=P k'::By (P k') (Dh P k'):=rfl
  have hmem: ∀x∈Dh P k', ∃i,i<m∧x=P i:=fun x hx=>by
   obtain⟨i,hi,e⟩:=Pw hx
   exact⟨i,by omega,e⟩
  obtain⟨r1,hr1⟩: ∃r1,r1=By (P k') (Dh P k'):=⟨_,rfl⟩
  have hlr:r1.length≤(Dh P k').length:=by rw[hr1];exact I6 _ _
  rw[←hr1] at hsu
  refine zB ?_
  (refine Ah Tryz.hZ rfl rfl rfl rfl ?_;intro)
  refine wS 5 I I I (Aa ?_)
  rename_i b6
  refine Dc 4 hrec I ?_
  refine CP ?_
  refine Mv (X:=Vec) (fun _=>[(1,Aj bk),(4,Aj b4),(6,Aj b6)]) (fun O=>[AP L,lsB b4 (O.val r1.length),O.bx 35 (ptC r1.reverse),BF d,Bl l' rec .busy none,ptB b6 (Ad (P k').1) (Ad (P k').2)]) (fun O=>O.OK 2 r1.length (ptC r1.reverse)) ?_ ?_
  ·refine zH ?_
   refine AA (X:=List Ag×Vec) (fun _=>[(1,Aj bk),(4,Aj b4),(6,Aj b6)]) (fun s=>[AP L,lsB b4 (s.2.val s.1.length),s.2.bx 35 (ptC s.1.reverse),BF d,Bl l' rec .busy none,ptB b6 (Ad (P k').1) (Ad (P k').2)])
    (fun s=>By (P k') s.1=r1∧(∀x∈s.1,x∈Dh P k')∧s.1.length≤4096∧s.2.OK 2 s.1.length (ptC s.1.reverse)) (fun s=>s.1.length) (Dh P k',O) ⟨hr1.symm,fun _ h=>h,by show(Dh P k').length≤4096;omega,hO⟩ ⟨rfl,rfl,rfl,trivial⟩ [] rfl ?_
   rintro⟨r,⟨pO,cO,jO⟩⟩ ⟨i1,i2,i3,i4⟩
   have i1:By (P k') r=r1:=i1
   have i2: ∀x∈r,x∈Dh P k':=i2
   have i3:r.length≤4096:=i3
   have i4:(⟨pO,cO,jO⟩:Vec).OK 2 r.length (ptC r.reverse):=i4
   rcases r with _|⟨b,_|⟨a,t⟩⟩
   ·obtain rfl:r1=[]:=by rw[←i1,I1]
    cases pO with
    |none=>
     refine zA (zA (zU (qB 1 I I I (qP I (qP I ?_)))))
     refine D9 12 (.bool false) I I ?_
     refine qP I ?_
     iterate 16 refine HZ I I ?_
     exact qP I (AT (Aa (zE (zS I (zJ (zK (zK (zL (An (⟨none,cO,jO⟩:Vec) i4 ⟨I,I,I,tO⟩ [] I)))))))))
    |some g=>
     refine zA (zA (zU (qB 1 I I I (qP I (qP I ?_)))))
     refine D9 12 (.bool false) I I ?_
     refine qP I ?_
     iterate 16 refine HZ I I ?_
     exact qP I (AT (Aa (zE (zS I (zJ (zK (zK (zL (An (⟨some g,cO,jO⟩:Vec) i4 ⟨I,I,I,tO⟩ [] I)))))))))
   ·obtain rfl:r1=[b]:=by rw[←i1,IG]
    cases pO with
    |none=>exact absurd (i4.nil rfl) (by simp)
    |some g=>
    refine zA (zA (zU (qB 1 I I I (qP I (qP I ?_)))))
    refine D9 12 (.bool false) I I ?_
    refine qP I ?_
    iterate 16 refine HZ I I ?_
    exact qP I (AT (Aa (zE (zS I (zJ (zK (zK (zL (An (⟨some g,cO,jO⟩:Vec) i4 ⟨I,I,I,tO⟩ [] I)))))))))
   ·cases pO with
    |none=>exact absurd (i4.nil rfl) (by simp)
    |some g=>
    have i3:t.length+1+1≤4096:=i3
    have el:(b::a::t).length=t.length+2:=rfl
    obtain⟨ia,ha,ea⟩:=hmem a (i2 a (by simp))
    obtain⟨ib,hb,eb⟩:=hmem b (i2 b (by simp))
    have hleft: ∀W1,Below W.heap.size W W1→JS c a b (P k') W1:=fun W1 h=>by rw[ea,eb];exact hL ia ib k' ha hb hk1 W1 h
    have hA:(ptC t.reverse).length=t.length*2:=by rw[AR,List.length_reverse]
    refine zA (zA (zU (qB 1 I I I (qP I (qP I (qU 12 true I (dT (by rw[el];omega)) (qP I (qL 0 I I (fun W1 hp=>hk.hp hp) I (qB 1 I I I (qB 1 I I I (qP I (qP I (qV 18 ((t.length:Nat):Int) I (show w64 (((b::a::t).length:Int)-2)=_ by rw[el,Ap (by omega) (by omega)];omega) ?_)))))))))))))
    refine qI I I (by omega) (by rw[el];omega) (qL 0 I I (fun W1 hp=>show Ak W1 g (0+t.length*2) [str (Ad a.1),str (Ad a.2)] from JM hp 2 (A:=ptC t.reverse) (C:=[str (Ad b.1),str (Ad b.2)]++jO) I (So a b t jO) (by rw[hA];omega)) I (qB 1 I I I (qB 1 I I I (qP I (qP I (qV 24 ((t.length+1:Nat):Int) I (show w64 (((b::a::t).length:Int)-1)=_ by rw[el,Ap (by omega) (by omega)];omega) (qI I I (by omega) (by rw[el];omega) (qL 0 I I (fun W1 hp=>show Ak W1 g (0+(t.length+1)*2) [str (Ad b.1),str (Ad b.2)] from JM hp 2 (A:=ptC t.reverse++[str (Ad a.1),str (Ad a.2)]) (C:=jO) I ((So a b t jO).trans (by rw[List.append_assoc])) (by rw[List.length_append,hA];show 0+(t.length+1)*2=t.length*2+2;omega)) I (qB 5 I I I (qC I I (fun W1 hp=>hleft W1 hp.below) (qP I (qU 29 (decide (A7 a b (P k')≤0)) I (Wj a b (P k')) (qP I ?_)))))))))))))
    refine AT (Aa (zE ?_))
    refine Av I (fun hc=> ?_) (fun hc=> ?_)
    ·have hc':A7 a b (P k')≤0:=of_decide_eq_true hc
     refine zI (zE (zH (zB (wB 1 I I I (wB 1 I I I (wP I (wP I (wV 34 ((t.length+1:Nat):Int) I (show w64 (((b::a::t).length:Int)-1)=_ by rw[el,Ap (by omega) (by omega)];omega) ?_))))))))
     refine C6 (t.length+1) tH I I I I I I I I (by have h2:t.length+2≤cO:=(i4.cap (by simp)).1;show t.length+1≤cO;omega) ?_
     refine wS 1 I I I (Aa (zN ?_))
     exact A6 (a::t,(⟨some g,cO,ptC [b]++jO⟩:Vec)) ⟨by rw[←i1,IS hc'],fun x hx=>i2 x (List.mem_cons_of_mem _ hx),by show t.length+1≤4096;omega,S7 i4⟩ (by show t.length+1<t.length+1+1;omega) ⟨I,I,I,tO⟩ []
      (by show _=[AP L,lsB b4 (.slice (some ⟨g,0,none⟩) (t.length+1) cO),(⟨g,35,ptC (a::t).reverse++(ptC [b]++jO),true,none⟩:Bx),BF d,Bl l' rec .busy none,ptB b6 (Ad (P k').1) (Ad (P k').2)];rw[SF];rfl)
    ·have hc': ¬A7 a b (P k')≤0:=of_decide_eq_false hc
     obtain rfl:r1=b::a::t:=by rw[←i1,H7 hc']
     exact zJ (zK (zK (zL (An (⟨some g,cO,jO⟩:Vec) i4 ⟨I,I,I,tO⟩ [] I))))
  ·intro O1 hO1
   have hO1:O1.OK 2 r1.length (ptC r1.reverse):=hO1
   refine zB (wB 1 I I I (wB 5 I I I ?_))
   refine AF Tryz.hZ tH I I I I I I I I I I I fun bS=> ?_
   refine Bs (V:=O1) (len:=r1.length) (xs:=ptC r1.reverse) 2 6 Tryz.vec22 (r1.length+1) (ptC (P k'::r1).reverse) I I I I I I I I I I I hO1 I I I (by rw[List.reverse_cons,BX];rfl) (by simp only[maxLen];omega) (by omega) I ?_
   intro gO cO jO hO2
   exact wS 1 I I I (Aa (zN (Cu 4 (k'+1,(⟨some gO,cO,jO⟩:Vec)) hrec I ⟨I,by show(⟨some gO,cO,jO⟩:Vec).OK 2 (Dh P (k'+1)).length (ptC (Dh P (k'+1)).reverse);rw[hsu];exact hO2⟩ [_,_] (by rw[hsu];rfl))))
 ·rintro⟨k',⟨pO,cO,jO⟩⟩ d l' rec ⟨e1,hO⟩
  obtain rfl:k'=m:=e1
  have hO:(⟨pO,cO,jO⟩:Vec).OK 2 (Dh P k').length (ptC (Dh P k').reverse):=hO
  have hlen:=H1 P k'
  have hne:S≠[]:=by
   obtain⟨j,rfl⟩: ∃j,k'=j+1:=⟨k'-1,by omega⟩
   rw[hS]
   exact List.cons_ne_nil _ _
  rw[←hS] at hO hlen
  rw[←hS]
  clear hS
  obtain⟨b,t,rfl⟩: ∃b t,S=b::t:=by
   cases S with
   |nil=>exact absurd rfl hne
   |cons b t=>exact⟨b,t,rfl⟩
  cases pO with
  |none=>exact absurd (hO.nil rfl) (by simp)
  |some g=>
  have hlen:t.length+1≤k':=hlen
  have el:(b::t).length=t.length+1:=rfl
  refine zN (zE (zA (zB (wB 0 I I I (wB 0 I I I (wP I (wP I (wV 43 (t.length:Nat) I (show w64 (((b::t).length:Int)-1)=_ by rw[el,Ap (by omega) (by omega)];omega) ?_))))))))
  refine C6 t.length tH I I I I I I I I (by have h2:t.length+1≤cO:=(hO.cap (by simp)).1;show t.length≤cO;omega) ?_
  refine wP I (Aa (zE (zO ?_)))
  refine CW 2 I ?_
  exact Au tH I (.tmp I) (⟨some g,cO,ptC [b]++jO⟩:Vec) I ⟨S7 hO,by simp⟩ fun W1 hp=>by
   have h1:=hp.pick (l:=[(⟨g,35,ptC (b::t).reverse++jO,true,none⟩:Bx)]) [1] (by decide) rfl
   rw[←SF] at h1
   exact As.of_hp h1
-- BOXES 5
theorem KN (p q:Rat) (hkp:okQ p) (hkq:okQ q) (h:BE p q) (W0:World) (hv:BL W0) (ht:AM W0):
  Ai Tryz.prog 119 #[str (Ad p),str (Ad q)] W0 (fun _:Unit=> .tuple #[.int .i64 (Fj (p.num*(q.den:Nat)) (q.num*(p.den:Nat))), .int .i64 0]) (fun _=>True) (fun _=>[]):=by
 have hlp:=Bj hkp
 have hlq:=Bj hkq
 refine Ab (args:=[str (Ad p),str (Ad q)]) Tryz.func119 I I I ?_
 repeat (first|refine zA ?_|refine zB ?_|refine zC ?_|refine zD ?_|refine zE ?_|refine zF ?_|refine zG ?_|refine zH ?_|refine zI ?_|refine zJ ?_|refine zK ?_|refine zL ?_|refine zM rfl ?_|refine zN ?_|refine zO ?_|refine zP ?_|refine zQ ?_|refine zR rfl ?_|refine zS rfl ?_|refine zU ?_)
 refine wP I (wP I (Aa (AI (A0 ?_))))
 refine AG (X:=Unit) (fun _=>[(0,str (Ad p)),(1,str (Ad q)),(4, .int .i64 0),(5, .int .i64 0)]) (fun _=>[]) (fun _=>True) ?_ ?_
 ·repeat (first|refine zA ?_|refine zB ?_|refine zC ?_|refine zD ?_|refine zE ?_|refine zF ?_|refine zG ?_|refine zH ?_|refine zI ?_|refine zJ ?_|refine zK ?_|refine zL ?_|refine zM rfl ?_|refine zN ?_|refine zO ?_|refine zP ?_|refine zQ ?_|refine zR rfl ?_|refine zS rfl ?_|refine zU ?_)
  refine wP I ?_
  by_cases hp:smQ p
  ·refine wC I I (fun W _=>(AW (Ad p) (by omega) W).cast ((BN p).trans (if_pos hp))) (wP I (wP I (wP I ?_)))
   (refine Ah Tryz.hZ rfl rfl rfl rfl ?_;intro)
   (first|refine wS 0 rfl rfl rfl ?_|refine wS 1 rfl rfl rfl ?_|refine wS 2 rfl rfl rfl ?_|refine wS 3 rfl rfl rfl ?_|refine wS 4 rfl rfl rfl ?_)
   refine wP I (Aa ?_)
   rename_i b6
   repeat (first|refine zA ?_|refine zB ?_|refine zC ?_|refine zD ?_|refine zE ?_|refine zF ?_|refine zG ?_|refine zH ?_|refine zI ?_|refine zJ ?_|refine zK ?_|refine zL ?_|refine zM rfl ?_|refine zN ?_|refine zO ?_|refine zP ?_|refine zQ ?_|refine zR rfl ?_|refine zS rfl ?_|refine zU ?_)
   refine wP I (Aa ?_)
   repeat (first|refine zA ?_|refine zB ?_|refine zC ?_|refine zD ?_|refine zE ?_|refine zF ?_|refine zG ?_|refine zH ?_|refine zI ?_|refine zJ ?_|refine zK ?_|refine zL ?_|refine zM rfl ?_|refine zN ?_|refine zO ?_|refine zP ?_|refine zQ ?_|refine zR rfl ?_|refine zS rfl ?_|refine zU ?_)
   refine wP I ?_
   by_cases hq:smQ q
   ·refine wC I I (fun W _=>(AW (Ad q) (by omega) W).cast ((BN q).trans (if_pos hq))) (wP I (wP I (wP I ?_)))
    (refine Ah Tryz.hZ rfl rfl rfl rfl ?_;intro)
    (first|refine wS 0 rfl rfl rfl ?_|refine wS 1 rfl rfl rfl ?_|refine wS 2 rfl rfl rfl ?_|refine wS 3 rfl rfl rfl ?_|refine wS 4 rfl rfl rfl ?_)
    refine wP I (Aa ?_)
    rename_i b8
    repeat (first|refine zA ?_|refine zB ?_|refine zC ?_|refine zD ?_|refine zE ?_|refine zF ?_|refine zG ?_|refine zH ?_|refine zI ?_|refine zJ ?_|refine zK ?_|refine zL ?_|refine zM rfl ?_|refine zN ?_|refine zO ?_|refine zP ?_|refine zQ ?_|refine zR rfl ?_|refine zS rfl ?_|refine zU ?_)
    refine wP I (Aa ?_)
    repeat (first|refine zA ?_|refine zB ?_|refine zC ?_|refine zD ?_|refine zE ?_|refine zF ?_|refine zG ?_|refine zH ?_|refine zI ?_|refine zJ ?_|refine zK ?_|refine zL ?_|refine zM rfl ?_|refine zN ?_|refine zO ?_|refine zP ?_|refine zQ ?_|refine zR rfl ?_|refine zS rfl ?_|refine zU ?_)
    refine wP I ?_
    (first|refine wB 0 rfl rfl rfl ?_|refine wB 1 rfl rfl rfl ?_|refine wB 2 rfl rfl rfl ?_|refine wB 3 rfl rfl rfl ?_|refine wB 4 rfl rfl rfl ?_)
    refine wP I ?_
    (first|refine wB 0 rfl rfl rfl ?_|refine wB 1 rfl rfl rfl ?_|refine wB 2 rfl rfl rfl ?_|refine wB 3 rfl rfl rfl ?_|refine wB 4 rfl rfl rfl ?_)
    refine wP I (wV 31 (p.num*(q.den:Nat)) I (Cx hp.1 (CQ q hq)) (wP I ?_))
    (first|refine wB 0 rfl rfl rfl ?_|refine wB 1 rfl rfl rfl ?_|refine wB 2 rfl rfl rfl ?_|refine wB 3 rfl rfl rfl ?_|refine wB 4 rfl rfl rfl ?_)
    refine wP I ?_
    (first|refine wB 0 rfl rfl rfl ?_|refine wB 1 rfl rfl rfl ?_|refine wB 2 rfl rfl rfl ?_|refine wB 3 rfl rfl rfl ?_|refine wB 4 rfl rfl rfl ?_)
    refine wP I (wV 36 (q.num*(p.den:Nat)) I (Cx hq.1 (CQ p hp)) (wC I I (fun W _=>IQ _ _ W) (wP I (wP I (Aa ?_)))))
    repeat (first|refine zA ?_|refine zB ?_|refine zC ?_|refine zD ?_|refine zE ?_|refine zF ?_|refine zG ?_|refine zH ?_|refine zI ?_|refine zJ ?_|refine zK ?_|refine zL ?_|refine zM rfl ?_|refine zN ?_|refine zO ?_|refine zP ?_|refine zQ ?_|refine zR rfl ?_|refine zS rfl ?_|refine zU ?_)
    exact wR2 I I I
   ·refine wC I I (fun W _=>(AW (Ad q) (by omega) W).cast ((BN q).trans (if_neg hq))) (wP I (wP I (wP I ?_)))
    (refine Ah Tryz.hZ rfl rfl rfl rfl ?_;intro)
    (first|refine wS 0 rfl rfl rfl ?_|refine wS 1 rfl rfl rfl ?_|refine wS 2 rfl rfl rfl ?_|refine wS 3 rfl rfl rfl ?_|refine wS 4 rfl rfl rfl ?_)
    refine wP I (Aa ?_)
    repeat (first|refine zA ?_|refine zB ?_|refine zC ?_|refine zD ?_|refine zE ?_|refine zF ?_|refine zG ?_|refine zH ?_|refine zI ?_|refine zJ ?_|refine zK ?_|refine zL ?_|refine zM rfl ?_|refine zN ?_|refine zO ?_|refine zP ?_|refine zQ ?_|refine zR rfl ?_|refine zS rfl ?_|refine zU ?_)
    refine wP I (Aa ?_)
    repeat (first|refine zA ?_|refine zB ?_|refine zC ?_|refine zD ?_|refine zE ?_|refine zF ?_|refine zG ?_|refine zH ?_|refine zI ?_|refine zJ ?_|refine zK ?_|refine zL ?_|refine zM rfl ?_|refine zN ?_|refine zO ?_|refine zP ?_|refine zQ ?_|refine zR rfl ?_|refine zS rfl ?_|refine zU ?_)
    exact An () tO ⟨I,I,I,I,tO⟩ _ I
  ·refine wC I I (fun W _=>(AW (Ad p) (by omega) W).cast ((BN p).trans (if_neg hp))) (wP I (wP I (wP I ?_)))
   (refine Ah Tryz.hZ rfl rfl rfl rfl ?_;intro)
   (first|refine wS 0 rfl rfl rfl ?_|refine wS 1 rfl rfl rfl ?_|refine wS 2 rfl rfl rfl ?_|refine wS 3 rfl rfl rfl ?_|refine wS 4 rfl rfl rfl ?_)
   refine wP I (Aa ?_)
   repeat (first|refine zA ?_|refine zB ?_|refine zC ?_|refine zD ?_|refine zE ?_|refine zF ?_|refine zG ?_|refine zH ?_|refine zI ?_|refine zJ ?_|refine zK ?_|refine zL ?_|refine zM rfl ?_|refine zN ?_|refine zO ?_|refine zP ?_|refine zQ ?_|refine zR rfl ?_|refine zS rfl ?_|refine zU ?_)
   refine wP I (Aa ?_)
   repeat (first|refine zA ?_|refine zB ?_|refine zC ?_|refine zD ?_|refine zE ?_|refine zF ?_|refine zG ?_|refine zH ?_|refine zI ?_|refine zJ ?_|refine zK ?_|refine zL ?_|refine zM rfl ?_|refine zN ?_|refine zO ?_|refine zP ?_|refine zQ ?_|refine zR rfl ?_|refine zS rfl ?_|refine zU ?_)
   exact An () tO ⟨I,I,I,I,tO⟩ _ I
 ·intro _ _
  repeat (first|refine zA ?_|refine zB ?_|refine zC ?_|refine zD ?_|refine zE ?_|refine zF ?_|refine zG ?_|refine zH ?_|refine zI ?_|refine zJ ?_|refine zK ?_|refine zL ?_|refine zM rfl ?_|refine zN ?_|refine zO ?_|refine zP ?_|refine zQ ?_|refine zR rfl ?_|refine zS rfl ?_|refine zU ?_)
  refine wP I (wC I I (fun W hp=>(C4 (Ad p) (by omega) W (hv.hp hp) (ht.hp hp)).cast (H8 hkp)) (wP I (wP I (wP I ?_))))
  (refine Ah Tryz.hZ rfl rfl rfl rfl ?_;intro)
  (first|refine wS 0 rfl rfl rfl ?_|refine wS 1 rfl rfl rfl ?_|refine wS 2 rfl rfl rfl ?_|refine wS 3 rfl rfl rfl ?_|refine wS 4 rfl rfl rfl ?_)
  refine wP I (Aa ?_)
  rename_i b10
  repeat (first|refine zA ?_|refine zB ?_|refine zC ?_|refine zD ?_|refine zE ?_|refine zF ?_|refine zG ?_|refine zH ?_|refine zI ?_|refine zJ ?_|refine zK ?_|refine zL ?_|refine zM rfl ?_|refine zN ?_|refine zO ?_|refine zP ?_|refine zQ ?_|refine zR rfl ?_|refine zS rfl ?_|refine zU ?_)
  refine wP I (wP I (Aa ?_))
  repeat (first|refine zA ?_|refine zB ?_|refine zC ?_|refine zD ?_|refine zE ?_|refine zF ?_|refine zG ?_|refine zH ?_|refine zI ?_|refine zJ ?_|refine zK ?_|refine zL ?_|refine zM rfl ?_|refine zN ?_|refine zO ?_|refine zP ?_|refine zQ ?_|refine zR rfl ?_|refine zS rfl ?_|refine zU ?_)
  refine wP I (wC I I (fun W hp=>(C4 (Ad q) (by omega) W (hv.hp hp) (ht.hp hp)).cast (H8 hkq)) (wP I (wP I (wP I ?_))))
  (refine Ah Tryz.hZ rfl rfl rfl rfl ?_;intro)
  (first|refine wS 0 rfl rfl rfl ?_|refine wS 1 rfl rfl rfl ?_|refine wS 2 rfl rfl rfl ?_|refine wS 3 rfl rfl rfl ?_|refine wS 4 rfl rfl rfl ?_)
  refine wP I (Aa ?_)
  rename_i b12
  repeat (first|refine zA ?_|refine zB ?_|refine zC ?_|refine zD ?_|refine zE ?_|refine zF ?_|refine zG ?_|refine zH ?_|refine zI ?_|refine zJ ?_|refine zK ?_|refine zL ?_|refine zM rfl ?_|refine zN ?_|refine zO ?_|refine zP ?_|refine zQ ?_|refine zR rfl ?_|refine zS rfl ?_|refine zU ?_)
  refine wP I (wP I (Aa ?_))
  repeat (first|refine zA ?_|refine zB ?_|refine zC ?_|refine zD ?_|refine zE ?_|refine zF ?_|refine zG ?_|refine zH ?_|refine zI ?_|refine zJ ?_|refine zK ?_|refine zL ?_|refine zM rfl ?_|refine zN ?_|refine zO ?_|refine zP ?_|refine zQ ?_|refine zR rfl ?_|refine zS rfl ?_|refine zU ?_)
  (first|refine wB 0 rfl rfl rfl ?_|refine wB 1 rfl rfl rfl ?_|refine wB 2 rfl rfl rfl ?_|refine wB 3 rfl rfl rfl ?_|refine wB 4 rfl rfl rfl ?_)
  (first|refine wB 0 rfl rfl rfl ?_|refine wB 1 rfl rfl rfl ?_|refine wB 2 rfl rfl rfl ?_|refine wB 3 rfl rfl rfl ?_|refine wB 4 rfl rfl rfl ?_)
  refine wC I I (fun W hp=>CT p q hkp hkq h.1 h.2 W (ht.hp hp)) ?_
  iterate 7 refine wP I ?_
  refine Aa ?_
  repeat (first|refine zA ?_|refine zB ?_|refine zC ?_|refine zD ?_|refine zE ?_|refine zF ?_|refine zG ?_|refine zH ?_|refine zI ?_|refine zJ ?_|refine zK ?_|refine zL ?_|refine zM rfl ?_|refine zN ?_|refine zO ?_|refine zP ?_|refine zQ ?_|refine zR rfl ?_|refine zS rfl ?_|refine zU ?_)
  refine wP I (wP I (Aa ?_))
  repeat (first|refine zA ?_|refine zB ?_|refine zC ?_|refine zD ?_|refine zE ?_|refine zF ?_|refine zG ?_|refine zH ?_|refine zI ?_|refine zJ ?_|refine zK ?_|refine zL ?_|refine zM rfl ?_|refine zN ?_|refine zO ?_|refine zP ?_|refine zQ ?_|refine zR rfl ?_|refine zS rfl ?_|refine zU ?_)
  refine wP I (wP I (wC I I (fun W _=>Hh _ _ h.1 h.2 W) (wP I (wP I (wP I (wP I (Aa ?_)))))))
  repeat (first|refine zA ?_|refine zB ?_|refine zC ?_|refine zD ?_|refine zE ?_|refine zF ?_|refine zG ?_|refine zH ?_|refine zI ?_|refine zJ ?_|refine zK ?_|refine zL ?_|refine zM rfl ?_|refine zN ?_|refine zO ?_|refine zP ?_|refine zQ ?_|refine zR rfl ?_|refine zS rfl ?_|refine zU ?_)
  exact wR2 I I I
theorem KE (p q:Rat) (hkp:okQ p) (hkq:okQ q) (hno: ¬BE p q) (W0:World) (hv:BL W0) (ht:AM W0):
  Ai Tryz.prog 119 #[str (Ad p),str (Ad q)] W0 (fun _:Unit=> .tuple #[.int .i64 0, .int .i64 4]) (fun _=>True) (fun _=>[]):=by
 obtain⟨s,hs⟩:=HK p q hkp hkq hno
 have hlp:=Bj hkp
 have hlq:=Bj hkq
 refine Ab (args:=[str (Ad p),str (Ad q)]) Tryz.func119 I I I ?_
 repeat (first|refine zA ?_|refine zB ?_|refine zC ?_|refine zD ?_|refine zE ?_|refine zF ?_|refine zG ?_|refine zH ?_|refine zI ?_|refine zJ ?_|refine zK ?_|refine zL ?_|refine zM rfl ?_|refine zN ?_|refine zO ?_|refine zP ?_|refine zQ ?_|refine zR rfl ?_|refine zS rfl ?_|refine zU ?_)
 refine wP I (wP I (Aa (AI (A0 ?_))))
 refine AG (X:=Unit) (fun _=>[(0,str (Ad p)),(1,str (Ad q)),(4, .int .i64 0),(5, .int .i64 0)]) (fun _=>[]) (fun _=>True) ?_ ?_
 ·repeat (first|refine zA ?_|refine zB ?_|refine zC ?_|refine zD ?_|refine zE ?_|refine zF ?_|refine zG ?_|refine zH ?_|refine zI ?_|refine zJ ?_|refine zK ?_|refine zL ?_|refine zM rfl ?_|refine zN ?_|refine zO ?_|refine zP ?_|refine zQ ?_|refine zR rfl ?_|refine zS rfl ?_|refine zU ?_)
  refine wP I ?_
  by_cases hp:smQ p
  ·refine wC I I (fun W _=>(AW (Ad p) (by omega) W).cast ((BN p).trans (if_pos hp))) (wP I (wP I (wP I ?_)))
   (refine Ah Tryz.hZ rfl rfl rfl rfl ?_;intro)
   (first|refine wS 0 rfl rfl rfl ?_|refine wS 1 rfl rfl rfl ?_|refine wS 2 rfl rfl rfl ?_|refine wS 3 rfl rfl rfl ?_|refine wS 4 rfl rfl rfl ?_)
   refine wP I (Aa ?_)
   rename_i b6
   repeat (first|refine zA ?_|refine zB ?_|refine zC ?_|refine zD ?_|refine zE ?_|refine zF ?_|refine zG ?_|refine zH ?_|refine zI ?_|refine zJ ?_|refine zK ?_|refine zL ?_|refine zM rfl ?_|refine zN ?_|refine zO ?_|refine zP ?_|refine zQ ?_|refine zR rfl ?_|refine zS rfl ?_|refine zU ?_)
   refine wP I (Aa ?_)
   repeat (first|refine zA ?_|refine zB ?_|refine zC ?_|refine zD ?_|refine zE ?_|refine zF ?_|refine zG ?_|refine zH ?_|refine zI ?_|refine zJ ?_|refine zK ?_|refine zL ?_|refine zM rfl ?_|refine zN ?_|refine zO ?_|refine zP ?_|refine zQ ?_|refine zR rfl ?_|refine zS rfl ?_|refine zU ?_)
   refine wP I ?_
   by_cases hq:smQ q
   ·exact absurd (RJ ⟨hp,hq⟩).2.2.2 hno
   ·refine wC I I (fun W _=>(AW (Ad q) (by omega) W).cast ((BN q).trans (if_neg hq))) (wP I (wP I (wP I ?_)))
    (refine Ah Tryz.hZ rfl rfl rfl rfl ?_;intro)
    (first|refine wS 0 rfl rfl rfl ?_|refine wS 1 rfl rfl rfl ?_|refine wS 2 rfl rfl rfl ?_|refine wS 3 rfl rfl rfl ?_|refine wS 4 rfl rfl rfl ?_)
    refine wP I (Aa ?_)
    repeat (first|refine zA ?_|refine zB ?_|refine zC ?_|refine zD ?_|refine zE ?_|refine zF ?_|refine zG ?_|refine zH ?_|refine zI ?_|refine zJ ?_|refine zK ?_|refine zL ?_|refine zM rfl ?_|refine zN ?_|refine zO ?_|refine zP ?_|refine zQ ?_|refine zR rfl ?_|refine zS rfl ?_|refine zU ?_)
    refine wP I (Aa ?_)
    repeat (first|refine zA ?_|refine zB ?_|refine zC ?_|refine zD ?_|refine zE ?_|refine zF ?_|refine zG ?_|refine zH ?_|refine zI ?_|refine zJ ?_|refine zK ?_|refine zL ?_|refine zM rfl ?_|refine zN ?_|refine zO ?_|refine zP ?_|refine zQ ?_|refine zR rfl ?_|refine zS rfl ?_|refine zU ?_)
    exact An () tO ⟨I,I,I,I,tO⟩ _ I
  ·refine wC I I (fun W _=>(AW (Ad p) (by omega) W).cast ((BN p).trans (if_neg hp))) (wP I (wP I (wP I ?_)))
   (refine Ah Tryz.hZ rfl rfl rfl rfl ?_;intro)
   (first|refine wS 0 rfl rfl rfl ?_|refine wS 1 rfl rfl rfl ?_|refine wS 2 rfl rfl rfl ?_|refine wS 3 rfl rfl rfl ?_|refine wS 4 rfl rfl rfl ?_)
   refine wP I (Aa ?_)
   repeat (first|refine zA ?_|refine zB ?_|refine zC ?_|refine zD ?_|refine zE ?_|refine zF ?_|refine zG ?_|refine zH ?_|refine zI ?_|refine zJ ?_|refine zK ?_|refine zL ?_|refine zM rfl ?_|refine zN ?_|refine zO ?_|refine zP ?_|refine zQ ?_|refine zR rfl ?_|refine zS rfl ?_|refine zU ?_)
   refine wP I (Aa ?_)
   repeat (first|refine zA ?_|refine zB ?_|refine zC ?_|refine zD ?_|refine zE ?_|refine zF ?_|refine zG ?_|refine zH ?_|refine zI ?_|refine zJ ?_|refine zK ?_|refine zL ?_|refine zM rfl ?_|refine zN ?_|refine zO ?_|refine zP ?_|refine zQ ?_|refine zR rfl ?_|refine zS rfl ?_|refine zU ?_)
   exact An () tO ⟨I,I,I,I,tO⟩ _ I
 ·intro _ _
  repeat (first|refine zA ?_|refine zB ?_|refine zC ?_|refine zD ?_|refine zE ?_|refine zF ?_|refine zG ?_|refine zH ?_|refine zI ?_|refine zJ ?_|refine zK ?_|refine zL ?_|refine zM rfl ?_|refine zN ?_|refine zO ?_|refine zP ?_|refine zQ ?_|refine zR rfl ?_|refine zS rfl ?_|refine zU ?_)
  refine wP I (wC I I (fun W hp=>(C4 (Ad p) (by omega) W (hv.hp hp) (ht.hp hp)).cast (H8 hkp)) (wP I (wP I (wP I ?_))))
  (refine Ah Tryz.hZ rfl rfl rfl rfl ?_;intro)
  (first|refine wS 0 rfl rfl rfl ?_|refine wS 1 rfl rfl rfl ?_|refine wS 2 rfl rfl rfl ?_|refine wS 3 rfl rfl rfl ?_|refine wS 4 rfl rfl rfl ?_)
  refine wP I (Aa ?_)
  rename_i b10
  repeat (first|refine zA ?_|refine zB ?_|refine zC ?_|refine zD ?_|refine zE ?_|refine zF ?_|refine zG ?_|refine zH ?_|refine zI ?_|refine zJ ?_|refine zK ?_|refine zL ?_|refine zM rfl ?_|refine zN ?_|refine zO ?_|refine zP ?_|refine zQ ?_|refine zR rfl ?_|refine zS rfl ?_|refine zU ?_)
  refine wP I (wP I (Aa ?_))
  repeat (first|refine zA ?_|refine zB ?_|refine zC ?_|refine zD ?_|refine zE ?_|refine zF ?_|refine zG ?_|refine zH ?_|refine zI ?_|refine zJ ?_|refine zK ?_|refine zL ?_|refine zM rfl ?_|refine zN ?_|refine zO ?_|refine zP ?_|refine zQ ?_|refine zR rfl ?_|refine zS rfl ?_|refine zU ?_)
  refine wP I (wC I I (fun W hp=>(C4 (Ad q) (by omega) W (hv.hp hp) (ht.hp hp)).cast (H8 hkq)) (wP I (wP I (wP I ?_))))
  (refine Ah Tryz.hZ rfl rfl rfl rfl ?_;intro)
  (first|refine wS 0 rfl rfl rfl ?_|refine wS 1 rfl rfl rfl ?_|refine wS 2 rfl rfl rfl ?_|refine wS 3 rfl rfl rfl ?_|refine wS 4 rfl rfl rfl ?_)
  refine wP I (Aa ?_)
  rename_i b12
  repeat (first|refine zA ?_|refine zB ?_|refine zC ?_|refine zD ?_|refine zE ?_|refine zF ?_|refine zG ?_|refine zH ?_|refine zI ?_|refine zJ ?_|refine zK ?_|refine zL ?_|refine zM rfl ?_|refine zN ?_|refine zO ?_|refine zP ?_|refine zQ ?_|refine zR rfl ?_|refine zS rfl ?_|refine zU ?_)
  refine wP I (wP I (Aa ?_))
  repeat (first|refine zA ?_|refine zB ?_|refine zC ?_|refine zD ?_|refine zE ?_|refine zF ?_|refine zG ?_|refine zH ?_|refine zI ?_|refine zJ ?_|refine zK ?_|refine zL ?_|refine zM rfl ?_|refine zN ?_|refine zO ?_|refine zP ?_|refine zQ ?_|refine zR rfl ?_|refine zS rfl ?_|refine zU ?_)
  (first|refine wB 0 rfl rfl rfl ?_|refine wB 1 rfl rfl rfl ?_|refine wB 2 rfl rfl rfl ?_|refine wB 3 rfl rfl rfl ?_|refine wB 4 rfl rfl rfl ?_)
  (first|refine wB 0 rfl rfl rfl ?_|refine wB 1 rfl rfl rfl ?_|refine wB 2 rfl rfl rfl ?_|refine wB 3 rfl rfl rfl ?_|refine wB 4 rfl rfl rfl ?_)
  refine wC I I (fun W hp=>hs W (ht.hp hp)) ?_
  iterate 7 refine wP I ?_
  refine Aa ?_
  repeat (first|refine zA ?_|refine zB ?_|refine zC ?_|refine zD ?_|refine zE ?_|refine zF ?_|refine zG ?_|refine zH ?_|refine zI ?_|refine zJ ?_|refine zK ?_|refine zL ?_|refine zM rfl ?_|refine zN ?_|refine zO ?_|refine zP ?_|refine zQ ?_|refine zR rfl ?_|refine zS rfl ?_|refine zU ?_)
  refine wP I (wP I (Aa ?_))
  repeat (first|refine zA ?_|refine zB ?_|refine zC ?_|refine zD ?_|refine zE ?_|refine zF ?_|refine zG ?_|refine zH ?_|refine zI ?_|refine zJ ?_|refine zK ?_|refine zL ?_|refine zM rfl ?_|refine zN ?_|refine zO ?_|refine zP ?_|refine zQ ?_|refine zR rfl ?_|refine zS rfl ?_|refine zU ?_)
  refine wP I (wP I (wP I (Aa ?_)))
  repeat (first|refine zA ?_|refine zB ?_|refine zC ?_|refine zD ?_|refine zE ?_|refine zF ?_|refine zG ?_|refine zH ?_|refine zI ?_|refine zJ ?_|refine zK ?_|refine zL ?_|refine zM rfl ?_|refine zN ?_|refine zO ?_|refine zP ?_|refine zQ ?_|refine zR rfl ?_|refine zS rfl ?_|refine zU ?_)
  exact wR2 I I I
theorem KM (p q:Rat) (hkp:okQ p) (hkq:okQ q) (W0:World) (hv:BL W0) (ht:AM W0):
  Ai Tryz.prog 119 #[str (Ad p),str (Ad q)] W0 (fun _:Unit=>cmV p q) (fun _=>True) (fun _=>[]):=by
 by_cases h:BE p q
 ·exact(KN p q hkp hkq h W0 hv ht).cast (by rw[cmV,if_pos h,O0])
 ·exact(KE p q hkp hkq h W0 hv ht).cast (by rw[cmV,if_neg h])
-- BOXES 8
-- CODE2
def erI:Bool→Int
 |true=>4
 |false=>0
abbrev caE (c:Nat) (s:Bool):Bx:=⟨c,61,[.int .i64 (erI s)],true,none⟩
abbrev caO (s:Bool):Obj:= .cells #[.int .i64 (erI s)] 61 (0,0)
structure KcP (c:Nat) (s:Bool) (W:World):Prop where
 o:W.heap[c]? =some (caO s)
 k: ∀W',Ga W W' c→BL W'∧AM W'
theorem Ga.refl (W:World) (g:Nat):Ga W W g:=⟨rfl,rfl,rfl,Nat.le_refl _,fun _ _ _=>rfl⟩
theorem KcP.v {c:Nat} {s:Bool} {W:World} (h:KcP c s W):BL W:=(h.k W (Ga.refl W c)).1
theorem KcP.t {c:Nat} {s:Bool} {W:World} (h:KcP c s W):AM W:=(h.k W (Ga.refl W c)).2
theorem KcP.at_ {c:Nat} {s s1:Bool} {W W1:World} {bs:List Bx} (h:KcP c s W) (hp:Hp (AZ W) (AP (At W c)::caE c s1::bs) W1):KcP c s1 W1:=
 ⟨(hp.own.cell 1 (caE c s1) rfl (c,caO s1) (List.mem_cons_self ..)).1,fun _ h2=>h.k _ ((FN h.o ⟨_,List.mem_cons_self ..⟩ (Hp.take (bxs:=[AP (At W c),caE c s1]) (nb:=bs) hp)).trans h2)⟩
theorem KcP.of {c:Nat} {s:Bool} {W0 W:World} {bxs:List Bx} (hp:Hp W0 bxs W) (k:Nat) (hk:nth bxs k=some (caE c s)) (hv:BL W0) (ht:AM W0):KcP c s W:=by
 rw[B0] at hk
 have hc:=hp.own.cell k _ hk (c,caO s) (List.mem_cons_self ..)
 exact⟨hc.1,fun W2 h2=>⟨hv.below (h2.below hp.below hc.2),ht.below (h2.below hp.below hc.2)⟩⟩
theorem Gb {c:Nat} {s1:Bool} {W W1:World} {bs:List Bx} (hp:Hp (AZ W) (AP (At W c)::caE c s1::bs) W1):As (AZ W) W1 [AP (At W c),caE c s1]:=
 (Hp.take (bxs:=[AP (At W c),caE c s1]) (nb:=bs) hp).own
structure Cp (g:Nat) (vs:List Value) (c:Nat) {X:Type} (st:X→Bool) (val:X→Value) (Φ:X→Prop) (W:World):Prop where
 out:Calls Tryz.prog g vs.toArray W fun e W'=> ∃x,e= .returned (val x)∧Φ x∧IU W W' c c (caO (st x))
theorem Cp.enter {N c:Nat} {s:Bool} {f:Nat} {fn:Func} {cd:Code} {args:List Value} {X:Type} {st:X→Bool} {val:X→Value} {Φ:X→Prop} {W:World} (h:KcP c s W) (hf:Tryz.prog.funcs[f]? =some fn) (hb:fn.body=some cd) (hN:fn.ntmps=N) (hl:Nat.ble args.length N=true)
  (hw:WC none 0 Tryz.prog N [] cd (Hw Tryz.prog fn (AZ W) val Φ (fun x=>[AP (At W c),caE c (st x)])) (JZ 0 args) (Hp (AZ W) [AP (At W c),caE c s])):Cp f args c st val Φ W:=by
 have key:=BO (X:=X) (val:=val) (Φ:=Φ) (nb:=fun x=>[AP (At W c),caE c (st x)]) (Hp.enterT (B:=caE c s) rfl h.o) hf hb hN hl hw
 refine⟨key.mono ?_⟩
 rintro e W' ⟨x,he,hx,hb,hn⟩
 exact⟨x,he,hx,E5 h.o I hb hn⟩
theorem Cp.same {g c:Nat} {vs:List Value} {s:Bool} {v:Value} {W:World} (h:Cp g vs c (fun _:Unit=>s) (fun _=>v) (fun _=>True) W) (ho:W.heap[c]? =some (caO s)):Ai Tryz.prog g vs.toArray W (fun _:Unit=>v) (fun _=>True) (fun _=>[]):=by
 refine⟨h.out.mono ?_⟩
 rintro e W' ⟨x,he,_,hn⟩
 refine⟨x,he,tO,⟨hn.os,hn.tape,hn.output,hn.size,fun i hi=> ?_⟩,As.nil _ _⟩
 by_cases e:i=c
 ·subst e;exact hn.new.trans ho.symm
 ·exact hn.old i e hi
section
variable {r:Option Nat} {n:Nat} {W0:World} {N:Nat} {D:List Deferred} {ops:List Oper} {Q:Exit→Act→World→Prop} {o:Oper} {rest:List Oper} {env:Env} {bxs:List Bx}
theorem Po (k c:Nat) {s:Bool} {cl:Call} {f:Operand} {g d:Nat} {vs:List Value} {X:Type} {st:X→Bool} {val:X→Value} {Φ:X→Prop} (hg:A8 ops N env o=some true) (hd:o.dst=some d) (ho:o.op= .call cl) (hc:cl.callee= .value f) (hf:evO N env f=some (.func (.func g) #[] #[])) (ha:Cq (evO N env) cl.args.toList=some vs) (hE:Bf Tryz.prog g=true)
  (hk:nth bxs k=some (caE c s)) (hC: ∀W,Hp W0 bxs W→Cp g vs c st val Φ W)
  (h: ∀x,Φ x→WL r n Tryz.prog N D ops Q rest ((d,val x)::env) (Hp W0 (bxs.set k (caE c (st x))))):WL r n Tryz.prog N D ops Q (o::rest) env (Hp W0 bxs):=
 D0 (X:=X) (val:=val) (Φ:=Φ) (capt:=[]) k (B:=caE c s) (L1:=[]) (L2:=[]) (b:=c) (ob:=caO s) (fun x=>caE c (st x)) (g':=fun _=>c) (o':=fun x=>caO (st x))
  hg hd ho hc hf ha hE hk rfl (fun _ _=>rfl) (fun W hp=>by rw[List.append_nil];exact(hC W hp).out) h
theorem Cr (k c:Nat) {s s':Bool} {v:Value} {cl:Call} {f:Operand} {g d:Nat} {vs:List Value} (hg:A8 ops N env o=some true) (hd:o.dst=some d) (ho:o.op= .call cl) (hc:cl.callee= .value f) (hf:evO N env f=some (.func (.func g) #[] #[])) (ha:Cq (evO N env) cl.args.toList=some vs) (hE:Bf Tryz.prog g=true)
  (hk:nth bxs k=some (caE c s)) (hC: ∀W,Hp W0 bxs W→Cp g vs c (fun _:Unit=>s') (fun _=>v) (fun _=>True) W)
  (h:WL r n Tryz.prog N D ops Q rest ((d,v)::env) (Hp W0 (bxs.set k (caE c s')))):WL r n Tryz.prog N D ops Q (o::rest) env (Hp W0 bxs):=
 Po k c hg hd ho hc hf ha hE hk hC (fun _ _=>h)
end
@[irreducible] def opR (ok : Prop) [Decidable ok] (r : Rat) (s : Bool) : Rat × Bool := match s with
 |true=>(0,true)
 |false=>if ok then(r,false) else(0,true)
theorem TO {ok:Prop} [Decidable ok] {r:Rat}:opR ok r true=(0,true):=by unfold opR;rfl
theorem FG {ok:Prop} [Decidable ok] {r:Rat} (h:ok):opR ok r false=(r,false):=by unfold opR;exact if_pos h
theorem UG {ok:Prop} [Decidable ok] {r:Rat} (h: ¬ok):opR ok r false=(0,true):=by unfold opR;exact if_neg h
theorem WN:okQ 0:=by
 have h:szQ 0 1:=by unfold szQ;decide+kernel
 exact h.ok (by decide)
theorem Ut {ok:Prop} [Decidable ok] {r:Rat} {s:Bool} (h:ok→okQ r):okQ (opR ok r s).1:=by
 cases s with
 |true=>rw[TO];exact WN
 |false=>
  by_cases c:ok
  ·rw[FG c];exact h c
  ·rw[UG c];exact WN
def kSb (s:Bool) (p q:Rat):Rat×Bool:=opR (Iv p q) (p-q) s
def kMu (s:Bool) (p q:Rat):Rat×Bool:=opR (Ep p q) (p*q) s
theorem NX (s:Bool) (p q:Rat):okQ (kSb s p q).1:=Ut N5
theorem UK (s:Bool) (p q:Rat):okQ (kMu s p q).1:=Ut Nl
@[irreducible] def kOr (s : Bool) (p q : Rat) : Int × Bool := match s with
 |true=>(0,true)
 |false=>if BE p q then(Dy p q,false) else(0,true)
theorem WJ {p q:Rat}:kOr true p q=(0,true):=by unfold kOr;rfl
theorem SV {p q:Rat} (h:BE p q):kOr false p q=(Dy p q,false):=by unfold kOr;exact if_pos h
theorem WH {p q:Rat} (h: ¬BE p q):kOr false p q=(0,true):=by unfold kOr;exact if_neg h
theorem SZ (c g:Nat) (a b:List UInt8) (W:World) (h:KcP c true W):
  Cp 104 [Aj c, .func (.func g) #[] #[],str a,str b] c (fun _:Unit=>true) (fun _=>str [48]) (fun _=>True) W:=by
 refine Cp.enter h Tryz.func104 I I I ?_
 refine zA (zB (wP I (Aa (zE (zA (zA (zB (wP I ?_))))))))
 refine AO I I I I ?_
 exact wP I (wB 1 I I I (wP I (Aa (zE (zR I (zA (zB (wP I (Aa (zE (zO (zP (Au tH I (.tmp I) () I tO fun W1 hp=>Gb hp)))))))))))))
theorem QM (c g:Nat) (a b v:List UInt8) (z:Bool) (W:World) (h:KcP c false W) (hE:Bf Tryz.prog g=true)
  (hg: ∀W1,BL W1→AM W1→Ai Tryz.prog g #[str a,str b] W1 (fun _:Unit=> .tuple #[str v, .int .i64 (erI z)]) (fun _=>True) (fun _=>[])):
  Cp 104 [Aj c, .func (.func g) #[] #[],str a,str b] c (fun _:Unit=>z) (fun _=>if z=true then str [48] else str v) (fun _=>True) W:=by
 refine Cp.enter h Tryz.func104 I I I ?_
 refine zA (zB (wP I (Aa (zE (zA (zA (zB (wP I ?_))))))))
 refine AO I I I I ?_
 refine wP I (wB 1 I I I (wP I (Aa (zE (zS I (zI (zE (zA (zB (wP I (wP I (wP I ?_))))))))))))
 refine Bo (capt:=[]) I I I I I I hE (fun W1 hp=>hg W1 (h.at_ (bs:=[]) hp).v (h.at_ (bs:=[]) hp).t) ?_
 iterate 5 refine wP I ?_
 refine Aa (zE (zA (zA (zB (wP I (wP I ?_))))))
 refine AO I I I I ?_
 refine wP I (wS 1 I I I (Aa (zE (zA (zB ?_)))))
 cases z with
 |true=>
  exact wP I (wP I (Aa (zE (zR I (zA (zB (wP I (Aa (zE (zO (zP (Au tH I (.tmp I) () I tO fun W1 hp=>Gb hp))))))))))))
 |false=>
  exact wP I (wP I (Aa (zE (zS I (zI (zE (zA (zB (wP I (wP I (Aa (zE (zO (Au tH I (.tmp I) () I tO fun W1 hp=>Gb hp))))))))))))))
theorem Ln (c g:Nat) (a b:List UInt8) (ok:Prop) [Decidable ok] (r:Rat) (s:Bool) (W:World) (h:KcP c s W) (hE:Bf Tryz.prog g=true)
  (hg: ∀W1,BL W1→AM W1→Ai Tryz.prog g #[str a,str b] W1 (fun _:Unit=>opV ok r) (fun _=>True) (fun _=>[])):
  Cp 104 [Aj c, .func (.func g) #[] #[],str a,str b] c (fun _:Unit=>(opR ok r s).2) (fun _=>str (Ad (opR ok r s).1)) (fun _=>True) W:=by
 cases s with
 |true=>
  rw[TO]
  show Cp _ _ c _ (fun _=>str (Ad 0)) _ W
  rw[CE]
  exact SZ c g a b W h
 |false=>
  by_cases k:ok
  ·rw[FG k]
   exact QM c g a b (Ad r) false W h hE fun W1 hv ht=>(hg W1 hv ht).cast (Hl k)
  ·rw[UG k]
   show Cp _ _ c _ (fun _=>str (Ad 0)) _ W
   rw[CE]
   exact QM c g a b [] true W h hE fun W1 hv ht=>(hg W1 hv ht).cast (HD k)
abbrev Ht (g:Nat) (vs:List Value) (c:Nat) (x:Rat×Bool) (W:World):Prop:=Cp g vs c (fun _:Unit=>x.2) (fun _=>str (Ad x.1)) (fun _=>True) W
theorem FK (c:Nat) (s:Bool) (p q:Rat) (hp:okQ p) (hq:okQ q) (W:World) (h:KcP c s W):Ht 59 [Aj c,str (Ad p),str (Ad q)] c (kSb s p q) W:=by
 refine Cp.enter h Tryz.func59 I I I ?_
 refine zA (zB (wP I (Aa (zE (zA (zB (wP I (wP I (wP I ?_)))))))))
 refine Cr 1 c I I I I I I (by kernel_rfl) I (fun W1 hp1=>Ln c 126 (Ad p) (Ad q) (Iv p q) (p-q) s W1 (h.at_ (bs:=[]) hp1) (by kernel_rfl) (fun W2 hv ht=>Qq p q hp hq W2 hv ht)) ?_
 exact wP I (Aa (zE (zO (Au tH I (.tmp I) () I tO fun W1 hp=>Gb hp))))
theorem Kx (c:Nat) (s:Bool) (p q:Rat) (hp:okQ p) (hq:okQ q) (W:World) (h:KcP c s W):Ht 60 [Aj c,str (Ad p),str (Ad q)] c (kMu s p q) W:=by
 refine Cp.enter h Tryz.func60 I I I ?_
 refine zA (zB (wP I (Aa (zE (zA (zB (wP I (wP I (wP I ?_)))))))))
 refine Cr 1 c I I I I I I (by kernel_rfl) I (fun W1 hp1=>Ln c 72 (Ad p) (Ad q) (Ep p q) (p*q) s W1 (h.at_ (bs:=[]) hp1) (by kernel_rfl) (fun W2 hv ht=>QG p q hp hq W2 hv ht)) ?_
 exact wP I (Aa (zE (zO (Au tH I (.tmp I) () I tO fun W1 hp=>Gb hp))))
abbrev I8 (g:Nat) (vs:List Value) (c:Nat) (x:Int×Bool) (W:World):Prop:=Cp g vs c (fun _:Unit=>x.2) (fun _=> .int .i64 x.1) (fun _=>True) W
theorem E9 (c:Nat) (s:Bool) (p q:Rat) (hp:okQ p) (hq:okQ q) (W:World) (h:KcP c s W):I8 53 [Aj c,str (Ad p),str (Ad q)] c (kOr s p q) W:=by
 cases s with
 |true=>
  rw[WJ]
  refine Cp.enter h Tryz.func53 I I I ?_
  refine zA (zB (wP I (Aa (zE (zA (zA (zB (wP I ?_))))))))
  refine AO I I I I ?_
  exact wP I (wB 1 I I I (wP I (Aa (zE (zR I (zA (zB (wP I (Aa (zE (zO (zP (Au tH I (.tmp I) () I tO fun W1 hp=>Gb hp)))))))))))))
 |false=>
  have one: ∀(v:Int) (z:Bool),cmV p q= .tuple #[.int .i64 v, .int .i64 (erI z)]→I8 53 [Aj c,str (Ad p),str (Ad q)] c (v,z) W:=fun v z hvz=>by
   refine Cp.enter h Tryz.func53 I I I ?_
   refine zA (zB (wP I (Aa (zE (zA (zA (zB (wP I ?_))))))))
   refine AO I I I I ?_
   refine wP I (wB 1 I I I (wP I (Aa (zE (zS I (zI (zE (zA (zB (wP I (wP I (wC I I (fun W1 hp1=>(KM p q hp hq W1 (h.at_ (bs:=[]) hp1).v (h.at_ (bs:=[]) hp1).t).cast hvz) ?_))))))))))))
   iterate 5 refine wP I ?_
   refine Aa (zE (zA (zB (wP I (wP I ?_)))))
   refine AO I I I I ?_
   exact wP I (wS 1 I I I (Aa (zE (zA (zB (wP I (wP I (Aa (zE (zO (Au tH I (.tmp I) () I tO fun W1 hp=>Gb hp)))))))))))
  by_cases k:BE p q
  ·rw[SV k]
   exact one (Dy p q) false (if_pos k)
  ·rw[WH k]
   exact one 0 true (if_neg k)
-- BOXES 5
-- CODE2
def tnR (p q r:Ag):Int×Int:=match tA p q r,tB p q r with
 |some x,some y=>if BE x y then(Dy x y,0) else(0,4)
 |_,_=>(0,4)
theorem X4 (p q r:Ag):tnV p q r= .tuple #[.int .i64 (tnR p q r).1, .int .i64 (tnR p q r).2]:=by
 unfold tnV tnR
 cases tA p q r with
 |none=>rfl
 |some x=>cases tB p q r with
  |none=>rfl
  |some y=>
   show cmV x y=_
   unfold cmV
   by_cases c:BE x y
   ·rw[if_pos c];simp only[if_pos c]
   ·rw[if_neg c];simp only[if_neg c]
def MX (l:List Ag) (i k:Nat):Int×Int:=tnR (Ae l i) (Ae l (i+1)) (Ae l k)
def NU (l:List Ag) (i k:Nat):Prop:=k≠i∧k≠(i+1)%l.length
structure HA (l:List Ag) (i j:Nat) (c:Bool):Prop where
 e0: ∀a k,(a<i∨a=i∧k<j)→k<l.length→NU l a k→(MX l a k).2=0
 c0:c=true↔ ∀a k,(a<i∨a=i∧k<j)→k<l.length→NU l a k→0<(MX l a k).1
theorem HA.zero (l:List Ag):HA l 0 0 true:=⟨fun a k h=>by omega,⟨fun _ a k h=>by omega,fun _=>rfl⟩⟩
theorem HA.skip {l:List Ag} {i j:Nat} {c:Bool} (h:HA l i j c) (hn: ¬NU l i j):HA l i (j+1) c:=by
 have w: ∀a k,(a<i∨a=i∧k<j+1)→NU l a k→a<i∨a=i∧k<j:=by
  intro a k h1 h2
  rcases h1 with h1|⟨rfl,h1⟩
  ·exact Or.inl h1
  ·rcases Nat.lt_or_ge k j with q|q
   ·exact Or.inr ⟨I,q⟩
   ·obtain rfl:k=j:=by omega
    exact absurd h2 hn
 exact⟨fun a k h1 h2 h3=>h.e0 a k (w a k h1 h3) h2 h3,h.c0.trans ⟨fun f a k h1 h2 h3=>f a k (w a k h1 h3) h2 h3,fun f a k h1 h2 h3=>f a k (by omega) h2 h3⟩⟩
theorem HA.step {l:List Ag} {i j:Nat} {c:Bool} (h:HA l i j c) (he:(MX l i j).2=0) (hj:j<l.length) (ha:NU l i j):HA l i (j+1) (c&&decide (0<(MX l i j).1)):=by
 have w: ∀a k,(a<i∨a=i∧k<j+1)→(a<i∨a=i∧k<j)∨a=i∧k=j:=by
  intro a k h1;omega
 refine⟨fun a k h1 h2 h3=> ?_, ?_⟩
 ·rcases w a k h1 with q|⟨rfl,rfl⟩
  ·exact h.e0 a k q h2 h3
  ·exact he
 ·rw[Bool.and_eq_true,decide_eq_true_iff,h.c0]
  constructor
  ·rintro⟨f,g⟩ a k h1 h2 h3
   rcases w a k h1 with q|⟨rfl,rfl⟩
   ·exact f a k q h2 h3
   ·exact g
  ·intro f
   exact⟨fun a k h1 h2 h3=>f a k (by omega) h2 h3,f i j (by omega) hj ha⟩
theorem HA.next {l:List Ag} {i j:Nat} {c:Bool} (h:HA l i j c) (hj:l.length≤j):HA l (i+1) 0 c:=by
 have w: ∀a k,(a<i+1∨a=i+1∧k<0)→k<l.length→a<i∨a=i∧k<j:=by intro a k h1 h2;omega
 exact⟨fun a k h1 h2 h3=>h.e0 a k (w a k h1 h2) h2 h3,h.c0.trans ⟨fun f a k h1 h2 h3=>f a k (w a k h1 h2) h2 h3,fun f a k h1 h2 h3=>f a k (by omega) h2 h3⟩⟩
-- BOXES 5
-- CODE2
def cvS (p:Ag):PtS:=(Ad p.1,Ad p.2)
theorem N7: ∀ {l:List Ag},(∀x∈l,okP x)→FX (l.map cvS)=0
 |[],_=>rfl
 |x::l,h=>by
  have hx:=h x List.mem_cons_self
  show(if (rdR (Ad x.1)).2≠0 then(rdR (Ad x.1)).2 else if (rdR (Ad x.2)).2≠0 then(rdR (Ad x.2)).2 else FX (l.map cvS))=0
  rw[Ka hx.1,Ka hx.2,if_neg (by simp),if_neg (by simp)]
  exact N7 fun y hy=>h y (List.mem_cons_of_mem _ hy)
def TP (l:List Ag):Prop:= ∀i k,i<l.length→k<l.length→NU l i k→(MX l i k).2=0∧0<(MX l i k).1
theorem Nh (W:World) (p:Option Addr) (cap:Nat) (l:List Ag) (hA:GS W p (l.map cvS)) (h3:3≤l.length) (h4:l.length≤4096) (hk: ∀x∈l,okP x) (ht:AM W):
  Ai Tryz.prog 39 #[slv p l.length cap] W (fun e:Int=> .int .i64 e) (fun e=>e=0↔TP l) (fun _=>[]):=by
 have hml:(l.map cvS).length=l.length:=by simp
 obtain⟨b,off,rfl,hrow0⟩: ∃b off,p=some ⟨b,off,none⟩∧ ∀i (hi:i<(l.map cvS).length),Ak W b (off+i*2) [str (l.map cvS)[i].1,str (l.map cvS)[i].2]:=by
  rcases hA with h|h
  ·have:=congrArg List.length h;simp at this;rw[this] at h3;exact absurd h3 (by decide)
  ·exact h
 have hrow: ∀i,i<l.length→Ak W b (off+i*2) [str (Ad (Ae l i).1),str (Ad (Ae l i).2)]:=fun i hi=>by
  have h:=hrow0 i (by rw[hml];exact hi)
  rw[AE hi]
  simpa[cvS] using h
 have hok: ∀i,i<l.length→okP (Ae l i):=fun i hi=>hk _ (AU (by omega) i)
 have hnum: ∀W1,AM W1→GS W1 (some ⟨b,off,none⟩) (l.map cvS)→Ai Tryz.prog 92 #[slv (some ⟨b,off,none⟩) l.length cap] W1 (fun _:Unit=> .int .i64 0) (fun _=>True) (fun _=>[]):=fun W1 t1 a1=>by
  have h:=GY W1 (some ⟨b,off,none⟩) cap (l.map cvS) a1 (by rw[hml];omega) (fun x hx=>by
   obtain⟨q,hq,rfl⟩:=List.mem_map.1 hx
   have a:=Bj (hk q hq).1
   have b:=Bj (hk q hq).2
   show(Ad q.1).length<_∧(Ad q.2).length<_
   omega) t1
  rw[N7 hk,hml] at h
  exact h
 refine Ab (args:=[slv (some ⟨b,off,none⟩) l.length cap]) Tryz.func39 I I I ?_
 refine zA (zB (wP I (Aa (zE (zA (zA (zB (wP I (wP I (wP I (wU 12 false I (dF (by omega)) (Aa (zE ?_)))))))))))))
 refine zS I (zI (zE (zA (zA (zB (wP I (wP I (wP I (wU 15 false I (dF (by omega)) (Aa (zE (zS I (zI ?_)))))))))))))
 refine zE (zA (zA (zB (wP I (wC I I (fun W1 hp=>hnum W1 (ht.hp hp) (hA.hp hp)) (wP I (Aa (zE (zA (zB (wP I (wP I (Aa ?_)))))))))))))
 refine zE (zS I (zI (zE (zA (zB (wP I (Aa (zE (zA (zA (zB (wP I (Aa ?_)))))))))))))
 refine zE (zH ?_)
 refine AA (X:=Nat×Bool) (fun s=>[(0,slv (some ⟨b,off,none⟩) l.length cap),(4, .bool s.2),(5, .int .i64 (s.1:Nat))]) (fun _=>[]) (fun s=>s.1≤l.length∧HA l s.1 0 s.2) (fun s=>l.length-s.1) (0,true) ⟨Nat.zero_le _,HA.zero l⟩ ⟨I,I,I,tO⟩ [] I ?_
 rintro⟨i,c⟩ ⟨hi,hU⟩
 have hi:i≤l.length:=hi
 have hU:HA l i 0 c:=hU
 refine zA (zA (zB (wP I (wP I (wP I (wP I ?_))))))
 by_cases hlt:i<l.length
 ·refine wU 24 true I (dT (by omega)) (Aa (zE (zR I (zI (zE (zA (zH (zA (zB (wP I (wP I (wV 28 ((i+1:Nat):Int) I (Ay (by omega)) (wP I (wP I ?_))))))))))))))
  refine Ft I I I I I (by omega) ?_
  obtain⟨m,hm⟩: ∃m,m=(i+1)%l.length:=⟨_,rfl⟩
  have hml2:m<l.length:=by rw[hm];exact Nat.mod_lt _ (by omega)
  refine wV 31 (m:Nat) I (by rw[Int.tmod_eq_emod_of_nonneg (by omega)];omega) (wP I (Aa (zE (zA (zB (wP I (Aa (zE (zH ?_)))))))))
  refine AA (X:=Nat×Bool) (fun s=>[(0,slv (some ⟨b,off,none⟩) l.length cap),(4, .bool s.2),(5, .int .i64 (i:Nat)),(6, .int .i64 (m:Nat)),(7, .int .i64 (s.1:Nat))]) (fun _=>[]) (fun s=>s.1≤l.length∧HA l i s.1 s.2) (fun s=>l.length-s.1) (0,c) ⟨Nat.zero_le _,hU⟩ ⟨I,I,I,I,I,tO⟩ [] I ?_
  rintro⟨j,d⟩ ⟨hj,hV⟩
  have hj:j≤l.length:=hj
  have hV:HA l i j d:=hV
  refine zA (zA (zB (wP I (wP I (wP I (wP I ?_))))))
  by_cases hjt:j<l.length
  ·refine wU 35 true I (dT (by omega)) (Aa (zE (zR I (zI (zE (zA (zH (zA (zA (zB ?_))))))))))
   have skip: ¬NU l i j→HA l i (j+1) d:=fun h=>hV.skip h
   by_cases hji:j=i
   ·skip
    refine wP I (wP I (wP I (wU 40 true I (by rw[beq_iff_eq];omega) (wP I ?_))))
    iterate 3 refine Al I I ?_
    exact wP I (Aa (zE (zR I (zJ (zK (zL (zE (zB (wP I (wP I (wV 37 ((j+1:Nat):Int) I (Ay (by omega)) (wP I (Aa (A6 (j+1,d) ⟨hjt,skip fun h=>h.1 hji⟩ (by show l.length-(j+1)<l.length-j;omega) ⟨I,I,I,I,I,tO⟩ [] I))))))))))))))
   refine wP I (wP I (wP I (wU 40 false I (by rw[beq_eq_false_iff_ne];omega) (wP I (wP I (wP I (wP I ?_)))))))
   by_cases hjm:j=m
   ·refine wU 44 true I (by rw[beq_iff_eq];omega) (wP I (Aa (zE (zR I (zJ (zK (zL (zE (zB (wP I (wP I (wV 37 ((j+1:Nat):Int) I (Ay (by omega)) (wP I ?_)))))))))))))
    exact Aa (A6 (j+1,d) ⟨hjt,skip fun h=>h.2 (by rw[←hm];exact hjm)⟩ (by show l.length-(j+1)<l.length-j;omega) ⟨I,I,I,I,I,tO⟩ [] I)
   refine wU 44 false I (by rw[beq_eq_false_iff_ne];omega) (wP I (Aa (zE (zS I (zI (zE (zA (zU ?_))))))))
   have hap:NU l i j:=⟨hji,by rw[←hm];exact hjm⟩
   have em:Ae l m=Ae l (i+1):=by rw[hm,B6]
   have hrm:Ak W b (off+m*2) [str (Ad (Ae l (i+1)).1),str (Ad (Ae l (i+1)).2)]:=by rw[←em];exact hrow m hml2
   have hri:=hrow i hlt
   have hrj:=hrow j hjt
   have ki:=hok i hlt
   have kj:=hok j hjt
   have km:okP (Ae l (i+1)):=by rw[←em];exact hok m hml2
   have hst:=fun he=>hV.step he hjt hap
   have htn:tnV (Ae l i) (Ae l (i+1)) (Ae l j)= .tuple #[.int .i64 (MX l i j).1, .int .i64 (MX l i j).2]:=X4 _ _ _
   generalize hs0:(MX l i j).1=s0 at*
   generalize he0:(MX l i j).2=e0 at*
   refine qP I (qP I ?_)
   refine qJ ?_
   refine qL 0 I I (fun W1 hp=>hri.hp hp) I (qP I (qP I ?_))
   refine qJ ?_
   refine qL 0 I I (fun W1 hp=>hrm.hp hp) I (qP I (qP I ?_))
   refine qJ ?_
   refine qL 0 I I (fun W1 hp=>hrj.hp hp) I (qC I I (fun W1 hp=>(Pa (Ae l i) (Ae l (i+1)) (Ae l j) ki km kj W1 (ht.hp hp)).cast htn) ?_)
   iterate 5 refine qP I ?_
   refine AT (Aa (zE (zA (zA (zB (wP I (wP I ?_)))))))
   by_cases hz:e0=0
   ·subst hz
    refine Af 63 (.bool false) I I ?_
    refine Aa (zE (zS I (zI (zE (zB ?_)))))
    cases d with
    |true=>
     refine wP I (wP I (wP I (wP I (wU 68 (decide (0<s0)) I (decide_eq_decide.2 (by omega)) (wP I (wP I (Aa (zN (zE (zB (wP I (wP I (wV 37 ((j+1:Nat):Int) I (Ay (by omega)) ?_)))))))))))))
     exact wP I (Aa (A6 (j+1,decide (0<s0)) ⟨hjt,by have h:=hst I;rw[Bool.true_and] at h;exact h⟩ (by show l.length-(j+1)<l.length-j;omega) ⟨I,I,I,I,I,tO⟩ [] I))
    |false=>
     refine wP I (wP I ?_)
     iterate 2 refine Al I I ?_
     exact wP I (wP I (Aa (zN (zE (zB (wP I (wP I (wV 37 ((j+1:Nat):Int) I (Ay (by omega)) (wP I (Aa (A6 (j+1,false) ⟨hjt,hst I⟩ (by show l.length-(j+1)<l.length-j;omega) ⟨I,I,I,I,I,tO⟩ [] I)))))))))))
   ·refine wU 63 true I (by show(!decide (e0=0))=true;rw[dF hz];rfl) (Aa (zE (zR I (zA (zB (wP I (wP I (Aa (zE (zO (zP (zQ (zP (zP ?_))))))))))))))
    exact zQ (zQ (zP (zP (zQ (zP (Au tH I (.tmp I) e0 I ⟨fun h=>absurd h hz,fun h=>absurd (he0▸(h i j hlt hjt hap).1) hz⟩ fun W _=>As.nil _ _))))))
  ·refine wU 35 false I (dF (by omega)) (Aa (zE (zS I (zJ (zK (zK (zL (zN (zE (zB (wP I (wP I (wV 26 ((i+1:Nat):Int) I (Ay (by omega)) ?_)))))))))))))
   exact wP I (Aa (A6 (i+1,d) ⟨hlt,hV.next (by omega)⟩ (by show l.length-(i+1)<l.length-i;omega) ⟨I,I,I,tO⟩ [] I))
 ·refine wU 24 false I (dF (by omega)) (Aa (zE (zS I (zJ (zK (zK (zL (zE (zA (zA (zB ?_)))))))))))
  have hi':i=l.length:=by omega
  cases c with
  |true=>
   exact wP I (wP I (Aa (zE (zS I (zI (zE (zA (zB (wP I (Aa (zE (zO (Au tH I (.tmp I) (0:Int) I ⟨fun _ a k h1 h2 h3=>⟨hU.e0 a k (by omega) h2 h3,hU.c0.1 I a k (by omega) h2 h3⟩,fun _=>rfl⟩ fun W _=>As.nil _ _)))))))))))))
  |false=>
   exact wP I (wP I (Aa (zE (zR I (zA (zB (wP I (Aa (zE (zO (zP (Au tH I (.tmp I) (15:Int) I ⟨fun h=>absurd h (by decide),fun h=>absurd (hU.c0.2 fun a k h1 h2 h3=>(h a k (by omega) h2 h3).2) (by decide)⟩ fun W _=>As.nil _ _))))))))))))
theorem OI {ok:Prop} [Decidable ok] {r x:Rat} (h:opO ok r=some x):x=r:=by
 unfold opO at h
 by_cases c:ok
 ·rw[if_pos c] at h;exact(Option.some.inj h).symm
 ·rw[if_neg c] at h;exact absurd h (by simp)
theorem Lp {a b c d x:Rat} (h:EO (Ca (some a) (some b)) (Ca (some c) (some d))=some x):x=(a-b)*(c-d):=by
 cases h1:Ca (some a) (some b) with
 |none=>rw[h1] at h;exact absurd h (by rw[EO];simp;intro p q;simp)
 |some u=>
  cases h2:Ca (some c) (some d) with
  |none=>rw[h1,h2] at h;exact absurd h (by rw[EO];simp;intro p q;simp)
  |some v=>
   rw[h1,h2,EO] at h
   rw[Ca] at h1 h2
   rw[OI h,OI h1,OI h2]
theorem WE {p q r:Ag} (h:(tnR p q r).2=0) (h':0<(tnR p q r).1):0<A7 p q r:=by
 unfold tnR at h h'
 cases ha:tA p q r with
 |none=>rw[ha] at h;exact absurd h (by simp)
 |some x=>
  cases hb:tB p q r with
  |none=>rw[ha,hb] at h;exact absurd h (by simp)
  |some y=>
   rw[ha,hb] at h'
   have ex:=Lp ha
   have ey:=Lp hb
   by_cases c:BE x y
   ·simp only[if_pos c] at h'
    have hd:decide (Dy x y>0)=true:=dT h'
    rw[Mw,decide_eq_true_iff] at hd
    rw[ex,ey] at hd
    unfold A7
    grind
   ·simp only[if_neg c] at h'
    exact absurd h' (by decide)
theorem TP.poly {l:List Ag} (h3:3≤l.length) (h:TP l):AY l:=by
 refine BM.of_chk h3 HW fun i k hi hk h1 h2 h4=> ?_
 have ha:NU l i k:=by
  refine⟨h1,fun e=> ?_⟩
  by_cases c:i+1<l.length
  ·rw[Nat.mod_eq_of_lt c] at e;exact h2 e
  ·have e2:i+1=l.length:=by omega
   rw[e2,Nat.mod_self] at e
   exact h4 ⟨e,e2⟩
 have:=h i k hi hk ha
 exact WE this.1 this.2
-- BOXES 4
-- CODE2
theorem IY {a:List UInt8} (h:(rdR a).2=0): ∃q,okQ q∧a=Ad q:=by
 unfold rdR at h
 cases hf:frm a with
 |none=>rw[hf] at h;exact absurd h (by decide)
 |some x=>
  obtain⟨z,d⟩:=x
  rw[hf] at h
  simp only at h
  by_cases h1:z.natAbs<Bn∧d<Bn
  ·rw[if_pos h1] at h
   by_cases h2:Nat.gcd z.natAbs d=1
   ·obtain⟨h3,h4⟩:=M9 hf
    exact⟨⟨z,d,by omega,h2⟩,⟨h1.1,by unfold okN;rw[Int.natAbs_natCast];exact h1.2⟩,h4⟩
   ·rw[if_neg h2] at h;exact absurd h (by decide)
  ·rw[if_neg h1] at h;exact absurd h (by decide)
-- BOXES 4
-- CODE2
theorem NA: ∀ {l:List PtS},FX l=0→ ∃m:List Ag,l=m.map cvS∧ ∀x∈m,okP x
 |[],_=>⟨[],rfl,fun _ h=>absurd h (by simp)⟩
 |x::l,h=>by
  have h:(if (rdR x.1).2≠0 then(rdR x.1).2 else if (rdR x.2).2≠0 then(rdR x.2).2 else FX l)=0:=h
  by_cases h1:(rdR x.1).2=0
  ·rw[if_neg (by simp[h1])] at h
   by_cases h2:(rdR x.2).2=0
   ·rw[if_neg (by simp[h2])] at h
    obtain⟨m,rfl,hm⟩:=NA h
    obtain⟨q1,o1,e1⟩:=IY h1
    obtain⟨q2,o2,e2⟩:=IY h2
    refine⟨(q1,q2)::m, ?_,fun y hy=> ?_⟩
    ·rw[List.map_cons,cvS, ←e1, ←e2]
    ·rcases List.mem_cons.1 hy with rfl|hy
     ·exact⟨o1,o2⟩
     ·exact hm y hy
   ·rw[if_pos h2] at h
    exact absurd h h2
  ·rw[if_pos h1] at h
   exact absurd h h1
def V6 (l:List PtS):Prop:= ∃m:List Ag,l=m.map cvS∧3≤m.length∧(∀x∈m,okP x)∧AY m
theorem Qe (W:World) (p:Option Addr) (cap:Nat) (l:List PtS) (hA:GS W p l) (h4:l.length≤4096) (hs: ∀x∈l,x.1.length<4611686018427387904∧x.2.length<4611686018427387904) (ht:AM W):
  Ai Tryz.prog 39 #[slv p l.length cap] W (fun e:Int=> .int .i64 e) (fun e=>e=0→V6 l) (fun _=>[]):=by
 by_cases h3:3≤l.length
 rotate_left
 ·refine Ab (args:=[slv p l.length cap]) Tryz.func39 I I I ?_
  refine zA (zB (wP I (Aa (zE (zA (zA (zB (wP I (wP I (wP I (wU 12 true I (dT (by omega)) (Aa (zE ?_)))))))))))))
  exact zR I (zA (zB (wP I (Aa (zE (zO (zP (Au tH I (.tmp I) (5:Int) I (fun h=>absurd h (by decide)) fun W _=>As.nil _ _))))))))
 by_cases h0:FX l=0
 ·obtain⟨m,rfl,hm⟩:=NA h0
  rw[List.length_map] at h3 h4
  have h:=Nh W p cap m hA h3 h4 hm ht
  rw[List.length_map]
  refine⟨h.out.mono ?_⟩
  rintro e W' ⟨x,he,hx,hb⟩
  exact⟨x,he,fun h0=>⟨m,I,h3,hm,(hx.1 h0).poly h3⟩,hb⟩
 ·refine Ab (args:=[slv p l.length cap]) Tryz.func39 I I I ?_
  refine zA (zB (wP I (Aa (zE (zA (zA (zB (wP I (wP I (wP I (wU 12 false I (dF (by omega)) (Aa (zE ?_)))))))))))))
  refine zS I (zI (zE (zA (zA (zB (wP I (wP I (wP I (wU 15 false I (dF (by omega)) (Aa (zE (zS I (zI ?_)))))))))))))
  refine zE (zA (zA (zB (wP I (wC I I (fun W1 hp=>GY W1 p cap l (hA.hp hp) (by omega) hs (ht.hp hp)) (wP I (Aa (zE (zA (zB (wP I (wP I (wU 19 true I (bne_iff_ne.2 h0) ?_)))))))))))))
  exact Aa (zE (zR I (zA (zB (wP I (wP I (Aa (zE (zO (zP (Au tH I (.tmp I) (FX l) I (fun h=>absurd h h0) fun W _=>As.nil _ _)))))))))))
abbrev Ls:=Option Addr×Nat×List PtS
abbrev lsV (x:Ls):Value:=slv x.1 x.2.2.length x.2.1
structure LsP (W:World) (g off:Nat) (xs:List Ls):Prop where
 r:Ak W g off (xs.map lsV)
 p: ∀x∈xs,GS W x.1 x.2.2
theorem LsP.hp {W0 W:World} {bxs:List Bx} {g off:Nat} {xs:List Ls} (h:LsP W0 g off xs) (hp:Hp W0 bxs W):LsP W g off xs:=⟨h.r.hp hp,fun x hx=>(h.p x hx).hp hp⟩
theorem LsP.row {W:World} {g off:Nat} {xs:List Ls} (h:LsP W g off xs) {i:Nat} (hi:i<xs.length):Ak W g (off+i*1) [lsV xs[i]]:=by
 refine⟨h.r.lt,fun j u hu=> ?_⟩
 have hj:j=0:=by have:=(List.getElem?_eq_some_iff.1 hu).1;simpa using this
 subst hj
 have:=h.r.get i (lsV xs[i]) (by rw[List.getElem?_map,List.getElem?_eq_getElem hi];rfl)
 rw[Nat.mul_one,Nat.add_zero,this]
 simpa using hu
theorem N6 {α:Type} {F:α→Bool} {l:List α} {i:Nat} (h:i<l.length):(l.drop i).any F=(F l[i]||(l.drop (i+1)).any F):=by
 rw[List.drop_eq_getElem_cons h,List.any_cons]
def IB (x:Ls):Bool:=Kw x.2.2
theorem MN (xs:List Ls) (hn:xs.length≤100000) (hl: ∀x∈xs,x.2.2.length<4611686018427387904) (g off cap:Nat) (W:World) (hS:LsP W g off xs):
  Ai Tryz.prog 124 #[slv (some ⟨g,off,none⟩) xs.length cap, .func (.func 58) #[] #[]] W (fun z:Int=> .int .i64 z) (fun z=>0≤z↔xs.any IB=true) (fun _=>[]):=by
 refine Ab (args:=[slv (some ⟨g,off,none⟩) xs.length cap, .func (.func 58) #[] #[]]) Tryz.func124 I I I ?_
 refine zA (zB (wP I (Aa (zE (zA (zA (zB (wP I (wP I (wP I (Aa (zE (zH ?_)))))))))))))
 refine AA (X:=Nat) (fun i=>[(0,slv (some ⟨g,off,none⟩) xs.length cap),(1, .func (.func 58) #[] #[]),(6,slv (some ⟨g,off,none⟩) xs.length cap),(7, .int .i64 (xs.length:Nat)),(8, .int .i64 (i:Nat))]) (fun _=>[]) (fun i=>i≤xs.length∧xs.any IB=(xs.drop i).any IB) (fun i=>xs.length-i) 0 ⟨Nat.zero_le _,by rw[List.drop_zero]⟩ ⟨I,I,I,I,I,tO⟩ [] I ?_
 intro i hi
 obtain⟨hi,hA⟩:i≤xs.length∧xs.any IB=(xs.drop i).any IB:=hi
 refine zA (zB (wP I ?_))
 by_cases hlt:i<xs.length
 rotate_left
 ·refine wU 9 false I (dF (by omega)) (Aa (zE (zA (zS I (zJ (zK (zK (zL (zE (zA (zB (wP I (Aa ?_)))))))))))))
  refine zE (zO ?_)
  rw[List.drop_of_length_le (by omega)] at hA
  exact Au tH I (.tmp I) (-1:Int) I (by rw[hA];exact⟨fun h=>absurd h (by decide),fun h=>absurd (show false=true from h) (by decide)⟩) fun W _=>As.nil _ _
 refine wU 9 true I (dT (by omega)) (Aa (zE (zA (zR I (zI (zE (zA (zH (zA (zB ?_))))))))))
 have hr:=hS.row hlt
 rw[N6 hlt] at hA
 have hx:xs[i]∈xs:=List.getElem_mem _
 obtain⟨x,hq⟩: ∃x,x=xs[i]:=⟨_,rfl⟩
 rw[←hq] at hr hA hx
 refine wP I (wP I (Aa (zE (zA (zB (wP I (wP I (wP I ?_))))))))
 refine wJ ?_
 refine wL 0 I I (fun W1 hp=>hr.hp hp) I ?_
 refine Bo (capt:=[]) I I I I I I (by kernel_rfl) (fun W1 hp=>MQ W1 x.1 x.2.1 x.2.2 ((hS.p x hx).hp hp) (hl x hx)) ?_
 refine Aa (zE ?_)
 refine Av I (fun hc=> ?_) (fun hc=> ?_)
 ·have hc:IB x=true:=hc
  exact zA (zB (wP I (wP I (Aa (zE (zO (zQ (zP (zP (zQ (zP (Au tH I (.tmp I) ((i:Nat):Int) I ⟨fun _=>by rw[hA,hc];rfl,fun _=>by omega⟩ fun W _=>As.nil _ _))))))))))))
 ·have hc:IB x=false:=hc
  rw[hc,Bool.false_or] at hA
  exact zI (zN (zE (zB (wP I (wV 18 ((i+1:Nat):Int) I (Ay (by omega)) (wP I (Aa (A6 (i+1) ⟨hlt,hA⟩ (by show xs.length-(i+1)<xs.length-i;omega) ⟨I,I,I,I,I,tO⟩ [] I))))))))
theorem JN (xs:List Ls) (hn:xs.length≤100000) (hl: ∀x∈xs,x.2.2.length<4611686018427387904) (g off cap:Nat) (W:World) (hS:LsP W g off xs):
  Ai Tryz.prog 57 #[slv (some ⟨g,off,none⟩) xs.length cap, .func (.func 58) #[] #[]] W (fun _:Unit=> .bool (xs.any IB)) (fun _=>True) (fun _=>[]):=by
 refine Ab (args:=[slv (some ⟨g,off,none⟩) xs.length cap, .func (.func 58) #[] #[]]) Tryz.func57 I I I ?_
 refine zA (zB (wP I (Aa (zE (zA (zB (wP I (wP I ?_))))))))
 refine wD (X:=Int) I I (fun W1 hp=>MN xs hn hl g off cap W1 (hS.hp hp)) ?_
 intro z hz
 have hz:0≤z↔xs.any IB=true:=hz
 refine wP I ?_
 refine Af 8 (.bool (xs.any IB)) I (congrArg Value.bool (by
  cases h:xs.any IB with
  |true=>exact dT (hz.2 h)
  |false=>exact dF fun h2=>by rw[hz.1 h2] at h;cases h)) ?_
 exact wP I (Aa (zE (zO (wR1 I I I))))
theorem OZ (xs:List Ls) (hn:xs.length≤100000) (hl: ∀x∈xs,x.2.2.length<4611686018427387904) (g off cap:Nat) (W:World) (hS:LsP W g off xs):
  Ai Tryz.prog 20 #[slv (some ⟨g,off,none⟩) xs.length cap] W (fun _:Unit=> .bool (xs.any IB)) (fun _=>True) (fun _=>[]):=by
 refine Ab (args:=[slv (some ⟨g,off,none⟩) xs.length cap]) Tryz.func20 I I I ?_
 refine zA (zB (wP I (Aa (zE (zA (zB (wP I ?_)))))))
 refine Bo (capt:=[]) I I I I I I (by kernel_rfl) (fun W1 hp=>JN xs hn hl g off cap W1 (hS.hp hp)) ?_
 exact wP I (Aa (zE (zO (wR1 I I I))))
def Ue (x:PtS):Bool:=decide (5<max x.1.length x.2.length)
theorem Qs (x:PtS) (W:World):Ai Tryz.prog 40 #[.agg #[str x.1,str x.2]] W (fun _:Unit=> .bool (Ue x)) (fun _=>True) (fun _=>[]):=by
 refine Ab (args:=[.agg #[str x.1,str x.2]]) Tryz.func40 I I I ?_
 refine zA (zB ?_)
 (refine A5 rfl rfl rfl rfl ?_;intro)
 refine wP I (Aa (zE (zA (zB (wP I (wB 0 I I I (wP I ?_)))))))
 refine Af 5 (.int .i64 (x.1.length:Nat)) I (congrArg (fun n:Nat=>Value.int .i64 (n:Int)) (A4 _)) ?_
 refine wP I (wB 0 I I I (wP I ?_))
 refine Af 8 (.int .i64 (x.2.length:Nat)) I (congrArg (fun n:Nat=>Value.int .i64 (n:Int)) (A4 _)) ?_
 exact wP I (wV 9 (max x.1.length x.2.length:Nat) I (by split<;>omega) (wP I (wU 10 (Ue x) I (decide_eq_decide.2 (by omega)) (wP I (Aa (zE (zO (wR1 I I I))))))))
theorem MJ (g:Nat) (hE:Bf Tryz.prog g=true) (F:PtS→Bool) (hg: ∀x W,Ai Tryz.prog g #[.agg #[str x.1,str x.2]] W (fun _:Unit=> .bool (F x)) (fun _=>True) (fun _=>[])) (xs:List PtS) (hn:xs.length≤100000) (p:Option Addr) (cap:Nat) (W:World) (hS:GS W p xs):
  Ai Tryz.prog 81 #[slv p xs.length cap, .func (.func g) #[] #[]] W (fun z:Int=> .int .i64 z) (fun z=>0≤z↔xs.any F=true) (fun _=>[]):=by
 refine Ab (args:=[slv p xs.length cap, .func (.func g) #[] #[]]) Tryz.func81 I I I ?_
 refine zA (zB (wP I (Aa (zE (zA (zA (zB (wP I (wP I (wP I (Aa (zE (zH ?_)))))))))))))
 refine AA (X:=Nat) (fun i=>[(0,slv p xs.length cap),(1, .func (.func g) #[] #[]),(6,slv p xs.length cap),(7, .int .i64 (xs.length:Nat)),(8, .int .i64 (i:Nat))]) (fun _=>[]) (fun i=>i≤xs.length∧xs.any F=(xs.drop i).any F) (fun i=>xs.length-i) 0 ⟨Nat.zero_le _,by rw[List.drop_zero]⟩ ⟨I,I,I,I,I,tO⟩ [] I ?_
 intro i hi
 obtain⟨hi,hA⟩:i≤xs.length∧xs.any F=(xs.drop i).any F:=hi
 refine zA (zB (wP I ?_))
 by_cases hlt:i<xs.length
 rotate_left
 ·refine wU 9 false I (dF (by omega)) (Aa (zE (zA (zS I (zJ (zK (zK (zL (zE (zA (zB (wP I (Aa ?_)))))))))))))
  refine zE (zO ?_)
  rw[List.drop_of_length_le (by omega)] at hA
  exact Au tH I (.tmp I) (-1:Int) I (by rw[hA];exact⟨fun h=>absurd h (by decide),fun h=>absurd (show false=true from h) (by decide)⟩) fun W _=>As.nil _ _
 refine wU 9 true I (dT (by omega)) (Aa (zE (zA (zR I (zI (zE (zA (zH (zA (zB ?_))))))))))
 obtain⟨b,off,rfl,hrow⟩: ∃b off,p=some ⟨b,off,none⟩∧ ∀i (hi:i<xs.length),Ak W b (off+i*2) [str xs[i].1,str xs[i].2]:=by
  rcases hS with h|h
  ·rw[h] at hlt;exact absurd hlt (by simp)
  ·exact h
 have hr:=hrow i hlt
 rw[N6 hlt] at hA
 obtain⟨x,hq⟩: ∃x,x=xs[i]:=⟨_,rfl⟩
 rw[←hq] at hr hA
 refine wP I (wP I (Aa (zE (zA (zB (wP I (wP I (wP I ?_))))))))
 refine wJ ?_
 refine wL 0 I I (fun W1 hp=>hr.hp hp) I ?_
 refine Bo (capt:=[]) I I I I I I hE (fun W1 _=>hg x W1) ?_
 refine Aa (zE ?_)
 refine Av I (fun hc=> ?_) (fun hc=> ?_)
 ·have hc:F x=true:=hc
  exact zA (zB (wP I (wP I (Aa (zE (zO (zQ (zP (zP (zQ (zP (Au tH I (.tmp I) ((i:Nat):Int) I ⟨fun _=>by rw[hA,hc];rfl,fun _=>by omega⟩ fun W _=>As.nil _ _))))))))))))
 ·have hc:F x=false:=hc
  rw[hc,Bool.false_or] at hA
  exact zI (zN (zE (zB (wP I (wV 18 ((i+1:Nat):Int) I (Ay (by omega)) (wP I (Aa (A6 (i+1) ⟨hlt,hA⟩ (by show xs.length-(i+1)<xs.length-i;omega) ⟨I,I,I,I,I,tO⟩ [] I))))))))
theorem Gg (g:Nat) (hE:Bf Tryz.prog g=true) (F:PtS→Bool) (hg: ∀x W,Ai Tryz.prog g #[.agg #[str x.1,str x.2]] W (fun _:Unit=> .bool (F x)) (fun _=>True) (fun _=>[])) (xs:List PtS) (hn:xs.length≤100000) (p:Option Addr) (cap:Nat) (W:World) (hS:GS W p xs):
  Ai Tryz.prog 29 #[slv p xs.length cap, .func (.func g) #[] #[]] W (fun _:Unit=> .bool (xs.any F)) (fun _=>True) (fun _=>[]):=by
 refine Ab (args:=[slv p xs.length cap, .func (.func g) #[] #[]]) Tryz.func29 I I I ?_
 refine zA (zB (wP I (Aa (zE (zA (zB (wP I (wP I ?_))))))))
 refine wD (X:=Int) I I (fun W1 hp=>MJ g hE F hg xs hn p cap W1 (hS.hp hp)) ?_
 intro z hz
 have hz:0≤z↔xs.any F=true:=hz
 refine wP I ?_
 refine Af 8 (.bool (xs.any F)) I (congrArg Value.bool (by
  cases h:xs.any F with
  |true=>exact dT (hz.2 h)
  |false=>exact dF fun h2=>by rw[hz.1 h2] at h;cases h)) ?_
 exact wP I (Aa (zE (zO (wR1 I I I))))
def Nu (l:List PtS):Prop:= ∃m:List Ag,l=m.map cvS∧3≤m.length∧m.length≤8∧(∀x∈m,okP x∧(Ad x.1).length≤5∧(Ad x.2).length≤5)∧AY m
theorem Qt {l:List PtS} (h:Kw l=false):l.length≤8∧ ∀x∈l,x.1.length≤604∧x.2.length≤604:=by
 unfold Kw at h
 rw[Bool.or_eq_false_iff] at h
 refine⟨by have:=of_decide_eq_false h.2;omega,fun x hx=> ?_⟩
 have h1:=List.any_eq_false.1 h.1 x hx
 have h2:KH x=false:=by cases e:KH x with
  |true=>exact absurd e h1
  |false=>rfl
 unfold KH at h2
 rw[Bool.or_eq_false_iff] at h2
 have one: ∀a:List UInt8,GZ a=false→a.length≤604:=fun a ha=>by
  unfold GZ at ha
  rw[Bool.or_eq_false_iff] at ha
  have:=of_decide_eq_false ha.2
  omega
 exact⟨one _ h2.1,one _ h2.2⟩
theorem TJ {l:List PtS} (h1:Kw l=false) (h2:V6 l) (h3:l.any Ue=false):Nu l:=by
 obtain⟨m,rfl,a,b,c⟩:=h2
 have h8:=(Qt h1).1
 rw[List.length_map] at h8
 refine⟨m,I,a,h8,fun x hx=>⟨b x hx, ?_⟩,c⟩
 have:=List.any_eq_false.1 h3 (cvS x) (List.mem_map_of_mem hx)
 have h5: ¬5<max (Ad x.1).length (Ad x.2).length:=fun h=>this (dT h)
 omega
theorem R0 (xs:List Ls) (hn:xs.length≤100000) (hl: ∀x∈xs,x.2.2.length<4611686018427387904) (g off cap:Nat) (W:World) (hS:LsP W g off xs) (ht:AM W):
  Ai Tryz.prog 9 #[slv (some ⟨g,off,none⟩) xs.length cap] W (fun b:Bool=> .bool b) (fun b=>b=true→ ∀x∈xs,Nu x.2.2) (fun _=>[]):=by
 refine Ab (args:=[slv (some ⟨g,off,none⟩) xs.length cap]) Tryz.func9 I I I ?_
 refine zA (zB (wP I (Aa (zE (zA (zA (zB (wP I (wP I (wP I (Aa (zE (zH ?_)))))))))))))
 refine AA (X:=Nat) (fun i=>[(0,slv (some ⟨g,off,none⟩) xs.length cap),(5,slv (some ⟨g,off,none⟩) xs.length cap),(6, .int .i64 (xs.length:Nat)),(7, .int .i64 (i:Nat))]) (fun _=>[]) (fun i=>i≤xs.length∧ ∀x∈xs.take i,Nu x.2.2) (fun i=>xs.length-i) 0 ⟨Nat.zero_le _,fun x hx=>absurd hx (by simp)⟩ ⟨I,I,I,I,tO⟩ [] I ?_
 intro i hi
 obtain⟨hi,hA⟩:i≤xs.length∧ ∀x∈xs.take i,Nu x.2.2:=hi
 refine zA (zB (wP I ?_))
 by_cases hlt:i<xs.length
 rotate_left
 ·refine wU 8 false I (dF (by omega)) (Aa (zE (zA (zS I (zJ (zK (zK (zL (zE (zA (zB (wP I (Aa ?_)))))))))))))
  refine zE (zO ?_)
  rw[List.take_of_length_le (by omega)] at hA
  exact Au tH I (.tmp I) true I (fun _=>hA) fun W _=>As.nil _ _
 refine wU 8 true I (dT (by omega)) (Aa (zE (zA (zR I (zI (zE (zA (zH (zA (zB ?_))))))))))
 have hr:=hS.row hlt
 have hx:xs[i]∈xs:=List.getElem_mem _
 have htk:xs.take (i+1)=xs.take i++[xs[i]]:=by rw[List.take_add_one,List.getElem?_eq_getElem hlt];rfl
 obtain⟨x,hq⟩: ∃x,x=xs[i]:=⟨_,rfl⟩
 rw[←hq] at hr htk hx
 have hX:=hS.p x hx
 have hlx:=hl x hx
 refine wJ ?_
 refine wL 0 I I (fun W1 hp=>hr.hp hp) I (wP I (Aa (zE (zA (zB (wP I ?_))))))
 refine AF Tryz.hZ tH I I I I I I I I I I I fun bS=> ?_
 refine Bo (capt:=[]) I I I I I I (by kernel_rfl) (fun W1 hp=>OZ [x] (by show 1≤100000;decide) (fun y hy=>by rw[List.mem_singleton.1 hy];exact hlx) bS 0 1 W1 ⟨Ak.of_bx hp 0 I I,fun y hy=>by rw[List.mem_singleton.1 hy];exact hX.hp hp⟩) ?_
 have e1:[x].any IB=IB x:=by simp
 rw[e1]
 cases h1:IB x with
 |true=>
  refine wP I ?_
  iterate 3 refine Al I I ?_
  refine wP I (wP I ?_)
  iterate 2 refine Al I I ?_
  refine wP I (Aa (zE (zR I (zA (zB (wP I (Aa (zE (zO (zQ (zP (zP (zQ ?_)))))))))))))
  exact zP (Au tH rfl (.tmp rfl) false rfl (fun h=>by cases h) fun W _=>As.nil _ _)
 |false=>
  have hno:=Qt h1
  refine wP I (wP I ?_)
  refine wD (X:=Int) (capt:=[]) I I (fun W1 hp=>Qe W1 x.1 x.2.1 x.2.2 (hX.hp hp) (by have:=hno.1;omega) (fun y hy=>by have:=hno.2 y hy;omega) (ht.hp hp)) ?_
  intro e he
  have he:e=0→V6 x.2.2:=he
  refine wP I ?_
  by_cases h2:e=0
  ·refine wU 17 false I (bne_eq_false_iff_eq.2 h2) (wP I (wP I (wP I ?_)))
   refine Bo (capt:=[]) I I I I I I (by kernel_rfl) (fun W1 hp=>Gg 40 (by kernel_rfl) Ue Qs x.2.2 (by have:=hno.1;omega) x.1 x.2.1 W1 (hX.hp hp)) ?_
   cases h3:x.2.2.any Ue with
   |true=>
    refine wP I (Aa (zE (zR I (zA (zB (wP I (Aa (zE (zO (zQ (zP (zP (zQ ?_)))))))))))))
    exact zP (Au tH rfl (.tmp rfl) false rfl (fun h=>by cases h) fun W _=>As.nil _ _)
   |false=>
    refine wP I (Aa (zE (zS I (zI (zN (zE (zB (wP I (wV 23 ((i+1:Nat):Int) I (Ay (by omega)) (wP I (Aa ?_)))))))))))
    exact A6 (i+1) ⟨hlt,fun y hy=>by
     rw[htk,List.mem_append] at hy
     rcases hy with hy|hy
     ·exact hA y hy
     ·rw[List.mem_singleton.1 hy];exact TJ h1 (he h2) h3⟩ (by show xs.length-(i+1)<xs.length-i;omega) ⟨rfl,rfl,rfl,rfl,trivial⟩ [_] rfl
  ·refine wU 17 true I (bne_iff_ne.2 h2) (wP I (wP I ?_))
   iterate 2 refine Al I I ?_
   refine wP I (Aa (zE (zR I (zA (zB (wP I (Aa (zE (zO (zQ (zP (zP (zQ ?_)))))))))))))
   exact zP (Au tH rfl (.tmp rfl) false rfl (fun h=>by cases h) fun W _=>As.nil _ _)
def WS (a b c:List UInt8):Prop:= ∃A B C:Rat,a=Ad A∧b=Ad B∧c=Ad C∧okQ A∧okQ B∧okQ C∧a.length≤5∧b.length≤5∧c.length≤5∧(A≠0∨B≠0)
theorem RH (a b c:List UInt8) (W:World) (ht:AM W):
  Ai Tryz.prog 10 #[str a,str b,str c] W (fun x:Bool=> .bool x) (fun x=>x=true→WS a b c) (fun _=>[]):=by
 refine Ab (args:=[str a,str b,str c]) Tryz.func10 I I I ?_
 have no: ∀ {P:Prop},false=true→P:=fun h=>by cases h
 refine zA (zB (wP I (Aa (zE (zA (zB (wP I (wP I ?_))))))))
 refine Af 8 (.int .i64 (a.length:Nat)) I (congrArg (fun n:Nat=>Value.int .i64 (n:Int)) (A4 _)) ?_
 refine wP I (wP I ?_)
 refine Af 10 (.int .i64 (b.length:Nat)) I (congrArg (fun n:Nat=>Value.int .i64 (n:Int)) (A4 _)) ?_
 refine wP I (wP I ?_)
 refine Af 12 (.int .i64 (c.length:Nat)) I (congrArg (fun n:Nat=>Value.int .i64 (n:Int)) (A4 _)) ?_
 refine wP I (wV 13 (max (max a.length b.length) c.length:Nat) I (by split<;>split<;>omega) (wP I ?_))
 by_cases h5:max (max a.length b.length) c.length≤5
 rotate_left
 ·refine wU 14 false I (dF (by omega)) (wP I ?_)
  iterate 3 refine Al I I ?_
  refine wP I (wP I ?_)
  iterate 3 refine Al I I ?_
  refine wP I (wP I ?_)
  iterate 3 refine Al I I ?_
  refine wP I (wP I ?_)
  iterate 6 refine Al I I ?_
  exact wP I (wP I (Aa (zE (zO (Au tH I (.tmp I) false I no fun W _=>As.nil _ _)))))
 refine wU 14 true I (dT (by omega)) (wP I (wP I (wC I I (fun W1 hp=>Dj a (by omega) W1 (ht.hp hp)) (wP I ?_))))
 by_cases ha:(rdR a).2=0
 rotate_left
 ·refine wU 18 false I (beq_eq_false_iff_ne.2 ha) (wP I (wP I ?_))
  iterate 3 refine Al I I ?_
  refine wP I (wP I ?_)
  iterate 3 refine Al I I ?_
  refine wP I (wP I ?_)
  iterate 6 refine Al I I ?_
  exact wP I (wP I (Aa (zE (zO (Au tH I (.tmp I) false I no fun W _=>As.nil _ _)))))
 refine wU 18 true I (beq_iff_eq.2 ha) (wP I (wP I (wP I (wC I I (fun W1 hp=>Dj b (by omega) W1 (ht.hp hp)) (wP I ?_)))))
 by_cases hb:(rdR b).2=0
 rotate_left
 ·refine wU 23 false I (beq_eq_false_iff_ne.2 hb) (wP I (wP I ?_))
  iterate 3 refine Al I I ?_
  refine wP I (wP I ?_)
  iterate 6 refine Al I I ?_
  exact wP I (wP I (Aa (zE (zO (Au tH I (.tmp I) false I no fun W _=>As.nil _ _)))))
 refine wU 23 true I (beq_iff_eq.2 hb) (wP I (wP I (wP I (wC I I (fun W1 hp=>Dj c (by omega) W1 (ht.hp hp)) (wP I ?_)))))
 by_cases hc:(rdR c).2=0
 rotate_left
 ·refine wU 28 false I (beq_eq_false_iff_ne.2 hc) (wP I (wP I ?_))
  iterate 6 refine Al I I ?_
  exact wP I (wP I (Aa (zE (zO (Au tH I (.tmp I) false I no fun W _=>As.nil _ _)))))
 refine wU 28 true I (beq_iff_eq.2 hc) ?_
 obtain⟨A,oA,rfl⟩:=IY ha
 obtain⟨B,oB,rfl⟩:=IY hb
 obtain⟨C,oC,rfl⟩:=IY hc
 refine wP I (wP I (wP I (wP I ?_)))
 by_cases hA:A=0
 ·refine wU 32 false I (by show(!_)=false;rw[Bd,dT (by rw[hA,CE])];rfl) (wP I (wP I (wP I ?_)))
  by_cases hB:B=0
  ·exact wU 35 false I (by show(!_)=false;rw[Bd,dT (by rw[hB,CE])];rfl) (wP I (wP I (wP I (Aa (zE (zO (Au tH I (.tmp I) false I no fun W _=>As.nil _ _)))))))
  ·exact wU 35 true I (by show(!_)=true;rw[Bd,dF (fun e=>hB (Gs.1 (e.trans CE.symm)))];rfl) (wP I (wP I (wP I (Aa (zE (zO (Au tH I (.tmp I) true I (fun _=>⟨A,B,C,I,I,I,oA,oB,oC,by omega,by omega,by omega, .inr hB⟩) fun W _=>As.nil _ _)))))))
 ·refine wU 32 true I (by show(!_)=true;rw[Bd,dF (fun e=>hA (Gs.1 (e.trans CE.symm)))];rfl) (wP I ?_)
  iterate 2 refine Al I I ?_
  exact wP I (wP I (wP I (Aa (zE (zO (Au tH I (.tmp I) true I (fun _=>⟨A,B,C,I,I,I,oA,oB,oC,by omega,by omega,by omega, .inl hA⟩) fun W _=>As.nil _ _))))))
-- BOXES 8
-- CODE2
abbrev caF (c:Nat) (s:Bool):Bx:=⟨c,61,[.int .i64 (erI s)],false,none⟩
def kLf (s:Bool) (p q r:Ag):Int×Bool:=
 kOr (kMu (kMu (kSb (kSb (kSb (kSb s q.1 p.1).2 r.2 p.2).2 q.2 p.2).2 r.1 p.1).2 (kSb s q.1 p.1).1 (kSb (kSb s q.1 p.1).2 r.2 p.2).1).2 (kSb (kSb (kSb s q.1 p.1).2 r.2 p.2).2 q.2 p.2).1 (kSb (kSb (kSb (kSb s q.1 p.1).2 r.2 p.2).2 q.2 p.2).2 r.1 p.1).1).2
  (kMu (kSb (kSb (kSb (kSb s q.1 p.1).2 r.2 p.2).2 q.2 p.2).2 r.1 p.1).2 (kSb s q.1 p.1).1 (kSb (kSb s q.1 p.1).2 r.2 p.2).1).1
  (kMu (kMu (kSb (kSb (kSb (kSb s q.1 p.1).2 r.2 p.2).2 q.2 p.2).2 r.1 p.1).2 (kSb s q.1 p.1).1 (kSb (kSb s q.1 p.1).2 r.2 p.2).1).2 (kSb (kSb (kSb s q.1 p.1).2 r.2 p.2).2 q.2 p.2).1 (kSb (kSb (kSb (kSb s q.1 p.1).2 r.2 p.2).2 q.2 p.2).2 r.1 p.1).1).1
structure KF (p q r:Ag):Prop where
 a:Iv q.1 p.1
 b:Iv r.2 p.2
 c:Iv q.2 p.2
 d:Iv r.1 p.1
 m:Ep (q.1-p.1) (r.2-p.2)
 n:Ep (q.2-p.2) (r.1-p.1)
 o:BE ((q.1-p.1)*(r.2-p.2)) ((q.2-p.2)*(r.1-p.1))
theorem Nq {ok:Prop} [Decidable ok] {r:Rat} {s:Bool}:(opR ok r s).2=false↔s=false∧ok:=by
 cases s with
 |true=>rw[TO];simp
 |false=>
  by_cases c:ok
  ·rw[FG c];simp[c]
  ·rw[UG c];simp[c]
theorem Uv {s:Bool} {p q:Rat}:(kOr s p q).2=false↔s=false∧BE p q:=by
 cases s with
 |true=>rw[WJ];simp
 |false=>
  by_cases c:BE p q
  ·rw[SV c];simp[c]
  ·rw[WH c];simp[c]
theorem WP {p q r:Ag} (h:KF p q r):kLf false p q r=(RR p q r,false):=by
 have a:kSb false q.1 p.1=(q.1-p.1,false):=FG h.a
 have b:kSb false r.2 p.2=(r.2-p.2,false):=FG h.b
 have c:kSb false q.2 p.2=(q.2-p.2,false):=FG h.c
 have d:kSb false r.1 p.1=(r.1-p.1,false):=FG h.d
 unfold kLf
 simp only[a,b,c,d]
 have m:kMu false (q.1-p.1) (r.2-p.2)=((q.1-p.1)*(r.2-p.2),false):=FG h.m
 have n:kMu false (q.2-p.2) (r.1-p.1)=((q.2-p.2)*(r.1-p.1),false):=FG h.n
 simp only[m,n]
 rw[SV h.o];rfl
theorem XJ {s:Bool} {p q r:Ag}:(kLf s p q r).2=false↔s=false∧KF p q r:=by
 constructor
 ·intro h
  unfold kLf at h
  have h7:=Uv.1 h
  have h6:=Nq.1 h7.1
  have h5:=Nq.1 h6.1
  have h4:=Nq.1 h5.1
  have h3:=Nq.1 h4.1
  have h2:=Nq.1 h3.1
  have h1:=Nq.1 h2.1
  obtain⟨rfl,a⟩:=h1
  have ea:kSb false q.1 p.1=(q.1-p.1,false):=FG a
  have b:=h2.2
  have c:=h3.2
  have d:=h4.2
  have eb:kSb false r.2 p.2=(r.2-p.2,false):=FG b
  have ec:kSb false q.2 p.2=(q.2-p.2,false):=FG c
  have ed:kSb false r.1 p.1=(r.1-p.1,false):=FG d
  have m:=h5.2
  have n:=h6.2
  have o:=h7.2
  simp only[ea,eb,ec,ed] at m n o
  have em:kMu false (q.1-p.1) (r.2-p.2)=((q.1-p.1)*(r.2-p.2),false):=FG m
  have en:kMu false (q.2-p.2) (r.1-p.1)=((q.2-p.2)*(r.1-p.1),false):=FG n
  simp only[em,en] at o
  exact⟨I,a,b,c,d,m,n,o⟩
 ·rintro⟨rfl,h⟩
  rw[WP h]
theorem Jh (c:Nat) (s:Bool) (p q r:Ag) (hp:okP p) (hq:okP q) (hr:okP r) (W:World) (h:KcP c s W):I8 55 [Aj c,cvV p,cvV q,cvV r] c (kLf s p q r) W:=by
 obtain⟨x1,e1⟩: ∃x,x=kSb s q.1 p.1:=⟨_,rfl⟩
 obtain⟨x2,e2⟩: ∃x,x=kSb x1.2 r.2 p.2:=⟨_,rfl⟩
 obtain⟨x3,e3⟩: ∃x,x=kSb x2.2 q.2 p.2:=⟨_,rfl⟩
 obtain⟨x4,e4⟩: ∃x,x=kSb x3.2 r.1 p.1:=⟨_,rfl⟩
 obtain⟨x5,e5⟩: ∃x,x=kMu x4.2 x1.1 x2.1:=⟨_,rfl⟩
 obtain⟨x6,e6⟩: ∃x,x=kMu x5.2 x3.1 x4.1:=⟨_,rfl⟩
 obtain⟨x7,e7⟩: ∃x,x=kOr x6.2 x5.1 x6.1:=⟨_,rfl⟩
 have eL:kLf s p q r=x7:=by rw[e7,e6,e5,e4,e3,e2,e1];rfl
 have o1:okQ x1.1:=by rw[e1];exact NX _ _ _
 have o2:okQ x2.1:=by rw[e2];exact NX _ _ _
 have o3:okQ x3.1:=by rw[e3];exact NX _ _ _
 have o4:okQ x4.1:=by rw[e4];exact NX _ _ _
 have o5:okQ x5.1:=by rw[e5];exact UK _ _ _
 have o6:okQ x6.1:=by rw[e6];exact UK _ _ _
 have c1: ∀W1,KcP c s W1→Ht 59 [Aj c,str (Ad q.1),str (Ad p.1)] c x1 W1:=fun W1 h=>by rw[e1];exact FK c s _ _ hq.1 hp.1 W1 h
 have c2: ∀W1,KcP c x1.2 W1→Ht 59 [Aj c,str (Ad r.2),str (Ad p.2)] c x2 W1:=fun W1 h=>by rw[e2];exact FK c _ _ _ hr.2 hp.2 W1 h
 have c3: ∀W1,KcP c x2.2 W1→Ht 59 [Aj c,str (Ad q.2),str (Ad p.2)] c x3 W1:=fun W1 h=>by rw[e3];exact FK c _ _ _ hq.2 hp.2 W1 h
 have c4: ∀W1,KcP c x3.2 W1→Ht 59 [Aj c,str (Ad r.1),str (Ad p.1)] c x4 W1:=fun W1 h=>by rw[e4];exact FK c _ _ _ hr.1 hp.1 W1 h
 have c5: ∀W1,KcP c x4.2 W1→Ht 60 [Aj c,str (Ad x1.1),str (Ad x2.1)] c x5 W1:=fun W1 h=>by rw[e5];exact Kx c _ _ _ o1 o2 W1 h
 have c6: ∀W1,KcP c x5.2 W1→Ht 60 [Aj c,str (Ad x3.1),str (Ad x4.1)] c x6 W1:=fun W1 h=>by rw[e6];exact Kx c _ _ _ o3 o4 W1 h
 have c7: ∀W1,KcP c x6.2 W1→I8 53 [Aj c,str (Ad x5.1),str (Ad x6.1)] c x7 W1:=fun W1 h=>by rw[e7];exact E9 c _ _ _ o5 o6 W1 h
 rw[eL]
 clear eL e1 e2 e3 e4 e5 e6 e7
 refine Cp.enter h Tryz.func55 I I I ?_
 refine zA (zB ?_)
 (refine A5 rfl rfl rfl rfl ?_;intro)
 (refine A5 rfl rfl rfl rfl ?_;intro)
 (refine A5 rfl rfl rfl rfl ?_;intro)
 refine wP I (Aa ?_)
 rename_i b5 b6 b7
 refine zE (A0 ?_)
 refine Bg (X:=Unit) [true,true,true,true,true,false,true,true,true,true,true,false,false,false] (fun _=>[(0,Aj c),(5,Aj b5),(6,Aj b6),(7,Aj b7),(9,str (Ad x1.1)),(10,str (Ad x2.1))]) (fun _=>[AP (At W c),caE c x2.2,ptB b5 (Ad p.1) (Ad p.2),ptB b6 (Ad q.1) (Ad q.2),ptB b7 (Ad r.1) (Ad r.2)])
  4 [AP (At W c),caF c s,ptB b5 (Ad p.1) (Ad p.2),ptB b6 (Ad q.1) (Ad q.2),ptB b7 (Ad r.1) (Ad r.2)] Tryz.mixed (by kernel_rfl) ?_ ?_
 ·refine qP I (qP I (qB 3 I I I (qP I (qB 2 I I I (qP I (qP I (qB 4 I I I (qP I (qB 2 I I I (C1 (wX (wZ ?_))))))))))))
  refine Cr 1 c I I I I I I (by kernel_rfl) I (fun W1 hp1=>c1 W1 (h.at_ (bs:=[ptB b5 (Ad p.1) (Ad p.2),ptB b6 (Ad q.1) (Ad q.2),ptB b7 (Ad r.1) (Ad r.2)]) hp1)) ?_
  refine Aa (Ac (wX (wZ ?_)))
  refine Cr 1 c I I I I I I (by kernel_rfl) I (fun W1 hp1=>c2 W1 (h.at_ (bs:=[ptB b5 (Ad p.1) (Ad p.2),ptB b6 (Ad q.1) (Ad q.2),ptB b7 (Ad r.1) (Ad r.2)]) hp1)) ?_
  refine Aa (Ac (wX (wZ (wP I (Aa (Ac (wX (wZ (wP I (Aa (Ac ?_)))))))))))
  refine A9 I (by((repeat (first|refine AC.same ?_|refine AC.off I ?_));exact tO)) ?_
  exact Ar () ⟨I,I,I,I,I,I,tO⟩ [0,1,2,3,4] (by decide) I
 intro _
 refine zE (A0 ?_)
 refine Bg (X:=Unit) [true,true,true,true,true,false,true,true,true,true,true,false,false,false] (fun _=>[(0,Aj c),(9,str (Ad x1.1)),(10,str (Ad x2.1)),(11,str (Ad x3.1)),(12,str (Ad x4.1))]) (fun _=>[AP (At W c),caE c x4.2])
  4 [AP (At W c),caF c x2.2,ptB b5 (Ad p.1) (Ad p.2),ptB b6 (Ad q.1) (Ad q.2),ptB b7 (Ad r.1) (Ad r.2)] Tryz.mixed (by kernel_rfl) ?_ ?_
 ·refine qP I (qP I (qB 3 I I I (qP I (qB 2 I I I (qP I (qP I (qB 4 I I I (qP I (qB 2 I I I (C1 (wX (wZ ?_))))))))))))
  refine Cr 1 c I I I I I I (by kernel_rfl) I (fun W1 hp1=>c3 W1 (h.at_ (bs:=[ptB b5 (Ad p.1) (Ad p.2),ptB b6 (Ad q.1) (Ad q.2),ptB b7 (Ad r.1) (Ad r.2)]) hp1)) ?_
  refine Aa (Ac (wX (wZ ?_)))
  refine Cr 1 c I I I I I I (by kernel_rfl) I (fun W1 hp1=>c4 W1 (h.at_ (bs:=[ptB b5 (Ad p.1) (Ad p.2),ptB b6 (Ad q.1) (Ad q.2),ptB b7 (Ad r.1) (Ad r.2)]) hp1)) ?_
  refine Aa (Ac (wX (wZ (wP I (Aa (Ac (wX (wZ (wP I (Aa (Ac ?_)))))))))))
  refine A9 I (by((repeat (first|refine AC.same ?_|refine AC.off I ?_));exact tO)) ?_
  exact Ar () ⟨I,I,I,I,I,tO⟩ [0,1] (by decide) I
 intro _
 refine zE (zA (zB (wP I (wP I (wP I (wP I ?_))))))
 refine Cr 1 c I I I I I I (by kernel_rfl) I (fun W1 hp1=>c5 W1 (h.at_ (bs:=[]) hp1)) ?_
 refine wP I (wP I (wP I ?_))
 refine Cr 1 c I I I I I I (by kernel_rfl) I (fun W1 hp1=>c6 W1 (h.at_ (bs:=[]) hp1)) ?_
 refine Cr 1 c I I I I I I (by kernel_rfl) I (fun W1 hp1=>c7 W1 (h.at_ (bs:=[]) hp1)) ?_
 exact wP I (Aa (zE (zO (Au tH I (.tmp I) () I tO fun W1 hp=>Gb hp))))
theorem JS.of {c:Nat} {p q r:Ag} (hp:okP p) (hq:okP q) (hr:okP r) (h:KF p q r) {W:World} (hk:KcP c false W):JS c p q r W:=by
 have:=Jh c false p q r hp hq hr W hk
 rw[WP h] at this
 exact this.same hk.o
theorem GD {c:Nat} {p q:Rat} (hp:okQ p) (hq:okQ q) (h:BE p q) {W:World} (hk:KcP c false W):Ai Tryz.prog 53 #[Aj c,str (Ad p),str (Ad q)] W (fun _:Unit=> .int .i64 (Dy p q)) (fun _=>True) (fun _=>[]):=by
 have:=E9 c false p q hp hq W hk
 rw[SV h] at this
 exact this.same hk.o
theorem KcP.below {c:Nat} {s:Bool} {W W':World} (h:KcP c s W) (hb:Below W.heap.size W W'):KcP c s W':=
 ⟨(hb.block c (Array.getElem?_eq_some_iff.1 h.o).1).trans h.o,fun _ h2=>h.k _ (Ga.trans ⟨hb.os,hb.tape,hb.output,hb.size,fun x _ hx=>hb.block x hx⟩ h2)⟩
theorem KcP.hp {c:Nat} {s:Bool} {W0 W:World} {bxs:List Bx} (h:KcP c s W0) (hp:Hp W0 bxs W):KcP c s W:=h.below hp.below
theorem Kc.of {c:Nat} {p q:Ag} (hp:okP p) (hq:okP q) (h1:BE p.1 q.1) (h2:BE p.2 q.2) {W:World} (hk:KcP c false W):Kc c p q W:=by
 refine Ab (args:=[Aj c,cvV p,cvV q]) Tryz.func71 I I I ?_
 refine zA (zB ?_)
 (refine A5 rfl rfl rfl rfl ?_;intro)
 (refine A5 rfl rfl rfl rfl ?_;intro)
 refine wP I (Aa (zE (zA (zA (zB (wP I (wP I (wB 0 I I I (wP I (wB 1 I I I ?_))))))))))
 rcases F3 p.1 q.1 with e|e|e
 ·refine wC I I (fun W hp1=>(GD hp.1 hq.1 h1 (hk.hp hp1)).cast (congrArg (Value.int .i64) e)) (wP I (Aa (zE (zA (zB (wP I (wP I (Aa (zE (zR I (zA (zB (wP I (wP I ?_))))))))))))))
  exact Aa (zE (zO (zP (wR1 I I (by rw[Ic,e,if_neg (by decide)])))))
 ·refine wC I I (fun W hp1=>(GD hp.1 hq.1 h1 (hk.hp hp1)).cast (congrArg (Value.int .i64) e)) (wP I (Aa (zE (zA (zB (wP I (wP I (Aa (zE (zS I (zI (zE (zA ?_)))))))))))))
  exact zB (wP I (wP I (wB 0 I I I (wP I (wB 1 I I I (wC I I (fun W hp1=>GD hp.2 hq.2 h2 (hk.hp hp1)) (wP I (Aa (zE (zO (wR1 I I (by rw[Ic,if_pos e]))))))))))))
 ·refine wC I I (fun W hp1=>(GD hp.1 hq.1 h1 (hk.hp hp1)).cast (congrArg (Value.int .i64) e)) (wP I (Aa (zE (zA (zB (wP I (wP I (Aa (zE (zR I (zA (zB (wP I (wP I ?_))))))))))))))
  exact Aa (zE (zO (zP (wR1 I I (by rw[Ic,e,if_neg (by decide)])))))
end
end Go.Proofs.YthndmdimmgkpgaaGreatDoor
