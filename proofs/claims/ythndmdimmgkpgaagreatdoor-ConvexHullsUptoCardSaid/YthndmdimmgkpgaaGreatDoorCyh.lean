/-
  Lemmas that the theorem convexHulls_upto_card needs (part 8 of 8).
-/
import Derived.Test.YthndmdimmgkpgaaGreatDoorCyg
import Derived.Test.YthndmdimmgkpgaaGreatDoorRows
import Derived.Test.YthndmdimmgkpgaaGreatDoorCards
import Derived.Test.YthndmdimmgkpgaaGreatDoorTie
import Derived.Deep.Slices
import Derived.ChangeArms
import Derived.ChangeShapes
import Derived.WideShapes
import Derived.Carry
import Derived.ProofKit
import Derived.OpenShut
import Derived.Deep.DeepHandedRow
import Derived.Lib.LaidTab
import Derived.Stop.LaidErr
import Derived.Lay
import Derived.SevenTiedAt
import Derived.Shelf.Vars
import Derived.ChangeMaps5
set_option maxHeartbeats 64000000
namespace Go.Proofs.YthndmdimmgkpgaaGreatDoor
section
open Go Go.RowKit Go.Am Go.Lib
set_option maxRecDepth 10000
-- BOXES 5
-- CODE2
theorem Pn (xs:List PtS) (p:Option Addr) (cap:Nat) (W:World) (hA:GN W p xs) (hn:xs.length<4611686018427387904) (hv:BP W) (ht:Bc W):
  Ap Tryz.prog 6 #[slv p xs.length cap] W (fun _:Unit=> .bool true) (fun _=>True) (fun _=>[]):=by
 refine Ae (args:=[slv p xs.length cap]) Tryz.func6 I I I ?_
 refine zA (zB ?_)
 (refine AD rfl rfl rfl rfl ?_;intro)
 refine wP I (Aa ?_)
 rename_i b1
 refine zE (zA (zA (zB (wB 0 I I I ?_))))
 refine AO Tryz.hZ tH I I I I I I I I I I I fun bS=> ?_
 refine AW (capt:=[]) I I I I I I (by kernel_rfl) (fun W1 hp=>Nz [(p,cap,xs)] (by show 1≤100000;decide) (fun y hy=>by
  rw[List.mem_singleton.1 hy];exact hn) bS 0 1 W1 ⟨Ar.of_bx hp 1 rfl rfl,fun y hy=>by
  rw[List.mem_singleton.1 hy];exact hA.hp hp⟩) ?_
 cases hg:([(p,cap,xs)]:List Ls).any Jb with
 |true=>
  refine wP I ?_
  iterate 2 refine Aw I I ?_
  refine wP I (Aa (zE (zR I (zA (zB ?_)))))
  refine AW (capt:=[]) I I I I I I (by kernel_rfl) (fun W1 hp=>Dp W1 (hv.hp hp) (ht.hp hp)) ?_
  exact wP I (Aa (zE (zO (zP (wR1 I I I)))))
 |false=>
 have hg2:HC xs=false:=by
  have h1:(HC xs||false)=false:=hg
  rwa [Bool.or_false] at h1
 have hs2:=(KW hg2).2
 have hn8:xs.length≤100000:=by have:=(KW hg2).1;omega
 refine wP I (wB 0 I I I ?_)
 refine AW (capt:=[]) I I I I I I (by kernel_rfl) (fun W1 hp=>F1 30 (by kernel_rfl) [] J3 xs hn8 p cap W1 (fun x hx W2 h2=>Nd x (hs2 x hx) W2 ((ht.hp hp).below h2)) (hA.hp hp)) ?_
 cases hb:xs.any J3 with
 |true=>
  refine wP I (Aa (zE (zR I (zA (zB ?_)))))
  refine AW (capt:=[]) I I I I I I (by kernel_rfl) (fun W1 hp=>Dp W1 (hv.hp hp) (ht.hp hp)) ?_
  exact wP I (Aa (zE (zO (zP (wR1 I I I)))))
 |false=>
 obtain⟨l,rfl,h8,hok,hsz⟩:=WM hg2 hb
 have hAl:BU W p l:=hA.p
 have hml:(l.map cvS).length=l.length:=List.length_map _
 have hall:=Hi hsz
 rw[hml]
 refine wP I (Aa (zE (zS I (zI (zE (zA (zB (wB 0 I I I ?_))))))))
 by_cases hne:l=[]
 ·subst hne
  refine AW (capt:=[]) I I I I I I (by kernel_rfl) (fun W1 _=>Na p cap W1) ?_
  iterate 5 refine wP I ?_
  refine Aa (zE (zA (zA (zB (wP I (wP I (Aa (zE (zR I (zA (zB (wP I (wP I (wP I ?_))))))))))))))
  refine Al 28 (.bool true) I I ?_
  refine wP I (wP I (wP I (wB 0 I I I (wP I (wP I ?_)))))
  refine Al 34 (.bool true) I I ?_
  refine Ha Tryz.underlying4 I I I I I I ?_
  iterate 5 refine wP I ?_
  iterate 2 refine Aw I I ?_
  refine wP I (wP I (wP I ?_))
  refine AW (capt:=[]) I I I I I I (by kernel_rfl) (fun W1 hp=>Dp W1 (hv.hp hp) (ht.hp hp)) ?_
  exact wP I (wP I (Aa (zE (zO (zP (wR1 I I I))))))
 have h0:0<l.length:=List.length_pos_iff.2 hne
 obtain⟨g,off,rfl,hrl⟩: ∃g off,p=some ⟨g,off,none⟩∧Ar W g off (ptC l):=by
  rcases hAl.cells with h|⟨b,off,e,h⟩
  ·exfalso
   have h2:l.length*2=0:=by rw[←AS,h];rfl
   omega
  ·exact⟨b,off,e,h⟩
 obtain⟨hmem,hbig⟩:=TJ hne
 by_cases h3:3≤(DT l).length
 rotate_left
 ·refine wD (X:=Vec) I I (fun W1 hp=>Eg l [] 12 (.inr (.inl ⟨hall,by omega,I,I⟩)) (.inl hall) h0 (by omega) hok (some ⟨g,off,none⟩) cap W1 (hAl.hp hp) (hv.hp hp) (ht.hp hp)) ?_
  rintro⟨pV,cV,jV⟩ hV
  have hV:(⟨pV,cV,jV⟩:Vec).OK 2 0 (ptC []):=hV
  refine Al 21 (.tuple #[(⟨pV,cV,jV⟩:Vec).val 0, .int .i64 12]) I I ?_
  iterate 5 refine wP I ?_
  refine Aa (zE (zA (zA (zB (wP I (wP I (Aa (zE (zR I (zA (zB (wP I ?_))))))))))))
  refine Al 26 (slv (KK ⟨pV,cV,jV⟩) 0 (MD ⟨pV,cV,jV⟩)) I (Lk (l:=[]) hV) ?_
  refine wP I (wP I ?_)
  refine Al 28 (.bool true) I I ?_
  refine wP I (wP I (wP I (wB 0 I I I (wP I (wP I (wU 34 false I (beq_eq_false_iff_ne.2 (by omega)) ?_))))))
  refine Ha Tryz.underlying4 I I I I I I ?_
  iterate 10 refine wP I ?_
  refine AW (capt:=[]) I I I I I I (by kernel_rfl) (fun W1 hp=>Dp W1 (hv.hp hp) (ht.hp hp)) ?_
  exact wP I (wP I (Aa (zE (zO (zP (wR1 I I I))))))
 obtain⟨hP,hlen,hleast,hsame⟩:=hbig h3
 have hselfE:=hsame (DT l) (fun _ h=>h) hmem
 have hmoreE:=hsame (DT l++l) (fun _ h=>List.mem_append_left _ h) fun x hx=>by
  rcases List.mem_append.1 hx with c|c
  ·exact hmem x c
  ·exact c
 have hHl:U3 l (DT l) 0:= .inl ⟨hall,h3,rfl,rfl⟩
 obtain⟨H,hH⟩: ∃H,H=DT l:=⟨_,rfl⟩
 rw[←hH] at hmem h3 hP hlen hleast hselfE hmoreE hHl
 have hszH:H3 36 H:=fun x hx=>hsz x (hmem x hx)
 have hokH: ∀x∈H,okP x:=fun x hx=>hok x (hmem x hx)
 have hH0:0<H.length:=by omega
 have hHne:H≠[]:=fun h=>by rw[h] at hH0;exact absurd hH0 (by decide)
 have hR2:U3 H H 0:= .inl ⟨Hi hszH,by rw[hselfE];exact h3,hselfE.symm,rfl⟩
 have hmm: ∀x∈H++l,x∈l:=fun x hx=>by
  rcases List.mem_append.1 hx with c|c
  ·exact hmem x c
  ·exact c
 have hszm:H3 36 (H++l):=fun x hx=>hsz x (hmm x hx)
 have hR3:U3 (H++l) H 0:= .inl ⟨Hi hszm,by rw[hmoreE];exact h3,hmoreE.symm,rfl⟩
 have lml:(H++l).length=H.length+l.length:=List.length_append
 clear hH
 refine wD (X:=Vec) I I (fun W1 hp=>Eg l H 0 hHl (.inl hall) h0 (by omega) hok (some ⟨g,off,none⟩) cap W1 (hAl.hp hp) (hv.hp hp) (ht.hp hp)) ?_
 rintro⟨pV,cV,jV⟩ hV
 have hV:(⟨pV,cV,jV⟩:Vec).OK 2 H.length (ptC H):=hV
 obtain⟨gV,rfl⟩: ∃g,pV=some g:=Option.ne_none_iff_exists'.1 (fun c=>by have hz:H.length=0:=hV.nil c;omega)
 have hcV:=(hV.cap (by simp)).1
 have hH8:H.length≤8:=Nat.le_trans hlen h8
 iterate 5 refine wP I ?_
 refine Aa (zE (zA (zA (zB (wP I (wP I (Aa (zE (zS I (zI (zE (zA (zA ?_)))))))))))))
 refine zB ?_
 have hpts: ∀ {W1:World} {bs:List Bx},Hp W bs W1→nth bs 2=some (A5 gV H jV)→BU W1 (some ⟨gV,0,none⟩) H:=fun hp h=>BU.of_row (Ar.of_bx hp 2 h rfl)
 refine wP I ?_
 refine AW (capt:=[]) I I I I I I (by kernel_rfl) (fun W1 hp=>Io H hP h3 (by omega) hszH (some ⟨gV,0,none⟩) cV W1 (hpts hp I) (hv.hp hp) (ht.hp hp)) ?_
 refine wP I (wP I (wP I (wP I ?_)))
 refine AW (capt:=[]) I I I I I I (by kernel_rfl) (fun W1 hp=>by
  have h:=F1 32 (by kernel_rfl) [An b1] (fun _=>false) (H.map cvS) (by rw[List.length_map];omega) (some ⟨gV,0,none⟩) cV W1 (fun x hx W2 h2=>by
   obtain⟨q,hq,rfl⟩:=List.mem_map.1 hx
   exact MO l q (hmem q hq) (by omega) (some ⟨g,off,none⟩) cap b1 W2 ((hAl.hp hp).below (Nat.le_refl _) h2) ((Ar.of_bx hp 0 I I).below (Nat.le_refl _) h2)) (hpts hp I).b
  rw[List.length_map] at h
  have e:(H.map cvS).any (fun _=>false)=false:=by simp
  rw[e] at h
  exact h) ?_
 refine wP I (Aa (zE (zS I (zI (zE (zA (zA (zB (wP I (wP I (wP I (Aa (zE ?_)))))))))))))
 refine zH ?_
 refine A9 (X:=Nat) (fun i=>[(1,An b1),(3, .slice (some ⟨gV,0,none⟩) H.length cV),(56, .slice (some ⟨gV,0,none⟩) H.length cV),(57, .int .i64 (H.length:Nat)),(58, .int .i64 (i:Nat))]) (fun _=>[⟨b1,22,[slv (some ⟨g,off,none⟩) l.length cap],true,none⟩,⟨bS,22,[slv (some ⟨g,off,none⟩) l.length cap],true,none⟩,A5 gV H jV]) (fun i=>i≤H.length) (fun i=>H.length-i) 0 (Nat.zero_le _) ⟨I,I,I,I,I,tO⟩ [] I ?_
 intro i hi
 have hi:i≤H.length:=hi
 refine zA (zB (wP I ?_))
 by_cases hlt:i<H.length
 ·refine wU 59 true I (dT (by omega)) (Aa (zE (zA (zR I (zI (zE (zA (zH (zA (zB ?_))))))))))
  have rI: ∀ {W1:World} {bs:List Bx},Hp W bs W1→nth bs 2=some (A5 gV H jV)→ ∀j,j<H.length→Ar W1 gV (0+j*2) [str (Af (Ac H j).1),str (Af (Ac H j).2)]:=fun hp h j hj=>by rw[AF hj];exact Jv hp 2 h hj
  refine wP I ?_
  refine wJ ?_
  refine wL 0 I I (fun W1 hp=>rI hp I i hlt) I ?_
  (refine Ao Tryz.hZ rfl rfl rfl rfl ?_;intro)
  refine wP I (wS 3 I I I (Aa ?_))
  rename_i b6
  refine zE (Au ?_)
  by_cases hi0:0<i
  ·have hltp:decide (GP (Ac H 0) (Ac H i)≥0)=false:=by
    have h1:A4 (Ac H 0) (Ac H i):=by
     rcases Cy (Ac H 0) (Ac H i) with c|c|c
     ·exact c
     ·exact absurd c (JJ hP hi0 hlt)
     ·exact absurd c (hleast _ (AK (by omega) i))
    have h2:=of_decide_eq_true (Uo h1)
    exact dF (by omega)
   refine zU (qP I (qP I (qU 64 true I (dT (by omega)) (qP I (qP I (qI I I (by decide) (by omega) (qL 0 I I (fun W1 hp=>rI hp I 0 hH0) I (qB 3 I I I ?_))))))))
   refine Pb (capt:=[]) I I I I I I (by kernel_rfl) (fun W1 hp=>JT (Ac H 0) (Ac H i) (sz2 (hszH.at_ hH0 0).1 (hszH.at_ hH0 i).1 (by decide)) (sz2 (hszH.at_ hH0 0).2 (hszH.at_ hH0 i).2 (by decide)) W1 (ht.hp hp)) ?_
   refine qP I (qU 71 false I hltp (qP I (AJ (Aa (zE (zS I (zI (zN (zE (zB (wP I (wV 73 ((i+1:Nat):Int) I (Av (by omega)) (wP I ?_)))))))))))))
   exact Aa (A0 (i+1) hlt (by show H.length-(i+1)<H.length-i;omega) ⟨I,I,I,I,I,tO⟩ [_] I)
  ·refine zU (qP I (qP I (qU 64 false I (dF (by omega)) (qP I ?_))))
   iterate 6 refine C5 I I ?_
   exact qP I (AJ (Aa (zE (zS I (zI (zN (zE (zB (wP I (wV 73 ((i+1:Nat):Int) I (Av (by omega)) (wP I (Aa (A0 (i+1) hlt (by show H.length-(i+1)<H.length-i;omega) ⟨I,I,I,I,I,tO⟩ [_] I)))))))))))))
 obtain rfl:i=H.length:=by omega
 refine wU 59 false I (dF (by omega)) (Aa (zE (zA (zS I (zJ (zK (zK (zL (zE (zA (zB (wP I ?_))))))))))))
 refine wD (X:=Vec) I I (fun W1 hp=>Eg H H 0 hR2 (.inl (Hi hszH)) hH0 (by omega) hokH (some ⟨gV,0,none⟩) cV W1 (hpts hp I) (hv.hp hp) (ht.hp hp)) ?_
 intro V2 hV2
 have hV2:V2.OK 2 H.length (ptC H):=hV2
 iterate 5 refine wP I ?_
 refine Aa (zE (Au ?_))
 refine AU (X:= { V:Vec//V.OK 2 H.length (ptC H) }) [true,false,true,false,false,false,false,false,false,false] (fun V=>[(1,An b1),(3, .slice (some ⟨gV,0,none⟩) H.length cV),(7,V2.val H.length),(8, .int .i64 0),(9,V.1.val H.length),(10, .int .i64 0)])
  (fun V=>[⟨b1,22,[slv (some ⟨g,off,none⟩) l.length cap],true,none⟩,⟨bS,22,[slv (some ⟨g,off,none⟩) l.length cap],true,none⟩,A5 gV H jV,V2.bx 35 (ptC H),V.1.bx 35 (ptC H)])
  8 [⟨b1,22,[slv (some ⟨g,off,none⟩) l.length cap],true,none⟩,⟨bS,22,[slv (some ⟨g,off,none⟩) l.length cap],true,none⟩,A5 gV H jV,V2.bx 35 (ptC H)] Tryz.mixed (by kernel_rfl) ?_ ?_
 ·refine qP I (qB 0 I I I (B6 (wX (wZ ?_))))
  refine wD (X:=Vec) rfl rfl (fun W1 hp=>HJ W1 (some ⟨gV,0,none⟩) cV H (by omega) (hpts hp rfl) hHne) ?_;rintro⟨pK,cK,jK⟩ ⟨hVK,hpK⟩;obtain⟨gK,rfl⟩: ∃g,pK=some g:=Option.ne_none_iff_exists'.1 hpK
  refine Aa (Ab (wX (wZ ?_)))
  refine EG (len:=H.length) (V:=⟨some gK,cK,jK⟩) (xs:=ptC H) (news:=ptC l) 4 Tryz.vec22 rfl rfl rfl rfl rfl rfl rfl rfl rfl hVK (AS l) (fun W1 hp j u hj=>by rw[Addr.add_none];exact(hrl.hp hp).get j u hj) (Fs _) (by simp only[maxLen];omega) (by omega) ?_;rintro⟨pX,cX,jX⟩ hVX hnX;obtain⟨gX,rfl⟩: ∃g,pX=some g:=Option.ne_none_iff_exists'.1 (fun c=>absurd (hnX c) (by omega))
  refine Aa (Ab (wX (wZ ?_)))
  refine wD (X:=Vec) rfl rfl (fun W1 hp=>by have h:=Eg (H++l) H 0 hR3 (.inl (Hi hszm)) (by omega) (by omega) (fun x hx=>hok x (hmm x hx)) (some ⟨gX,0,none⟩) cX W1 (BU.of_row (by have h2:Ar W1 gX 0 (ptC H++ptC l++jX):=Ar.of_bx hp 4 rfl rfl;rw[←BM] at h2;exact h2)) (hv.hp hp) (ht.hp hp);rw[lml] at h;exact h) ?_;intro V3 hV3
  refine Aa (Ab (wX (wZ (wP I (Aa (Ab (wX ?_)))))))
  refine RS.cons ?_ (RS.cons ?_ (RS.nil))
  ·refine wP I (Aa (Ab (wX ?_)))
   refine RS.cons ?_ (RS.cons ?_ (RS.nil))
   ·refine wP I (Aa (Ab (wX (wZ (wP I (Aa (Ab (wX (wZ (wP I (Aa (Ab ?_))))))))))))
    refine AI I (by((repeat (first|refine AN.same ?_|refine AN.off I ?_));exact tO)) ?_
    exact Ag (⟨V3,hV3⟩: { V:Vec//V.OK 2 H.length (ptC H) }) ⟨I,I,I,I,I,I,tO⟩ [0,1,2,3,5] (by decide) I
   ·refine wP I (Aa (Ab (wX (wZ (wP I (Aa (Ab (wX (wZ (wP I (Aa (Ab ?_))))))))))))
    refine AI I (by((repeat (first|refine AN.same ?_|refine AN.off I ?_));exact tO)) ?_
    exact Ag (⟨V3,hV3⟩: { V:Vec//V.OK 2 H.length (ptC H) }) ⟨I,I,I,I,I,I,tO⟩ [0,1,2,3,5] (by decide) I
  ·refine wP I (Aa (Ab (wX (wZ (wP I (Aa (Ab (wX (wZ (wP I (Aa (Ab (wX ?_)))))))))))))
   refine wZ (wP I (Aa (Ab ?_)))
   refine AI I (by((repeat (first|refine AN.same ?_|refine AN.off I ?_));exact tO)) ?_
   exact Ag (⟨V3,hV3⟩: { V:Vec//V.OK 2 H.length (ptC H) }) ⟨I,I,I,I,I,I,tO⟩ [0,1,2,3,5] (by decide) I
 rintro⟨V3,hV3⟩
 have hV3:V3.OK 2 H.length (ptC H):=hV3
 refine zE (zA (zB (wP I (wP I ?_))))
 refine Al 88 (.bool true) I I ?_
 refine wP I (wP I (wP I ?_))
 refine Al 91 (.bool true) I I ?_
 refine wP I (wP I (wP I (wP I ?_)))
 refine Al 94 (slv (KK V2) H.length (MD V2)) I (Lk hV2) ?_
 refine AW (capt:=[]) I I I I I I (by kernel_rfl) (fun W1 hp=>Gr H (by omega) (KK V2) (some ⟨gV,0,none⟩) (MD V2) cV W1 (OB hp 3 hV2 I) (hpts hp I)) ?_
 refine wP I (wP I (wP I (wP I ?_)))
 refine Al 99 (slv (KK V3) H.length (MD V3)) I (Lk hV3) ?_
 refine AW (capt:=[]) I I I I I I (by kernel_rfl) (fun W1 hp=>Gr H (by omega) (KK V3) (some ⟨gV,0,none⟩) (MD V3) cV W1 (OB hp 4 hV3 I) (hpts hp I)) ?_
 refine wP I (wP I ?_)
 refine AW (capt:=[]) I I I I I I (by kernel_rfl) (fun W1 hp=>Dp W1 (hv.hp hp) (ht.hp hp)) ?_
 exact wP I (wP I (Aa (zE (zO (wR1 I I I)))))
end
section
open Go
noncomputable abbrev laidL:List (String×DataW Unit):=Rows.convexDividedRow.laid
end
section
open Go Go.RowKit Go.Am Go.ChangeShapes Go.WideShapes Go.Deep Go.ChangeAt
set_option maxRecDepth 100000
section
variable {H:Type} {enc:TypeId×Value→H} {w:World} {base:Nat} {spare:Nat→Bool} {held:Bool} {v:Value} {d:DataW H} {ps:List MemPlace}
end
theorem own:ownKnob Tryz.prog.godebug=none:=by kernel_rfl
theorem QR:laidOutB Tryz.prog=true:=by kernel_rfl
theorem KU:(laidL.all fun x=>x.2.handleName?.isNone)=true:=by kernel_rfl
theorem Pi {W:World} (h:laidMetH Tryz.prog laidL W):Bc W:=by
 rw[MakeChecks.laidMetH_plain _ _ _ KU] at h
 exact Lib.tabIs_of_head (g:=2) (t:=263) (e:=198) (n:=20) (by kernel_rfl) (by kernel_rfl) (by kernel_rfl) (by kernel_rfl) (by kernel_rfl) (by kernel_rfl) h.tail.tail
theorem VY {W:World} (hS:W.ShapedOpen Tryz.prog):BP W:=
 cell_of_shapedOpen_int (g:=3) (t:=3) (zero:= #[.int .i64 0]) hS (of_decide_eq_true (by kernel_rfl)) (by kernel_rfl) rfl (by kernel_rfl) (by kernel_rfl) Tryz.underlying3
noncomputable def witW (os:Os):World:=World.laidAll Tryz.prog os laidL
theorem T8 (os:Os) (args:Array Value):laidMetH Tryz.prog laidL ((witW os).forCall (fun _ _=>0) ⟨#[],args,[]⟩).memory:=by
 rw[MakeChecks.laidMetH_plain _ _ _ KU]
 exact laidMet_laidAll _ (by kernel_rfl) (by kernel_rfl)
theorem Qi (os:Os) (args:Array Value):((witW os).forCall (fun _ _=>0) ⟨#[],args,[]⟩).Shaped Tryz.prog:=
 World.shaped_of_ZipB (by kernel_rfl) (by kernel_rfl)
theorem Vw {H:Type} {enc:TypeId×Value→H} (os:Os) {f:FuncId} {fn:Func} {s:OpenSpec} {conds:List PathCond} (args:Array Value)
  (hok:Input.okWideB Tryz.prog ((witW os).forCall (fun _ _=>0) ⟨#[],args,[]⟩) f ⟨#[],args,[]⟩=true)
  (hrow:s.preRow enc Tryz.prog fn conds false laidL ((witW os).forCall (fun _ _=>0) ⟨#[],args,[]⟩).memory args):
  ∃(w:World) (tape:Tape) (i:Input),w.os=os∧(w.forCall tape i).Shaped Tryz.prog∧i.vars=[]∧Input.okWide Tryz.prog (w.forCall tape i) .any w.heap.size f i∧
   s.preRow enc Tryz.prog fn conds false laidL (w.forCall tape i).memory i.args∧({}:Assume).holds Tryz.prog (lone (Frame.enter Tryz.prog f i.args .normal) [] (w.forCall tape i)):=
 ⟨witW os,fun _ _=>0,⟨#[],args,[]⟩,World.laidAll_os _ _ _,Qi os args,(Input.okWide_of_okWideB (base:=0) hok).1,(Input.okWide_of_okWideB hok).2,hrow,by
  simp only[Assume.holds]
  exact⟨by simp,by simp,by simp,by simp,by simp,by simp⟩⟩
end
section
open Go Go.RowKit Go.Am Go.ChangeShapes Go.WideShapes Go.Deep
set_option maxRecDepth 10000
theorem W8:Tryz.prog.cellsOf 23=1:=by kernel_rfl
theorem OG {H:Type} (d:DataW H):1≤Rows.uptoBulk d:=by
 cases d with
 |lit l=>cases l<;>simp[Rows.uptoBulk]
 |nil=>simp[Rows.uptoBulk]
 |ptr d=>simp[Rows.uptoBulk]
 |slice elems spare=>simp[Rows.uptoBulk]
 |agg parts=>simp[Rows.uptoBulk]
 |iface t d=>simp[Rows.uptoBulk]
 |map entries=>simp[Rows.uptoBulk]
 |held h=>simp[Rows.uptoBulk]
theorem Tc {H:Type} (l:List (DataW H)):l.length≤Rows.uptoBulkAll l:=by
 induction l with
 |nil=>simp[Rows.uptoBulkAll]
 |cons x r ih=>have:=OG x;simp only[Rows.uptoBulkAll,List.length_cons];omega
theorem Q7 {H:Type} (e s:List (DataW H)):Rows.uptoBulkAll e+1≤Rows.uptoBulk (.slice e s):=by
 simp only[Rows.uptoBulk];omega
theorem PO {w:World} {a:Addr} {v:Value} (h:w.cell? a=some v):a.spot=none∧a.block<w.heap.size:=by
 unfold World.cell? at h
 split at h
 ·rename_i hb
  refine⟨?_, ?_⟩
  ·cases hs:a.spot with
   |none=>rfl
   |some k=>simp[hs] at h
  ·exact(Array.getElem?_eq_some_iff.1 hb).1
 ·cases h
theorem OH {w:World} {base n:Nat} {a:Addr} {cs:List Value} (h:w.cells? base a n=some cs) (hn:0<n):a.spot=none∧Ar w a.block a.off cs:=by
 obtain⟨_,hl,hg⟩:=World.cells?_some h
 have h0:=hg 0 hn
 have hv:cs[0]? =some cs[0]:=List.getElem?_eq_getElem (by omega)
 rw[hv] at h0
 have hp:=PO h0
 have hs:a.spot=none:=by simpa[Addr.add] using hp.1
 refine⟨hs,⟨by simpa[Addr.add] using hp.2,fun j x hx=> ?_⟩⟩
 have hj:j<n:=by rw[←hl];exact(List.getElem?_eq_some_iff.1 hx).1
 rw[←hx, ←hg j hj]
 congr 1
 unfold Addr.add
 split
 ·subst_vars;cases a;simp_all
 ·rfl
theorem UB {a:Addr} (hs:a.spot=none) (n:Nat):a.add n=⟨a.block,a.off+n,none⟩:=by
 unfold Addr.add
 split
 ·subst_vars;cases a;simp_all
 ·rfl
section
variable {H:Type} {enc:TypeId×Value→H} {w:World} {base:Nat} {spare:Nat→Bool} {held:Bool} {fuel:Nat}
theorem R0 {u:Value} {x:DataW H×List MemPlace} (h:DataW.trod enc Tryz.prog w base spare held fuel 23 [u]=some x): ∃b:List UInt8,u=str b∧Rows.uptoBulk x.1=b.length+1:=by
 obtain⟨s,e,hx,_⟩:=DataW.trod_string Tryz.underlying23 h
 refine⟨s.data.toList, ?_, ?_⟩
 ·have:u= .string s:=by simpa using e
  rw[this]
 ·rw[hx];simp[Rows.uptoBulk]
end
theorem cPt:Tryz.prog.cellsOf 35=2:=by kernel_rfl
section
variable {H:Type} {enc:TypeId×Value→H} {w:World} {base:Nat} {spare:Nat→Bool} {held:Bool} {fuel:Nat} {cs:List Value} {x:DataW H×List MemPlace}
theorem TP (h:DataW.trod enc Tryz.prog w base spare held fuel 35 cs=some x): ∃f:List UInt8×List UInt8,cs=[str f.1,str f.2]:=by
 obtain⟨xs,m,rfl,hx,hl,hn,hg⟩:=DataW.trod_struct Tryz.underlying35 h
 rw[cPt] at hl
 obtain⟨x0,x1,rfl⟩: ∃x0 x1,xs=[x0,x1]:=by
  match xs,hn with
  |[a,b],_=>exact⟨a,b,rfl⟩
 match cs,hl with
 |[v0,v1],_=>
  have h0:DataW.trod enc Tryz.prog w base spare held m 23 (List.take (Tryz.prog.cellsOf 23) [v0,v1])=some x0:=hg 0 _ rfl
  have h1:DataW.trod enc Tryz.prog w base spare held m 23 (List.take (Tryz.prog.cellsOf 23) [v1])=some x1:=hg 1 _ rfl
  rw[W8] at h0 h1
  obtain⟨s,rfl,_⟩:=R0 h0
  obtain⟨t,rfl,_⟩:=R0 h1
  exact⟨(s,t),I⟩
theorem Sx (h:DataW.trod enc Tryz.prog w base spare held fuel 22 cs=some x):
  ∃(p:Option Addr) (cap:Nat) (l:List (List UInt8×List UInt8)),cs=[.slice p l.length cap]∧GN w p l∧l.length+1≤Rows.uptoBulk x.1:=by
 rcases open_slice Tryz.underlying22 h with⟨rfl,rfl⟩|⟨a,len,cap,m,n,D,Pl,rfl,_,hl,_,hm,rfl,hx⟩
 ·exact⟨none,0,[],I, .inl I,OG _⟩
 have hlm:len≤m:=by rw[hm];split<;>omega
 obtain⟨S,hS⟩:=choose_lt (α:=List UInt8×List UInt8) (n:=len) (p:=fun i s=>w.cells? base (a.add (i*2)) 2=some [str s.1,str s.2]) fun i hi=>by
  obtain⟨cs',h1,h2⟩:=hx i (by omega)
  rw[cPt] at h1
  obtain⟨f,rfl⟩:=TP h2
  exact⟨f,h1⟩
 refine⟨some a,cap,(List.range len).map S,by simp, ?_, ?_⟩
 ·by_cases h0:len=0
  ·subst h0;exact .inl rfl
  ·have hs:a.spot=none:=by simpa[Addr.add] using(OH (hS 0 (by omega)) (by decide)).1
   refine .inr ⟨a.block,a.off,by cases a;simp_all,fun i hi=> ?_⟩
   have h1:i<len:=by simpa using hi
   have:=(OH (hS i h1) (by decide)).2
   rw[UB hs] at this
   simpa using this
 ·have h1:=Tc ((List.range len).map D)
  have h2:=Q7 ((List.range len).map D) ((List.range (m-len)).map fun j=>D (len+j))
  simp only[List.length_map,List.length_range] at h1⊢
  omega
end
section
variable {H:Type} {enc:TypeId×Value→H} {w:World} {base:Nat} {spare:Nat→Bool} {held:Bool} {v:Value} {d:DataW H} {ps:List MemPlace}
theorem O6 {r:Reach} {b0:Nat} (hv:Value.okWide Tryz.prog w r b0 22 v) (h:DataW.Trod enc Tryz.prog w base spare held 22 v d ps):
  ∃(p:Option Addr) (m:Nat) (l:List PtS),v=slv p l.length m∧GN w p l∧l.length+1≤Rows.uptoBulk d:=by
 obtain⟨p0,n0,c0,rfl⟩:=okWide_slice Tryz.underlying22 hv
 obtain⟨fuel,hf⟩:=h
 obtain⟨p,cap,l,e,hl,hb⟩:=Sx hf
 refine⟨p,cap,l, ?_,hl,hb⟩
 simpa[Value.cells] using e
end
end
end Go.Proofs.YthndmdimmgkpgaaGreatDoor
