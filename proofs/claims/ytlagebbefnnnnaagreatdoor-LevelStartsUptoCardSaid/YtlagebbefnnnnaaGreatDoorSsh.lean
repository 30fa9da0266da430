/-
  Lemmas that the theorem levelStarts_upto_card needs (part 8 of 8).
-/
import Derived.Test.YtlagebbefnnnnaaGreatDoorSsg
import Derived.Test.YtlagebbefnnnnaaGreatDoorRows
import Derived.Deep.Slices
import Derived.ChangeArms
import Derived.ChangeShapes
import Derived.WideShapes
import Derived.Carry
import Derived.Test.YtlagebbefnnnnaaGreatDoorCards
import Derived.Test.YtlagebbefnnnnaaGreatDoorTie
import Derived.ProofKit
import Derived.OpenShut
import Derived.Deep.DeepHandedRow
import Derived.Lib.LaidTab
import Derived.Stop.LaidErr
import Derived.Lay
import Derived.SevenTiedAt
import Derived.Shelf.Vars
set_option maxHeartbeats 64000000
namespace Go.Proofs.YtlagebbefnnnnaaGreatDoor
section
open Go Go.RowKit Go.Am Go.Lib
set_option maxRecDepth 10000
-- BOXES 8
-- CODE2
theorem N1 (W:World) (p:Option Addr) (cap:Nat) (l:List Nat) (v:Nat) (hn:l.length<4611686018427387904) (hA:G9 W p l):
  Aj Tryz.prog 72 #[.slice p l.length cap, .int .i64 (v:Nat)] W (fun k:Int=> .int .i64 k) (fun k=>0≤k↔v∈l) (fun _=>[]):=by
 refine Ad (args:=[.slice p l.length cap, .int .i64 (v:Nat)]) Tryz.func72 rfl rfl rfl ?_
 refine zA (zB (wP rfl (Aa (zE (zA (zA (zB (wP rfl (wP rfl (wP rfl (Aa (zE (zH ?_)))))))))))))
 refine Av (X:=Nat) (fun i=>[(0, .slice p l.length cap),(1, .int .i64 (v:Nat)),(7, .int .i64 (l.length:Nat)),(8, .int .i64 (i:Nat))]) (fun _=>[]) (fun i=>i≤l.length∧v∉l.take i) (fun i=>l.length-i) 0 ⟨Nat.zero_le _,by simp⟩ ⟨rfl,rfl,rfl,rfl,trivial⟩ [] rfl ?_
 rintro i ⟨hi,hno⟩
 have hi:i≤l.length:=hi
 refine zA (zB (wP rfl ?_))
 by_cases hlt:i<l.length
 ·refine Ab 9 (.bool true) rfl (congrArg Value.bool (decide_eq_true (by omega))) ?_
  refine Aa (zE (zA (zR rfl (zI (zE (zA (zH (zA (zB ?_)))))))))
  obtain⟨b,off,rfl,hrow⟩:=hA.row hlt
  have hr:=hrow i hlt
  refine wP rfl (wP rfl (Aa (zE (zA (zB (wP rfl (wP rfl (wP rfl ?_))))))))
  refine wJ ?_
  refine Aw rfl rfl rfl rfl (fun W hp=>Ag.load 0 tH rfl ((fun W1 hp=>hr.hp hp) W hp) rfl) ?_
  refine wP rfl ?_
  by_cases hv:v=l[i]
  ·refine Ab 16 (.bool true) rfl (congrArg Value.bool (by rw[beq_iff_eq,hv])) ?_
   refine Aa (zE (zR rfl (zA (zB (wP rfl (wP rfl (Aa (zE (zO (zQ (zP (zP (zQ ?_)))))))))))))
   refine zP ?_
   exact Af tH rfl (.tmp rfl) ((i:Nat):Int) rfl ⟨fun _=>by rw[hv];exact List.getElem_mem hlt,fun _=>by omega⟩ fun W _=>Ae.nil _ _
  ·refine Ab 16 (.bool false) rfl (congrArg Value.bool (by rw[beq_eq_false_iff_ne];omega)) ?_
   refine Aa (zE (zS rfl (zI (zN (zE (zB (wP rfl ?_)))))))
   refine Ab 18 (.int .i64 ((i+1:Nat):Int)) rfl (congrArg (Value.int .i64) (A5 (by omega))) ?_
   refine wP rfl (Aa ?_)
   refine As (i+1) ⟨hlt,fun h=> ?_⟩ (by show l.length-(i+1)<l.length-i;omega) ⟨rfl,rfl,rfl,rfl,trivial⟩ [] rfl
   rw[List.take_add_one,List.getElem?_eq_getElem hlt,List.mem_append] at h
   rcases h with h|h
   ·exact hno h
   ·exact hv (by simpa using h)
 ·refine Ab 9 (.bool false) rfl (congrArg Value.bool (decide_eq_false (by omega))) ?_
  refine Aa (zE (zA (zS rfl (zJ (zK (zK (zL (zE (zA (zB (wP rfl (Aa (zE ?_)))))))))))))
  refine zO ?_
  have hno:v∉l.take i:=hno
  rw[List.take_of_length_le (by omega)] at hno
  exact Af tH rfl (.tmp rfl) (-1:Int) rfl ⟨fun h=>by omega,fun h=>absurd h hno⟩ fun W _=>Ae.nil _ _
theorem Ks (W:World) (p:Option Addr) (cap:Nat) (l:List Nat) (v:Nat) (hn:l.length<4611686018427387904) (hA:G9 W p l):
  Aj Tryz.prog 29 #[.slice p l.length cap, .int .i64 (v:Nat)] W (fun _:Unit=> .bool (decide (v∈l))) (fun _=>True) (fun _=>[]):=by
 refine Ad (args:=[.slice p l.length cap, .int .i64 (v:Nat)]) Tryz.func29 rfl rfl rfl ?_
 refine zA (zB (wP rfl (Aa (zE (zA (zB (wP rfl (wP rfl ?_))))))))
 refine Au (X:=Int) rfl rfl rfl rfl rfl rfl (by kernel_rfl) (fun W1 hp=>N1 W1 p cap l v hn (hA.hp hp)) ?_
 intro k hk
 refine wP rfl ?_
 refine Ab 8 (.bool (decide (v∈l))) rfl (congrArg Value.bool (decide_eq_decide.2 hk)) ?_
 refine wP rfl (Aa (zE (zO ?_)))
 exact Af tH rfl (.tmp rfl) () rfl trivial fun W _=>Ae.nil _ _
theorem N7 (W:World) (p:Option Addr) (cap:Nat) (l:List (List UInt8)) (v:List UInt8) (hn:l.length<4611686018427387904) (hA:Fz W p l):
  Aj Tryz.prog 73 #[slv p l.length cap,str v] W (fun k:Int=> .int .i64 k) (fun k=>0≤k↔v∈l) (fun _=>[]):=by
 refine Ad (args:=[slv p l.length cap,str v]) Tryz.func73 rfl rfl rfl ?_
 refine zA (zB (wP rfl (Aa (zE (zA (zA (zB (wP rfl (wP rfl (wP rfl (Aa (zE (zH ?_)))))))))))))
 refine Av (X:=Nat) (fun i=>[(0,slv p l.length cap),(1,str v),(7, .int .i64 (l.length:Nat)),(8, .int .i64 (i:Nat))]) (fun _=>[]) (fun i=>i≤l.length∧v∉l.take i) (fun i=>l.length-i) 0 ⟨Nat.zero_le _,by simp⟩ ⟨rfl,rfl,rfl,rfl,trivial⟩ [] rfl ?_
 rintro i ⟨hi,hno⟩
 have hi:i≤l.length:=hi
 refine zA (zB (wP rfl ?_))
 by_cases hlt:i<l.length
 ·refine Ab 9 (.bool true) rfl (congrArg Value.bool (decide_eq_true (by omega))) ?_
  refine Aa (zE (zA (zR rfl (zI (zE (zA (zH (zA (zB ?_)))))))))
  obtain⟨b,off,rfl,hrow⟩:=hA.row hlt
  have hr:=hrow i hlt
  refine wP rfl (wP rfl (Aa (zE (zA (zB (wP rfl (wP rfl (wP rfl ?_))))))))
  refine wJ ?_
  refine Aw rfl rfl rfl rfl (fun W hp=>Ag.load 0 tH rfl ((fun W1 hp=>hr.hp hp) W hp) rfl) ?_
  refine wP rfl ?_
  by_cases hv:v=l[i]
  ·refine Ab 16 (.bool true) rfl (congrArg Value.bool ((AR _ _).trans (decide_eq_true hv))) ?_
   refine Aa (zE (zR rfl (zA (zB (wP rfl (wP rfl (Aa (zE (zO (zQ (zP (zP (zQ ?_)))))))))))))
   refine zP ?_
   exact Af tH rfl (.tmp rfl) ((i:Nat):Int) rfl ⟨fun _=>by rw[hv];exact List.getElem_mem hlt,fun _=>by omega⟩ fun W _=>Ae.nil _ _
  ·refine Ab 16 (.bool false) rfl (congrArg Value.bool ((AR _ _).trans (decide_eq_false hv))) ?_
   refine Aa (zE (zS rfl (zI (zN (zE (zB (wP rfl ?_)))))))
   refine Ab 18 (.int .i64 ((i+1:Nat):Int)) rfl (congrArg (Value.int .i64) (A5 (by omega))) ?_
   refine wP rfl (Aa ?_)
   refine As (i+1) ⟨hlt,fun h=> ?_⟩ (by show l.length-(i+1)<l.length-i;omega) ⟨rfl,rfl,rfl,rfl,trivial⟩ [] rfl
   rw[List.take_add_one,List.getElem?_eq_getElem hlt,List.mem_append] at h
   rcases h with h|h
   ·exact hno h
   ·exact hv (by simpa using h)
 ·refine Ab 9 (.bool false) rfl (congrArg Value.bool (decide_eq_false (by omega))) ?_
  refine Aa (zE (zA (zS rfl (zJ (zK (zK (zL (zE (zA (zB (wP rfl (Aa (zE ?_)))))))))))))
  refine zO ?_
  have hno:v∉l.take i:=hno
  rw[List.take_of_length_le (by omega)] at hno
  exact Af tH rfl (.tmp rfl) (-1:Int) rfl ⟨fun h=>by omega,fun h=>absurd h hno⟩ fun W _=>Ae.nil _ _
theorem Kn (W:World) (p:Option Addr) (cap:Nat) (l:List (List UInt8)) (v:List UInt8) (hn:l.length<4611686018427387904) (hA:Fz W p l):
  Aj Tryz.prog 30 #[slv p l.length cap,str v] W (fun _:Unit=> .bool (decide (v∈l))) (fun _=>True) (fun _=>[]):=by
 refine Ad (args:=[slv p l.length cap,str v]) Tryz.func30 rfl rfl rfl ?_
 refine zA (zB (wP rfl (Aa (zE (zA (zB (wP rfl (wP rfl ?_))))))))
 refine Au (X:=Int) rfl rfl rfl rfl rfl rfl (by kernel_rfl) (fun W1 hp=>N7 W1 p cap l v hn (hA.hp hp)) ?_
 intro k hk
 refine wP rfl ?_
 refine Ab 8 (.bool (decide (v∈l))) rfl (congrArg Value.bool (decide_eq_decide.2 hk)) ?_
 refine wP rfl (Aa (zE (zO ?_)))
 exact Af tH rfl (.tmp rfl) () rfl trivial fun W _=>Ae.nil _ _
theorem VF {rs:List (List Sd)} {z:Rat}:Ai z∈(Bk rs).map Ai↔z∈Bk rs:=by
 rw[List.mem_map]
 exact⟨fun⟨x,hx,e⟩=>by rw[Cl] at e;rwa [←e],fun h=>⟨z,h,rfl⟩⟩
theorem Vf {rs:List (List Sd)} {i:Nat} (hi:i<rs.flatten.length) (hg:(sd rs.flatten i).gable=false):((sd rs.flatten i).plate:Rat)∈Bk rs:=
 Hn.2 (.inl (List.mem_map.2 ⟨sd rs.flatten i,List.mem_filter.2 ⟨List.mem_of_getElem? (DY hi),by rw[hg];rfl⟩,rfl⟩))
theorem V5 {rs:List (List Sd)} {i:Nat} (hi:i<tot rs):decide (i∈stI rs ((sd rs.flatten i).plate:Rat) (tot rs))= !(sd rs.flatten i).gable:=by
 have e:i∈stI rs ((sd rs.flatten i).plate:Rat) (tot rs)↔(sd rs.flatten i).gable=false:=by
  unfold stI
  rw[List.mem_filter,List.mem_range]
  unfold stP
  cases(sd rs.flatten i).gable<;>simp[hi]
 cases hg:(sd rs.flatten i).gable with
 |false=>exact decide_eq_true (e.2 hg)
 |true=>exact decide_eq_false fun h=>by rw[e.1 h] at hg;cases hg
theorem Mp (W:World) (p:Option Addr) (cap:Nat) (rs:List (List Sd)) (hn:rs.length<1099511627776) (hT:tot rs<1099511627776) (hR:Bz W p rs) (hd:Ig W) (hv:BJ W) (ht:AV W):
  Aj Tryz.prog 5 #[B5 p rs.length cap] W (fun _:Unit=> .bool true) (fun _=>True) (fun _=>[]):=by
 refine Ad (args:=[B5 p rs.length cap]) Tryz.func5 rfl rfl rfl ?_
 refine zA (zB ?_)
 (refine A8 rfl rfl rfl rfl ?_;intro)
 refine wP rfl (Aa ?_)
 rename_i b1
 refine zE (zA (zA (zB (wB 0 rfl rfl rfl ?_))))
 refine Ac rfl rfl rfl rfl rfl rfl (by kernel_rfl) (fun W1 hp=>PV W1 p cap rs hn hT (hR.hp hp) (hd.hp hp) (hv.hp hp) (ht.hp hp)) ?_
 by_cases hf:HI rs=true
 rotate_left
 ·refine Ab 19 (.bool false) rfl (congrArg Value.bool (by simpa using hf)) ?_
  refine wP rfl (Aa (zE (zR rfl (zA (zB ?_)))))
  refine Ac rfl rfl rfl rfl rfl rfl (by kernel_rfl) (fun W1 hp=>Iz W1 (hd.hp hp) (hv.hp hp) (ht.hp hp)) ?_
  refine wP rfl (Aa (zE (zO (zP ?_))))
  exact Af tH rfl (.tmp rfl) () rfl trivial fun W _=>Ae.nil _ _
 obtain⟨hP,h12⟩:=WY hf hn hR hd hv ht
 obtain⟨hrg,_⟩:=DA hP.c
 have hpos:=KS hP.c
 have hlen:=Qi (Ea hP.c).2.1
 have hT0:=(Ea hP.c).2.2
 have eS:rs.flatten.length=tot rs:=List.length_flatten
 refine Ab 19 (.bool true) rfl (congrArg Value.bool hf) ?_
 refine wP rfl (Aa (zE (zS rfl (zI (zE (zA (zB (wB 0 rfl rfl rfl ?_))))))))
 refine Au (X:=Vec) rfl rfl rfl rfl rfl rfl (by kernel_rfl) (fun W1 hp=>KP W1 p cap rs (hP.hp hp)) ?_
 intro V hV
 have hV:V.OK 1 (Bk rs).length (nS (Bk rs)):=hV
 obtain⟨pS,cS',eSv,hSr⟩:=Lm hV
 obtain⟨pL,cL,hLv,hLr⟩:=Vec.num hV
 obtain⟨gL,hpe,hLq⟩:=hLr hpos
 subst hpe
 have epq:pS=some ⟨gL,0,none⟩∧cS'=cL:=by
  rw[hLv,List.length_map] at eSv
  injection eSv with e1 e2 e3
  exact⟨e1.symm,e3.symm⟩
 rw[hLv]
 iterate 5 refine wP rfl ?_
 refine Aa (zE (zA (zB (wB 0 rfl rfl rfl ?_))))
 refine Ac rfl rfl rfl rfl rfl rfl (by kernel_rfl) (fun W1 hp=>P9 W1 p cap rs (hP.hp hp)) ?_
 iterate 5 refine wP rfl ?_
 refine Aa (zE (zA (zB (wB 0 rfl rfl rfl ?_))))
 refine Ac rfl rfl rfl rfl rfl rfl (by kernel_rfl) (fun W1 hp=>Rl W1 p cap rs (hP.hp hp)) ?_
 iterate 5 refine wP rfl ?_
 refine Aa ?_
 obtain⟨e,he⟩: ∃e,e=(Bk rs).length-1:=⟨_,rfl⟩
 refine zE (zA (zA (zB ?_)))
 iterate 9 refine wP rfl ?_
 refine Ab 45 (.bool false) rfl (congrArg Value.bool (beq_eq_false_iff_ne.2 (by omega))) ?_
 refine wP rfl (wP rfl (wP rfl ?_))
 refine wJ ?_
 refine Aw rfl rfl rfl rfl (fun W hp=>Ag.load 0 tH rfl ((fun W1 hp=>Ji hLq hp 1 rfl 0 hpos) W hp) rfl) ?_
 refine wP rfl (wP rfl ?_)
 refine Ab 52 (.bool false) rfl (congrArg Value.bool (by show(!_)=false;rw[AR,decide_eq_true rfl];rfl)) ?_
 iterate 6 refine wP rfl ?_
 refine Ab 58 (.int .i64 (e:Nat)) rfl (congrArg (Value.int .i64) ((An (by omega) (by omega)).trans (by omega))) ?_
 refine wJ ?_
 refine Aw rfl rfl rfl rfl (fun W hp=>Ag.load 0 tH rfl ((fun W1 hp=>Ji hLq hp 1 rfl e (by omega)) W hp) rfl) ?_
 refine wP rfl (wP rfl ?_)
 refine Ab 62 (.bool false) rfl (congrArg Value.bool (by rw[←he];show(!_)=false;rw[AR,decide_eq_true rfl];rfl)) ?_
 refine wP rfl (Aa (zE (zS rfl (zI (zE (zA (zA (zB (wP rfl (wP rfl (wP rfl (Aa (AC ?_)))))))))))))
 try refine A7 ?_
 refine AK (X:=Unit) (fun _=>[(1,Ax b1),(3, .slice (some ⟨gL,0,none⟩) (Bk rs).length cL)]) (fun _=>[bxE b1 24 (slv p rs.length cap),V.bx 37 (nS (Bk rs))]) (fun _=>True) ?_ ?_
 ·refine zH ?_
  refine Av (X:=Nat) (fun i=>[(1,Ax b1),(3, .slice (some ⟨gL,0,none⟩) (Bk rs).length cL),(65, .int .i64 ((Bk rs).length:Nat)),(66, .int .i64 (i:Nat))]) (fun _=>[bxE b1 24 (slv p rs.length cap),V.bx 37 (nS (Bk rs))]) (fun i=>i≤(Bk rs).length) (fun i=>(Bk rs).length-i) 0 (Nat.zero_le _) ⟨rfl,rfl,rfl,rfl,trivial⟩ [] rfl ?_
  intro i hi
  have hi:i≤(Bk rs).length:=hi
  refine zA (zB (wP rfl ?_))
  by_cases hlt:i<(Bk rs).length
  ·refine Ab 67 (.bool true) rfl (congrArg Value.bool (decide_eq_true (by omega))) ?_
   refine Aa (zE (zA (zR rfl (zI (zE (zA (zH (zA (zB ?_)))))))))
   obtain⟨j,hj⟩: ∃j,j=i-1:=⟨_,rfl⟩
   have z1:=(KK (show j<(Bk rs).length by omega))▸Kv hrg (List.getElem_mem (show j<(Bk rs).length by omega))
   have z2:=(KK hlt)▸Kv hrg (List.getElem_mem hlt)
   have hcmp:0<i→E6 (Rd rs j) (Rd rs i)= -1:=fun h0=>by
    have h1:=List.pairwise_iff_getElem.1 (Kd rs) j i (by omega) hlt (by omega)
    rw[KK (by omega),KK hlt] at h1
    unfold E6
    rw[if_pos h1]
   refine wP rfl (wP rfl (Aa (zE (zA ?_))))
   refine zT Tryz.mixed (by kernel_rfl) ?_
   refine qP rfl (qP rfl (qP rfl ?_))
   refine A6 72 (.int .i64 ((i:Int)-1)) rfl (congrArg (Value.int .i64) (An (by omega) (by omega))) ?_
   refine qP rfl ?_
   refine A6 73 (.int .i64 (j:Nat)) rfl (congrArg (Value.int .i64) (by show(if (i:Int)-1>0 then(i:Int)-1 else 0)=_;split<;>omega)) ?_
   refine qJ ?_
   refine Ap rfl rfl rfl rfl (fun W hp=>Ag.load 0 tH rfl ((fun W1 hp=>Ji hLq hp 1 rfl j (by omega)) W hp) rfl) ?_
   refine qP rfl (qP rfl ?_)
   refine qJ ?_
   refine Ap rfl rfl rfl rfl (fun W hp=>Ag.load 0 tH rfl ((fun W1 hp=>Ji hLq hp 1 rfl i hlt) W hp) rfl) ?_
   refine A9 rfl rfl rfl rfl rfl rfl (by kernel_rfl) (fun W1 hp=>Q0 _ _ (sz2 z1 z2 (by decide)) W1 (ht.hp hp)) ?_
   iterate 5 refine qP rfl ?_
   refine AE (Aa (AC (A7 ?_)))
   refine AK (X:=Unit) (fun _=>[(1,Ax b1),(3, .slice (some ⟨gL,0,none⟩) (Bk rs).length cL),(65, .int .i64 ((Bk rs).length:Nat)),(66, .int .i64 (i:Nat)),(92, .bool false)]) (fun _=>[bxE b1 24 (slv p rs.length cap),V.bx 37 (nS (Bk rs))]) (fun _=>True) ?_ ?_
   ·refine zB ?_
    iterate 5 refine wP rfl ?_
    by_cases h0:0<i
    ·refine Ab 87 (.bool true) rfl (congrArg Value.bool (decide_eq_true (by show((i:Nat):Int)>0;omega))) ?_
     refine wP rfl (wP rfl (wP rfl ?_))
     refine Ab 90 (.bool false) rfl (congrArg Value.bool (decide_eq_false (by rw[hcmp h0];decide))) ?_
     refine wP rfl (wP rfl (Aa ?_))
     exact At () trivial ⟨rfl,rfl,rfl,rfl,rfl,trivial⟩ [] rfl
    ·refine Ab 87 (.bool false) rfl (congrArg Value.bool (decide_eq_false (by show¬((i:Nat):Int)>0;omega))) ?_
     refine wP rfl ?_
     iterate 2 refine Ah rfl rfl ?_
     refine wP rfl (wP rfl (Aa ?_))
     exact At () trivial ⟨rfl,rfl,rfl,rfl,rfl,trivial⟩ [] rfl
   intro _ _
   refine zS rfl (zI (zN (zE (zB (wP rfl ?_)))))
   refine Ab 93 (.int .i64 ((i+1:Nat):Int)) rfl (congrArg (Value.int .i64) (A5 (by omega))) ?_
   refine wP rfl (Aa ?_)
   exact As (i+1) hlt (by show(Bk rs).length-(i+1)<(Bk rs).length-i;omega) ⟨rfl,rfl,rfl,rfl,trivial⟩ [] rfl
  ·refine Ab 67 (.bool false) rfl (congrArg Value.bool (decide_eq_false (by omega))) ?_
   refine Aa (zE (zA (zS rfl (zJ (zK (zK (zL ?_)))))))
   exact At () trivial ⟨rfl,rfl,trivial⟩ [] rfl
 intro _ _
 refine zA (zA (zB (wB 0 rfl rfl rfl ?_)))
 refine Au (X:=Vec) rfl rfl rfl rfl rfl rfl (by kernel_rfl) (fun W1 hp=>I8 W1 p cap rs (hP.hp hp)) ?_
 intro S hS
 obtain⟨gS,cS,hSv,hSr2⟩:=Vec.sds hS (by omega)
 rw[hSv,eS]
 refine wP rfl (wP rfl (Aa (zE (zH ?_))))
 refine Av (X:=Nat) (fun i=>[(1,Ax b1),(3, .slice (some ⟨gL,0,none⟩) (Bk rs).length cL),(95,slv (some ⟨gS,0,none⟩) (tot rs) cS),(96, .int .i64 (tot rs:Nat)),(97, .int .i64 (i:Nat))]) (fun _=>[bxE b1 24 (slv p rs.length cap),V.bx 37 (nS (Bk rs)),S.bx 42 (cellsOf rs.flatten)]) (fun i=>i≤tot rs) (fun i=>tot rs-i) 0 (Nat.zero_le _) ⟨rfl,rfl,rfl,rfl,rfl,trivial⟩ [] rfl ?_
 intro i hi
 have hi:i≤tot rs:=hi
 refine zA (zB (wP rfl ?_))
 by_cases hlt:i<tot rs
 ·refine Ab 98 (.bool true) rfl (congrArg Value.bool (decide_eq_true (by omega))) ?_
  refine Aa (zE (zA (zR rfl (zI (zE (zA (zH (zA (zB ?_)))))))))
  obtain⟨s,hs⟩: ∃s,s=sd rs.flatten i:=⟨_,rfl⟩
  have hsm:rgd s=true:=by
   obtain⟨l,hl,hsl⟩:=List.mem_flatten.1 (List.mem_of_getElem? (DY (show i<rs.flatten.length by omega)))
   rw[hs];exact hrg l hl _ hsl
  obtain⟨_,_,hpl,_⟩:=EE hsm
  have hst:decide (i∈stI rs (s.plate:Rat) (tot rs))= !s.gable:=by rw[hs];exact V5 hlt
  have hlv:s.gable=false→(s.plate:Rat)∈Bk rs:=fun hg=>by rw[hs] at hg⊢;exact Vf (by omega) hg
  have hsl:=Kt rs (s.plate:Rat) (tot rs)
  have zs:szQ (s.plate:Rat) 20:=(Ft (k:=5) (by show _<100000;omega) (by decide)).mono (by decide)
  refine wP rfl ?_
  refine wJ ?_
  refine Aw rfl rfl rfl rfl (fun W hp=>Ag.load 0 tH rfl ((fun W1 hp=>show Ag W1 gS (0+i*7) s.cells from hs▸hSr2 hp 2 rfl i (by omega)) W hp) rfl) ?_
  (refine Ao Tryz.hZ rfl rfl rfl rfl ?_;intro)
  refine wP rfl (wS 3 rfl rfl rfl (Aa ?_))
  rename_i b13
  refine zE (zA (zB (wP rfl (wB 3 rfl rfl rfl ?_))))
  refine Ac rfl rfl rfl rfl rfl rfl (by kernel_rfl) (fun W1 hp=>(H2 s.plate 1 (by omega) (by decide) W1 (ht.hp hp)).cast (v':= .tuple #[str (Ai (s.plate:Rat)), .int .i64 0]) (by rw[Oy])) ?_
  iterate 5 refine wP rfl ?_
  refine Aa (zE (zA (zB (wB 0 rfl rfl rfl (wP rfl ?_)))))
  refine Au (X:=Vec) rfl rfl rfl rfl rfl rfl (by kernel_rfl) (fun W1 hp=>Mo W1 p cap rs (hP.hp hp) (s.plate:Rat) zs) ?_
  intro O hO
  obtain⟨pO,cO,eO,mO⟩:=PA hO
  rw[eO]
  iterate 5 refine wP rfl ?_
  refine Aa (AC (A7 ?_))
  refine AK (X:=Unit) (fun _=>[(1,Ax b1),(3, .slice (some ⟨gL,0,none⟩) (Bk rs).length cL),(95,slv (some ⟨gS,0,none⟩) (tot rs) cS),(96, .int .i64 (tot rs:Nat)),(97, .int .i64 (i:Nat)),(138, .bool false)]) (fun _=>[bxE b1 24 (slv p rs.length cap),V.bx 37 (nS (Bk rs)),S.bx 42 (cellsOf rs.flatten)]) (fun _=>True) ?_ ?_
  ·refine zT Tryz.mixed (by kernel_rfl) ?_
   iterate 9 refine qP rfl ?_
   refine A9 rfl rfl rfl rfl rfl rfl (by kernel_rfl) (fun W1 hp=>(Ks W1 pO cO (stI rs (s.plate:Rat) (tot rs)) i (by omega) (mO hp 4 rfl)).cast (v':= .bool (!s.gable)) (by rw[hst])) ?_
   cases hg:s.gable with
   |true=>
    refine qP rfl (qB 3 rfl rfl rfl ?_)
    refine A6 125 (.bool true) rfl (congrArg Value.bool hg) ?_
    refine J8 Tryz.underlying4 rfl rfl rfl rfl rfl rfl ?_
    refine qP rfl (qP rfl (qP rfl (qB 3 rfl rfl rfl ?_)))
    refine A6 130 (.bool true) rfl (congrArg Value.bool hg) ?_
    refine qP rfl (qP rfl ?_)
    iterate 4 refine BC rfl rfl ?_
    refine qP rfl (qP rfl (AE (Aa ?_)))
    exact At () trivial ⟨rfl,rfl,rfl,rfl,rfl,rfl,trivial⟩ _ rfl
   |false=>
    refine qP rfl (qB 3 rfl rfl rfl ?_)
    refine A6 125 (.bool false) rfl (congrArg Value.bool hg) ?_
    refine J8 Tryz.underlying4 rfl rfl rfl rfl rfl rfl ?_
    refine qP rfl (qP rfl (qP rfl (qB 3 rfl rfl rfl ?_)))
    refine A6 130 (.bool false) rfl (congrArg Value.bool hg) ?_
    refine qP rfl (qP rfl (qP rfl (qP rfl ?_)))
    refine A9 rfl rfl rfl rfl rfl rfl (by kernel_rfl) (fun W1 hp=>(by
     have h:=Kn W1 pS cS' ((Bk rs).map Ai) (Ai (s.plate:Rat)) (by rw[List.length_map];omega) (hSr hp 1 rfl)
     rw[decide_eq_true (VF.2 (hlv hg)),List.length_map,epq.1,epq.2] at h
     exact h)) ?_
    refine qP rfl (qP rfl (qP rfl (AE (Aa ?_))))
    exact At () trivial ⟨rfl,rfl,rfl,rfl,rfl,rfl,trivial⟩ _ rfl
  intro _ _
  refine zS rfl (zI (zN (zE (zB (wP rfl ?_)))))
  refine Ab 139 (.int .i64 ((i+1:Nat):Int)) rfl (congrArg (Value.int .i64) (A5 (by omega))) ?_
  refine wP rfl (Aa ?_)
  exact As (i+1) hlt (by show tot rs-(i+1)<tot rs-i;omega) ⟨rfl,rfl,rfl,rfl,rfl,trivial⟩ [] rfl
 ·refine Ab 98 (.bool false) rfl (congrArg Value.bool (decide_eq_false (by omega))) ?_
  refine Aa (zE (zA (zS rfl (zJ (zK (zK (zL (zE (zA (zB ?_))))))))))
  refine Ac rfl rfl rfl rfl rfl rfl (by kernel_rfl) (fun W1 hp=>Iz W1 (hd.hp hp) (hv.hp hp) (ht.hp hp)) ?_
  refine wP rfl (Aa (zE (zO ?_)))
  exact Af tH rfl (.tmp rfl) () rfl trivial fun W _=>Ae.nil _ _
end
section
open Go Go.RowKit Go.Am Go.ChangeShapes Go.WideShapes Go.Deep
set_option maxRecDepth 10000
theorem c42:Tryz.prog.cellsOf 42=7:=by kernel_rfl
theorem c27:Tryz.prog.cellsOf 32=1:=by kernel_rfl
theorem c24:Tryz.prog.cellsOf 24=1:=by kernel_rfl
theorem c22:Tryz.prog.cellsOf 22=1:=by kernel_rfl
theorem c3:Tryz.prog.cellsOf 3=1:=by kernel_rfl
theorem c4:Tryz.prog.cellsOf 4=1:=by kernel_rfl
theorem Lw {H:Type} (d:DataW H):1≤Rows.uptoBulk d:=by
 cases d with
 |lit l=>cases l<;>simp[Rows.uptoBulk]
 |nil=>simp[Rows.uptoBulk]
 |ptr d=>simp[Rows.uptoBulk]
 |slice elems spare=>simp[Rows.uptoBulk]
 |agg parts=>simp[Rows.uptoBulk]
 |iface t d=>simp[Rows.uptoBulk]
 |map entries=>simp[Rows.uptoBulk]
 |held h=>simp[Rows.uptoBulk]
theorem U5 {H:Type} (l:List (DataW H)):l.length≤Rows.uptoBulkAll l:=by
 induction l with
 |nil=>simp[Rows.uptoBulkAll]
 |cons x r ih=>have:=Lw x;simp only[Rows.uptoBulkAll,List.length_cons];omega
theorem U3 {H:Type} {A:Type} (L:A→Nat) (D:A→DataW H) (is:List A) (h: ∀i,i∈is→L i+1≤Rows.uptoBulk (D i)):
  (is.map L).sum+is.length≤Rows.uptoBulkAll (is.map D):=by
 induction is with
 |nil=>simp[Rows.uptoBulkAll]
 |cons x r ih=>
  have h1:=h x (.head _)
  have h2:=ih fun i hi=>h i (.tail _ hi)
  simp only[List.map_cons,List.sum_cons,List.length_cons,Rows.uptoBulkAll]
  omega
theorem LM {H:Type} (e s:List (DataW H)):Rows.uptoBulkAll e+1≤Rows.uptoBulk (.slice e s):=by
 simp only[Rows.uptoBulk];omega
theorem Rn {w:World} {a:Addr} {v:Value} (h:w.cell? a=some v):a.spot=none∧a.block<w.heap.size:=by
 unfold World.cell? at h
 split at h
 ·rename_i hb
  refine⟨?_, ?_⟩
  ·cases hs:a.spot with
   |none=>rfl
   |some k=>simp[hs] at h
  ·exact(Array.getElem?_eq_some_iff.1 hb).1
 ·cases h
theorem Iy {w:World} {base n:Nat} {a:Addr} {cs:List Value} (h:w.cells? base a n=some cs) (hn:0<n):a.spot=none∧Ag w a.block a.off cs:=by
 obtain⟨_,hl,hg⟩:=World.cells?_some h
 have h0:=hg 0 hn
 have hv:cs[0]? =some cs[0]:=List.getElem?_eq_getElem (by omega)
 rw[hv] at h0
 have hp:=Rn h0
 have hs:a.spot=none:=by simpa[Addr.add] using hp.1
 refine⟨hs,⟨by simpa[Addr.add] using hp.2,fun j x hx=> ?_⟩⟩
 have hj:j<n:=by rw[←hl];exact(List.getElem?_eq_some_iff.1 hx).1
 rw[←hx, ←hg j hj]
 congr 1
 unfold Addr.add
 split
 ·subst_vars;cases a;simp_all
 ·rfl
theorem RW {a:Addr} (hs:a.spot=none) (n:Nat):a.add n=⟨a.block,a.off+n,none⟩:=by
 unfold Addr.add
 split
 ·subst_vars;cases a;simp_all
 ·rfl
def Sd.in64 (s:Sd):Prop:= ∀z∈[s.x,s.y,s.rise,s.run,s.plate,s.over], -9223372036854775808≤z∧z≤9223372036854775807
section
variable {H:Type} {enc:TypeId×Value→H} {w:World} {base:Nat} {spare:Nat→Bool} {held:Bool} {fuel:Nat} {cs:List Value} {x:DataW H×List MemPlace}
theorem VW (h:DataW.trod enc Tryz.prog w base spare held fuel 42 cs=some x): ∃s:Sd,cs=s.cells∧s.in64:=by
 obtain⟨xs,m,rfl,rfl,hl,hx,hf⟩:=DataW.trod_struct Tryz.underlying42 h
 rw[c42] at hl
 have g: ∀(i:Nat) (o t:Nat) (f:Field),(match Tryz.prog.underlying 42 with|some (.struct fs)=>fs[i]? |_=>none)=some f→f.offset=o→f.type=t→
   ∃y,DataW.trod enc Tryz.prog w base spare held m t ((cs.drop o).take (Tryz.prog.cellsOf t))=some y:=by
  intro i o t f hi ho ht
  rw[Tryz.underlying42] at hi
  subst ho;subst ht
  have h1:=hf i f hi
  have h2:i<xs.length:=by rw[hx];exact(Array.getElem?_eq_some_iff.1 hi).1
  rw[List.getElem?_eq_getElem h2] at h1
  exact⟨_,h1⟩
 match cs,hl with
 |[v0,v1,v2,v3,v4,v5,v6],_=>
  have gi: ∀(i o:Nat) (f:Field) (v:Value),(match Tryz.prog.underlying 42 with|some (.struct fs)=>fs[i]? |_=>none)=some f→f.offset=o→f.type=3→([v0,v1,v2,v3,v4,v5,v6].drop o).take 1=[v]→
    ∃z,v= .int .i64 z∧ -9223372036854775808≤z∧z≤9223372036854775807:=by
   intro i o f v h1 h2 h3 h4
   obtain⟨y,hy⟩:=g i o 3 f h1 h2 h3
   rw[c3,h4] at hy
   obtain⟨z,e1,_,hw⟩:=DataW.trod_int Tryz.underlying3 hy
   refine⟨z,by simpa using e1, ?_⟩
   simpa[Lit.wf,IntKind.min,IntKind.max,IntKind.signed,IntKind.bits] using hw
  obtain⟨z0,rfl,b0⟩:=gi 0 0 _ v0 (by rw[Tryz.underlying42];rfl) rfl rfl rfl
  obtain⟨z1,rfl,b1⟩:=gi 1 1 _ v1 (by rw[Tryz.underlying42];rfl) rfl rfl rfl
  obtain⟨z2,rfl,b2⟩:=gi 2 2 _ v2 (by rw[Tryz.underlying42];rfl) rfl rfl rfl
  obtain⟨z3,rfl,b3⟩:=gi 3 3 _ v3 (by rw[Tryz.underlying42];rfl) rfl rfl rfl
  obtain⟨z5,rfl,b5⟩:=gi 5 5 _ v5 (by rw[Tryz.underlying42];rfl) rfl rfl rfl
  obtain⟨z6,rfl,b6⟩:=gi 6 6 _ v6 (by rw[Tryz.underlying42];rfl) rfl rfl rfl
  obtain⟨y4,hy4⟩:=g 4 4 4 _ (by rw[Tryz.underlying42];rfl) rfl rfl
  rw[c4] at hy4
  obtain⟨z4,e4,_⟩:=DataW.trod_bool Tryz.underlying4 hy4
  obtain rfl:v4= .bool z4:=by simpa using e4
  refine⟨⟨z0,z1,z2,z3,z4,z5,z6⟩,rfl, ?_⟩
  intro z hz
  simp only[List.mem_cons,List.not_mem_nil,or_false] at hz
  rcases hz with rfl|rfl|rfl|rfl|rfl|rfl<;>assumption
theorem SR (h:DataW.trod enc Tryz.prog w base spare held fuel 32 cs=some x):
  ∃(p:Option Addr) (cap:Nat) (l:List Sd),cs=[slv p l.length cap]∧BT w p l∧(∀s∈l,s.in64)∧l.length+1≤Rows.uptoBulk x.1:=by
 rcases open_slice Tryz.underlying32 h with⟨rfl,rfl⟩|⟨a,len,cap,m,n,D,Pl,rfl,_,hl,_,hm,rfl,hx⟩
 ·exact⟨none,0,[],rfl, .inl rfl,(fun _ hs=>by cases hs),Lw _⟩
 have hlm:len≤m:=by rw[hm];split<;>omega
 obtain⟨S,hS⟩:=choose_lt (α:=Sd) (n:=len) (p:=fun i s=>w.cells? base (a.add (i*7)) 7=some s.cells∧s.in64) fun i hi=>by
  obtain⟨cs',h1,h2⟩:=hx i (by omega)
  rw[c42] at h1
  obtain⟨s,rfl,h3⟩:=VW h2
  exact⟨s,h1,h3⟩
 refine⟨some a,cap,(List.range len).map S,by simp, ?_, ?_, ?_⟩
 ·by_cases h0:len=0
  ·subst h0;exact .inl rfl
  ·have hs:a.spot=none:=by simpa[Addr.add] using(Iy (hS 0 (by omega)).1 (by decide)).1
   refine .inr ⟨a.block,a.off,by cases a;simp_all,⟨fun i s hi=> ?_⟩⟩
   simp only[List.getElem?_map,Option.map_eq_some_iff] at hi
   obtain⟨k,hk,rfl⟩:=hi
   have hk':i<len∧k=i:=by
    have:=List.getElem?_eq_some_iff.1 hk
    obtain⟨h1,h2⟩:=this
    simp at h1 h2
    exact⟨h1,h2.symm⟩
   obtain⟨h1,rfl⟩:=hk'
   have:=(Iy (hS k h1).1 (by decide)).2
   rwa [RW hs] at this
 ·intro s hs
  simp only[List.mem_map,List.mem_range] at hs
  obtain⟨i,hi,rfl⟩:=hs
  exact(hS i hi).2
 ·have h1:=U5 ((List.range len).map D)
  have h2:=LM ((List.range len).map D) ((List.range (m-len)).map fun j=>D (len+j))
  simp only[List.length_map,List.length_range] at h1⊢
  omega
theorem Qu (h:DataW.trod enc Tryz.prog w base spare held fuel 22 cs=some x):
  ∃(p:Option Addr) (cap:Nat) (rs:List (List Sd)),cs=[slv p rs.length cap]∧Bz w p rs∧(∀l∈rs, ∀s∈l,s.in64)∧tot rs+rs.length+1≤Rows.uptoBulk x.1:=by
 rcases open_slice Tryz.underlying22 h with⟨rfl,rfl⟩|⟨a,len,cap,m,n,D,Pl,rfl,_,hl,_,hm,rfl,hx⟩
 ·exact⟨none,0,[],rfl, .inl rfl,(fun _ hs=>by cases hs),Lw _⟩
 have hlm:len≤m:=by rw[hm];split<;>omega
 obtain⟨L,hL⟩:=choose_lt (α:=List Sd) (n:=len) (p:=fun i l=> ∃q c,w.cells? base (a.add (i*1)) 1=some [slv q l.length c]∧BT w q l∧(∀s∈l,s.in64)∧l.length+1≤Rows.uptoBulk (D i)) fun i hi=>by
  obtain⟨cs',h1,h2⟩:=hx i (by omega)
  rw[c27] at h1
  obtain⟨q,c,l,rfl,h3,h4,h5⟩:=SR h2
  exact⟨l,q,c,h1,h3,h4,h5⟩
 refine⟨some a,cap,(List.range len).map L,by simp, ?_, ?_, ?_⟩
 ·by_cases h0:len=0
  ·subst h0;exact .inl rfl
  ·obtain⟨q0,c0,h00,_⟩:=hL 0 (by omega)
   have hs:a.spot=none:=by simpa[Addr.add] using(Iy h00 (by decide)).1
   refine .inr ⟨a.block,a.off,by cases a;simp_all,⟨fun i l hi=> ?_⟩⟩
   simp only[List.getElem?_map,Option.map_eq_some_iff] at hi
   obtain⟨k,hk,rfl⟩:=hi
   have hk':i<len∧k=i:=by
    obtain⟨h1,h2⟩:=List.getElem?_eq_some_iff.1 hk
    simp at h1 h2
    exact⟨h1,h2.symm⟩
   obtain⟨h1,rfl⟩:=hk'
   obtain⟨q,c,h2,h3,_⟩:=hL k h1
   have:=(Iy h2 (by decide)).2
   rw[RW hs] at this
   exact⟨q,c,this,h3⟩
 ·intro l hl'
  simp only[List.mem_map,List.mem_range] at hl'
  obtain⟨i,hi,rfl⟩:=hl'
  obtain⟨_,_,_,_,h3,_⟩:=hL i hi
  exact h3
 ·have h1:=U3 (fun i=>(L i).length) D (List.range len) fun i hi=>by
   obtain⟨_,_,_,_,_,h3⟩:=hL i (by simpa using hi)
   exact h3
  have h2:=LM ((List.range len).map D) ((List.range (m-len)).map fun j=>D (len+j))
  simp only[tot,List.map_map,List.length_map,List.length_range] at h1⊢
  have h3:(List.range len).map (List.length∘L)=(List.range len).map fun i=>(L i).length:=rfl
  rw[h3]
  show _≤Rows.uptoBulk (DataW.slice _ _)
  omega
end
section
variable {H:Type} {enc:TypeId×Value→H} {w:World} {base:Nat} {spare:Nat→Bool} {held:Bool} {v:Value} {d:DataW H} {ps:List MemPlace}
theorem SI {r:Reach} {b0:Nat} (hv:Value.okWide Tryz.prog w r b0 24 v) (h:DataW.Trod enc Tryz.prog w base spare held 24 v d ps):
  ∃(p:Option Addr) (cap:Nat) (rs:List (List Sd)),v=B5 p rs.length cap∧Bz w p rs∧(∀l∈rs, ∀s∈l,s.in64)∧tot rs+rs.length+2≤Rows.uptoBulk d:=by
 obtain⟨cs,rfl,hc⟩:=okWide_struct Tryz.underlying24 hv
 obtain⟨fuel,hf⟩:=h
 obtain⟨xs,m,rfl,hx,hl,hn,hg⟩:=DataW.trod_struct Tryz.underlying24 hf
 rw[c24] at hc
 obtain⟨y0,rfl⟩: ∃y,xs=[y]:=by
  match xs,hn with
  |[y],_=>exact⟨y,rfl⟩
 have h0:DataW.trod enc Tryz.prog w base spare held m 22 (List.take (Tryz.prog.cellsOf 22) (List.drop 0 cs.toList))=some y0:=hg 0 _ rfl
 rw[c22] at h0
 obtain⟨c0,rfl⟩: ∃c,cs= #[c]:=by
  obtain⟨l⟩:=cs
  match l,hc with
  |[c],_=>exact⟨c,rfl⟩
 obtain⟨p,cap,rs,e1,e2,e3,e4⟩:=Qu h0
 simp only[Prod.mk.injEq] at hx
 obtain⟨rfl,_⟩:=hx
 refine⟨p,cap,rs, ?_,e2,e3, ?_⟩
 ·have:c0=slv p rs.length cap:=by simpa[Value.cells] using e1
  rw[this]
 ·simp only[List.map_cons,List.map_nil,Rows.uptoBulk,Rows.uptoBulkAll]
  have:y0.1=(y0:DataW H×List MemPlace).1:=rfl
  omega
end
end
section
open Go
noncomputable abbrev laidL:List (String×DataW Unit):=Rows.frontCornersRow.laid
end
section
open Go Go.RowKit Go.Am Go.ChangeShapes Go.WideShapes Go.Deep Go.ChangeAt
set_option maxRecDepth 100000
section
variable {H:Type} {enc:TypeId×Value→H} {w:World} {base:Nat} {spare:Nat→Bool} {held:Bool} {v:Value} {d:DataW H} {ps:List MemPlace}
end
theorem own:ownKnob Tryz.prog.godebug=none:=by kernel_rfl
theorem R3:laidOutB Tryz.prog=true:=by kernel_rfl
theorem Ip:(laidL.all fun x=>x.2.handleName?.isNone)=true:=by kernel_rfl
theorem Pb {W:World} (h:laidMetH Tryz.prog laidL W):AV W:=by
 rw[MakeChecks.laidMetH_plain _ _ _ Ip] at h
 exact Lib.tabIs_of_head (g:=1) (t:=318) (e:=263) (n:=20) (by kernel_rfl) (by kernel_rfl) (by kernel_rfl) (by kernel_rfl) (by kernel_rfl) (by kernel_rfl) h.tail.tail
theorem WK {W:World} (hS:W.ShapedOpen Tryz.prog):BJ W:=
 cell_of_shapedOpen_int (g:=6) (t:=3) (zero:= #[.int .i64 0]) hS (of_decide_eq_true (by kernel_rfl)) (by kernel_rfl) rfl (by kernel_rfl) (by kernel_rfl) Tryz.underlying3
noncomputable def witW (os:Os):World:=World.laidAll Tryz.prog os laidL
theorem UN (os:Os) (args:Array Value):laidMetH Tryz.prog laidL ((witW os).forCall (fun _ _=>0) ⟨#[],args,[]⟩).memory:=by
 rw[MakeChecks.laidMetH_plain _ _ _ Ip]
 exact laidMet_laidAll _ (by kernel_rfl) (by kernel_rfl)
theorem QL (os:Os) (args:Array Value):((witW os).forCall (fun _ _=>0) ⟨#[],args,[]⟩).Shaped Tryz.prog:=
 World.shaped_of_ZipB (by kernel_rfl) (by kernel_rfl)
theorem Vx {H:Type} {enc:TypeId×Value→H} (os:Os) {f:FuncId} {fn:Func} {s:OpenSpec} {conds:List PathCond} (args:Array Value)
  (hok:Input.okWideB Tryz.prog ((witW os).forCall (fun _ _=>0) ⟨#[],args,[]⟩) f ⟨#[],args,[]⟩=true)
  (hrow:s.preRow enc Tryz.prog fn conds false laidL ((witW os).forCall (fun _ _=>0) ⟨#[],args,[]⟩).memory args):
  ∃(w:World) (tape:Tape) (i:Input),w.os=os∧(w.forCall tape i).Shaped Tryz.prog∧i.vars=[]∧Input.okWide Tryz.prog (w.forCall tape i) .any w.heap.size f i∧
   s.preRow enc Tryz.prog fn conds false laidL (w.forCall tape i).memory i.args∧({}:Assume).holds Tryz.prog (lone (Frame.enter Tryz.prog f i.args .normal) [] (w.forCall tape i)):=
 ⟨witW os,fun _ _=>0,⟨#[],args,[]⟩,World.laidAll_os _ _ _,QL os args,(Input.okWide_of_okWideB (base:=0) hok).1,(Input.okWide_of_okWideB hok).2,hrow,by
  simp only[Assume.holds]
  exact⟨by simp,by simp,by simp,by simp,by simp,by simp⟩⟩
theorem X5:Tryz.prog.cellsOf 176=2:=by kernel_rfl
theorem Xx:Tryz.prog.cellsOf 177=8:=by kernel_rfl
theorem Xr:Tryz.prog.cellsOf 4=1:=by kernel_rfl
theorem XK:Tryz.prog.cellsOf 3=1:=by kernel_rfl
section
variable {H:Type} {enc:TypeId×Value→H} {w:World} {base:Nat} {spare:Nat→Bool} {held:Bool} {fuel:Nat} {cs:List Value} {x:DataW H×List MemPlace}
theorem I0 (h:DataW.trod enc Tryz.prog w base spare held fuel 176 cs=some x): ∃(b:Bool) (z:Int),cs=[.bool b, .int .i64 z]∧x.1= .agg [.lit (.bool b), .lit (.int .i64 z)]:=by
 obtain⟨xs,m,rfl,rfl,hl,hn,hg⟩:=DataW.trod_struct Tryz.underlying176 h
 rw[X5] at hl
 match cs,hl with
 |[u,v],_=>
  match xs,hn with
  |[y0,y1],_=>
   have h0:DataW.trod enc Tryz.prog w base spare held m 4 (([u,v].drop 0).take (Tryz.prog.cellsOf 4))=some y0:=hg 0 _ rfl
   have h1:DataW.trod enc Tryz.prog w base spare held m 3 (([u,v].drop 1).take (Tryz.prog.cellsOf 3))=some y1:=hg 1 _ rfl
   rw[Xr] at h0
   rw[XK] at h1
   obtain⟨b,e0,f0⟩:=DataW.trod_bool Tryz.underlying4 h0
   obtain⟨z,e1,f1,_⟩:=DataW.trod_int Tryz.underlying3 h1
   refine⟨b,z, ?_, ?_⟩
   ·have a0:u= .bool b:=by simpa using e0
    have a1:v= .int .i64 z:=by simpa using e1
    rw[a0,a1]
   ·simp[f0,f1]
theorem S6 (h:DataW.trod enc Tryz.prog w base spare held fuel 177 cs=some x) (hx:x.1= .agg [.agg [.lit (.bool false), .lit (.int .i64 1)], .agg [.lit (.bool true), .lit (.int .i64 (-1))], .agg [.lit (.bool false), .lit (.int .i64 (-1))], .agg [.lit (.bool true), .lit (.int .i64 1)]]):cs=WS:=by
 obtain⟨xs,m,rfl,rfl,hl,hn,hg⟩:=DataW.trod_array Tryz.underlying177 h
 rw[Xx] at hl
 match cs,hl with
 |[a0,a1,a2,a3,a4,a5,a6,a7],_=>
  match xs,hn with
  |[y0,y1,y2,y3],_=>
   have h0:=hg 0 (by decide)
   have h1:=hg 1 (by decide)
   have h2:=hg 2 (by decide)
   have h3:=hg 3 (by decide)
   rw[X5] at h0 h1 h2 h3
   obtain⟨b0,z0,e0,f0⟩:=I0 (x:=y0) h0
   obtain⟨b1,z1,e1,f1⟩:=I0 (x:=y1) h1
   obtain⟨b2,z2,e2,f2⟩:=I0 (x:=y2) h2
   obtain⟨b3,z3,e3,f3⟩:=I0 (x:=y3) h3
   simp only[List.map_cons,List.map_nil,f0,f1,f2,f3,DataW.agg.injEq,List.cons.injEq,DataW.lit.injEq,Lit.bool.injEq,Lit.int.injEq,true_and,and_true] at hx
   obtain⟨⟨rfl,rfl⟩,⟨rfl,rfl⟩,⟨rfl,rfl⟩,⟨rfl,rfl⟩⟩:=hx
   simp at e0 e1 e2 e3
   obtain⟨rfl,rfl⟩:=e0
   obtain⟨rfl,rfl⟩:=e1
   obtain⟨rfl,rfl⟩:=e2
   obtain⟨rfl,rfl⟩:=e3
   rfl
end
theorem OV {W:World} (h:laidMetH Tryz.prog laidL W):Ig W:=by
 rw[MakeChecks.laidMetH_plain _ _ _ Ip] at h
 obtain⟨ps,⟨g',t',cs,fuel,p,q,hg',ht',hvar,hd,_,_⟩,_⟩:=h.tail.tail.tail.tail.tail.tail
 obtain rfl := Option.some.inj ((show Tryz.prog.globalNamed "kingpost/front.directions" = some 0 by kernel_rfl).symm.trans hg')
 obtain rfl:=Option.some.inj ((show(Tryz.prog.globals[0]?).map (·.type)=some 177 by kernel_rfl).symm.trans ht')
 have e:=S6 hd rfl
 have hc: ∀i u,WS[i]? =some u→W.cell? ⟨0,i,none⟩=some u:=fun i u hu=>by
  rw[World.var?_cell hg' hvar i]
  rw[←e] at hu
  simpa using hu
 refine⟨?_,fun m u hu=> ?_⟩
 ·obtain⟨c,ty,fr,h1,_⟩:=Sort.cells_of_cell? (hc 0 _ rfl)
  exact(Array.getElem?_eq_some_iff.1 h1).1
 ·rw[Nat.zero_add]
  exact hc m u hu
end
end Go.Proofs.YtlagebbefnnnnaaGreatDoor
