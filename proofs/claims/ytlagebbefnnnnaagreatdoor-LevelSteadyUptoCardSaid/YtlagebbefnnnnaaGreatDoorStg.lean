/-
  Lemmas that the theorem levelSteady_upto_card needs (part 7 of 7).
-/
import Derived.Test.YtlagebbefnnnnaaGreatDoorStf
import Derived.Test.YtlagebbefnnnnaaGreatDoorRows
import Derived.Deep.Slices
import Derived.ChangeArms
import Derived.ChangeShapes
import Derived.WideShapes
import Derived.Carry
import Derived.Test.YtlagebbefnnnnaaGreatDoorCards
import Derived.Test.YtlagebbefnnnnaaGreatDoorTie
import Derived.ProofKit
import Derived.OpenShut
import Derived.Deep.DeepHandedRow
import Derived.Lib.LaidTab
import Derived.Stop.LaidErr
import Derived.Lay
import Derived.SevenTiedAt
import Derived.Shelf.Vars
namespace Go.Proofs.YtlagebbefnnnnaaGreatDoor
open Go Go.RowKit Go.Am Go.Lib
set_option maxRecDepth 10000
-- BOXES 14
-- CODE2
set_option maxHeartbeats 16000000 in
theorem samePairs_gives (W:World) (p q:Option Addr) (cp cq:Nat) (L:List (Nat×Nat)) (hn:L.length<4611686018427387904) (hp0:PairsP W p L) (hq0:PairsP W q L):
  CallsR Tryz.prog 61 #[.slice p L.length cp, .slice q L.length cq] W (fun _:Unit=> .bool true) (fun _=>True) (fun _=>[]):=by
 refine calls_enter (args:=[.slice p L.length cp, .slice q L.length cq]) Tryz.func61 rfl rfl rfl ?_
 refine zA (zB (wP rfl (wl_nil (zE (zA (zA (zB ?_)))))))
 iterate 5 refine wP rfl ?_
 refine wl_upd 11 (.bool false) rfl (congrArg Value.bool (by simp)) ?_
 refine wl_nil (zE (zS rfl (zI (zE (zA (zA (zB (wP rfl (wl_nil (zE (zH ?_)))))))))))
 refine wc_loop (X:=Nat) (fun i=>[(0, .slice p L.length cp),(1, .slice q L.length cq),(5, .int .i64 (i:Nat))]) (fun _=>[]) (fun i=>i≤L.length) (fun i=>L.length-i) 0 (Nat.zero_le _) ⟨rfl,rfl,rfl,trivial⟩ [] rfl ?_
 intro i hi
 have hi:i≤L.length:=hi
 refine zA (zA (zB (wP rfl (wP rfl (wP rfl (wP rfl ?_))))))
 by_cases hlt:i<L.length
 ·refine wl_upd 15 (.bool true) rfl (congrArg Value.bool (decide_eq_true (by omega))) ?_
  refine wl_nil (zE (zR rfl (zI (zE (zA (zH (zA (zA ?_))))))))
  refine zT Tryz.mixed (by kernel_rfl) ?_
  obtain⟨g1,o1,rfl,h1⟩:=hp0.at_ hlt
  obtain⟨g2,o2,rfl,h2⟩:=hq0.at_ hlt
  obtain⟨c1,s1,r1⟩:=h1 i hlt
  obtain⟨c2,s2,r2⟩:=h2 i hlt
  obtain⟨⟨x,y⟩,hxy⟩: ∃xy,xy=L[i]:=⟨_,rfl⟩
  rw[←hxy] at r1 r2
  refine qP rfl (qP rfl ?_)
  refine qI rfl rfl (by omega) (by omega) ?_
  refine wq_load rfl rfl rfl rfl (fun W hp=>RowAt.load 0 tH rfl ((fun W1 hp=>s1.hp hp) W hp) rfl) ?_
  refine qP rfl (qP rfl (qP rfl ?_))
  refine qI rfl rfl (by omega) (by omega) ?_
  refine wq_load rfl rfl rfl rfl (fun W hp=>RowAt.load 0 tH rfl ((fun W1 hp=>s2.hp hp) W hp) rfl) ?_
  refine qP rfl (qP rfl (wq_nil (wl_nil (zE (zS rfl (zI (zE (zA (zB (wP rfl (wl_nil (zE (zH ?_)))))))))))))
  refine wc_loop (X:=Nat) (fun k=>[(0, .slice (some ⟨g1,o1,none⟩) L.length cp),(1, .slice (some ⟨g2,o2,none⟩) L.length cq),(5, .int .i64 (i:Nat)),(6, .int .i64 (k:Nat))]) (fun _=>[]) (fun k=>k≤2) (fun k=>2-k) 0 (by decide) ⟨rfl,rfl,rfl,rfl,trivial⟩ [] rfl ?_
  intro k hk
  have hk:k≤2:=hk
  refine zA (zA (zB (wP rfl (wP rfl (wP rfl ?_)))))
  refine wI rfl rfl (by omega) (by omega) ?_
  refine wl_load rfl rfl rfl rfl (fun W hp=>RowAt.load 0 tH rfl ((fun W1 hp=>s1.hp hp) W hp) rfl) ?_
  refine wP rfl (wP rfl ?_)
  by_cases hk2:k<2
  ·refine wl_upd 35 (.bool true) rfl (congrArg Value.bool (decide_eq_true (by show(k:Int)<((2:Nat):Int);omega))) ?_
   refine wl_nil (zE (zR rfl (zI (zE (zA (zH (zA ?_)))))))
   refine zT Tryz.mixed (by kernel_rfl) ?_
   obtain⟨v,hv⟩: ∃v,v=if k=0 then x else y:=⟨_,rfl⟩
   have rr: ∀ {c:Nat},RowAt W c 0 (prC (x,y))→RowAt W c (0+k*1) [.int .i64 (v:Nat)]:=fun {c} h=>by
    have:k=0∨k=1:=by omega
    rcases this with rfl|rfl
    ·rw[if_pos rfl] at hv;subst hv
     exact⟨h.lt,fun m u hu=>by
      have hm:m=0:=by have:=(List.getElem?_eq_some_iff.1 hu).1;simpa using this
      subst hm
      exact h.get 0 u hu⟩
    ·rw[if_neg (by decide)] at hv;subst hv
     exact⟨h.lt,fun m u hu=>by
      have hm:m=0:=by have:=(List.getElem?_eq_some_iff.1 hu).1;simpa using this
      subst hm
      exact h.get 1 u hu⟩
   have q1:=rr r1
   have q2:=rr r2
   refine qP rfl (qP rfl ?_)
   refine qI rfl rfl (by omega) (by omega) ?_
   refine wq_load rfl rfl rfl rfl (fun W hp=>RowAt.load 0 tH rfl ((fun W1 hp=>s1.hp hp) W hp) rfl) ?_
   refine qP rfl ?_
   refine qI rfl rfl (by omega) (by omega) ?_
   refine wq_load rfl rfl rfl rfl (fun W hp=>RowAt.load 0 tH rfl ((fun W1 hp=>q1.hp hp) W hp) rfl) ?_
   refine qP rfl (qP rfl ?_)
   refine qI rfl rfl (by omega) (by omega) ?_
   refine wq_load rfl rfl rfl rfl (fun W hp=>RowAt.load 0 tH rfl ((fun W1 hp=>s2.hp hp) W hp) rfl) ?_
   refine qP rfl ?_
   refine qI rfl rfl (by omega) (by omega) ?_
   refine wq_load rfl rfl rfl rfl (fun W hp=>RowAt.load 0 tH rfl ((fun W1 hp=>q2.hp hp) W hp) rfl) ?_
   refine qP rfl ?_
   refine wq_upd 52 (.bool false) rfl (congrArg Value.bool (by simp)) ?_
   refine wq_nil (wl_nil (zE (zS rfl (zI (zN (zE (zB (wP rfl (wP rfl ?_)))))))))
   refine wl_upd 37 (.int .i64 ((k+1:Nat):Int)) rfl (congrArg (Value.int .i64) (w64_succ (by omega))) ?_
   refine wP rfl (wl_nil ?_)
   exact ne_loop (k+1) (by show k+1≤2;omega) (by show 2-(k+1)<2-k;omega) ⟨rfl,rfl,rfl,rfl,trivial⟩ [] rfl
  ·refine wl_upd 35 (.bool false) rfl (congrArg Value.bool (decide_eq_false (by show¬(k:Int)<((2:Nat):Int);omega))) ?_
   refine wl_nil (zE (zS rfl (zJ (zK (zK (zL (zN (zE (zB (wP rfl (wP rfl ?_)))))))))))
   refine wl_upd 17 (.int .i64 ((i+1:Nat):Int)) rfl (congrArg (Value.int .i64) (w64_succ (by omega))) ?_
   refine wP rfl (wl_nil ?_)
   exact ne_loop (i+1) hlt (by show L.length-(i+1)<L.length-i;omega) ⟨rfl,rfl,rfl,trivial⟩ [] rfl
 ·refine wl_upd 15 (.bool false) rfl (congrArg Value.bool (decide_eq_false (by omega))) ?_
  refine wl_nil (zE (zS rfl (zJ (zK (zK (zL (zE (zA (zB (wP rfl (wl_nil (zE (zO ?_)))))))))))))
  exact ne_ret1 tH rfl (.tmp rfl) () rfl trivial fun W _=>NewBx.nil _ _
theorem sq_tot (g:Bool):tot [sqL g]=4:=by cases g<;>rfl
theorem sq_plan {g:Bool} {bS bR:Nat} {W0 W:World} {bxs:List Bx} (hp:Hp W0 bxs W) (k i:Nat) (hk:nth bxs k=some ⟨bS,42,cellsOf (sqL g),true,none⟩) (hi:nth bxs i=some (bxE bR 32 (slv (some ⟨bS,0,none⟩) 4 4))) (hd:DirP W0) (hv:MaxP W0) (ht:TabP W0):PlanW W (some ⟨bR,0,none⟩) [sqL g]:=
 ⟨by show 1<_;decide,square_rings hp k i hk hi,sq_chk g,hd.hp hp,hv.hp hp,ht.hp hp⟩
theorem aw_all {g:Bool} {l:List Rat} (e:lvls [sqL g]=l) (W:World) (bR:Nat) (h:PlanW W (some ⟨bR,0,none⟩) [sqL g]):
  CallsR Tryz.prog 22 #[planV (some ⟨bR,0,none⟩) 1 1] W (fun V:Vec=> .tuple #[V.val l.length, .int .i64 0]) (fun V=>V.OK 1 l.length (nS l)) (fun V=>[V.bx 37 (nS l)]):=by
 subst e
 exact lAll_gives W (some ⟨bR,0,none⟩) 1 [sqL g] h
theorem aw_ord (W:World) (bR:Nat) (h:PlanW W (some ⟨bR,0,none⟩) [sqL true]):
  CallsR Tryz.prog 32 #[planV (some ⟨bR,0,none⟩) 1 1,str [53], .bool true] W (fun V:Vec=> .tuple #[V.val [1,3].length, .int .i64 0]) (fun V=>V.OK 1 [1,3].length (iC [1,3])) (fun V=>[V.bx 3 (iC [1,3])]):=by
 have h1:=lOrder_gives W (some ⟨bR,0,none⟩) 1 [sqL true] h (by rw[sq_tot];decide) (q2 5 1) ⟨by decide,by decide⟩ true
 rw[ns5,sq_ord] at h1
 exact h1
theorem aw_prs (W:World) (bR:Nat) (h:PlanW W (some ⟨bR,0,none⟩) [sqL false]):
  CallsR Tryz.prog 33 #[planV (some ⟨bR,0,none⟩) 1 1,str [53]] W (fun x:Vec×PrMk=> .tuple #[x.1.val x.2.length, .int .i64 0]) (fun x=>x.2.map (·.2)=[(0,2),(1,3)]∧x.1.OK 1 x.2.length (prRow x.2)) (fun x=>[x.1.bx 58 (prRow x.2),prB x.2]):=by
 have h1:=lPairs_gives W (some ⟨bR,0,none⟩) 1 [sqL false] h (q2 5 1) ⟨by decide,by decide⟩
 rw[ns5,sq_prs] at h1
 exact h1
theorem strs_mem {V:Vec} {l:List Rat} (hV:V.OK 1 l.length (nS l)): ∃p cap,V.val l.length=slv p (l.map numS).length cap∧
  ∀ {W0 W:World} {bxs:List Bx},Hp W0 bxs W→ ∀k,nth bxs k=some (V.bx 37 (nS l))→StrsP W p (l.map numS):=by
 have e:(l.map numS).map str=nS l:=by simp[nS]
 obtain⟨p,cap,junk⟩:=V
 cases p with
 |none=>
  have hl:=List.length_eq_zero_iff.1 (hV.nil rfl)
  subst hl
  exact⟨none,0,rfl,fun _ _ _=> .inl rfl⟩
 |some g=>
  refine⟨some ⟨g,0,none⟩,cap,by rw[List.length_map];rfl,fun {W0 W bxs} hp k hk=> .inr ⟨g,0,rfl, ?_⟩⟩
  rw[e]
  exact row_pt hp k (A:=[]) (C:=junk) hk rfl rfl
theorem strs_lit {W0 W:World} {bxs:List Bx} (hp:Hp W0 bxs W) (k:Nat) {b:Nat} {t:TypeId} {l:List (List UInt8)} (hk:nth bxs k=some ⟨b,t,l.map str,true,none⟩):StrsP W (some ⟨b,0,none⟩) l:= .inr ⟨b,0,rfl,RowAt.of_bx hp k hk rfl⟩
theorem ints_lit {W0 W:World} {bxs:List Bx} (hp:Hp W0 bxs W) (k:Nat) {b:Nat} {t:TypeId} {l:List Nat} (hk:nth bxs k=some ⟨b,t,iC l,true,none⟩):IntsR W (some ⟨b,0,none⟩) l:=ints_row (junk:=[]) (by rw[List.append_nil];exact RowAt.of_bx hp k hk rfl)
theorem e05:([q2 0 1,q2 5 1]:List Rat).map numS=[[48],[53]]:=by rw[List.map_cons,List.map_cons,List.map_nil,ns0,ns5]
theorem e0510:([q2 0 1,q2 5 1,q2 10 1]:List Rat).map numS=[[48],[53],[49,48]]:=by rw[List.map_cons,List.map_cons,List.map_cons,List.map_nil,ns0,ns5,ns10]
set_option maxHeartbeats 32000000 in
theorem awakeV_gives (W:World) (hd:DirP W) (hv:MaxP W) (ht:TabP W):CallsR Tryz.prog 21 #[] W (fun _:Unit=> .bool true) (fun _=>True) (fun _=>[]):=by
 refine calls_enter (args:=[]) Tryz.func21 rfl rfl rfl ?_
 refine zA (zB (wP rfl (wl_nil (zE (zA (zB ?_))))))
 refine wl_call (X:=Nat×Nat) rfl rfl rfl rfl rfl rfl (by kernel_rfl) (fun W1 _=>square_gives false W1) ?_
 rintro⟨s1,r1⟩ _
 refine wl_call (X:=Vec) rfl rfl rfl rfl rfl rfl (by kernel_rfl) (fun W1 hp=>aw_all sq_lv0 W1 r1 (sq_plan hp 0 1 rfl rfl hd hv ht)) ?_
 intro V1 hV1
 obtain⟨p1,c1,e1,m1⟩:=strs_mem hV1
 rw[e1]
 iterate 5 refine wP rfl ?_
 refine wl_nil (zE (zA (zB ?_)))
 refine wl_call (X:=Nat×Nat) rfl rfl rfl rfl rfl rfl (by kernel_rfl) (fun W1 _=>square_gives true W1) ?_
 rintro⟨s2,r2⟩ _
 refine wl_call (X:=Vec) rfl rfl rfl rfl rfl rfl (by kernel_rfl) (fun W1 hp=>aw_all sq_lv1 W1 r2 (sq_plan hp 3 4 rfl rfl hd hv ht)) ?_
 intro V2 hV2
 obtain⟨p2,c2,e2,m2⟩:=strs_mem hV2
 rw[e2]
 iterate 5 refine wP rfl ?_
 refine wl_nil (zE (zA (zB ?_)))
 refine wl_call (X:=Nat×Nat) rfl rfl rfl rfl rfl rfl (by kernel_rfl) (fun W1 _=>square_gives true W1) ?_
 rintro⟨s3,r3⟩ _
 refine wl_call (X:=Vec) rfl rfl rfl rfl rfl rfl (by kernel_rfl) (fun W1 hp=>aw_ord W1 r3 (sq_plan hp 6 7 rfl rfl hd hv ht)) ?_
 intro V3 hV3
 obtain⟨p3,c3,e3,m3⟩:=ints_mem hV3
 rw[e3]
 iterate 5 refine wP rfl ?_
 refine wl_nil (zE (zA (zB ?_)))
 refine wl_call (X:=Nat×Nat) rfl rfl rfl rfl rfl rfl (by kernel_rfl) (fun W1 _=>square_gives false W1) ?_
 rintro⟨s4,r4⟩ _
 refine wl_call (X:=Vec×PrMk) rfl rfl rfl rfl rfl rfl (by kernel_rfl) (fun W1 hp=>aw_prs W1 r4 (sq_plan hp 9 10 rfl rfl hd hv ht)) ?_
 rintro⟨V4,mk⟩ ⟨hmk,hV4⟩
 obtain⟨p4,c4,e4,m4⟩:=pairs_mem hmk hV4
 dsimp only
 rw[e4]
 iterate 5 refine wP rfl ?_
 refine wl_nil (zE (zA (zB ?_)))
 iterate 6 refine wP rfl ?_
 refine wl_upd 34 (.bool true) rfl rfl ?_
 refine wP rfl (wP rfl ?_)
 refine wl_buildRowZ Tryz.hZ tH rfl rfl rfl rfl rfl rfl rfl rfl rfl rfl rfl fun bA=> ?_
 refine wl_call1 rfl rfl rfl rfl rfl rfl (by kernel_rfl) (fun W1 hp=>(sEqual_gives W1 p1 (some ⟨bA,0,none⟩) c1 2 _ [[48],[53]] (m1 hp 2 rfl) (strs_lit hp 13 rfl) (by decide) (by decide)).cast (v':= .bool true) (by rw[e05,decide_eq_true rfl])) ?_
 refine wP rfl (wP rfl (wP rfl ?_))
 refine wl_buildRowZ Tryz.hZ tH rfl rfl rfl rfl rfl rfl rfl rfl rfl rfl rfl fun bB=> ?_
 refine wl_call1 rfl rfl rfl rfl rfl rfl (by kernel_rfl) (fun W1 hp=>(sEqual_gives W1 p2 (some ⟨bB,0,none⟩) c2 3 _ [[48],[53],[49,48]] (m2 hp 5 rfl) (strs_lit hp 14 rfl) (by decide) (by decide)).cast (v':= .bool true) (by rw[e0510,decide_eq_true rfl])) ?_
 refine wP rfl (wP rfl (wP rfl ?_))
 refine wl_buildRowZ Tryz.hZ tH rfl rfl rfl rfl rfl rfl rfl rfl rfl rfl rfl fun bC=> ?_
 refine wl_call1 rfl rfl rfl rfl rfl rfl (by kernel_rfl) (fun W1 hp=>(iEqual_gives W1 p3 (some ⟨bC,0,none⟩) c3 2 [1,3] [1,3] (m3 hp 8 rfl) (ints_lit hp 15 rfl) (by decide) (by decide)).cast (v':= .bool true) (by rw[decide_eq_true rfl])) ?_
 refine wP rfl (wP rfl (wP rfl ?_))
 refine wl_buildRowZ Tryz.hZ tH rfl rfl rfl rfl rfl rfl rfl rfl rfl rfl rfl fun bD=> ?_
 refine wl_buildRowZ Tryz.hZ tH rfl rfl rfl rfl rfl rfl rfl rfl rfl rfl rfl fun bE=> ?_
 refine wl_buildRowZ Tryz.hZ tH rfl rfl rfl rfl rfl rfl rfl rfl rfl rfl rfl fun bF=> ?_
 refine wl_call1 rfl rfl rfl rfl rfl rfl (by kernel_rfl) (fun W1 hp=>samePairs_gives W1 p4 (some ⟨bF,0,none⟩) c4 2 [(0,2),(1,3)] (by decide) (m4 hp 11 12 rfl rfl) (.inr ⟨bF,0,rfl,fun i hi=> ?_⟩)) ?_
 ·have hF:=RowAt.of_bx hp 18 rfl rfl
  have:i=0∨i=1:=by have:i<2:=hi;omega
  rcases this with rfl|rfl
  ·exact⟨bD,⟨hF.lt,fun m u hu=>by
    have hm:m=0:=by have:=(List.getElem?_eq_some_iff.1 hu).1;simpa using this
    subst hm
    exact hF.get 0 u hu⟩,RowAt.of_bx hp 16 rfl rfl⟩
  ·exact⟨bE,⟨hF.lt,fun m u hu=>by
    have hm:m=0:=by have:=(List.getElem?_eq_some_iff.1 hu).1;simpa using this
    subst hm
    exact hF.get 1 u hu⟩,RowAt.of_bx hp 17 rfl rfl⟩
 refine wP rfl (wP rfl (wl_nil (zE (zO ?_))))
 exact ne_ret1 tH rfl (.tmp rfl) () rfl trivial fun W _=>NewBx.nil _ _
set_option maxHeartbeats 4000000 in
theorem sidesV_gives (W:World) (p:Option Addr) (cap:Nat) (rs:List (List Sd)) (h:PlanW W p rs):
  CallsR Tryz.prog 26 #[planV p rs.length cap] W (fun V:Vec=>V.val rs.flatten.length) (fun V=>V.OK 7 rs.flatten.length (cellsOf rs.flatten)) (fun V=>[V.bx 42 (cellsOf rs.flatten)]):=by
 refine calls_enter (args:=[planV p rs.length cap]) Tryz.func26 rfl rfl rfl ?_
 refine zA (zB ?_)
 (refine wl_box rfl rfl rfl rfl ?_;intro)
 refine wP rfl (wl_nil (zE (zA (zB (wB 0 rfl rfl rfl ?_)))))
 refine wl_call (X:=Vec) rfl rfl rfl rfl rfl rfl (by kernel_rfl) (fun W1 hp=>sidesR_ok W1 p cap rs (by have:=h.n;omega) (h.R.hp hp) h.c) ?_
 intro V hV
 iterate 5 refine wP rfl ?_
 refine wl_nil (zE (zA (zB (wP rfl (wP rfl (wl_nil (zE (zO ?_))))))))
 exact ne_ret1 tH rfl (.tmp rfl) V rfl hV fun W1 hp=>NewBx.of_hp (hp.pick (l:=[V.bx 42 (cellsOf rs.flatten)]) [1] (by decide) rfl)
def fineV (rs:List (List Sd)):Bool:= !grt rs 12&&(decide (chk rs=0)&&decide (tot rs≤12))
set_option maxHeartbeats 8000000 in
theorem fineV_gives (W:World) (p:Option Addr) (cap:Nat) (rs:List (List Sd)) (hn:rs.length<1099511627776) (hT:tot rs<1099511627776) (hR:RingsP W p rs) (hd:DirP W) (hv:MaxP W) (ht:TabP W):
  CallsR Tryz.prog 20 #[planV p rs.length cap] W (fun _:Unit=> .bool (fineV rs)) (fun _=>True) (fun _=>[]):=by
 refine calls_enter (args:=[planV p rs.length cap]) Tryz.func20 rfl rfl rfl ?_
 refine zA (zB ?_)
 (refine wl_box rfl rfl rfl rfl ?_;intro)
 refine wP rfl (wl_nil (zE (zA (zB (wB 0 rfl rfl rfl ?_)))))
 refine wl_call1 rfl rfl rfl rfl rfl rfl (by kernel_rfl) (fun W1 hp=>great_gives W1 p cap rs 12 (by omega) (by omega) (hR.hp hp)) ?_
 by_cases hg:grt rs 12=true
 ·have e:fineV rs=false:=by unfold fineV;rw[hg];rfl
  refine wl_upd 4 (.bool true) rfl (congrArg Value.bool hg) ?_
  refine wP rfl (wP rfl ?_)
  iterate 3 refine wl_skip rfl rfl ?_
  refine wP rfl (wP rfl ?_)
  iterate 4 refine wl_skip rfl rfl ?_
  refine wP rfl (wP rfl (wl_nil (zE (zO ?_))))
  exact ne_ret1 tH rfl (.tmp rfl) () (by rw[e]) trivial fun W _=>NewBx.nil _ _
 have hg:grt rs 12=false:=by simpa using hg
 refine wl_upd 4 (.bool false) rfl (congrArg Value.bool hg) ?_
 refine wP rfl (wP rfl (wB 0 rfl rfl rfl ?_))
 refine wl_call1 rfl rfl rfl rfl rfl rfl (by kernel_rfl) (fun W1 hp=>(checkR_gives W1 p cap rs (by omega) (by omega) (hR.hp hp)).cast (by rw[chkR_eq])) ?_
 refine wP rfl ?_
 by_cases hc:chk rs=0
 rotate_left
 ·have e:fineV rs=false:=by unfold fineV;rw[decide_eq_false hc,Bool.false_and,Bool.and_false]
  refine wl_upd 9 (.bool false) rfl (congrArg Value.bool (beq_eq_false_iff_ne.2 hc)) ?_
  refine wP rfl (wP rfl ?_)
  iterate 4 refine wl_skip rfl rfl ?_
  refine wP rfl (wP rfl (wl_nil (zE (zO ?_))))
  exact ne_ret1 tH rfl (.tmp rfl) () (by rw[e]) trivial fun W _=>NewBx.nil _ _
 refine wl_upd 9 (.bool true) rfl (congrArg Value.bool (beq_iff_eq.2 hc)) ?_
 have e:fineV rs=decide (tot rs≤12):=by unfold fineV;rw[hg,decide_eq_true hc];rfl
 have eS:rs.flatten.length=tot rs:=List.length_flatten
 refine wP rfl (wP rfl (wB 0 rfl rfl rfl ?_))
 refine wl_call (X:=Vec) rfl rfl rfl rfl rfl rfl (by kernel_rfl) (fun W1 hp=>sidesV_gives W1 p cap rs ⟨hn,hR.hp hp,hc,hd.hp hp,hv.hp hp,ht.hp hp⟩) ?_
 intro V hV
 have hT0:=(chk_ne hc).2.2
 obtain⟨gS,cS,hSv,_⟩:=Vec.sds hV (by omega)
 rw[hSv,eS]
 refine wP rfl (wP rfl ?_)
 refine wl_upd 15 (.bool (decide (tot rs≤12))) rfl (congrArg Value.bool (decide_eq_decide.2 (by omega))) ?_
 refine wP rfl (wP rfl (wl_nil (zE (zO ?_))))
 exact ne_ret1 tH rfl (.tmp rfl) () (by rw[e]) trivial fun W _=>NewBx.nil _ _
theorem fine_w {W:World} {p:Option Addr} {rs:List (List Sd)} (hf:fineV rs=true) (hn:rs.length<1099511627776) (hR:RingsP W p rs) (hd:DirP W) (hv:MaxP W) (ht:TabP W):PlanW W p rs∧tot rs≤12:=by
 unfold fineV at hf
 simp only[Bool.and_eq_true,decide_eq_true_eq] at hf
 exact⟨⟨hn,hR,hf.2.1,hd,hv,ht⟩,hf.2.2⟩
-- BOXES 8
-- CODE2
theorem pairs_nz {V:Vec} {mk:PrMk} {L:List (Nat×Nat)} (hL:mk.map (·.2)=L) (hV:V.OK 1 mk.length (prRow mk)): ∃p cap,V.val mk.length= .slice p L.length cap∧(0<L.length→ ∃g,p=some ⟨g,0,none⟩∧ ∀j (hj:j<L.length), ∃b,
  ∀ {W0 W:World} {bxs:List Bx},Hp W0 bxs W→ ∀k i,nth bxs k=some (V.bx 58 (prRow mk))→nth bxs i=some (prB mk)→RowAt W g (0+j*1) [.slice (some ⟨b,0,none⟩) 2 2]∧RowAt W b 0 (prC L[j])):=by
 have hl:L.length=mk.length:=by rw[←hL,List.length_map]
 obtain⟨p,cap,junk⟩:=V
 cases p with
 |none=>
  have h0:=hV.nil rfl
  exact⟨none,0,by rw[hl,h0];rfl,fun h=>by omega⟩
 |some g=>
  refine⟨some ⟨g,0,none⟩,cap,by rw[hl];rfl,fun _=>⟨g,rfl,fun j hj=> ?_⟩⟩
  have hjm:j<mk.length:=by omega
  have e2:L[j]=mk[j].2:=by simp only[←hL,List.getElem_map]
  refine⟨mk[j].1,fun {W0 W bxs} hp k i hk hi=>⟨row_pt hp k (A:=prRow (mk.take j)) (C:=prRow (mk.drop (j+1))++junk) hk ?_ (by rw[prRow_len,List.length_take];omega), ?_⟩⟩
  ·conv=>lhs;rw[←List.take_append_drop j mk,List.drop_eq_getElem_cons hjm]
   unfold prRow
   rw[List.map_append,List.map_cons,List.append_assoc];rfl
  ·rw[e2]
   refine rowGrp (ty:=3) hp i hi (l:=prL mk) ?_
   exact List.mem_map.2 ⟨mk[j],List.mem_reverse.2 (List.getElem_mem hjm),rfl⟩
-- BOXES 10
-- CODE2
theorem ns73:numS (q2 7 3)=[55,47,51]:=by
 rw[numS,parS,if_neg (by decide),show itoa (q2 7 3).num=[55] from(it_pos 7).trans (dd1 7 (by decide)),show decDigits (q2 7 3).den=[51] from dd1 3 (by decide)];rfl
theorem divR_ne {p q:Rat} (h:q.num≠0):divR p q=(numS (p/q),0):=if_neg h
def midQ (rs:List (List Sd)) (k:Nat):Rat:=if k+1=(lvls rs).length then lvAt rs k+q2 7 3 else(lvAt rs k+lvAt rs (k+1))/q2 2 1
theorem lvAt_sz {rs:List (List Sd)} (h:chk rs=0) {k:Nat} (hk:k<(lvls rs).length):szQ (lvAt rs k) 9:=by
 obtain⟨hrg,_⟩:=chk_parts h
 rw[←lv_get hk]
 exact lvls_sz hrg (List.getElem_mem _)
theorem sz73:szQ (q2 7 3) 1:=⟨by decide,by decide⟩
theorem sz21:szQ (q2 2 1) 1:=⟨by decide,by decide⟩
theorem mid_sz {rs:List (List Sd)} (h:chk rs=0) {k:Nat} (hk:k<(lvls rs).length):szQ (midQ rs k) 20:=by
 unfold midQ
 split
 ·exact((lvAt_sz h hk).add sz73).mono (by decide)
 ·exact((lvAt_sz h hk).add (lvAt_sz h (show k+1<_ by omega))).div sz21 (by decide)
theorem mid_gap {rs:List (List Sd)} {k:Nat} (hk:k<(lvls rs).length):Gap rs (lvAt rs k) (midQ rs k):=by
 have h1:(lvls rs)[k]<midQ rs k:=by
  rw[lv_get hk]
  unfold midQ
  split
  ·have:(0:Rat)<q2 7 3:=by decide+kernel
   grind
  ·have hk':k+1<(lvls rs).length:=by omega
   have:=List.pairwise_iff_getElem.1 (lvls_strict rs) k (k+1) hk hk' (by omega)
   rw[lv_get hk,lv_get hk'] at this
   have e2:(q2 2 1:Rat)=2:=by decide+kernel
   rw[e2]
   grind
 have h2: ∀hk':k+1<(lvls rs).length,midQ rs k<(lvls rs)[k+1]:=fun hk'=>by
  rw[lv_get hk']
  unfold midQ
  rw[if_neg (by omega)]
  have:=List.pairwise_iff_getElem.1 (lvls_strict rs) k (k+1) hk hk' (by omega)
  rw[lv_get hk,lv_get hk'] at this
  have e2:(q2 2 1:Rat)=2:=by decide+kernel
  rw[e2]
  grind
 have:=gap_of hk h1 h2
 rwa [lv_get hk] at this
set_option maxHeartbeats 8000000 in
theorem betweenL_gives (W:World) (gL cL:Nat) (rs:List (List Sd)) (hc:chk rs=0) (k:Nat) (hk:k<(lvls rs).length) (hr: ∀i,i<(lvls rs).length→RowAt W gL (0+i*1) [str (numS (lvAt rs i))]) (hv:MaxP W) (ht:TabP W):
  CallsR Tryz.prog 31 #[.slice (some ⟨gL,0,none⟩) (lvls rs).length cL, .int .i64 (k:Nat)] W (fun _:Unit=> .tuple #[str (numS (lvAt rs k)),str (numS (midQ rs k)), .bool true]) (fun _=>True) (fun _=>[]):=by
 have hlen:=lvls_len (chk_ne hc).2.1
 refine calls_enter (args:=[.slice (some ⟨gL,0,none⟩) (lvls rs).length cL, .int .i64 (k:Nat)]) Tryz.func31 rfl rfl rfl ?_
 repeat (first|refine zA ?_|refine zB ?_|refine zC ?_|refine zD ?_|refine zE ?_|refine zF ?_|refine zG ?_|refine zH ?_|refine zI ?_|refine zJ ?_|refine zK ?_|refine zL ?_|refine zM rfl ?_|refine zN ?_|refine zO ?_|refine zP ?_|refine zQ ?_|refine zR rfl ?_|refine zS rfl ?_|refine zT Tryz.mixed (by kernel_rfl) ?_)
 refine wP rfl (wP rfl (wP rfl (wl_nil ?_)))
 repeat (first|refine zA ?_|refine zB ?_|refine zC ?_|refine zD ?_|refine zE ?_|refine zF ?_|refine zG ?_|refine zH ?_|refine zI ?_|refine zJ ?_|refine zK ?_|refine zL ?_|refine zM rfl ?_|refine zN ?_|refine zO ?_|refine zP ?_|refine zQ ?_|refine zR rfl ?_|refine zS rfl ?_|refine zT Tryz.mixed (by kernel_rfl) ?_)
 refine wP rfl (wP rfl ?_)
 (first|refine wI rfl rfl (by omega) (by omega) ?_|refine qI rfl rfl (by omega) (by omega) ?_)
 (first|refine wl_load rfl rfl rfl rfl (fun W hp=>RowAt.load 0 tH rfl ((fun W1 hp=>(hr k hk).hp hp) W hp) rfl) ?_|refine wl_load rfl rfl rfl rfl (fun W hp=>RowAt.load 1 tH rfl ((fun W1 hp=>(hr k hk).hp hp) W hp) rfl) ?_|refine wl_load rfl rfl rfl rfl (fun W hp=>RowAt.load 2 tH rfl ((fun W1 hp=>(hr k hk).hp hp) W hp) rfl) ?_|refine wl_load rfl rfl rfl rfl (fun W hp=>RowAt.load 3 tH rfl ((fun W1 hp=>(hr k hk).hp hp) W hp) rfl) ?_|refine wl_load rfl rfl rfl rfl (fun W hp=>RowAt.load 4 tH rfl ((fun W1 hp=>(hr k hk).hp hp) W hp) rfl) ?_|refine wl_load rfl rfl rfl rfl (fun W hp=>RowAt.load 5 tH rfl ((fun W1 hp=>(hr k hk).hp hp) W hp) rfl) ?_|refine wl_load rfl rfl rfl rfl (fun W hp=>RowAt.load 6 tH rfl ((fun W1 hp=>(hr k hk).hp hp) W hp) rfl) ?_|refine wl_load rfl rfl rfl rfl (fun W hp=>RowAt.load 7 tH rfl ((fun W1 hp=>(hr k hk).hp hp) W hp) rfl) ?_|refine wq_load rfl rfl rfl rfl (fun W hp=>RowAt.load 0 tH rfl ((fun W1 hp=>(hr k hk).hp hp) W hp) rfl) ?_|refine wq_load rfl rfl rfl rfl (fun W hp=>RowAt.load 1 tH rfl ((fun W1 hp=>(hr k hk).hp hp) W hp) rfl) ?_|refine wq_load rfl rfl rfl rfl (fun W hp=>RowAt.load 2 tH rfl ((fun W1 hp=>(hr k hk).hp hp) W hp) rfl) ?_|refine wq_load rfl rfl rfl rfl (fun W hp=>RowAt.load 3 tH rfl ((fun W1 hp=>(hr k hk).hp hp) W hp) rfl) ?_|refine wq_load rfl rfl rfl rfl (fun W hp=>RowAt.load 4 tH rfl ((fun W1 hp=>(hr k hk).hp hp) W hp) rfl) ?_|refine wq_load rfl rfl rfl rfl (fun W hp=>RowAt.load 5 tH rfl ((fun W1 hp=>(hr k hk).hp hp) W hp) rfl) ?_|refine wq_load rfl rfl rfl rfl (fun W hp=>RowAt.load 6 tH rfl ((fun W1 hp=>(hr k hk).hp hp) W hp) rfl) ?_|refine wq_load rfl rfl rfl rfl (fun W hp=>RowAt.load 7 tH rfl ((fun W1 hp=>(hr k hk).hp hp) W hp) rfl) ?_)
 refine wP rfl (wl_nil ?_)
 obtain⟨m,hm⟩: ∃m,m=(lvls rs).length-1:=⟨_,rfl⟩
 repeat (first|refine zA ?_|refine zB ?_|refine zC ?_|refine zD ?_|refine zE ?_|refine zF ?_|refine zG ?_|refine zH ?_|refine zI ?_|refine zJ ?_|refine zK ?_|refine zL ?_|refine zM rfl ?_|refine zN ?_|refine zO ?_|refine zP ?_|refine zQ ?_|refine zR rfl ?_|refine zS rfl ?_|refine zT Tryz.mixed (by kernel_rfl) ?_)
 refine wP rfl (wP rfl (wP rfl (wP rfl ?_)))
 refine wl_upd 21 (.int .i64 (m:Nat)) rfl (congrArg (Value.int .i64) ((w64_id (by omega) (by omega)).trans (by omega))) ?_
 refine wP rfl ?_
 refine wl_upd 22 (.bool (decide (k+1=(lvls rs).length))) rfl (congrArg Value.bool (by
  by_cases h:k+1=(lvls rs).length
  ·rw[decide_eq_true h];exact beq_iff_eq.2 (by omega)
  ·rw[decide_eq_false h];exact beq_eq_false_iff_ne.2 (by omega))) ?_
 refine wl_nil ?_
 repeat (first|refine zA ?_|refine zB ?_|refine zC ?_|refine zD ?_|refine zE ?_|refine zF ?_|refine zG ?_|refine zH ?_|refine zI ?_|refine zJ ?_|refine zK ?_|refine zL ?_|refine zM rfl ?_|refine zN ?_|refine zO ?_|refine zP ?_|refine zQ ?_|refine zR rfl ?_|refine zS rfl ?_|refine zT Tryz.mixed (by kernel_rfl) ?_)
 refine wc_cond rfl (fun hl=> ?_) (fun hl=> ?_)
 ·have hl:k+1=(lvls rs).length:=of_decide_eq_true hl
  have e:midQ rs k=lvAt rs k+q2 7 3:=by unfold midQ;rw[if_pos hl]
  have h7: ∀ {W1:World} {bxs:List Bx},Hp W bxs W1→CallsR Tryz.prog 41 #[str (numS (lvAt rs k)),str [55,47,51]] W1 (fun _:Unit=> .tuple #[str (numS (lvAt rs k+q2 7 3)), .int .i64 0]) (fun _=>True) (fun _=>[]):=fun hp=>by
   have h:=radd_gives (lvAt rs k) (q2 7 3) (sz2 (lvAt_sz hc hk) sz73 (by decide)) _ (hv.hp hp) (ht.hp hp)
   rwa [ns73] at h
  repeat (first|refine zA ?_|refine zB ?_|refine zC ?_|refine zD ?_|refine zE ?_|refine zF ?_|refine zG ?_|refine zH ?_|refine zI ?_|refine zJ ?_|refine zK ?_|refine zL ?_|refine zM rfl ?_|refine zN ?_|refine zO ?_|refine zP ?_|refine zQ ?_|refine zR rfl ?_|refine zS rfl ?_|refine zT Tryz.mixed (by kernel_rfl) ?_)
  refine wP rfl ?_
  refine wl_call1 rfl rfl rfl rfl rfl rfl (by kernel_rfl) (fun W1 hp=>h7 hp) ?_
  iterate 5 refine wP rfl ?_
  refine wl_nil ?_
  repeat (first|refine zA ?_|refine zB ?_|refine zC ?_|refine zD ?_|refine zE ?_|refine zF ?_|refine zG ?_|refine zH ?_|refine zI ?_|refine zJ ?_|refine zK ?_|refine zL ?_|refine zM rfl ?_|refine zN ?_|refine zO ?_|refine zP ?_|refine zQ ?_|refine zR rfl ?_|refine zS rfl ?_|refine zT Tryz.mixed (by kernel_rfl) ?_)
  iterate 7 refine wP rfl ?_
  refine wl_nil ?_
  repeat (first|refine zA ?_|refine zB ?_|refine zC ?_|refine zD ?_|refine zE ?_|refine zF ?_|refine zG ?_|refine zH ?_|refine zI ?_|refine zJ ?_|refine zK ?_|refine zL ?_|refine zM rfl ?_|refine zN ?_|refine zO ?_|refine zP ?_|refine zQ ?_|refine zR rfl ?_|refine zS rfl ?_|refine zT Tryz.mixed (by kernel_rfl) ?_)
  exact ne_ret3 tH rfl (.tmp rfl) (.tmp rfl) (.tmp rfl) () (by rw[e];rfl) trivial fun W _=>NewBx.nil _ _
 ·have hl: ¬k+1=(lvls rs).length:=of_decide_eq_false hl
  have hk':k+1<(lvls rs).length:=by omega
  have e:midQ rs k=(lvAt rs k+lvAt rs (k+1))/q2 2 1:=by unfold midQ;rw[if_neg hl]
  have z1:=lvAt_sz hc hk
  have z2:=lvAt_sz hc hk'
  have h2: ∀ {W1:World} {bxs:List Bx},Hp W bxs W1→CallsR Tryz.prog 74 #[str (numS (lvAt rs k+lvAt rs (k+1))),str [50]] W1 (fun _:Unit=> .tuple #[str (numS ((lvAt rs k+lvAt rs (k+1))/q2 2 1)), .int .i64 0]) (fun _=>True) (fun _=>[]):=fun hp=>by
   have h:=rdiv_gives (lvAt rs k+lvAt rs (k+1)) (q2 2 1) (sz2 (z1.add z2) sz21 (by decide)) _ (hv.hp hp) (ht.hp hp)
   rw[ns2,divR_ne (show(q2 2 1).num≠0 by decide)] at h
   exact h
  repeat (first|refine zA ?_|refine zB ?_|refine zC ?_|refine zD ?_|refine zE ?_|refine zF ?_|refine zG ?_|refine zH ?_|refine zI ?_|refine zJ ?_|refine zK ?_|refine zL ?_|refine zM rfl ?_|refine zN ?_|refine zO ?_|refine zP ?_|refine zQ ?_|refine zR rfl ?_|refine zS rfl ?_|refine zT Tryz.mixed (by kernel_rfl) ?_)
  refine wP rfl (wP rfl (wP rfl (wP rfl ?_)))
  refine wl_upd 36 (.int .i64 ((k+1:Nat):Int)) rfl (congrArg (Value.int .i64) (w64_succ (by omega))) ?_
  (first|refine wI rfl rfl (by omega) (by omega) ?_|refine qI rfl rfl (by omega) (by omega) ?_)
  (first|refine wl_load rfl rfl rfl rfl (fun W hp=>RowAt.load 0 tH rfl ((fun W1 hp=>(hr (k+1) hk').hp hp) W hp) rfl) ?_|refine wl_load rfl rfl rfl rfl (fun W hp=>RowAt.load 1 tH rfl ((fun W1 hp=>(hr (k+1) hk').hp hp) W hp) rfl) ?_|refine wl_load rfl rfl rfl rfl (fun W hp=>RowAt.load 2 tH rfl ((fun W1 hp=>(hr (k+1) hk').hp hp) W hp) rfl) ?_|refine wl_load rfl rfl rfl rfl (fun W hp=>RowAt.load 3 tH rfl ((fun W1 hp=>(hr (k+1) hk').hp hp) W hp) rfl) ?_|refine wl_load rfl rfl rfl rfl (fun W hp=>RowAt.load 4 tH rfl ((fun W1 hp=>(hr (k+1) hk').hp hp) W hp) rfl) ?_|refine wl_load rfl rfl rfl rfl (fun W hp=>RowAt.load 5 tH rfl ((fun W1 hp=>(hr (k+1) hk').hp hp) W hp) rfl) ?_|refine wl_load rfl rfl rfl rfl (fun W hp=>RowAt.load 6 tH rfl ((fun W1 hp=>(hr (k+1) hk').hp hp) W hp) rfl) ?_|refine wl_load rfl rfl rfl rfl (fun W hp=>RowAt.load 7 tH rfl ((fun W1 hp=>(hr (k+1) hk').hp hp) W hp) rfl) ?_|refine wq_load rfl rfl rfl rfl (fun W hp=>RowAt.load 0 tH rfl ((fun W1 hp=>(hr (k+1) hk').hp hp) W hp) rfl) ?_|refine wq_load rfl rfl rfl rfl (fun W hp=>RowAt.load 1 tH rfl ((fun W1 hp=>(hr (k+1) hk').hp hp) W hp) rfl) ?_|refine wq_load rfl rfl rfl rfl (fun W hp=>RowAt.load 2 tH rfl ((fun W1 hp=>(hr (k+1) hk').hp hp) W hp) rfl) ?_|refine wq_load rfl rfl rfl rfl (fun W hp=>RowAt.load 3 tH rfl ((fun W1 hp=>(hr (k+1) hk').hp hp) W hp) rfl) ?_|refine wq_load rfl rfl rfl rfl (fun W hp=>RowAt.load 4 tH rfl ((fun W1 hp=>(hr (k+1) hk').hp hp) W hp) rfl) ?_|refine wq_load rfl rfl rfl rfl (fun W hp=>RowAt.load 5 tH rfl ((fun W1 hp=>(hr (k+1) hk').hp hp) W hp) rfl) ?_|refine wq_load rfl rfl rfl rfl (fun W hp=>RowAt.load 6 tH rfl ((fun W1 hp=>(hr (k+1) hk').hp hp) W hp) rfl) ?_|refine wq_load rfl rfl rfl rfl (fun W hp=>RowAt.load 7 tH rfl ((fun W1 hp=>(hr (k+1) hk').hp hp) W hp) rfl) ?_)
  refine wl_call1 rfl rfl rfl rfl rfl rfl (by kernel_rfl) (fun W1 hp=>radd_gives _ _ (sz2 z1 z2 (by decide)) W1 (hv.hp hp) (ht.hp hp)) ?_
  iterate 5 refine wP rfl ?_
  refine wl_nil ?_
  repeat (first|refine zA ?_|refine zB ?_|refine zC ?_|refine zD ?_|refine zE ?_|refine zF ?_|refine zG ?_|refine zH ?_|refine zI ?_|refine zJ ?_|refine zK ?_|refine zL ?_|refine zM rfl ?_|refine zN ?_|refine zO ?_|refine zP ?_|refine zQ ?_|refine zR rfl ?_|refine zS rfl ?_|refine zT Tryz.mixed (by kernel_rfl) ?_)
  refine wP rfl ?_
  refine wl_call1 rfl rfl rfl rfl rfl rfl (by kernel_rfl) (fun W1 hp=>h2 hp) ?_
  iterate 5 refine wP rfl ?_
  refine wl_nil ?_
  repeat (first|refine zA ?_|refine zB ?_|refine zC ?_|refine zD ?_|refine zE ?_|refine zF ?_|refine zG ?_|refine zH ?_|refine zI ?_|refine zJ ?_|refine zK ?_|refine zL ?_|refine zM rfl ?_|refine zN ?_|refine zO ?_|refine zP ?_|refine zQ ?_|refine zR rfl ?_|refine zS rfl ?_|refine zT Tryz.mixed (by kernel_rfl) ?_)
  iterate 5 refine wP rfl ?_
  (first|refine wP rfl ?_|refine wl_skip rfl rfl ?_)
  (first|refine wP rfl ?_|refine wl_skip rfl rfl ?_)
  refine wP rfl (wP rfl (wP rfl (wP rfl (wl_nil ?_))))
  repeat (first|refine zA ?_|refine zB ?_|refine zC ?_|refine zD ?_|refine zE ?_|refine zF ?_|refine zG ?_|refine zH ?_|refine zI ?_|refine zJ ?_|refine zK ?_|refine zL ?_|refine zM rfl ?_|refine zN ?_|refine zO ?_|refine zP ?_|refine zQ ?_|refine zR rfl ?_|refine zS rfl ?_|refine zT Tryz.mixed (by kernel_rfl) ?_)
  exact ne_ret3 tH rfl (.tmp rfl) (.tmp rfl) (.tmp rfl) () (by rw[e];rfl) trivial fun W _=>NewBx.nil _ _
def PrFn (g b:Nat) (q:Nat×Nat) (W:World):Prop:= ∀(c:Nat) (x:Nat×Nat) (W':World),Below W.heap.size W W'→RowAt W' c 0 (prC x)→CallsR Tryz.prog g ([Value.slice (some ⟨c,0,none⟩) 2 2]++[selfP b]).toArray W' (fun _:Unit=> .bool (decide (q=x))) (fun _=>True) (fun _=>[])
theorem pr_ints {W:World} {c:Nat} {x:Nat×Nat} (h:RowAt W c 0 (prC x)):IntsR W (some ⟨c,0,none⟩) [x.1,x.2]:=ints_row (junk:=[]) (by rw[List.append_nil];exact h)
theorem pr_eq {q x:Nat×Nat}:decide ([q.1,q.2]=[x.1,x.2])=decide (q=x):=decide_eq_decide.2 ⟨fun h=>by simp at h;exact Prod.ext h.1 h.2,fun h=>by rw[h]⟩
theorem prFn1 (b c0:Nat) (q:Nat×Nat) (W:World) (hb:RowAt W b 0 [.slice (some ⟨c0,0,none⟩) 2 2]) (hq:RowAt W c0 0 (prC q)):PrFn 36 b q W:=fun c x W' hbel hx=>by
 refine calls_enter (args:=[.slice (some ⟨c,0,none⟩) 2 2,selfP b]) Tryz.func36 rfl rfl rfl ?_
 repeat (first|refine zA ?_|refine zB ?_|refine zC ?_|refine zD ?_|refine zE ?_|refine zF ?_|refine zG ?_|refine zH ?_|refine zI ?_|refine zJ ?_|refine zK ?_|refine zL ?_|refine zM rfl ?_|refine zN ?_|refine zO ?_|refine zP ?_|refine zQ ?_|refine zR rfl ?_|refine zS rfl ?_|refine zT Tryz.mixed (by kernel_rfl) ?_)
 refine wP rfl (wl_nil ?_)
 repeat (first|refine zA ?_|refine zB ?_|refine zC ?_|refine zD ?_|refine zE ?_|refine zF ?_|refine zG ?_|refine zH ?_|refine zI ?_|refine zJ ?_|refine zK ?_|refine zL ?_|refine zM rfl ?_|refine zN ?_|refine zO ?_|refine zP ?_|refine zQ ?_|refine zR rfl ?_|refine zS rfl ?_|refine zT Tryz.mixed (by kernel_rfl) ?_)
 (first|refine wl_load rfl rfl rfl rfl (fun W hp=>RowAt.load 0 tH rfl ((fun W1 hp=>(hb.below (Nat.le_refl _) hbel).hp hp) W hp) rfl) ?_|refine wl_load rfl rfl rfl rfl (fun W hp=>RowAt.load 1 tH rfl ((fun W1 hp=>(hb.below (Nat.le_refl _) hbel).hp hp) W hp) rfl) ?_|refine wl_load rfl rfl rfl rfl (fun W hp=>RowAt.load 2 tH rfl ((fun W1 hp=>(hb.below (Nat.le_refl _) hbel).hp hp) W hp) rfl) ?_|refine wl_load rfl rfl rfl rfl (fun W hp=>RowAt.load 3 tH rfl ((fun W1 hp=>(hb.below (Nat.le_refl _) hbel).hp hp) W hp) rfl) ?_|refine wl_load rfl rfl rfl rfl (fun W hp=>RowAt.load 4 tH rfl ((fun W1 hp=>(hb.below (Nat.le_refl _) hbel).hp hp) W hp) rfl) ?_|refine wl_load rfl rfl rfl rfl (fun W hp=>RowAt.load 5 tH rfl ((fun W1 hp=>(hb.below (Nat.le_refl _) hbel).hp hp) W hp) rfl) ?_|refine wl_load rfl rfl rfl rfl (fun W hp=>RowAt.load 6 tH rfl ((fun W1 hp=>(hb.below (Nat.le_refl _) hbel).hp hp) W hp) rfl) ?_|refine wl_load rfl rfl rfl rfl (fun W hp=>RowAt.load 7 tH rfl ((fun W1 hp=>(hb.below (Nat.le_refl _) hbel).hp hp) W hp) rfl) ?_|refine wq_load rfl rfl rfl rfl (fun W hp=>RowAt.load 0 tH rfl ((fun W1 hp=>(hb.below (Nat.le_refl _) hbel).hp hp) W hp) rfl) ?_|refine wq_load rfl rfl rfl rfl (fun W hp=>RowAt.load 1 tH rfl ((fun W1 hp=>(hb.below (Nat.le_refl _) hbel).hp hp) W hp) rfl) ?_|refine wq_load rfl rfl rfl rfl (fun W hp=>RowAt.load 2 tH rfl ((fun W1 hp=>(hb.below (Nat.le_refl _) hbel).hp hp) W hp) rfl) ?_|refine wq_load rfl rfl rfl rfl (fun W hp=>RowAt.load 3 tH rfl ((fun W1 hp=>(hb.below (Nat.le_refl _) hbel).hp hp) W hp) rfl) ?_|refine wq_load rfl rfl rfl rfl (fun W hp=>RowAt.load 4 tH rfl ((fun W1 hp=>(hb.below (Nat.le_refl _) hbel).hp hp) W hp) rfl) ?_|refine wq_load rfl rfl rfl rfl (fun W hp=>RowAt.load 5 tH rfl ((fun W1 hp=>(hb.below (Nat.le_refl _) hbel).hp hp) W hp) rfl) ?_|refine wq_load rfl rfl rfl rfl (fun W hp=>RowAt.load 6 tH rfl ((fun W1 hp=>(hb.below (Nat.le_refl _) hbel).hp hp) W hp) rfl) ?_|refine wq_load rfl rfl rfl rfl (fun W hp=>RowAt.load 7 tH rfl ((fun W1 hp=>(hb.below (Nat.le_refl _) hbel).hp hp) W hp) rfl) ?_)
 refine wP rfl ?_
 refine wl_call1 rfl rfl rfl rfl rfl rfl (by kernel_rfl) (fun W1 hp=>(iEqual_gives W1 (some ⟨c0,0,none⟩) (some ⟨c,0,none⟩) 2 2 [q.1,q.2] [x.1,x.2] (pr_ints ((hq.below (Nat.le_refl _) hbel).hp hp)) (pr_ints (hx.hp hp)) (by show 2<_;decide) (by show 2<_;decide)).cast (v':= .bool (decide (q=x))) (by rw[pr_eq])) ?_
 refine wP rfl (wl_nil ?_)
 repeat (first|refine zA ?_|refine zB ?_|refine zC ?_|refine zD ?_|refine zE ?_|refine zF ?_|refine zG ?_|refine zH ?_|refine zI ?_|refine zJ ?_|refine zK ?_|refine zL ?_|refine zM rfl ?_|refine zN ?_|refine zO ?_|refine zP ?_|refine zQ ?_|refine zR rfl ?_|refine zS rfl ?_|refine zT Tryz.mixed (by kernel_rfl) ?_)
 exact ne_ret1 tH rfl (.tmp rfl) () rfl trivial fun W _=>NewBx.nil _ _
theorem prFn2 (b c0:Nat) (q:Nat×Nat) (W:World) (hb:RowAt W b 0 [.slice (some ⟨c0,0,none⟩) 2 2]) (hq:RowAt W c0 0 (prC q)):PrFn 37 b q W:=fun c x W' hbel hx=>by
 refine calls_enter (args:=[.slice (some ⟨c,0,none⟩) 2 2,selfP b]) Tryz.func37 rfl rfl rfl ?_
 repeat (first|refine zA ?_|refine zB ?_|refine zC ?_|refine zD ?_|refine zE ?_|refine zF ?_|refine zG ?_|refine zH ?_|refine zI ?_|refine zJ ?_|refine zK ?_|refine zL ?_|refine zM rfl ?_|refine zN ?_|refine zO ?_|refine zP ?_|refine zQ ?_|refine zR rfl ?_|refine zS rfl ?_|refine zT Tryz.mixed (by kernel_rfl) ?_)
 refine wP rfl (wl_nil ?_)
 repeat (first|refine zA ?_|refine zB ?_|refine zC ?_|refine zD ?_|refine zE ?_|refine zF ?_|refine zG ?_|refine zH ?_|refine zI ?_|refine zJ ?_|refine zK ?_|refine zL ?_|refine zM rfl ?_|refine zN ?_|refine zO ?_|refine zP ?_|refine zQ ?_|refine zR rfl ?_|refine zS rfl ?_|refine zT Tryz.mixed (by kernel_rfl) ?_)
 (first|refine wl_load rfl rfl rfl rfl (fun W hp=>RowAt.load 0 tH rfl ((fun W1 hp=>(hb.below (Nat.le_refl _) hbel).hp hp) W hp) rfl) ?_|refine wl_load rfl rfl rfl rfl (fun W hp=>RowAt.load 1 tH rfl ((fun W1 hp=>(hb.below (Nat.le_refl _) hbel).hp hp) W hp) rfl) ?_|refine wl_load rfl rfl rfl rfl (fun W hp=>RowAt.load 2 tH rfl ((fun W1 hp=>(hb.below (Nat.le_refl _) hbel).hp hp) W hp) rfl) ?_|refine wl_load rfl rfl rfl rfl (fun W hp=>RowAt.load 3 tH rfl ((fun W1 hp=>(hb.below (Nat.le_refl _) hbel).hp hp) W hp) rfl) ?_|refine wl_load rfl rfl rfl rfl (fun W hp=>RowAt.load 4 tH rfl ((fun W1 hp=>(hb.below (Nat.le_refl _) hbel).hp hp) W hp) rfl) ?_|refine wl_load rfl rfl rfl rfl (fun W hp=>RowAt.load 5 tH rfl ((fun W1 hp=>(hb.below (Nat.le_refl _) hbel).hp hp) W hp) rfl) ?_|refine wl_load rfl rfl rfl rfl (fun W hp=>RowAt.load 6 tH rfl ((fun W1 hp=>(hb.below (Nat.le_refl _) hbel).hp hp) W hp) rfl) ?_|refine wl_load rfl rfl rfl rfl (fun W hp=>RowAt.load 7 tH rfl ((fun W1 hp=>(hb.below (Nat.le_refl _) hbel).hp hp) W hp) rfl) ?_|refine wq_load rfl rfl rfl rfl (fun W hp=>RowAt.load 0 tH rfl ((fun W1 hp=>(hb.below (Nat.le_refl _) hbel).hp hp) W hp) rfl) ?_|refine wq_load rfl rfl rfl rfl (fun W hp=>RowAt.load 1 tH rfl ((fun W1 hp=>(hb.below (Nat.le_refl _) hbel).hp hp) W hp) rfl) ?_|refine wq_load rfl rfl rfl rfl (fun W hp=>RowAt.load 2 tH rfl ((fun W1 hp=>(hb.below (Nat.le_refl _) hbel).hp hp) W hp) rfl) ?_|refine wq_load rfl rfl rfl rfl (fun W hp=>RowAt.load 3 tH rfl ((fun W1 hp=>(hb.below (Nat.le_refl _) hbel).hp hp) W hp) rfl) ?_|refine wq_load rfl rfl rfl rfl (fun W hp=>RowAt.load 4 tH rfl ((fun W1 hp=>(hb.below (Nat.le_refl _) hbel).hp hp) W hp) rfl) ?_|refine wq_load rfl rfl rfl rfl (fun W hp=>RowAt.load 5 tH rfl ((fun W1 hp=>(hb.below (Nat.le_refl _) hbel).hp hp) W hp) rfl) ?_|refine wq_load rfl rfl rfl rfl (fun W hp=>RowAt.load 6 tH rfl ((fun W1 hp=>(hb.below (Nat.le_refl _) hbel).hp hp) W hp) rfl) ?_|refine wq_load rfl rfl rfl rfl (fun W hp=>RowAt.load 7 tH rfl ((fun W1 hp=>(hb.below (Nat.le_refl _) hbel).hp hp) W hp) rfl) ?_)
 refine wP rfl ?_
 refine wl_call1 rfl rfl rfl rfl rfl rfl (by kernel_rfl) (fun W1 hp=>(iEqual_gives W1 (some ⟨c0,0,none⟩) (some ⟨c,0,none⟩) 2 2 [q.1,q.2] [x.1,x.2] (pr_ints ((hq.below (Nat.le_refl _) hbel).hp hp)) (pr_ints (hx.hp hp)) (by show 2<_;decide) (by show 2<_;decide)).cast (v':= .bool (decide (q=x))) (by rw[pr_eq])) ?_
 refine wP rfl (wl_nil ?_)
 repeat (first|refine zA ?_|refine zB ?_|refine zC ?_|refine zD ?_|refine zE ?_|refine zF ?_|refine zG ?_|refine zH ?_|refine zI ?_|refine zJ ?_|refine zK ?_|refine zL ?_|refine zM rfl ?_|refine zN ?_|refine zO ?_|refine zP ?_|refine zQ ?_|refine zR rfl ?_|refine zS rfl ?_|refine zT Tryz.mixed (by kernel_rfl) ?_)
 exact ne_ret1 tH rfl (.tmp rfl) () rfl trivial fun W _=>NewBx.nil _ _
set_option maxHeartbeats 4000000 in
theorem indexP_gives (g b:Nat) (hE:entersB Tryz.prog g=true) (q:Nat×Nat) (L:List (Nat×Nat)) (W:World) (p:Option Addr) (cap:Nat) (hn:L.length<4611686018427387904) (hS:PairsP W p L) (hF:PrFn g b q W):
  CallsR Tryz.prog 85 #[.slice p L.length cap,fnM g [selfP b]] W (fun k:Int=> .int .i64 k) (fun k=>(q∈L→0≤k)) (fun _=>[]):=by
 refine calls_enter (args:=[.slice p L.length cap,fnM g [selfP b]]) Tryz.func85 rfl rfl rfl ?_
 repeat (first|refine zA ?_|refine zB ?_|refine zC ?_|refine zD ?_|refine zE ?_|refine zF ?_|refine zG ?_|refine zH ?_|refine zI ?_|refine zJ ?_|refine zK ?_|refine zL ?_|refine zM rfl ?_|refine zN ?_|refine zO ?_|refine zP ?_|refine zQ ?_|refine zR rfl ?_|refine zS rfl ?_|refine zT Tryz.mixed (by kernel_rfl) ?_)
 refine wP rfl (wl_nil ?_)
 repeat (first|refine zA ?_|refine zB ?_|refine zC ?_|refine zD ?_|refine zE ?_|refine zF ?_|refine zG ?_|refine zH ?_|refine zI ?_|refine zJ ?_|refine zK ?_|refine zL ?_|refine zM rfl ?_|refine zN ?_|refine zO ?_|refine zP ?_|refine zQ ?_|refine zR rfl ?_|refine zS rfl ?_|refine zT Tryz.mixed (by kernel_rfl) ?_)
 refine wP rfl (wP rfl (wP rfl (wl_nil ?_)))
 repeat (first|refine zA ?_|refine zB ?_|refine zC ?_|refine zD ?_|refine zE ?_|refine zF ?_|refine zG ?_|refine zH ?_|refine zI ?_|refine zJ ?_|refine zK ?_|refine zL ?_|refine zM rfl ?_|refine zN ?_|refine zO ?_|refine zP ?_|refine zQ ?_|refine zR rfl ?_|refine zS rfl ?_|refine zT Tryz.mixed (by kernel_rfl) ?_)
 refine wc_loop (X:=Nat) (fun i=>[(0, .slice p L.length cap),(1,fnM g [selfP b]),(7, .int .i64 (L.length:Nat)),(8, .int .i64 (i:Nat))]) (fun _=>[]) (fun i=>i≤L.length∧ ∀k (hk:k<L.length),k<i→L[k]≠q) (fun i=>L.length-i) 0 ⟨Nat.zero_le _,fun k _ h=>absurd h (Nat.not_lt_zero _)⟩ ⟨rfl,rfl,rfl,rfl,trivial⟩ [] rfl ?_
 rintro i ⟨hi,hno⟩
 have hi:i≤L.length:=hi
 repeat (first|refine zA ?_|refine zB ?_|refine zC ?_|refine zD ?_|refine zE ?_|refine zF ?_|refine zG ?_|refine zH ?_|refine zI ?_|refine zJ ?_|refine zK ?_|refine zL ?_|refine zM rfl ?_|refine zN ?_|refine zO ?_|refine zP ?_|refine zQ ?_|refine zR rfl ?_|refine zS rfl ?_|refine zT Tryz.mixed (by kernel_rfl) ?_)
 refine wP rfl ?_
 by_cases hlt:i<L.length
 ·refine wl_upd 9 (.bool true) rfl (congrArg Value.bool (decide_eq_true (by omega))) ?_
  refine wl_nil ?_
  repeat (first|refine zA ?_|refine zB ?_|refine zC ?_|refine zD ?_|refine zE ?_|refine zF ?_|refine zG ?_|refine zH ?_|refine zI ?_|refine zJ ?_|refine zK ?_|refine zL ?_|refine zM rfl ?_|refine zN ?_|refine zO ?_|refine zP ?_|refine zQ ?_|refine zR rfl ?_|refine zS rfl ?_|refine zT Tryz.mixed (by kernel_rfl) ?_)
  obtain⟨gP,oP,rfl,hrow⟩:=hS.at_ hlt
  obtain⟨c,r1,r2⟩:=hrow i hlt
  repeat (first|refine zA ?_|refine zB ?_|refine zC ?_|refine zD ?_|refine zE ?_|refine zF ?_|refine zG ?_|refine zH ?_|refine zI ?_|refine zJ ?_|refine zK ?_|refine zL ?_|refine zM rfl ?_|refine zN ?_|refine zO ?_|refine zP ?_|refine zQ ?_|refine zR rfl ?_|refine zS rfl ?_|refine zT Tryz.mixed (by kernel_rfl) ?_)
  refine wP rfl (wP rfl (wl_nil ?_))
  repeat (first|refine zA ?_|refine zB ?_|refine zC ?_|refine zD ?_|refine zE ?_|refine zF ?_|refine zG ?_|refine zH ?_|refine zI ?_|refine zJ ?_|refine zK ?_|refine zL ?_|refine zM rfl ?_|refine zN ?_|refine zO ?_|refine zP ?_|refine zQ ?_|refine zR rfl ?_|refine zS rfl ?_|refine zT Tryz.mixed (by kernel_rfl) ?_)
  refine wP rfl (wP rfl (wP rfl ?_))
  (first|refine wI rfl rfl (by omega) (by omega) ?_|refine qI rfl rfl (by omega) (by omega) ?_)
  (first|refine wl_load rfl rfl rfl rfl (fun W hp=>RowAt.load 0 tH rfl ((fun W1 hp=>r1.hp hp) W hp) rfl) ?_|refine wl_load rfl rfl rfl rfl (fun W hp=>RowAt.load 1 tH rfl ((fun W1 hp=>r1.hp hp) W hp) rfl) ?_|refine wl_load rfl rfl rfl rfl (fun W hp=>RowAt.load 2 tH rfl ((fun W1 hp=>r1.hp hp) W hp) rfl) ?_|refine wl_load rfl rfl rfl rfl (fun W hp=>RowAt.load 3 tH rfl ((fun W1 hp=>r1.hp hp) W hp) rfl) ?_|refine wl_load rfl rfl rfl rfl (fun W hp=>RowAt.load 4 tH rfl ((fun W1 hp=>r1.hp hp) W hp) rfl) ?_|refine wl_load rfl rfl rfl rfl (fun W hp=>RowAt.load 5 tH rfl ((fun W1 hp=>r1.hp hp) W hp) rfl) ?_|refine wl_load rfl rfl rfl rfl (fun W hp=>RowAt.load 6 tH rfl ((fun W1 hp=>r1.hp hp) W hp) rfl) ?_|refine wl_load rfl rfl rfl rfl (fun W hp=>RowAt.load 7 tH rfl ((fun W1 hp=>r1.hp hp) W hp) rfl) ?_|refine wq_load rfl rfl rfl rfl (fun W hp=>RowAt.load 0 tH rfl ((fun W1 hp=>r1.hp hp) W hp) rfl) ?_|refine wq_load rfl rfl rfl rfl (fun W hp=>RowAt.load 1 tH rfl ((fun W1 hp=>r1.hp hp) W hp) rfl) ?_|refine wq_load rfl rfl rfl rfl (fun W hp=>RowAt.load 2 tH rfl ((fun W1 hp=>r1.hp hp) W hp) rfl) ?_|refine wq_load rfl rfl rfl rfl (fun W hp=>RowAt.load 3 tH rfl ((fun W1 hp=>r1.hp hp) W hp) rfl) ?_|refine wq_load rfl rfl rfl rfl (fun W hp=>RowAt.load 4 tH rfl ((fun W1 hp=>r1.hp hp) W hp) rfl) ?_|refine wq_load rfl rfl rfl rfl (fun W hp=>RowAt.load 5 tH rfl ((fun W1 hp=>r1.hp hp) W hp) rfl) ?_|refine wq_load rfl rfl rfl rfl (fun W hp=>RowAt.load 6 tH rfl ((fun W1 hp=>r1.hp hp) W hp) rfl) ?_|refine wq_load rfl rfl rfl rfl (fun W hp=>RowAt.load 7 tH rfl ((fun W1 hp=>r1.hp hp) W hp) rfl) ?_)
  refine wl_call1 (capt:=[selfP b]) rfl rfl rfl rfl rfl rfl hE (fun W1 hp=>hF c L[i] W1 hp.below (r2.hp hp)) ?_
  refine wl_nil ?_
  repeat (first|refine zA ?_|refine zB ?_|refine zC ?_|refine zD ?_|refine zE ?_|refine zF ?_|refine zG ?_|refine zH ?_|refine zI ?_|refine zJ ?_|refine zK ?_|refine zL ?_|refine zM rfl ?_|refine zN ?_|refine zO ?_|refine zP ?_|refine zQ ?_|refine zR rfl ?_|refine zS rfl ?_|refine zT Tryz.mixed (by kernel_rfl) ?_)
  refine wc_cond rfl (fun hc=> ?_) (fun hc=> ?_)
  ·repeat (first|refine zA ?_|refine zB ?_|refine zC ?_|refine zD ?_|refine zE ?_|refine zF ?_|refine zG ?_|refine zH ?_|refine zI ?_|refine zJ ?_|refine zK ?_|refine zL ?_|refine zM rfl ?_|refine zN ?_|refine zO ?_|refine zP ?_|refine zQ ?_|refine zR rfl ?_|refine zS rfl ?_|refine zT Tryz.mixed (by kernel_rfl) ?_)
   refine wP rfl (wP rfl (wl_nil ?_))
   repeat (first|refine zA ?_|refine zB ?_|refine zC ?_|refine zD ?_|refine zE ?_|refine zF ?_|refine zG ?_|refine zH ?_|refine zI ?_|refine zJ ?_|refine zK ?_|refine zL ?_|refine zM rfl ?_|refine zN ?_|refine zO ?_|refine zP ?_|refine zQ ?_|refine zR rfl ?_|refine zS rfl ?_|refine zT Tryz.mixed (by kernel_rfl) ?_)
   exact ne_ret1 tH rfl (.tmp rfl) ((i:Nat):Int) rfl (fun _=>by omega) fun W _=>NewBx.nil _ _
  ·have hc: ¬q=L[i]:=of_decide_eq_false hc
   repeat (first|refine zA ?_|refine zB ?_|refine zC ?_|refine zD ?_|refine zE ?_|refine zF ?_|refine zG ?_|refine zH ?_|refine zI ?_|refine zJ ?_|refine zK ?_|refine zL ?_|refine zM rfl ?_|refine zN ?_|refine zO ?_|refine zP ?_|refine zQ ?_|refine zR rfl ?_|refine zS rfl ?_|refine zT Tryz.mixed (by kernel_rfl) ?_)
   refine wP rfl ?_
   refine wl_upd 18 (.int .i64 ((i+1:Nat):Int)) rfl (congrArg (Value.int .i64) (w64_succ (by omega))) ?_
   refine wP rfl (wl_nil ?_)
   repeat (first|refine zA ?_|refine zB ?_|refine zC ?_|refine zD ?_|refine zE ?_|refine zF ?_|refine zG ?_|refine zH ?_|refine zI ?_|refine zJ ?_|refine zK ?_|refine zL ?_|refine zM rfl ?_|refine zN ?_|refine zO ?_|refine zP ?_|refine zQ ?_|refine zR rfl ?_|refine zS rfl ?_|refine zT Tryz.mixed (by kernel_rfl) ?_)
   refine ne_loop (i+1) ⟨hlt,fun k hk h=> ?_⟩ (by show L.length-(i+1)<L.length-i;omega) ⟨rfl,rfl,rfl,rfl,trivial⟩ [] rfl
   by_cases e:k=i
   ·subst e;exact fun h=>hc h.symm
   ·exact hno k hk (by show k<i;omega)
 ·refine wl_upd 9 (.bool false) rfl (congrArg Value.bool (decide_eq_false (by omega))) ?_
  refine wl_nil ?_
  repeat (first|refine zA ?_|refine zB ?_|refine zC ?_|refine zD ?_|refine zE ?_|refine zF ?_|refine zG ?_|refine zH ?_|refine zI ?_|refine zJ ?_|refine zK ?_|refine zL ?_|refine zM rfl ?_|refine zN ?_|refine zO ?_|refine zP ?_|refine zQ ?_|refine zR rfl ?_|refine zS rfl ?_|refine zT Tryz.mixed (by kernel_rfl) ?_)
  refine wP rfl (wl_nil ?_)
  repeat (first|refine zA ?_|refine zB ?_|refine zC ?_|refine zD ?_|refine zE ?_|refine zF ?_|refine zG ?_|refine zH ?_|refine zI ?_|refine zJ ?_|refine zK ?_|refine zL ?_|refine zM rfl ?_|refine zN ?_|refine zO ?_|refine zP ?_|refine zQ ?_|refine zR rfl ?_|refine zS rfl ?_|refine zT Tryz.mixed (by kernel_rfl) ?_)
  refine ne_ret1 tH rfl (.tmp rfl) (-1:Int) rfl (fun h=> ?_) fun W _=>NewBx.nil _ _
  obtain⟨k,hk,e⟩:=List.getElem_of_mem h
  exact absurd e (hno k hk (by show k<i;omega))
set_option maxHeartbeats 4000000 in
theorem containsP_gives (g b:Nat) (hE:entersB Tryz.prog g=true) (q:Nat×Nat) (L:List (Nat×Nat)) (hq:q∈L) (W:World) (p:Option Addr) (cap:Nat) (hn:L.length<4611686018427387904) (hS:PairsP W p L) (hF:PrFn g b q W):
  CallsR Tryz.prog 35 #[.slice p L.length cap,fnM g [selfP b]] W (fun _:Unit=> .bool true) (fun _=>True) (fun _=>[]):=by
 refine calls_enter (args:=[.slice p L.length cap,fnM g [selfP b]]) Tryz.func35 rfl rfl rfl ?_
 repeat (first|refine zA ?_|refine zB ?_|refine zC ?_|refine zD ?_|refine zE ?_|refine zF ?_|refine zG ?_|refine zH ?_|refine zI ?_|refine zJ ?_|refine zK ?_|refine zL ?_|refine zM rfl ?_|refine zN ?_|refine zO ?_|refine zP ?_|refine zQ ?_|refine zR rfl ?_|refine zS rfl ?_|refine zT Tryz.mixed (by kernel_rfl) ?_)
 refine wP rfl (wl_nil ?_)
 repeat (first|refine zA ?_|refine zB ?_|refine zC ?_|refine zD ?_|refine zE ?_|refine zF ?_|refine zG ?_|refine zH ?_|refine zI ?_|refine zJ ?_|refine zK ?_|refine zL ?_|refine zM rfl ?_|refine zN ?_|refine zO ?_|refine zP ?_|refine zQ ?_|refine zR rfl ?_|refine zS rfl ?_|refine zT Tryz.mixed (by kernel_rfl) ?_)
 refine wP rfl (wP rfl ?_)
 refine wl_call (X:=Int) rfl rfl rfl rfl rfl rfl (by kernel_rfl) (fun W1 hp=>indexP_gives g b hE q L W1 p cap hn (hS.hp hp) fun c x W' hb hx=>hF c x W' (hp.below.trans ⟨hb.os,hb.tape,hb.output,hb.size,fun i hi=>hb.block i (Nat.lt_of_lt_of_le hi hp.below.size)⟩) hx) ?_
 intro k hk
 refine wP rfl ?_
 refine wl_upd 8 (.bool true) rfl (congrArg Value.bool (decide_eq_true (hk hq))) ?_
 refine wP rfl (wl_nil ?_)
 repeat (first|refine zA ?_|refine zB ?_|refine zC ?_|refine zD ?_|refine zE ?_|refine zF ?_|refine zG ?_|refine zH ?_|refine zI ?_|refine zJ ?_|refine zK ?_|refine zL ?_|refine zM rfl ?_|refine zN ?_|refine zO ?_|refine zP ?_|refine zQ ?_|refine zR rfl ?_|refine zS rfl ?_|refine zT Tryz.mixed (by kernel_rfl) ?_)
 exact ne_ret1 tH rfl (.tmp rfl) () rfl trivial fun W _=>NewBx.nil _ _
theorem prW_low {rs:List (List Sd)} {p q:Rat} (h:Gap rs p q) {x:Nat×Nat} (hx:x∈prW (allF rs) q):x∈prW (allF rs) p:=by
 obtain⟨h1,h2⟩:=List.mem_filter.1 hx
 refine List.mem_filter.2 ⟨h1, ?_⟩
 unfold prOk at h2⊢
 obtain⟨k1,k2⟩:=Bool.and_eq_true_iff.1 h2
 rw[k2,Bool.and_true]
 exact decide_eq_true (h.low h1 (of_decide_eq_true k1))
theorem prW_high {rs:List (List Sd)} {p q n:Rat} (h:Gap rs p q) (hqn:q≤n) (hn: ∀t∈lvls rs, ¬(q<t∧t<n)) {x:Nat×Nat} (hx:x∈prW (allF rs) q):x∈prW (allF rs) n:=by
 obtain⟨h1,h2⟩:=List.mem_filter.1 hx
 refine List.mem_filter.2 ⟨h1, ?_⟩
 unfold prOk at h2⊢
 obtain⟨k1,k2⟩:=Bool.and_eq_true_iff.1 h2
 rw[k2,Bool.and_true]
 exact decide_eq_true (h.high hqn hn h1 (of_decide_eq_true k1))
theorem ordW_gap {rs:List (List Sd)} {p q:Rat} (h:Gap rs p q) (ax:Bool):ordW (allF rs) q ax=ordW (allF rs) p ax:=by
 unfold ordW
 refine sortW_same fun x hx y hy=> ?_
 obtain⟨hx1,hx2⟩:=mem_upr.1 hx
 obtain⟨hy1,hy2⟩:=mem_upr.1 hy
 exact(h.cmp hx1 hy1 (hx2.trans hy2.symm)).symm
-- BOXES 12
-- CODE2
theorem pairs_P {W0 W:World} {bxs:List Bx} {V:Vec} {mk:PrMk} {L:List (Nat×Nat)} {p:Option Addr} {cap:Nat} (hv:V.val mk.length= .slice p L.length cap) (hL:mk.map (·.2)=L) (hV:V.OK 1 mk.length (prRow mk)) (hp:Hp W0 bxs W) (k i:Nat) (hk:nth bxs k=some (V.bx 58 (prRow mk))) (hi:nth bxs i=some (prB mk)):PairsP W p L:=by
 obtain⟨p',cap',e,h⟩:=pairs_mem hL hV
 rw[hv] at e
 injection e with e1 e2 e3
 subst e1
 exact h hp k i hk hi
theorem lOrderG_gives (W:World) (p:Option Addr) (cap:Nat) (rs:List (List Sd)) (h:PlanW W p rs) (h12:tot rs≤12) {z y:Rat} (hG:Gap rs z y) (zy:szQ y 20) (ax:Bool):
  CallsR Tryz.prog 32 #[planV p rs.length cap,str (numS y), .bool ax] W (fun V:Vec=> .tuple #[V.val (ordW (allF rs) z ax).length, .int .i64 0]) (fun V=>V.OK 1 (ordW (allF rs) z ax).length (iC (ordW (allF rs) z ax))) (fun V=>[V.bx 3 (iC (ordW (allF rs) z ax))]):=by
 have h1:=lOrder_gives W p cap rs h h12 y zy ax
 rw[ordW_gap hG ax] at h1
 exact h1
theorem prW_576 {rs:List (List Sd)} (h12:tot rs≤12) (z:Rat):(prW (allF rs) z).length≤576:=by
 have h1:=prWT_len (allF rs) z (prs (allF rs)).length
 rw[prWT_all,allF_len] at h1
 have:=Nat.mul_le_mul h12 h12
 omega
theorem ordW_len {rs:List (List Sd)} (h12:tot rs≤12) (z:Rat) (ax:Bool):(ordW (allF rs) z ax).length≤24:=by
 unfold ordW
 rw[sortW_len]
 have:=uprT_len (allF rs) ax (allF rs).length
 rw[uprT_all,allF_len] at this
 omega
set_option maxHeartbeats 64000000 in
theorem steadyL_gives (W:World) (p:Option Addr) (cap:Nat) (rs:List (List Sd)) (ax:Bool) (a:Nat) (ha:a<256) (hn:rs.length<1099511627776) (hT:tot rs<1099511627776) (hR:RingsP W p rs) (hd:DirP W) (hv:MaxP W) (ht:TabP W):
  CallsR Tryz.prog 6 #[planV p rs.length cap, .int .u8 (a:Nat), .bool ax] W (fun _:Unit=> .bool true) (fun _=>True) (fun _=>[]):=by
 refine calls_enter (args:=[planV p rs.length cap, .int .u8 (a:Nat), .bool ax]) Tryz.func6 rfl rfl rfl ?_
 repeat (first|refine zA ?_|refine zB ?_|refine zC ?_|refine zD ?_|refine zE ?_|refine zF ?_|refine zG ?_|refine zH ?_|refine zI ?_|refine zJ ?_|refine zK ?_|refine zL ?_|refine zM rfl ?_|refine zN ?_|refine zO ?_|refine zP ?_|refine zQ ?_|refine zR rfl ?_|refine zS rfl ?_|refine zT Tryz.mixed (by kernel_rfl) ?_)
 (refine wl_box rfl rfl rfl rfl ?_;intro)
 refine wP rfl (wl_nil ?_)
 rename_i b3
 repeat (first|refine zA ?_|refine zB ?_|refine zC ?_|refine zD ?_|refine zE ?_|refine zF ?_|refine zG ?_|refine zH ?_|refine zI ?_|refine zJ ?_|refine zK ?_|refine zL ?_|refine zM rfl ?_|refine zN ?_|refine zO ?_|refine zP ?_|refine zQ ?_|refine zR rfl ?_|refine zS rfl ?_|refine zT Tryz.mixed (by kernel_rfl) ?_)
 (first|refine wB 0 rfl rfl rfl ?_|refine wB 1 rfl rfl rfl ?_|refine wB 2 rfl rfl rfl ?_|refine wB 3 rfl rfl rfl ?_|refine wB 4 rfl rfl rfl ?_|refine wB 5 rfl rfl rfl ?_|refine wB 6 rfl rfl rfl ?_|refine wB 7 rfl rfl rfl ?_|refine wB 8 rfl rfl rfl ?_|refine wB 9 rfl rfl rfl ?_|refine wB 10 rfl rfl rfl ?_|refine wB 11 rfl rfl rfl ?_)
 refine wl_call1 rfl rfl rfl rfl rfl rfl (by kernel_rfl) (fun W1 hp=>fineV_gives W1 p cap rs hn hT (hR.hp hp) (hd.hp hp) (hv.hp hp) (ht.hp hp)) ?_
 by_cases hf:fineV rs=true
 rotate_left
 ·refine wl_upd 28 (.bool false) rfl (congrArg Value.bool (by simpa using hf)) ?_
  refine wP rfl (wl_nil ?_)
  repeat (first|refine zA ?_|refine zB ?_|refine zC ?_|refine zD ?_|refine zE ?_|refine zF ?_|refine zG ?_|refine zH ?_|refine zI ?_|refine zJ ?_|refine zK ?_|refine zL ?_|refine zM rfl ?_|refine zN ?_|refine zO ?_|refine zP ?_|refine zQ ?_|refine zR rfl ?_|refine zS rfl ?_|refine zT Tryz.mixed (by kernel_rfl) ?_)
  refine wl_call1 rfl rfl rfl rfl rfl rfl (by kernel_rfl) (fun W1 hp=>awakeV_gives W1 (hd.hp hp) (hv.hp hp) (ht.hp hp)) ?_
  refine wP rfl (wl_nil ?_)
  repeat (first|refine zA ?_|refine zB ?_|refine zC ?_|refine zD ?_|refine zE ?_|refine zF ?_|refine zG ?_|refine zH ?_|refine zI ?_|refine zJ ?_|refine zK ?_|refine zL ?_|refine zM rfl ?_|refine zN ?_|refine zO ?_|refine zP ?_|refine zQ ?_|refine zR rfl ?_|refine zS rfl ?_|refine zT Tryz.mixed (by kernel_rfl) ?_)
  exact ne_ret1 tH rfl (.tmp rfl) () rfl trivial fun W _=>NewBx.nil _ _
 obtain⟨hP,h12⟩:=fine_w hf hn hR hd hv ht
 obtain⟨hrg,_⟩:=chk_parts hP.c
 have hpos:=lvls_pos hP.c
 have hlen:=lvls_len (chk_ne hP.c).2.1
 have eF:=allF_len rs
 refine wl_upd 28 (.bool true) rfl (congrArg Value.bool hf) ?_
 refine wP rfl (wl_nil ?_)
 repeat (first|refine zA ?_|refine zB ?_|refine zC ?_|refine zD ?_|refine zE ?_|refine zF ?_|refine zG ?_|refine zH ?_|refine zI ?_|refine zJ ?_|refine zK ?_|refine zL ?_|refine zM rfl ?_|refine zN ?_|refine zO ?_|refine zP ?_|refine zQ ?_|refine zR rfl ?_|refine zS rfl ?_|refine zT Tryz.mixed (by kernel_rfl) ?_)
 (first|refine wB 0 rfl rfl rfl ?_|refine wB 1 rfl rfl rfl ?_|refine wB 2 rfl rfl rfl ?_|refine wB 3 rfl rfl rfl ?_|refine wB 4 rfl rfl rfl ?_|refine wB 5 rfl rfl rfl ?_|refine wB 6 rfl rfl rfl ?_|refine wB 7 rfl rfl rfl ?_|refine wB 8 rfl rfl rfl ?_|refine wB 9 rfl rfl rfl ?_|refine wB 10 rfl rfl rfl ?_|refine wB 11 rfl rfl rfl ?_)
 refine wl_call (X:=Vec) rfl rfl rfl rfl rfl rfl (by kernel_rfl) (fun W1 hp=>lAll_gives W1 p cap rs (hP.hp hp)) ?_
 intro V hV
 obtain⟨pL,cL,hLv,hLr⟩:=Vec.num hV
 obtain⟨gL,hpe,hLq⟩:=hLr hpos
 subst hpe
 rw[hLv]
 iterate 5 refine wP rfl ?_
 refine wl_nil ?_
 repeat (first|refine zA ?_|refine zB ?_|refine zC ?_|refine zD ?_|refine zE ?_|refine zF ?_|refine zG ?_|refine zH ?_|refine zI ?_|refine zJ ?_|refine zK ?_|refine zL ?_|refine zM rfl ?_|refine zN ?_|refine zO ?_|refine zP ?_|refine zQ ?_|refine zR rfl ?_|refine zS rfl ?_|refine zT Tryz.mixed (by kernel_rfl) ?_)
 iterate 6 refine wP rfl ?_
 refine wl_upd 41 (.bool false) rfl (congrArg Value.bool (beq_eq_false_iff_ne.2 (show(((lvls rs).length:Nat):Int)≠0 by omega))) ?_
 refine wP rfl (wl_nil ?_)
 repeat (first|refine zA ?_|refine zB ?_|refine zC ?_|refine zD ?_|refine zE ?_|refine zF ?_|refine zG ?_|refine zH ?_|refine zI ?_|refine zJ ?_|refine zK ?_|refine zL ?_|refine zM rfl ?_|refine zN ?_|refine zO ?_|refine zP ?_|refine zQ ?_|refine zR rfl ?_|refine zS rfl ?_|refine zT Tryz.mixed (by kernel_rfl) ?_)
 obtain⟨m,hm⟩: ∃m,m=a%(lvls rs).length:=⟨_,rfl⟩
 have hml:m<(lvls rs).length:=by rw[hm];exact Nat.mod_lt _ (by omega)
 have hm64:((a:Int)%((lvls rs).length:Int))=(m:Int):=by rw[hm];exact(Int.natCast_emod _ _).symm
 obtain⟨z,hz⟩: ∃z,z=lvAt rs m:=⟨_,rfl⟩
 obtain⟨y,hy⟩: ∃y,y=midQ rs m:=⟨_,rfl⟩
 have zz:szQ z 20:=hz▸(lvAt_sz hP.c hml).mono (by decide)
 have zy:szQ y 20:=hy▸mid_sz hP.c hml
 have hG:Gap rs z y:=by rw[hz,hy];exact mid_gap hml
 repeat (first|refine zA ?_|refine zB ?_|refine zC ?_|refine zD ?_|refine zE ?_|refine zF ?_|refine zG ?_|refine zH ?_|refine zI ?_|refine zJ ?_|refine zK ?_|refine zL ?_|refine zM rfl ?_|refine zN ?_|refine zO ?_|refine zP ?_|refine zQ ?_|refine zR rfl ?_|refine zS rfl ?_|refine zT Tryz.mixed (by kernel_rfl) ?_)
 refine wP rfl ?_
 refine wl_cvA Tryz.underlying5 Tryz.underlying3 rfl rfl rfl rfl ?_
 refine wl_upd 44 (.int .i64 (a:Nat)) rfl (congrArg (Value.int .i64) (w64_nat (by omega))) ?_
 refine wP rfl (wP rfl ?_)
 refine wl_rem rfl rfl rfl rfl rfl (by omega) ?_
 refine wl_upd 47 (.int .i64 (m:Nat)) rfl (congrArg (Value.int .i64) (by rw[Int.tmod_eq_emod_of_nonneg (by omega)];exact hm64)) ?_
 refine wP rfl (wl_nil ?_)
 repeat (first|refine zA ?_|refine zB ?_|refine zC ?_|refine zD ?_|refine zE ?_|refine zF ?_|refine zG ?_|refine zH ?_|refine zI ?_|refine zJ ?_|refine zK ?_|refine zL ?_|refine zM rfl ?_|refine zN ?_|refine zO ?_|refine zP ?_|refine zQ ?_|refine zR rfl ?_|refine zS rfl ?_|refine zT Tryz.mixed (by kernel_rfl) ?_)
 refine wP rfl (wP rfl ?_)
 refine wl_call1 rfl rfl rfl rfl rfl rfl (by kernel_rfl) (fun W1 hp=>(betweenL_gives W1 gL cL rs hP.c m hml (fun i hi=>lv_row hLq hp 1 rfl i hi) (hv.hp hp) (ht.hp hp)).cast (v':= .tuple #[str (numS z),str (numS y), .bool true]) (by rw[hz,hy])) ?_
 iterate 7 refine wP rfl ?_
 refine wl_nil ?_
 repeat (first|refine zA ?_|refine zB ?_|refine zC ?_|refine zD ?_|refine zE ?_|refine zF ?_|refine zG ?_|refine zH ?_|refine zI ?_|refine zJ ?_|refine zK ?_|refine zL ?_|refine zM rfl ?_|refine zN ?_|refine zO ?_|refine zP ?_|refine zQ ?_|refine zR rfl ?_|refine zS rfl ?_|refine zT Tryz.mixed (by kernel_rfl) ?_)
 (first|refine wB 0 rfl rfl rfl ?_|refine wB 1 rfl rfl rfl ?_|refine wB 2 rfl rfl rfl ?_|refine wB 3 rfl rfl rfl ?_|refine wB 4 rfl rfl rfl ?_|refine wB 5 rfl rfl rfl ?_|refine wB 6 rfl rfl rfl ?_|refine wB 7 rfl rfl rfl ?_|refine wB 8 rfl rfl rfl ?_|refine wB 9 rfl rfl rfl ?_|refine wB 10 rfl rfl rfl ?_|refine wB 11 rfl rfl rfl ?_)
 refine wP rfl (wP rfl ?_)
 refine wl_call (X:=Vec) rfl rfl rfl rfl rfl rfl (by kernel_rfl) (fun W1 hp=>lOrder_gives W1 p cap rs (hP.hp hp) h12 z zz ax) ?_
 intro O1 hO1
 obtain⟨p1,c1,e1,m1⟩:=ints_mem hO1
 rw[e1]
 iterate 5 refine wP rfl ?_
 refine wl_nil ?_
 repeat (first|refine zA ?_|refine zB ?_|refine zC ?_|refine zD ?_|refine zE ?_|refine zF ?_|refine zG ?_|refine zH ?_|refine zI ?_|refine zJ ?_|refine zK ?_|refine zL ?_|refine zM rfl ?_|refine zN ?_|refine zO ?_|refine zP ?_|refine zQ ?_|refine zR rfl ?_|refine zS rfl ?_|refine zT Tryz.mixed (by kernel_rfl) ?_)
 (first|refine wB 0 rfl rfl rfl ?_|refine wB 1 rfl rfl rfl ?_|refine wB 2 rfl rfl rfl ?_|refine wB 3 rfl rfl rfl ?_|refine wB 4 rfl rfl rfl ?_|refine wB 5 rfl rfl rfl ?_|refine wB 6 rfl rfl rfl ?_|refine wB 7 rfl rfl rfl ?_|refine wB 8 rfl rfl rfl ?_|refine wB 9 rfl rfl rfl ?_|refine wB 10 rfl rfl rfl ?_|refine wB 11 rfl rfl rfl ?_)
 refine wP rfl (wP rfl ?_)
 refine wl_call (X:=Vec) rfl rfl rfl rfl rfl rfl (by kernel_rfl) (fun W1 hp=>lOrderG_gives W1 p cap rs (hP.hp hp) h12 hG zy ax) ?_
 intro O2 hO2
 obtain⟨p2,c2,e2,m2⟩:=ints_mem hO2
 rw[e2]
 iterate 5 refine wP rfl ?_
 refine wl_nil ?_
 repeat (first|refine zA ?_|refine zB ?_|refine zC ?_|refine zD ?_|refine zE ?_|refine zF ?_|refine zG ?_|refine zH ?_|refine zI ?_|refine zJ ?_|refine zK ?_|refine zL ?_|refine zM rfl ?_|refine zN ?_|refine zO ?_|refine zP ?_|refine zQ ?_|refine zR rfl ?_|refine zS rfl ?_|refine zT Tryz.mixed (by kernel_rfl) ?_)
 (first|refine wB 0 rfl rfl rfl ?_|refine wB 1 rfl rfl rfl ?_|refine wB 2 rfl rfl rfl ?_|refine wB 3 rfl rfl rfl ?_|refine wB 4 rfl rfl rfl ?_|refine wB 5 rfl rfl rfl ?_|refine wB 6 rfl rfl rfl ?_|refine wB 7 rfl rfl rfl ?_|refine wB 8 rfl rfl rfl ?_|refine wB 9 rfl rfl rfl ?_|refine wB 10 rfl rfl rfl ?_|refine wB 11 rfl rfl rfl ?_)
 refine wP rfl ?_
 refine wl_call (X:=Vec×PrMk) rfl rfl rfl rfl rfl rfl (by kernel_rfl) (fun W1 hp=>lPairs_gives W1 p cap rs (hP.hp hp) z zz) ?_
 rintro⟨P,mk⟩ ⟨hmk,hPV⟩
 obtain⟨pP,cP,hPv,_⟩:=pairs_nz hmk hPV
 dsimp only
 rw[hPv]
 iterate 5 refine wP rfl ?_
 refine wl_nil ?_
 repeat (first|refine zA ?_|refine zB ?_|refine zC ?_|refine zD ?_|refine zE ?_|refine zF ?_|refine zG ?_|refine zH ?_|refine zI ?_|refine zJ ?_|refine zK ?_|refine zL ?_|refine zM rfl ?_|refine zN ?_|refine zO ?_|refine zP ?_|refine zQ ?_|refine zR rfl ?_|refine zS rfl ?_|refine zT Tryz.mixed (by kernel_rfl) ?_)
 (first|refine wB 0 rfl rfl rfl ?_|refine wB 1 rfl rfl rfl ?_|refine wB 2 rfl rfl rfl ?_|refine wB 3 rfl rfl rfl ?_|refine wB 4 rfl rfl rfl ?_|refine wB 5 rfl rfl rfl ?_|refine wB 6 rfl rfl rfl ?_|refine wB 7 rfl rfl rfl ?_|refine wB 8 rfl rfl rfl ?_|refine wB 9 rfl rfl rfl ?_|refine wB 10 rfl rfl rfl ?_|refine wB 11 rfl rfl rfl ?_)
 refine wP rfl ?_
 refine wl_call (X:=Vec×PrMk) rfl rfl rfl rfl rfl rfl (by kernel_rfl) (fun W1 hp=>lPairs_gives W1 p cap rs (hP.hp hp) y zy) ?_
 rintro⟨M,mm⟩ ⟨hmm,hMV⟩
 obtain⟨pM,cM,hMv,hMr⟩:=pairs_nz hmm hMV
 dsimp only
 rw[hMv]
 iterate 5 refine wP rfl ?_
 refine wl_nil ?_
 have hLz:(prW (allF rs) z).length≤576:=prW_576 h12 z
 have hLy:(prW (allF rs) y).length≤576:=prW_576 h12 y
 have hoz:(ordW (allF rs) z ax).length≤24:=ordW_len h12 z ax
 repeat (first|refine zA ?_|refine zB ?_|refine zC ?_|refine zD ?_|refine zE ?_|refine zF ?_|refine zG ?_|refine zH ?_|refine zI ?_|refine zJ ?_|refine zK ?_|refine zL ?_|refine zM rfl ?_|refine zN ?_|refine zO ?_|refine zP ?_|refine zQ ?_|refine zR rfl ?_|refine zS rfl ?_|refine zT Tryz.mixed (by kernel_rfl) ?_)
 iterate 9 refine wP rfl ?_
 refine wl_upd 89 (.bool false) rfl rfl ?_
 refine wP rfl (wP rfl (wP rfl (wP rfl ?_)))
 refine wl_call1 rfl rfl rfl rfl rfl rfl (by kernel_rfl) (fun W1 hp=>(iEqual_gives W1 p1 p2 c1 c2 _ _ (m1 hp 2 rfl) (m2 hp 3 rfl) (by omega) (by omega)).cast (v':= .bool true) (by rw[decide_eq_true rfl])) ?_
 (first|refine wP rfl ?_|refine wl_skip rfl rfl ?_)
 refine wP rfl (wl_nil ?_)
 repeat (first|refine zA ?_|refine zB ?_|refine zC ?_|refine zD ?_|refine zE ?_|refine zF ?_|refine zG ?_|refine zH ?_|refine zI ?_|refine zJ ?_|refine zK ?_|refine zL ?_|refine zM rfl ?_|refine zN ?_|refine zO ?_|refine zP ?_|refine zQ ?_|refine zR rfl ?_|refine zS rfl ?_|refine zT Tryz.mixed (by kernel_rfl) ?_)
 refine wP rfl (wP rfl (wP rfl (wl_nil ?_)))
 repeat (first|refine zA ?_|refine zB ?_|refine zC ?_|refine zD ?_|refine zE ?_|refine zF ?_|refine zG ?_|refine zH ?_|refine zI ?_|refine zJ ?_|refine zK ?_|refine zL ?_|refine zM rfl ?_|refine zN ?_|refine zO ?_|refine zP ?_|refine zQ ?_|refine zR rfl ?_|refine zS rfl ?_|refine zT Tryz.mixed (by kernel_rfl) ?_)
 refine wc_loop (X:=Nat) (fun i=>[(3,selfP b3),(7, .slice (some ⟨gL,0,none⟩) (lvls rs).length cL),(9, .int .i64 (m:Nat)),(17, .slice pP (prW (allF rs) z).length cP),(19, .slice pM (prW (allF rs) y).length cM),(97, .slice pM (prW (allF rs) y).length cM),(98, .int .i64 ((prW (allF rs) y).length:Nat)),(99, .int .i64 (i:Nat))]) (fun _=>[bxE b3 24 (slv p rs.length cap),V.bx 37 (nS (lvls rs)),O1.bx 3 (iC (ordW (allF rs) z ax)),O2.bx 3 (iC (ordW (allF rs) z ax)),P.bx 58 (prRow mk),prB mk,M.bx 58 (prRow mm),prB mm]) (fun i=>i≤(prW (allF rs) y).length) (fun i=>(prW (allF rs) y).length-i) 0 (Nat.zero_le _) ⟨rfl,rfl,rfl,rfl,rfl,rfl,rfl,rfl,trivial⟩ [] rfl ?_
 intro i hi
 have hi:i≤(prW (allF rs) y).length:=hi
 repeat (first|refine zA ?_|refine zB ?_|refine zC ?_|refine zD ?_|refine zE ?_|refine zF ?_|refine zG ?_|refine zH ?_|refine zI ?_|refine zJ ?_|refine zK ?_|refine zL ?_|refine zM rfl ?_|refine zN ?_|refine zO ?_|refine zP ?_|refine zQ ?_|refine zR rfl ?_|refine zS rfl ?_|refine zT Tryz.mixed (by kernel_rfl) ?_)
 refine wP rfl ?_
 by_cases hlt:i<(prW (allF rs) y).length
 ·refine wl_upd 100 (.bool true) rfl (congrArg Value.bool (decide_eq_true (by omega))) ?_
  refine wl_nil ?_
  repeat (first|refine zA ?_|refine zB ?_|refine zC ?_|refine zD ?_|refine zE ?_|refine zF ?_|refine zG ?_|refine zH ?_|refine zI ?_|refine zJ ?_|refine zK ?_|refine zL ?_|refine zM rfl ?_|refine zN ?_|refine zO ?_|refine zP ?_|refine zQ ?_|refine zR rfl ?_|refine zS rfl ?_|refine zT Tryz.mixed (by kernel_rfl) ?_)
  obtain⟨gM,hpe,hrow⟩:=hMr (by omega)
  subst hpe
  obtain⟨c,hc⟩:=hrow i hlt
  obtain⟨q,hq⟩: ∃q,q=(prW (allF rs) y)[i]:=⟨_,rfl⟩
  rw[←hq] at hc
  have hqm:q∈prW (allF rs) z:=prW_low hG (hq▸List.getElem_mem hlt)
  repeat (first|refine zA ?_|refine zB ?_|refine zC ?_|refine zD ?_|refine zE ?_|refine zF ?_|refine zG ?_|refine zH ?_|refine zI ?_|refine zJ ?_|refine zK ?_|refine zL ?_|refine zM rfl ?_|refine zN ?_|refine zO ?_|refine zP ?_|refine zQ ?_|refine zR rfl ?_|refine zS rfl ?_|refine zT Tryz.mixed (by kernel_rfl) ?_)
  (first|refine wI rfl rfl (by omega) (by omega) ?_|refine qI rfl rfl (by omega) (by omega) ?_)
  (first|refine wl_load rfl rfl rfl rfl (fun W hp=>RowAt.load 0 tH rfl ((fun W1 hp=>(hc hp 6 7 rfl rfl).1) W hp) rfl) ?_|refine wl_load rfl rfl rfl rfl (fun W hp=>RowAt.load 1 tH rfl ((fun W1 hp=>(hc hp 6 7 rfl rfl).1) W hp) rfl) ?_|refine wl_load rfl rfl rfl rfl (fun W hp=>RowAt.load 2 tH rfl ((fun W1 hp=>(hc hp 6 7 rfl rfl).1) W hp) rfl) ?_|refine wl_load rfl rfl rfl rfl (fun W hp=>RowAt.load 3 tH rfl ((fun W1 hp=>(hc hp 6 7 rfl rfl).1) W hp) rfl) ?_|refine wl_load rfl rfl rfl rfl (fun W hp=>RowAt.load 4 tH rfl ((fun W1 hp=>(hc hp 6 7 rfl rfl).1) W hp) rfl) ?_|refine wl_load rfl rfl rfl rfl (fun W hp=>RowAt.load 5 tH rfl ((fun W1 hp=>(hc hp 6 7 rfl rfl).1) W hp) rfl) ?_|refine wl_load rfl rfl rfl rfl (fun W hp=>RowAt.load 6 tH rfl ((fun W1 hp=>(hc hp 6 7 rfl rfl).1) W hp) rfl) ?_|refine wl_load rfl rfl rfl rfl (fun W hp=>RowAt.load 7 tH rfl ((fun W1 hp=>(hc hp 6 7 rfl rfl).1) W hp) rfl) ?_|refine wq_load rfl rfl rfl rfl (fun W hp=>RowAt.load 0 tH rfl ((fun W1 hp=>(hc hp 6 7 rfl rfl).1) W hp) rfl) ?_|refine wq_load rfl rfl rfl rfl (fun W hp=>RowAt.load 1 tH rfl ((fun W1 hp=>(hc hp 6 7 rfl rfl).1) W hp) rfl) ?_|refine wq_load rfl rfl rfl rfl (fun W hp=>RowAt.load 2 tH rfl ((fun W1 hp=>(hc hp 6 7 rfl rfl).1) W hp) rfl) ?_|refine wq_load rfl rfl rfl rfl (fun W hp=>RowAt.load 3 tH rfl ((fun W1 hp=>(hc hp 6 7 rfl rfl).1) W hp) rfl) ?_|refine wq_load rfl rfl rfl rfl (fun W hp=>RowAt.load 4 tH rfl ((fun W1 hp=>(hc hp 6 7 rfl rfl).1) W hp) rfl) ?_|refine wq_load rfl rfl rfl rfl (fun W hp=>RowAt.load 5 tH rfl ((fun W1 hp=>(hc hp 6 7 rfl rfl).1) W hp) rfl) ?_|refine wq_load rfl rfl rfl rfl (fun W hp=>RowAt.load 6 tH rfl ((fun W1 hp=>(hc hp 6 7 rfl rfl).1) W hp) rfl) ?_|refine wq_load rfl rfl rfl rfl (fun W hp=>RowAt.load 7 tH rfl ((fun W1 hp=>(hc hp 6 7 rfl rfl).1) W hp) rfl) ?_)
  (refine wl_allocZ Tryz.hZ rfl rfl rfl rfl ?_;intro)
  (first|refine wS 0 rfl rfl rfl ?_|refine wS 1 rfl rfl rfl ?_|refine wS 2 rfl rfl rfl ?_|refine wS 3 rfl rfl rfl ?_|refine wS 4 rfl rfl rfl ?_|refine wS 5 rfl rfl rfl ?_|refine wS 6 rfl rfl rfl ?_|refine wS 7 rfl rfl rfl ?_|refine wS 8 rfl rfl rfl ?_|refine wS 9 rfl rfl rfl ?_|refine wS 10 rfl rfl rfl ?_|refine wS 11 rfl rfl rfl ?_)
  refine wl_nil ?_
  rename_i b22
  repeat (first|refine zA ?_|refine zB ?_|refine zC ?_|refine zD ?_|refine zE ?_|refine zF ?_|refine zG ?_|refine zH ?_|refine zI ?_|refine zJ ?_|refine zK ?_|refine zL ?_|refine zM rfl ?_|refine zN ?_|refine zO ?_|refine zP ?_|refine zQ ?_|refine zR rfl ?_|refine zS rfl ?_|refine zT Tryz.mixed (by kernel_rfl) ?_)
  refine wP rfl (wP rfl ?_)
  refine wl_call1 rfl rfl rfl rfl rfl rfl (by kernel_rfl) (fun W1 hp=>containsP_gives 36 b22 (by kernel_rfl) q (prW (allF rs) z) hqm W1 pP cP (by omega) (pairs_P hPv hmk hPV hp 4 5 rfl rfl) (prFn1 b22 c q W1 (RowAt.of_bx hp 8 rfl rfl) (hc hp 6 7 rfl rfl).2)) ?_
  refine wP rfl (wl_nil ?_)
  repeat (first|refine zA ?_|refine zB ?_|refine zC ?_|refine zD ?_|refine zE ?_|refine zF ?_|refine zG ?_|refine zH ?_|refine zI ?_|refine zJ ?_|refine zK ?_|refine zL ?_|refine zM rfl ?_|refine zN ?_|refine zO ?_|refine zP ?_|refine zQ ?_|refine zR rfl ?_|refine zS rfl ?_|refine zT Tryz.mixed (by kernel_rfl) ?_)
  refine wP rfl ?_
  refine wl_upd 107 (.int .i64 ((i+1:Nat):Int)) rfl (congrArg (Value.int .i64) (w64_succ (by omega))) ?_
  refine wP rfl (wl_nil ?_)
  repeat (first|refine zA ?_|refine zB ?_|refine zC ?_|refine zD ?_|refine zE ?_|refine zF ?_|refine zG ?_|refine zH ?_|refine zI ?_|refine zJ ?_|refine zK ?_|refine zL ?_|refine zM rfl ?_|refine zN ?_|refine zO ?_|refine zP ?_|refine zQ ?_|refine zR rfl ?_|refine zS rfl ?_|refine zT Tryz.mixed (by kernel_rfl) ?_)
  exact ne_loop (i+1) hlt (by show(prW (allF rs) y).length-(i+1)<(prW (allF rs) y).length-i;omega) ⟨rfl,rfl,rfl,rfl,rfl,rfl,rfl,rfl,trivial⟩ _ rfl
 refine wl_upd 100 (.bool false) rfl (congrArg Value.bool (decide_eq_false (by omega))) ?_
 refine wl_nil ?_
 repeat (first|refine zA ?_|refine zB ?_|refine zC ?_|refine zD ?_|refine zE ?_|refine zF ?_|refine zG ?_|refine zH ?_|refine zI ?_|refine zJ ?_|refine zK ?_|refine zL ?_|refine zM rfl ?_|refine zN ?_|refine zO ?_|refine zP ?_|refine zQ ?_|refine zR rfl ?_|refine zS rfl ?_|refine zT Tryz.mixed (by kernel_rfl) ?_)
 obtain⟨e,he⟩: ∃e,e=(lvls rs).length-1:=⟨_,rfl⟩
 repeat (first|refine zA ?_|refine zB ?_|refine zC ?_|refine zD ?_|refine zE ?_|refine zF ?_|refine zG ?_|refine zH ?_|refine zI ?_|refine zJ ?_|refine zK ?_|refine zL ?_|refine zM rfl ?_|refine zN ?_|refine zO ?_|refine zP ?_|refine zQ ?_|refine zR rfl ?_|refine zS rfl ?_|refine zT Tryz.mixed (by kernel_rfl) ?_)
 refine wP rfl (wP rfl (wP rfl (wP rfl ?_)))
 refine wl_upd 111 (.int .i64 (e:Nat)) rfl (congrArg (Value.int .i64) ((w64_id (by omega) (by omega)).trans (by omega))) ?_
 refine wP rfl ?_
 by_cases hl:m+1=(lvls rs).length
 ·refine wl_upd 112 (.bool true) rfl (congrArg Value.bool (beq_iff_eq.2 (by omega))) ?_
  refine wl_nil ?_
  repeat (first|refine zA ?_|refine zB ?_|refine zC ?_|refine zD ?_|refine zE ?_|refine zF ?_|refine zG ?_|refine zH ?_|refine zI ?_|refine zJ ?_|refine zK ?_|refine zL ?_|refine zM rfl ?_|refine zN ?_|refine zO ?_|refine zP ?_|refine zQ ?_|refine zR rfl ?_|refine zS rfl ?_|refine zT Tryz.mixed (by kernel_rfl) ?_)
  refine wl_call1 rfl rfl rfl rfl rfl rfl (by kernel_rfl) (fun W1 hp=>awakeV_gives W1 (hd.hp hp) (hv.hp hp) (ht.hp hp)) ?_
  refine wP rfl (wl_nil ?_)
  repeat (first|refine zA ?_|refine zB ?_|refine zC ?_|refine zD ?_|refine zE ?_|refine zF ?_|refine zG ?_|refine zH ?_|refine zI ?_|refine zJ ?_|refine zK ?_|refine zL ?_|refine zM rfl ?_|refine zN ?_|refine zO ?_|refine zP ?_|refine zQ ?_|refine zR rfl ?_|refine zS rfl ?_|refine zT Tryz.mixed (by kernel_rfl) ?_)
  exact ne_ret1 tH rfl (.tmp rfl) () rfl trivial fun W _=>NewBx.nil _ _
 have hk':m+1<(lvls rs).length:=by omega
 obtain⟨n,hnn⟩: ∃n,n=lvAt rs (m+1):=⟨_,rfl⟩
 have zn:szQ n 20:=hnn▸(lvAt_sz hP.c hk').mono (by decide)
 have hLn:(prW (allF rs) n).length≤576:=prW_576 h12 n
 have hyn:y≤n:=by
  refine Rat.le_of_lt ?_
  have h1:=List.pairwise_iff_getElem.1 (lvls_strict rs) m (m+1) hml hk' (by omega)
  rw[lv_get hml,lv_get hk', ←hnn] at h1
  rw[hy]
  unfold midQ
  rw[if_neg hl, ←hnn]
  have e2:(q2 2 1:Rat)=2:=by decide+kernel
  rw[e2]
  grind
 have hno: ∀t∈lvls rs, ¬(y<t∧t<n):=fun t ht hc=>by
  obtain⟨hk2,h3⟩:=no_level (lvls_strict rs) hml ht (by rw[lv_get hml, ←hz];exact lt_tr hG.lt hc.1)
  rw[lv_get hk2, ←hnn] at h3
  exact Rat.not_lt.2 h3 hc.2
 refine wl_upd 112 (.bool false) rfl (congrArg Value.bool (beq_eq_false_iff_ne.2 (by omega))) ?_
 refine wl_nil ?_
 repeat (first|refine zC ?_|refine zD ?_|refine zE ?_|refine zF ?_|refine zG ?_|refine zH ?_|refine zI ?_|refine zJ ?_|refine zK ?_|refine zL ?_|refine zM rfl ?_|refine zN ?_|refine zO ?_|refine zP ?_|refine zQ ?_|refine zR rfl ?_|refine zS rfl ?_)
 repeat refine wc_seq ?_
 refine wc_lateY (X:= { x:Vec×PrMk//x.2.map (·.2)=prW (allF rs) n∧x.1.OK 1 x.2.length (prRow x.2) }) [true,true,true,true,true,true,false,false,false,false,false,false] (fun x=>[(19, .slice pM (prW (allF rs) y).length cM),(23,x.1.1.val x.1.2.length),(24, .int .i64 0)])
  (fun x=>[bxE b3 24 (slv p rs.length cap),V.bx 37 (nS (lvls rs)),O1.bx 3 (iC (ordW (allF rs) z ax)),O2.bx 3 (iC (ordW (allF rs) z ax)),P.bx 58 (prRow mk),prB mk,M.bx 58 (prRow mm),prB mm]++[x.1.1.bx 58 (prRow x.1.2),prB x.1.2]) 6 [bxE b3 24 (slv p rs.length cap),V.bx 37 (nS (lvls rs)),O1.bx 3 (iC (ordW (allF rs) z ax)),O2.bx 3 (iC (ordW (allF rs) z ax)),P.bx 58 (prRow mk),prB mk,M.bx 58 (prRow mm),prB mm] Tryz.mixed (by kernel_rfl) ?_ ?_
 ·(first|refine qB 0 rfl rfl rfl ?_|refine qB 1 rfl rfl rfl ?_|refine qB 2 rfl rfl rfl ?_|refine qB 3 rfl rfl rfl ?_|refine qB 4 rfl rfl rfl ?_|refine qB 5 rfl rfl rfl ?_|refine qB 6 rfl rfl rfl ?_|refine qB 7 rfl rfl rfl ?_|refine qB 8 rfl rfl rfl ?_|refine qB 9 rfl rfl rfl ?_|refine qB 10 rfl rfl rfl ?_|refine qB 11 rfl rfl rfl ?_)
  refine qP rfl (qP rfl (qP rfl ?_))
  refine wq_upd 118 (.int .i64 ((m+1:Nat):Int)) rfl (congrArg (Value.int .i64) (w64_succ (by omega))) ?_
  (first|refine wI rfl rfl (by omega) (by omega) ?_|refine qI rfl rfl (by omega) (by omega) ?_)
  (first|refine wl_load rfl rfl rfl rfl (fun W hp=>RowAt.load 0 tH rfl ((fun W1 hp=>show RowAt W1 gL (0+(m+1)*1) [str (numS n)] from hnn▸lv_row hLq hp 1 rfl (m+1) hk') W hp) rfl) ?_|refine wl_load rfl rfl rfl rfl (fun W hp=>RowAt.load 1 tH rfl ((fun W1 hp=>show RowAt W1 gL (0+(m+1)*1) [str (numS n)] from hnn▸lv_row hLq hp 1 rfl (m+1) hk') W hp) rfl) ?_|refine wl_load rfl rfl rfl rfl (fun W hp=>RowAt.load 2 tH rfl ((fun W1 hp=>show RowAt W1 gL (0+(m+1)*1) [str (numS n)] from hnn▸lv_row hLq hp 1 rfl (m+1) hk') W hp) rfl) ?_|refine wl_load rfl rfl rfl rfl (fun W hp=>RowAt.load 3 tH rfl ((fun W1 hp=>show RowAt W1 gL (0+(m+1)*1) [str (numS n)] from hnn▸lv_row hLq hp 1 rfl (m+1) hk') W hp) rfl) ?_|refine wl_load rfl rfl rfl rfl (fun W hp=>RowAt.load 4 tH rfl ((fun W1 hp=>show RowAt W1 gL (0+(m+1)*1) [str (numS n)] from hnn▸lv_row hLq hp 1 rfl (m+1) hk') W hp) rfl) ?_|refine wl_load rfl rfl rfl rfl (fun W hp=>RowAt.load 5 tH rfl ((fun W1 hp=>show RowAt W1 gL (0+(m+1)*1) [str (numS n)] from hnn▸lv_row hLq hp 1 rfl (m+1) hk') W hp) rfl) ?_|refine wl_load rfl rfl rfl rfl (fun W hp=>RowAt.load 6 tH rfl ((fun W1 hp=>show RowAt W1 gL (0+(m+1)*1) [str (numS n)] from hnn▸lv_row hLq hp 1 rfl (m+1) hk') W hp) rfl) ?_|refine wl_load rfl rfl rfl rfl (fun W hp=>RowAt.load 7 tH rfl ((fun W1 hp=>show RowAt W1 gL (0+(m+1)*1) [str (numS n)] from hnn▸lv_row hLq hp 1 rfl (m+1) hk') W hp) rfl) ?_|refine wq_load rfl rfl rfl rfl (fun W hp=>RowAt.load 0 tH rfl ((fun W1 hp=>show RowAt W1 gL (0+(m+1)*1) [str (numS n)] from hnn▸lv_row hLq hp 1 rfl (m+1) hk') W hp) rfl) ?_|refine wq_load rfl rfl rfl rfl (fun W hp=>RowAt.load 1 tH rfl ((fun W1 hp=>show RowAt W1 gL (0+(m+1)*1) [str (numS n)] from hnn▸lv_row hLq hp 1 rfl (m+1) hk') W hp) rfl) ?_|refine wq_load rfl rfl rfl rfl (fun W hp=>RowAt.load 2 tH rfl ((fun W1 hp=>show RowAt W1 gL (0+(m+1)*1) [str (numS n)] from hnn▸lv_row hLq hp 1 rfl (m+1) hk') W hp) rfl) ?_|refine wq_load rfl rfl rfl rfl (fun W hp=>RowAt.load 3 tH rfl ((fun W1 hp=>show RowAt W1 gL (0+(m+1)*1) [str (numS n)] from hnn▸lv_row hLq hp 1 rfl (m+1) hk') W hp) rfl) ?_|refine wq_load rfl rfl rfl rfl (fun W hp=>RowAt.load 4 tH rfl ((fun W1 hp=>show RowAt W1 gL (0+(m+1)*1) [str (numS n)] from hnn▸lv_row hLq hp 1 rfl (m+1) hk') W hp) rfl) ?_|refine wq_load rfl rfl rfl rfl (fun W hp=>RowAt.load 5 tH rfl ((fun W1 hp=>show RowAt W1 gL (0+(m+1)*1) [str (numS n)] from hnn▸lv_row hLq hp 1 rfl (m+1) hk') W hp) rfl) ?_|refine wq_load rfl rfl rfl rfl (fun W hp=>RowAt.load 6 tH rfl ((fun W1 hp=>show RowAt W1 gL (0+(m+1)*1) [str (numS n)] from hnn▸lv_row hLq hp 1 rfl (m+1) hk') W hp) rfl) ?_|refine wq_load rfl rfl rfl rfl (fun W hp=>RowAt.load 7 tH rfl ((fun W1 hp=>show RowAt W1 gL (0+(m+1)*1) [str (numS n)] from hnn▸lv_row hLq hp 1 rfl (m+1) hk') W hp) rfl) ?_)
  refine wq_wt ?_
  first|refine wt_step rfl rfl (by((repeat (first|refine Weak.same ?_|refine Weak.off rfl ?_));exact trivial)) ?_|refine wt_stepF rfl rfl (by kernel_rfl) ?_
  refine RS.cons ?_ (RS.nil)
  refine wl_call (X:=Vec×PrMk) rfl rfl rfl rfl rfl rfl (by kernel_rfl) (fun W1 hp=>lPairs_gives W1 p cap rs (hP.hp hp) n zn) ?_;intro x hx
  refine wl_nil (ne_wt ?_)
  first|refine wt_step rfl rfl (by((repeat (first|refine Weak.same ?_|refine Weak.off rfl ?_));exact trivial)) ?_|refine wt_stepF rfl rfl (by kernel_rfl) ?_
  refine RS.cons ?_ (RS.nil)
  refine wP rfl (wl_nil (ne_wt ?_))
  first|refine wt_step rfl rfl (by((repeat (first|refine Weak.same ?_|refine Weak.off rfl ?_));exact trivial)) ?_|refine wt_stepF rfl rfl (by kernel_rfl) ?_
  refine RS.cons ?_ (RS.cons ?_ (RS.nil))
  ·refine wP rfl (wl_nil (ne_wt ?_))
   first|refine wt_step rfl rfl (by((repeat (first|refine Weak.same ?_|refine Weak.off rfl ?_));exact trivial)) ?_|refine wt_stepF rfl rfl (by kernel_rfl) ?_
   refine RS.cons ?_ (RS.cons ?_ (RS.nil))
   ·refine wP rfl (wl_nil (ne_wt ?_))
    first|refine wt_step rfl rfl (by((repeat (first|refine Weak.same ?_|refine Weak.off rfl ?_));exact trivial)) ?_|refine wt_stepF rfl rfl (by kernel_rfl) ?_
    refine RS.cons ?_ (RS.nil)
    refine wP rfl (wl_nil (ne_wt ?_))
    first|refine wt_step rfl rfl (by((repeat (first|refine Weak.same ?_|refine Weak.off rfl ?_));exact trivial)) ?_|refine wt_stepF rfl rfl (by kernel_rfl) ?_
    refine RS.cons ?_ (RS.nil)
    refine wP rfl (wl_nil (ne_wt ?_))
    first|refine wt_done rfl (by((repeat (first|refine Weak.same ?_|refine Weak.off rfl ?_));exact trivial)) ?_|refine wt_doneF rfl (by kernel_rfl) ?_
    exact ne_late ⟨x,hx⟩ ⟨rfl,rfl,rfl,trivial⟩ [0,1,2,3,4,5,6,7,8,9] (by decide) rfl
   ·refine wP rfl (wl_nil (ne_wt ?_))
    first|refine wt_step rfl rfl (by((repeat (first|refine Weak.same ?_|refine Weak.off rfl ?_));exact trivial)) ?_|refine wt_stepF rfl rfl (by kernel_rfl) ?_
    refine RS.cons ?_ (RS.nil)
    refine wP rfl (wl_nil (ne_wt ?_))
    first|refine wt_step rfl rfl (by((repeat (first|refine Weak.same ?_|refine Weak.off rfl ?_));exact trivial)) ?_|refine wt_stepF rfl rfl (by kernel_rfl) ?_
    refine RS.cons ?_ (RS.nil)
    refine wP rfl (wl_nil (ne_wt ?_))
    first|refine wt_done rfl (by((repeat (first|refine Weak.same ?_|refine Weak.off rfl ?_));exact trivial)) ?_|refine wt_doneF rfl (by kernel_rfl) ?_
    exact ne_late ⟨x,hx⟩ ⟨rfl,rfl,rfl,trivial⟩ [0,1,2,3,4,5,6,7,8,9] (by decide) rfl
  ·refine wP rfl (wl_nil (ne_wt ?_))
   first|refine wt_step rfl rfl (by((repeat (first|refine Weak.same ?_|refine Weak.off rfl ?_));exact trivial)) ?_|refine wt_stepF rfl rfl (by kernel_rfl) ?_
   refine RS.cons ?_ (RS.nil)
   refine wP rfl (wl_nil (ne_wt ?_))
   first|refine wt_step rfl rfl (by((repeat (first|refine Weak.same ?_|refine Weak.off rfl ?_));exact trivial)) ?_|refine wt_stepF rfl rfl (by kernel_rfl) ?_
   refine RS.cons ?_ (RS.nil)
   refine wP rfl (wl_nil (ne_wt ?_))
   first|refine wt_step rfl rfl (by((repeat (first|refine Weak.same ?_|refine Weak.off rfl ?_));exact trivial)) ?_|refine wt_stepF rfl rfl (by kernel_rfl) ?_
   refine RS.cons ?_ (RS.nil)
   refine wP rfl (wl_nil (ne_wt ?_))
   first|refine wt_done rfl (by((repeat (first|refine Weak.same ?_|refine Weak.off rfl ?_));exact trivial)) ?_|refine wt_doneF rfl (by kernel_rfl) ?_
   exact ne_late ⟨x,hx⟩ ⟨rfl,rfl,rfl,trivial⟩ [0,1,2,3,4,5,6,7,8,9] (by decide) rfl
 rintro⟨⟨H,mh⟩,hmh,hHV⟩
 obtain⟨pH,cH,hHv,_⟩:=pairs_nz hmh hHV
 dsimp only
 rw[hHv]
 repeat (first|refine zA ?_|refine zB ?_|refine zC ?_|refine zD ?_|refine zE ?_|refine zF ?_|refine zG ?_|refine zH ?_|refine zI ?_|refine zJ ?_|refine zK ?_|refine zL ?_|refine zM rfl ?_|refine zN ?_|refine zO ?_|refine zP ?_|refine zQ ?_|refine zR rfl ?_|refine zS rfl ?_|refine zT Tryz.mixed (by kernel_rfl) ?_)
 refine wP rfl (wP rfl (wP rfl (wl_nil ?_)))
 repeat (first|refine zA ?_|refine zB ?_|refine zC ?_|refine zD ?_|refine zE ?_|refine zF ?_|refine zG ?_|refine zH ?_|refine zI ?_|refine zJ ?_|refine zK ?_|refine zL ?_|refine zM rfl ?_|refine zN ?_|refine zO ?_|refine zP ?_|refine zQ ?_|refine zR rfl ?_|refine zS rfl ?_|refine zT Tryz.mixed (by kernel_rfl) ?_)
 refine wc_loop (X:=Nat) (fun i=>[(23, .slice pH (prW (allF rs) n).length cH),(24, .int .i64 0),(124, .slice pM (prW (allF rs) y).length cM),(125, .int .i64 ((prW (allF rs) y).length:Nat)),(126, .int .i64 (i:Nat))]) (fun _=>[bxE b3 24 (slv p rs.length cap),V.bx 37 (nS (lvls rs)),O1.bx 3 (iC (ordW (allF rs) z ax)),O2.bx 3 (iC (ordW (allF rs) z ax)),P.bx 58 (prRow mk),prB mk,M.bx 58 (prRow mm),prB mm]++[H.bx 58 (prRow mh),prB mh]) (fun i=>i≤(prW (allF rs) y).length) (fun i=>(prW (allF rs) y).length-i) 0 (Nat.zero_le _) ⟨rfl,rfl,rfl,rfl,rfl,trivial⟩ [] rfl ?_
 intro i hi
 have hi:i≤(prW (allF rs) y).length:=hi
 repeat (first|refine zA ?_|refine zB ?_|refine zC ?_|refine zD ?_|refine zE ?_|refine zF ?_|refine zG ?_|refine zH ?_|refine zI ?_|refine zJ ?_|refine zK ?_|refine zL ?_|refine zM rfl ?_|refine zN ?_|refine zO ?_|refine zP ?_|refine zQ ?_|refine zR rfl ?_|refine zS rfl ?_|refine zT Tryz.mixed (by kernel_rfl) ?_)
 refine wP rfl ?_
 by_cases hlt:i<(prW (allF rs) y).length
 ·refine wl_upd 127 (.bool true) rfl (congrArg Value.bool (decide_eq_true (by omega))) ?_
  refine wl_nil ?_
  repeat (first|refine zA ?_|refine zB ?_|refine zC ?_|refine zD ?_|refine zE ?_|refine zF ?_|refine zG ?_|refine zH ?_|refine zI ?_|refine zJ ?_|refine zK ?_|refine zL ?_|refine zM rfl ?_|refine zN ?_|refine zO ?_|refine zP ?_|refine zQ ?_|refine zR rfl ?_|refine zS rfl ?_|refine zT Tryz.mixed (by kernel_rfl) ?_)
  obtain⟨gM,hpe,hrow⟩:=hMr (by omega)
  subst hpe
  obtain⟨c,hc⟩:=hrow i hlt
  obtain⟨q,hq⟩: ∃q,q=(prW (allF rs) y)[i]:=⟨_,rfl⟩
  rw[←hq] at hc
  have hqm:q∈prW (allF rs) n:=prW_high hG hyn hno (hq▸List.getElem_mem hlt)
  repeat (first|refine zA ?_|refine zB ?_|refine zC ?_|refine zD ?_|refine zE ?_|refine zF ?_|refine zG ?_|refine zH ?_|refine zI ?_|refine zJ ?_|refine zK ?_|refine zL ?_|refine zM rfl ?_|refine zN ?_|refine zO ?_|refine zP ?_|refine zQ ?_|refine zR rfl ?_|refine zS rfl ?_|refine zT Tryz.mixed (by kernel_rfl) ?_)
  (first|refine wI rfl rfl (by omega) (by omega) ?_|refine qI rfl rfl (by omega) (by omega) ?_)
  (first|refine wl_load rfl rfl rfl rfl (fun W hp=>RowAt.load 0 tH rfl ((fun W1 hp=>(hc hp 6 7 rfl rfl).1) W hp) rfl) ?_|refine wl_load rfl rfl rfl rfl (fun W hp=>RowAt.load 1 tH rfl ((fun W1 hp=>(hc hp 6 7 rfl rfl).1) W hp) rfl) ?_|refine wl_load rfl rfl rfl rfl (fun W hp=>RowAt.load 2 tH rfl ((fun W1 hp=>(hc hp 6 7 rfl rfl).1) W hp) rfl) ?_|refine wl_load rfl rfl rfl rfl (fun W hp=>RowAt.load 3 tH rfl ((fun W1 hp=>(hc hp 6 7 rfl rfl).1) W hp) rfl) ?_|refine wl_load rfl rfl rfl rfl (fun W hp=>RowAt.load 4 tH rfl ((fun W1 hp=>(hc hp 6 7 rfl rfl).1) W hp) rfl) ?_|refine wl_load rfl rfl rfl rfl (fun W hp=>RowAt.load 5 tH rfl ((fun W1 hp=>(hc hp 6 7 rfl rfl).1) W hp) rfl) ?_|refine wl_load rfl rfl rfl rfl (fun W hp=>RowAt.load 6 tH rfl ((fun W1 hp=>(hc hp 6 7 rfl rfl).1) W hp) rfl) ?_|refine wl_load rfl rfl rfl rfl (fun W hp=>RowAt.load 7 tH rfl ((fun W1 hp=>(hc hp 6 7 rfl rfl).1) W hp) rfl) ?_|refine wq_load rfl rfl rfl rfl (fun W hp=>RowAt.load 0 tH rfl ((fun W1 hp=>(hc hp 6 7 rfl rfl).1) W hp) rfl) ?_|refine wq_load rfl rfl rfl rfl (fun W hp=>RowAt.load 1 tH rfl ((fun W1 hp=>(hc hp 6 7 rfl rfl).1) W hp) rfl) ?_|refine wq_load rfl rfl rfl rfl (fun W hp=>RowAt.load 2 tH rfl ((fun W1 hp=>(hc hp 6 7 rfl rfl).1) W hp) rfl) ?_|refine wq_load rfl rfl rfl rfl (fun W hp=>RowAt.load 3 tH rfl ((fun W1 hp=>(hc hp 6 7 rfl rfl).1) W hp) rfl) ?_|refine wq_load rfl rfl rfl rfl (fun W hp=>RowAt.load 4 tH rfl ((fun W1 hp=>(hc hp 6 7 rfl rfl).1) W hp) rfl) ?_|refine wq_load rfl rfl rfl rfl (fun W hp=>RowAt.load 5 tH rfl ((fun W1 hp=>(hc hp 6 7 rfl rfl).1) W hp) rfl) ?_|refine wq_load rfl rfl rfl rfl (fun W hp=>RowAt.load 6 tH rfl ((fun W1 hp=>(hc hp 6 7 rfl rfl).1) W hp) rfl) ?_|refine wq_load rfl rfl rfl rfl (fun W hp=>RowAt.load 7 tH rfl ((fun W1 hp=>(hc hp 6 7 rfl rfl).1) W hp) rfl) ?_)
  (refine wl_allocZ Tryz.hZ rfl rfl rfl rfl ?_;intro)
  (first|refine wS 0 rfl rfl rfl ?_|refine wS 1 rfl rfl rfl ?_|refine wS 2 rfl rfl rfl ?_|refine wS 3 rfl rfl rfl ?_|refine wS 4 rfl rfl rfl ?_|refine wS 5 rfl rfl rfl ?_|refine wS 6 rfl rfl rfl ?_|refine wS 7 rfl rfl rfl ?_|refine wS 8 rfl rfl rfl ?_|refine wS 9 rfl rfl rfl ?_|refine wS 10 rfl rfl rfl ?_|refine wS 11 rfl rfl rfl ?_)
  refine wl_nil ?_
  rename_i b26
  repeat (first|refine zA ?_|refine zB ?_|refine zC ?_|refine zD ?_|refine zE ?_|refine zF ?_|refine zG ?_|refine zH ?_|refine zI ?_|refine zJ ?_|refine zK ?_|refine zL ?_|refine zM rfl ?_|refine zN ?_|refine zO ?_|refine zP ?_|refine zQ ?_|refine zR rfl ?_|refine zS rfl ?_|refine zT Tryz.mixed (by kernel_rfl) ?_)
  refine wP rfl (wP rfl ?_)
  refine wl_call1 rfl rfl rfl rfl rfl rfl (by kernel_rfl) (fun W1 hp=>containsP_gives 37 b26 (by kernel_rfl) q (prW (allF rs) n) hqm W1 pH cH (by omega) (pairs_P hHv hmh hHV hp 8 9 rfl rfl) (prFn2 b26 c q W1 (RowAt.of_bx hp 10 rfl rfl) (hc hp 6 7 rfl rfl).2)) ?_
  refine wP rfl (wl_nil ?_)
  repeat (first|refine zA ?_|refine zB ?_|refine zC ?_|refine zD ?_|refine zE ?_|refine zF ?_|refine zG ?_|refine zH ?_|refine zI ?_|refine zJ ?_|refine zK ?_|refine zL ?_|refine zM rfl ?_|refine zN ?_|refine zO ?_|refine zP ?_|refine zQ ?_|refine zR rfl ?_|refine zS rfl ?_|refine zT Tryz.mixed (by kernel_rfl) ?_)
  refine wP rfl ?_
  refine wl_upd 134 (.int .i64 ((i+1:Nat):Int)) rfl (congrArg (Value.int .i64) (w64_succ (by omega))) ?_
  refine wP rfl (wl_nil ?_)
  repeat (first|refine zA ?_|refine zB ?_|refine zC ?_|refine zD ?_|refine zE ?_|refine zF ?_|refine zG ?_|refine zH ?_|refine zI ?_|refine zJ ?_|refine zK ?_|refine zL ?_|refine zM rfl ?_|refine zN ?_|refine zO ?_|refine zP ?_|refine zQ ?_|refine zR rfl ?_|refine zS rfl ?_|refine zT Tryz.mixed (by kernel_rfl) ?_)
  exact ne_loop (i+1) hlt (by show(prW (allF rs) y).length-(i+1)<(prW (allF rs) y).length-i;omega) ⟨rfl,rfl,rfl,rfl,rfl,trivial⟩ _ rfl
 refine wl_upd 127 (.bool false) rfl (congrArg Value.bool (decide_eq_false (by omega))) ?_
 refine wl_nil ?_
 repeat (first|refine zA ?_|refine zB ?_|refine zC ?_|refine zD ?_|refine zE ?_|refine zF ?_|refine zG ?_|refine zH ?_|refine zI ?_|refine zJ ?_|refine zK ?_|refine zL ?_|refine zM rfl ?_|refine zN ?_|refine zO ?_|refine zP ?_|refine zQ ?_|refine zR rfl ?_|refine zS rfl ?_|refine zT Tryz.mixed (by kernel_rfl) ?_)
 refine wP rfl (wP rfl (wP rfl ?_))
 refine wl_call1 rfl rfl rfl rfl rfl rfl (by kernel_rfl) (fun W1 hp=>awakeV_gives W1 (hd.hp hp) (hv.hp hp) (ht.hp hp)) ?_
 refine wP rfl (wP rfl (wl_nil ?_))
 repeat (first|refine zA ?_|refine zB ?_|refine zC ?_|refine zD ?_|refine zE ?_|refine zF ?_|refine zG ?_|refine zH ?_|refine zI ?_|refine zJ ?_|refine zK ?_|refine zL ?_|refine zM rfl ?_|refine zN ?_|refine zO ?_|refine zP ?_|refine zQ ?_|refine zR rfl ?_|refine zS rfl ?_|refine zT Tryz.mixed (by kernel_rfl) ?_)
 exact ne_ret1 tH rfl (.tmp rfl) () rfl trivial fun W _=>NewBx.nil _ _
end Go.Proofs.YtlagebbefnnnnaaGreatDoor
namespace Go.Proofs.YtlagebbefnnnnaaGreatDoor
open Go Go.RowKit Go.Am Go.ChangeShapes Go.WideShapes Go.Deep
set_option maxRecDepth 10000
theorem c42:Tryz.prog.cellsOf 42=7:=by kernel_rfl
theorem c27:Tryz.prog.cellsOf 32=1:=by kernel_rfl
theorem c24:Tryz.prog.cellsOf 24=1:=by kernel_rfl
theorem c22:Tryz.prog.cellsOf 22=1:=by kernel_rfl
theorem c3:Tryz.prog.cellsOf 3=1:=by kernel_rfl
theorem c4:Tryz.prog.cellsOf 4=1:=by kernel_rfl
theorem bulk_one {H:Type} (d:DataW H):1≤Rows.uptoBulk d:=by
 cases d with
 |lit l=>cases l<;>simp[Rows.uptoBulk]
 |nil=>simp[Rows.uptoBulk]
 |ptr d=>simp[Rows.uptoBulk]
 |slice elems spare=>simp[Rows.uptoBulk]
 |agg parts=>simp[Rows.uptoBulk]
 |iface t d=>simp[Rows.uptoBulk]
 |map entries=>simp[Rows.uptoBulk]
 |held h=>simp[Rows.uptoBulk]
theorem bulk_len {H:Type} (l:List (DataW H)):l.length≤Rows.uptoBulkAll l:=by
 induction l with
 |nil=>simp[Rows.uptoBulkAll]
 |cons x r ih=>have:=bulk_one x;simp only[Rows.uptoBulkAll,List.length_cons];omega
theorem bulk_sum {H:Type} {A:Type} (L:A→Nat) (D:A→DataW H) (is:List A) (h: ∀i,i∈is→L i+1≤Rows.uptoBulk (D i)):
  (is.map L).sum+is.length≤Rows.uptoBulkAll (is.map D):=by
 induction is with
 |nil=>simp[Rows.uptoBulkAll]
 |cons x r ih=>
  have h1:=h x (.head _)
  have h2:=ih fun i hi=>h i (.tail _ hi)
  simp only[List.map_cons,List.sum_cons,List.length_cons,Rows.uptoBulkAll]
  omega
theorem bulk_slice {H:Type} (e s:List (DataW H)):Rows.uptoBulkAll e+1≤Rows.uptoBulk (.slice e s):=by
 simp only[Rows.uptoBulk];omega
theorem cell_plain {w:World} {a:Addr} {v:Value} (h:w.cell? a=some v):a.spot=none∧a.block<w.heap.size:=by
 unfold World.cell? at h
 split at h
 ·rename_i hb
  refine⟨?_, ?_⟩
  ·cases hs:a.spot with
   |none=>rfl
   |some k=>simp[hs] at h
  ·exact(Array.getElem?_eq_some_iff.1 hb).1
 ·cases h
theorem open_row {w:World} {base n:Nat} {a:Addr} {cs:List Value} (h:w.cells? base a n=some cs) (hn:0<n):a.spot=none∧RowAt w a.block a.off cs:=by
 obtain⟨_,hl,hg⟩:=World.cells?_some h
 have h0:=hg 0 hn
 have hv:cs[0]? =some cs[0]:=List.getElem?_eq_getElem (by omega)
 rw[hv] at h0
 have hp:=cell_plain h0
 have hs:a.spot=none:=by simpa[Addr.add] using hp.1
 refine⟨hs,⟨by simpa[Addr.add] using hp.2,fun j x hx=> ?_⟩⟩
 have hj:j<n:=by rw[←hl];exact(List.getElem?_eq_some_iff.1 hx).1
 rw[←hx, ←hg j hj]
 congr 1
 unfold Addr.add
 split
 ·subst_vars;cases a;simp_all
 ·rfl
theorem add_off {a:Addr} (hs:a.spot=none) (n:Nat):a.add n=⟨a.block,a.off+n,none⟩:=by
 unfold Addr.add
 split
 ·subst_vars;cases a;simp_all
 ·rfl
def Sd.in64 (s:Sd):Prop:= ∀z∈[s.x,s.y,s.rise,s.run,s.plate,s.over], -9223372036854775808≤z∧z≤9223372036854775807
section
variable {H:Type} {enc:TypeId×Value→H} {w:World} {base:Nat} {spare:Nat→Bool} {held:Bool} {fuel:Nat} {cs:List Value} {x:DataW H×List MemPlace}
theorem open_sd (h:DataW.trod enc Tryz.prog w base spare held fuel 42 cs=some x): ∃s:Sd,cs=s.cells∧s.in64:=by
 obtain⟨xs,m,rfl,rfl,hl,hx,hf⟩:=DataW.trod_struct Tryz.underlying42 h
 rw[c42] at hl
 have g: ∀(i:Nat) (o t:Nat) (f:Field),(match Tryz.prog.underlying 42 with|some (.struct fs)=>fs[i]? |_=>none)=some f→f.offset=o→f.type=t→
   ∃y,DataW.trod enc Tryz.prog w base spare held m t ((cs.drop o).take (Tryz.prog.cellsOf t))=some y:=by
  intro i o t f hi ho ht
  rw[Tryz.underlying42] at hi
  subst ho;subst ht
  have h1:=hf i f hi
  have h2:i<xs.length:=by rw[hx];exact(Array.getElem?_eq_some_iff.1 hi).1
  rw[List.getElem?_eq_getElem h2] at h1
  exact⟨_,h1⟩
 match cs,hl with
 |[v0,v1,v2,v3,v4,v5,v6],_=>
  have gi: ∀(i o:Nat) (f:Field) (v:Value),(match Tryz.prog.underlying 42 with|some (.struct fs)=>fs[i]? |_=>none)=some f→f.offset=o→f.type=3→([v0,v1,v2,v3,v4,v5,v6].drop o).take 1=[v]→
    ∃z,v= .int .i64 z∧ -9223372036854775808≤z∧z≤9223372036854775807:=by
   intro i o f v h1 h2 h3 h4
   obtain⟨y,hy⟩:=g i o 3 f h1 h2 h3
   rw[c3,h4] at hy
   obtain⟨z,e1,_,hw⟩:=DataW.trod_int Tryz.underlying3 hy
   refine⟨z,by simpa using e1, ?_⟩
   simpa[Lit.wf,IntKind.min,IntKind.max,IntKind.signed,IntKind.bits] using hw
  obtain⟨z0,rfl,b0⟩:=gi 0 0 _ v0 (by rw[Tryz.underlying42];rfl) rfl rfl rfl
  obtain⟨z1,rfl,b1⟩:=gi 1 1 _ v1 (by rw[Tryz.underlying42];rfl) rfl rfl rfl
  obtain⟨z2,rfl,b2⟩:=gi 2 2 _ v2 (by rw[Tryz.underlying42];rfl) rfl rfl rfl
  obtain⟨z3,rfl,b3⟩:=gi 3 3 _ v3 (by rw[Tryz.underlying42];rfl) rfl rfl rfl
  obtain⟨z5,rfl,b5⟩:=gi 5 5 _ v5 (by rw[Tryz.underlying42];rfl) rfl rfl rfl
  obtain⟨z6,rfl,b6⟩:=gi 6 6 _ v6 (by rw[Tryz.underlying42];rfl) rfl rfl rfl
  obtain⟨y4,hy4⟩:=g 4 4 4 _ (by rw[Tryz.underlying42];rfl) rfl rfl
  rw[c4] at hy4
  obtain⟨z4,e4,_⟩:=DataW.trod_bool Tryz.underlying4 hy4
  obtain rfl:v4= .bool z4:=by simpa using e4
  refine⟨⟨z0,z1,z2,z3,z4,z5,z6⟩,rfl, ?_⟩
  intro z hz
  simp only[List.mem_cons,List.not_mem_nil,or_false] at hz
  rcases hz with rfl|rfl|rfl|rfl|rfl|rfl<;>assumption
theorem open_ring (h:DataW.trod enc Tryz.prog w base spare held fuel 32 cs=some x):
  ∃(p:Option Addr) (cap:Nat) (l:List Sd),cs=[slv p l.length cap]∧RingP w p l∧(∀s∈l,s.in64)∧l.length+1≤Rows.uptoBulk x.1:=by
 rcases open_slice Tryz.underlying32 h with⟨rfl,rfl⟩|⟨a,len,cap,m,n,D,Pl,rfl,_,hl,_,hm,rfl,hx⟩
 ·exact⟨none,0,[],rfl, .inl rfl,(fun _ hs=>by cases hs),bulk_one _⟩
 have hlm:len≤m:=by rw[hm];split<;>omega
 obtain⟨S,hS⟩:=choose_lt (α:=Sd) (n:=len) (p:=fun i s=>w.cells? base (a.add (i*7)) 7=some s.cells∧s.in64) fun i hi=>by
  obtain⟨cs',h1,h2⟩:=hx i (by omega)
  rw[c42] at h1
  obtain⟨s,rfl,h3⟩:=open_sd h2
  exact⟨s,h1,h3⟩
 refine⟨some a,cap,(List.range len).map S,by simp, ?_, ?_, ?_⟩
 ·by_cases h0:len=0
  ·subst h0;exact .inl rfl
  ·have hs:a.spot=none:=by simpa[Addr.add] using(open_row (hS 0 (by omega)).1 (by decide)).1
   refine .inr ⟨a.block,a.off,by cases a;simp_all,⟨fun i s hi=> ?_⟩⟩
   simp only[List.getElem?_map,Option.map_eq_some_iff] at hi
   obtain⟨k,hk,rfl⟩:=hi
   have hk':i<len∧k=i:=by
    have:=List.getElem?_eq_some_iff.1 hk
    obtain⟨h1,h2⟩:=this
    simp at h1 h2
    exact⟨h1,h2.symm⟩
   obtain⟨h1,rfl⟩:=hk'
   have:=(open_row (hS k h1).1 (by decide)).2
   rwa [add_off hs] at this
 ·intro s hs
  simp only[List.mem_map,List.mem_range] at hs
  obtain⟨i,hi,rfl⟩:=hs
  exact(hS i hi).2
 ·have h1:=bulk_len ((List.range len).map D)
  have h2:=bulk_slice ((List.range len).map D) ((List.range (m-len)).map fun j=>D (len+j))
  simp only[List.length_map,List.length_range] at h1⊢
  omega
theorem open_rings (h:DataW.trod enc Tryz.prog w base spare held fuel 22 cs=some x):
  ∃(p:Option Addr) (cap:Nat) (rs:List (List Sd)),cs=[slv p rs.length cap]∧RingsP w p rs∧(∀l∈rs, ∀s∈l,s.in64)∧tot rs+rs.length+1≤Rows.uptoBulk x.1:=by
 rcases open_slice Tryz.underlying22 h with⟨rfl,rfl⟩|⟨a,len,cap,m,n,D,Pl,rfl,_,hl,_,hm,rfl,hx⟩
 ·exact⟨none,0,[],rfl, .inl rfl,(fun _ hs=>by cases hs),bulk_one _⟩
 have hlm:len≤m:=by rw[hm];split<;>omega
 obtain⟨L,hL⟩:=choose_lt (α:=List Sd) (n:=len) (p:=fun i l=> ∃q c,w.cells? base (a.add (i*1)) 1=some [slv q l.length c]∧RingP w q l∧(∀s∈l,s.in64)∧l.length+1≤Rows.uptoBulk (D i)) fun i hi=>by
  obtain⟨cs',h1,h2⟩:=hx i (by omega)
  rw[c27] at h1
  obtain⟨q,c,l,rfl,h3,h4,h5⟩:=open_ring h2
  exact⟨l,q,c,h1,h3,h4,h5⟩
 refine⟨some a,cap,(List.range len).map L,by simp, ?_, ?_, ?_⟩
 ·by_cases h0:len=0
  ·subst h0;exact .inl rfl
  ·obtain⟨q0,c0,h00,_⟩:=hL 0 (by omega)
   have hs:a.spot=none:=by simpa[Addr.add] using(open_row h00 (by decide)).1
   refine .inr ⟨a.block,a.off,by cases a;simp_all,⟨fun i l hi=> ?_⟩⟩
   simp only[List.getElem?_map,Option.map_eq_some_iff] at hi
   obtain⟨k,hk,rfl⟩:=hi
   have hk':i<len∧k=i:=by
    obtain⟨h1,h2⟩:=List.getElem?_eq_some_iff.1 hk
    simp at h1 h2
    exact⟨h1,h2.symm⟩
   obtain⟨h1,rfl⟩:=hk'
   obtain⟨q,c,h2,h3,_⟩:=hL k h1
   have:=(open_row h2 (by decide)).2
   rw[add_off hs] at this
   exact⟨q,c,this,h3⟩
 ·intro l hl'
  simp only[List.mem_map,List.mem_range] at hl'
  obtain⟨i,hi,rfl⟩:=hl'
  obtain⟨_,_,_,_,h3,_⟩:=hL i hi
  exact h3
 ·have h1:=bulk_sum (fun i=>(L i).length) D (List.range len) fun i hi=>by
   obtain⟨_,_,_,_,_,h3⟩:=hL i (by simpa using hi)
   exact h3
  have h2:=bulk_slice ((List.range len).map D) ((List.range (m-len)).map fun j=>D (len+j))
  simp only[tot,List.map_map,List.length_map,List.length_range] at h1⊢
  have h3:(List.range len).map (List.length∘L)=(List.range len).map fun i=>(L i).length:=rfl
  rw[h3]
  show _≤Rows.uptoBulk (DataW.slice _ _)
  omega
end
section
variable {H:Type} {enc:TypeId×Value→H} {w:World} {base:Nat} {spare:Nat→Bool} {held:Bool} {v:Value} {d:DataW H} {ps:List MemPlace}
theorem open_plan {r:Reach} {b0:Nat} (hv:Value.okWide Tryz.prog w r b0 24 v) (h:DataW.Trod enc Tryz.prog w base spare held 24 v d ps):
  ∃(p:Option Addr) (cap:Nat) (rs:List (List Sd)),v=planV p rs.length cap∧RingsP w p rs∧(∀l∈rs, ∀s∈l,s.in64)∧tot rs+rs.length+2≤Rows.uptoBulk d:=by
 obtain⟨cs,rfl,hc⟩:=okWide_struct Tryz.underlying24 hv
 obtain⟨fuel,hf⟩:=h
 obtain⟨xs,m,rfl,hx,hl,hn,hg⟩:=DataW.trod_struct Tryz.underlying24 hf
 rw[c24] at hc
 obtain⟨y0,rfl⟩: ∃y,xs=[y]:=by
  match xs,hn with
  |[y],_=>exact⟨y,rfl⟩
 have h0:DataW.trod enc Tryz.prog w base spare held m 22 (List.take (Tryz.prog.cellsOf 22) (List.drop 0 cs.toList))=some y0:=hg 0 _ rfl
 rw[c22] at h0
 obtain⟨c0,rfl⟩: ∃c,cs= #[c]:=by
  obtain⟨l⟩:=cs
  match l,hc with
  |[c],_=>exact⟨c,rfl⟩
 obtain⟨p,cap,rs,e1,e2,e3,e4⟩:=open_rings h0
 simp only[Prod.mk.injEq] at hx
 obtain⟨rfl,_⟩:=hx
 refine⟨p,cap,rs, ?_,e2,e3, ?_⟩
 ·have:c0=slv p rs.length cap:=by simpa[Value.cells] using e1
  rw[this]
 ·simp only[List.map_cons,List.map_nil,Rows.uptoBulk,Rows.uptoBulkAll]
  have:y0.1=(y0:DataW H×List MemPlace).1:=rfl
  omega
end
end Go.Proofs.YtlagebbefnnnnaaGreatDoor
namespace Go.Proofs.YtlagebbefnnnnaaGreatDoor
open Go
noncomputable abbrev laidL:List (String×DataW Unit):=Rows.frontCornersRow.laid
end Go.Proofs.YtlagebbefnnnnaaGreatDoor
namespace Go.Proofs.YtlagebbefnnnnaaGreatDoor
open Go Go.RowKit Go.Am Go.ChangeShapes Go.WideShapes Go.Deep Go.ChangeAt
set_option maxRecDepth 100000
section
variable {H:Type} {enc:TypeId×Value→H} {w:World} {base:Nat} {spare:Nat→Bool} {held:Bool} {v:Value} {d:DataW H} {ps:List MemPlace}
end
theorem own:ownKnob Tryz.prog.godebug=none:=by kernel_rfl
theorem laidOut:laidOutB Tryz.prog=true:=by kernel_rfl
theorem laid_plain:(laidL.all fun x=>x.2.handleName?.isNone)=true:=by kernel_rfl
theorem tab_of_laid {W:World} (h:laidMetH Tryz.prog laidL W):TabP W:=by
 rw[MakeChecks.laidMetH_plain _ _ _ laid_plain] at h
 exact Lib.tabIs_of_head (g:=1) (t:=318) (e:=263) (n:=20) (by kernel_rfl) (by kernel_rfl) (by kernel_rfl) (by kernel_rfl) (by kernel_rfl) (by kernel_rfl) h.tail.tail
theorem max_of {W:World} (hS:W.ShapedOpen Tryz.prog):MaxP W:=
 cell_of_shapedOpen_int (g:=6) (t:=3) (zero:= #[.int .i64 0]) hS (of_decide_eq_true (by kernel_rfl)) (by kernel_rfl) rfl (by kernel_rfl) (by kernel_rfl) Tryz.underlying3
noncomputable def witW (os:Os):World:=World.laidAll Tryz.prog os laidL
theorem wit_laid (os:Os) (args:Array Value):laidMetH Tryz.prog laidL ((witW os).forCall (fun _ _=>0) ⟨#[],args,[]⟩).memory:=by
 rw[MakeChecks.laidMetH_plain _ _ _ laid_plain]
 exact laidMet_laidAll _ (by kernel_rfl) (by kernel_rfl)
theorem wit_shaped (os:Os) (args:Array Value):((witW os).forCall (fun _ _=>0) ⟨#[],args,[]⟩).Shaped Tryz.prog:=
 World.shaped_of_ZipB (by kernel_rfl) (by kernel_rfl)
theorem wit_row {H:Type} {enc:TypeId×Value→H} (os:Os) {f:FuncId} {fn:Func} {s:OpenSpec} {conds:List PathCond} (args:Array Value)
  (hok:Input.okWideB Tryz.prog ((witW os).forCall (fun _ _=>0) ⟨#[],args,[]⟩) f ⟨#[],args,[]⟩=true)
  (hrow:s.preRow enc Tryz.prog fn conds false laidL ((witW os).forCall (fun _ _=>0) ⟨#[],args,[]⟩).memory args):
  ∃(w:World) (tape:Tape) (i:Input),w.os=os∧(w.forCall tape i).Shaped Tryz.prog∧i.vars=[]∧Input.okWide Tryz.prog (w.forCall tape i) .any w.heap.size f i∧
   s.preRow enc Tryz.prog fn conds false laidL (w.forCall tape i).memory i.args∧({}:Assume).holds Tryz.prog (lone (Frame.enter Tryz.prog f i.args .normal) [] (w.forCall tape i)):=
 ⟨witW os,fun _ _=>0,⟨#[],args,[]⟩,World.laidAll_os _ _ _,wit_shaped os args,(Input.okWide_of_okWideB (base:=0) hok).1,(Input.okWide_of_okWideB hok).2,hrow,by
  simp only[Assume.holds]
  exact⟨by simp,by simp,by simp,by simp,by simp,by simp⟩⟩
theorem cDir:Tryz.prog.cellsOf 176=2:=by kernel_rfl
theorem cDirs:Tryz.prog.cellsOf 177=8:=by kernel_rfl
theorem cBool:Tryz.prog.cellsOf 4=1:=by kernel_rfl
theorem cInt:Tryz.prog.cellsOf 3=1:=by kernel_rfl
section
variable {H:Type} {enc:TypeId×Value→H} {w:World} {base:Nat} {spare:Nat→Bool} {held:Bool} {fuel:Nat} {cs:List Value} {x:DataW H×List MemPlace}
theorem open_dir (h:DataW.trod enc Tryz.prog w base spare held fuel 176 cs=some x): ∃(b:Bool) (z:Int),cs=[.bool b, .int .i64 z]∧x.1= .agg [.lit (.bool b), .lit (.int .i64 z)]:=by
 obtain⟨xs,m,rfl,rfl,hl,hn,hg⟩:=DataW.trod_struct Tryz.underlying176 h
 rw[cDir] at hl
 match cs,hl with
 |[u,v],_=>
  match xs,hn with
  |[y0,y1],_=>
   have h0:DataW.trod enc Tryz.prog w base spare held m 4 (([u,v].drop 0).take (Tryz.prog.cellsOf 4))=some y0:=hg 0 _ rfl
   have h1:DataW.trod enc Tryz.prog w base spare held m 3 (([u,v].drop 1).take (Tryz.prog.cellsOf 3))=some y1:=hg 1 _ rfl
   rw[cBool] at h0
   rw[cInt] at h1
   obtain⟨b,e0,f0⟩:=DataW.trod_bool Tryz.underlying4 h0
   obtain⟨z,e1,f1,_⟩:=DataW.trod_int Tryz.underlying3 h1
   refine⟨b,z, ?_, ?_⟩
   ·have a0:u= .bool b:=by simpa using e0
    have a1:v= .int .i64 z:=by simpa using e1
    rw[a0,a1]
   ·simp[f0,f1]
theorem open_dirs (h:DataW.trod enc Tryz.prog w base spare held fuel 177 cs=some x) (hx:x.1= .agg [.agg [.lit (.bool false), .lit (.int .i64 1)], .agg [.lit (.bool true), .lit (.int .i64 (-1))], .agg [.lit (.bool false), .lit (.int .i64 (-1))], .agg [.lit (.bool true), .lit (.int .i64 1)]]):cs=dirC:=by
 obtain⟨xs,m,rfl,rfl,hl,hn,hg⟩:=DataW.trod_array Tryz.underlying177 h
 rw[cDirs] at hl
 match cs,hl with
 |[a0,a1,a2,a3,a4,a5,a6,a7],_=>
  match xs,hn with
  |[y0,y1,y2,y3],_=>
   have h0:=hg 0 (by decide)
   have h1:=hg 1 (by decide)
   have h2:=hg 2 (by decide)
   have h3:=hg 3 (by decide)
   rw[cDir] at h0 h1 h2 h3
   obtain⟨b0,z0,e0,f0⟩:=open_dir (x:=y0) h0
   obtain⟨b1,z1,e1,f1⟩:=open_dir (x:=y1) h1
   obtain⟨b2,z2,e2,f2⟩:=open_dir (x:=y2) h2
   obtain⟨b3,z3,e3,f3⟩:=open_dir (x:=y3) h3
   simp only[List.map_cons,List.map_nil,f0,f1,f2,f3,DataW.agg.injEq,List.cons.injEq,DataW.lit.injEq,Lit.bool.injEq,Lit.int.injEq,true_and,and_true] at hx
   obtain⟨⟨rfl,rfl⟩,⟨rfl,rfl⟩,⟨rfl,rfl⟩,⟨rfl,rfl⟩⟩:=hx
   simp at e0 e1 e2 e3
   obtain⟨rfl,rfl⟩:=e0
   obtain⟨rfl,rfl⟩:=e1
   obtain⟨rfl,rfl⟩:=e2
   obtain⟨rfl,rfl⟩:=e3
   rfl
end
theorem dir_of_laid {W:World} (h:laidMetH Tryz.prog laidL W):DirP W:=by
 rw[MakeChecks.laidMetH_plain _ _ _ laid_plain] at h
 obtain⟨ps,⟨g',t',cs,fuel,p,q,hg',ht',hvar,hd,_,_⟩,_⟩:=h.tail.tail.tail.tail.tail.tail
 obtain rfl := Option.some.inj ((show Tryz.prog.globalNamed "kingpost/front.directions" = some 0 by kernel_rfl).symm.trans hg')
 obtain rfl:=Option.some.inj ((show(Tryz.prog.globals[0]?).map (·.type)=some 177 by kernel_rfl).symm.trans ht')
 have e:=open_dirs hd rfl
 have hc: ∀i u,dirC[i]? =some u→W.cell? ⟨0,i,none⟩=some u:=fun i u hu=>by
  rw[World.var?_cell hg' hvar i]
  rw[←e] at hu
  simpa using hu
 refine⟨?_,fun m u hu=> ?_⟩
 ·obtain⟨c,ty,fr,h1,_⟩:=Sort.cells_of_cell? (hc 0 _ rfl)
  exact(Array.getElem?_eq_some_iff.1 h1).1
 ·rw[Nat.zero_add]
  exact hc m u hu
end Go.Proofs.YtlagebbefnnnnaaGreatDoor
