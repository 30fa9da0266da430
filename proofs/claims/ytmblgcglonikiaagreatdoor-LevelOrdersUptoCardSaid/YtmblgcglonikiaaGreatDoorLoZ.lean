/-
  The law LevelOrders:Next and Order return the results of the reference implementation,for plans and levels of the sizes of the statement;with its tied card.
-/
import Derived.Test.YtmblgcglonikiaaGreatDoorLoh
set_option maxHeartbeats 64000000
namespace Go.Proofs.YtmblgcglonikiaaGreatDoor
section
open Go Go.RowKit Go.Am Go.ChangeShapes Go.WideShapes Go.ChangeAt
set_option maxRecDepth 100000
namespace CLevelOrders
theorem Wj (H:Type) (enc:TypeId×Value→H) (W:World) (base:Nat) (args:Array Value) (ds gs:List (DataW H)) (before:List MemPlace)
  (hval: ∀(j:Nat) t v,Tryz.f4.params[j]? =some t→args[j]? =some v→Value.okWide Tryz.prog W .any base t v)
  (hW:DataW.Whole enc Tryz.prog Tryz.f4.params.toList Rows.levelOrdersSpec.vars false W args.toList ds gs before) (hk:Rows.uptoSmall H (ds++gs)=true) (hL:laidMetH Tryz.prog laidL W) (hS:W.ShapedOpen Tryz.prog):
  Calls Tryz.prog 4 args W fun e W'=> ∃v,e= .returned v∧Rows.levelOrdersSpec.post enc Tryz.prog Tryz.f4 false true false false W args v W':=by
 have hW':=hW
 obtain⟨p,q,hA0,hV,rfl,hfz,hnd⟩:=hW
 have hA:DataW.TrodAll enc Tryz.prog W 0 (fun _=>true) true Tryz.f4.params.toList args.toList ds p:=hA0
 rw[Tryz.params4] at hA hval
 obtain⟨v0,vs0,d0,ds0,p0,q0,hargs,rfl,rfl,h0,r0⟩:=trodAll_cons hA
 obtain⟨v1,vs1,d1,ds1,p1,q1,rfl,rfl,rfl,h1,r1⟩:=trodAll_cons r0
 obtain⟨v2,vs2,d2,ds2,p2,q2,rfl,rfl,rfl,h2,r2⟩:=trodAll_cons r1
 obtain⟨rfl,rfl,rfl⟩:=trodAll_nil r2
 obtain rfl:args= #[v0,v1,v2]:=by cases args;simp_all
 obtain⟨rfl,rfl⟩:=trodVars_none hV
 have h0k:=h0
 obtain⟨a0,cap0,rs0,rfl,hR0,_,hb0⟩:=Uz (hval 0 24 v0 rfl rfl) h0
 have h1k:=h1
 obtain⟨y1,rfl,rfl,rfl,w1⟩:=Go.ChangeMaps.open_string Tryz.underlying25 (hval 1 25 v1 rfl rfl) h1
 obtain⟨b1,rfl⟩: ∃b:List UInt8,y1=⟨b.toArray⟩:=⟨y1.data.toList,by cases y1;simp⟩
 have h2k:=h2
 obtain⟨x2,rfl,rfl,rfl⟩:=open_bool Tryz.underlying4 (hval 2 4 v2 rfl rfl) h2
 clear hA0
 simp only[List.append_nil] at hW' hk
 have bd:Rows.uptoBulkAll [d0, .lit (.string (⟨b1.toArray⟩:ByteArray).data.toList), .lit (.bool x2)]≤1048576:=by simpa[Rows.uptoSmall] using hk
 simp only[Rows.uptoBulkAll,Rows.uptoBulk] at bd
 have hlt0: ∀x∈p0,x.block<W.heap.size:=fun x hx=>by simpa using hW'.lt x (by simp[hx])
 refine(Ok W a0 cap0 rs0 b1 (by omega) x2 ⟨by omega,by omega,hR0,RA hL,Zl hS,R6 hL⟩).out.mono fun e W' ⟨u,he,_,hbl,_⟩=> ?_
 subst he
 exact⟨_,I,_,_,_,[],_,[],hW',trodAll_mk1 (shut_bool Tryz.underlying4 _),
  trodAll_cons_mk (Below.trod Ug (by kernel_rfl) (of_decide_eq_true (by kernel_rfl)) h0k hbl hlt0) (trodAll_cons_mk (Go.ChangeMaps.shut_string Tryz.underlying25 w1) (trodAll_cons_mk (shut_bool Tryz.underlying4 _) trodAll_mk0)),
  rfl,hbl.frame _,fun h=>by cases h⟩
noncomputable def witArgs:Array Value:= #[.agg #[.slice none 0 0], .string ⟨#[]⟩, .bool false]
theorem FL (os:Os) {H:Type} (enc:TypeId×Value→H): ∃places,DataW.whole enc Tryz.prog ((witW os).forCall (fun _ _=>0) ⟨#[],witArgs,[]⟩).memory Tryz.f4.params.toList Rows.levelOrdersSpec.vars false witArgs.toList 8=some ([.agg [.nil], .lit (.string []), .lit (.bool false)],[],places):=
 ⟨[],by kernel_rfl⟩
theorem Z7 (os:Os) (started:os.Started) (H:Type) (enc:TypeId×Value→H) (F:Stop.Interp):
  ReturnsInHanded {} Tryz.checked os 4 .any ((Rows.OpenSpec.upto Rows.levelOrdersSpec).preRow enc Tryz.prog Tryz.f4 Rows.levelOrdersUptoRow.domain false Rows.levelOrdersUptoRow.laid) (((Rows.OpenSpec.upto Rows.levelOrdersSpec).at F).post enc Tryz.prog Tryz.f4 false true false false):=by
 obtain⟨places,hx⟩:=FL os enc
 refine returnsInHanded_of_row (C:=Tryz.checked) (s:=Rows.OpenSpec.upto Rows.levelOrdersSpec) own started (by kernel_rfl) Tryz.func4
  (Yi os witArgs (by kernel_rfl) (OpenSpec.preRow_of_cond 8 hx (by kernel_rfl) (fun k hk=>by cases hk;kernel_rfl) (by kernel_rfl) (Xz os witArgs))) ?_
 intro W base args ds gs before hval hW _ hk _ hL hS _
 exact Wj H enc W base args ds gs before hval hW (hk _ I) hL hS
theorem k1:(Rows.levelOrdersUptoRow.inPlace==Tryz.prog.inPlace 4)=true:=by kernel_rfl
theorem k2:(Rows.levelOrdersUptoRow.unfollowed==Tryz.prog.unfollowed 4)=true:=by kernel_rfl
theorem k3:(Rows.levelOrdersUptoRow.recurses==Tryz.prog.recurses 4)=true:=by kernel_rfl
theorem k4:(Rows.levelOrdersUptoRow.named==Tryz.prog.varsNamed 4)=true:=by kernel_rfl
theorem k5:mapsRowed Tryz.prog=true:=by kernel_rfl
theorem k6:(Tryz.prog.stops==[])=true:=by kernel_rfl
theorem k7:(Tryz.prog.stopKnobs==[])=true:=by kernel_rfl
theorem k8:Tryz.prog.stopsHeard=true:=by kernel_rfl
theorem k9:Tryz.prog.mayEnter=true:=by kernel_rfl
theorem Z4:joinedFacts Tryz.prog 4 Tryz.f4 (Rows.OpenSpec.upto Rows.levelOrdersSpec).bare Rows.levelOrdersUptoRow=true:=by
 unfold joinedFacts
 rw[k1,k2,k3,k4,k5,k6,k7,k8,k9,Ug]
 kernel_rfl
theorem aQ:Rows.LevelOrdersUptoSaid:=
 OpenClaim.holds_of_cond 4 Tryz.f4 rfl rfl rfl rfl rfl rfl rfl ⟨rfl,rfl,rfl,rfl,rfl⟩ rfl rfl rfl rfl rfl (by kernel_rfl) Tryz.func4 Z4
  (of_decide_eq_true (by kernel_rfl)) (by unfold Func.isWrapper;first|(rw[if_pos (by decide+kernel)];kernel_rfl)|(rw[if_neg (by decide+kernel)];exact⟨rfl,rfl⟩))
  (fun os started H enc _ F=>by rw[OpenClaim.pre_eq_preRow];exact Z7 os started H enc F)
theorem aL (f : FuncId) (fn : Func) (hf : Tryz.pinned.checked.prog.funcNamed "kingpost/kingpostlaw17.LevelOrders" = some f) (hfn : Tryz.pinned.checked.prog.funcs[f]? = some fn) :
  true=Tryz.pinned.checked.prog.looks []∧ ∀(j:Nat) t,fn.params[j]? =some t→Tryz.pinned.checked.prog.wantsStandIn t=false:=by
 obtain rfl : f = 4 := Option.some.inj ((show Tryz.prog.funcNamed "kingpost/kingpostlaw17.LevelOrders" = some 4 by kernel_rfl).symm.trans hf) |>.symm
 obtain rfl:fn=Tryz.f4:=(Option.some.inj (Tryz.func4.symm.trans hfn)).symm
 refine⟨by kernel_rfl,fun j t ht=> ?_⟩
 rw[Tryz.params4] at ht
 have hm:t∈[24,25,4]:=by simpa using Array.mem_of_getElem? ht
 have hall:([24,25,4].all fun u=> !Tryz.prog.wantsStandIn u)=true:=by kernel_rfl
 exact(show Tryz.prog.wantsStandIn t=false by simpa using List.all_eq_true.1 hall t hm)
theorem ZL:false=Rows.levelOrdersUptoRow.goesBy Tryz.pinned.checked.prog:=by kernel_rfl
theorem wf0:Rows.levelOrdersUptoRow.wfByText (Rows.OpenSpec.upto Rows.levelOrdersSpec)=true:=by kernel_rfl
theorem card:Rows.LevelOrdersUptoCardSaid:=
 Claim7.holds_tied_plain_at .later [] _ _ _ _ aQ (fun _ h=>by cases h) wf0 (fun _ h=>by cases h) levelOrdersUpto_row_tie rfl ⟨rfl,rfl⟩ (by kernel_rfl) rfl aL ZL
end CLevelOrders
theorem levelOrders_upto_card:Rows.LevelOrdersUptoCardSaid:=CLevelOrders.card
end
end Go.Proofs.YtmblgcglonikiaaGreatDoor
