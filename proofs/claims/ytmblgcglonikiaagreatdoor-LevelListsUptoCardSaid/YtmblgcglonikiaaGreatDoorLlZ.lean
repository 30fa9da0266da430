/-
  The law LevelLists:Base,All,Top,Starts and Pairs return the results of the reference implementation,for plans and levels of the sizes of the statement;with its tied card.
-/
import Derived.Test.YtmblgcglonikiaaGreatDoorLlh
set_option maxHeartbeats 64000000
namespace Go.Proofs.YtmblgcglonikiaaGreatDoor
section
open Go Go.RowKit Go.Am Go.ChangeShapes Go.WideShapes Go.ChangeAt
set_option maxRecDepth 100000
namespace CLevelLists
theorem WZ (H:Type) (enc:TypeId×Value→H) (W:World) (base:Nat) (args:Array Value) (ds gs:List (DataW H)) (before:List MemPlace)
  (hval: ∀(j:Nat) t v,Tryz.f3.params[j]? =some t→args[j]? =some v→Value.okWide Tryz.prog W .any base t v)
  (hW:DataW.Whole enc Tryz.prog Tryz.f3.params.toList Rows.levelListsSpec.vars false W args.toList ds gs before) (hk:Rows.uptoSmall H (ds++gs)=true) (hL:laidMetH Tryz.prog laidL W) (hS:W.ShapedOpen Tryz.prog):
  Calls Tryz.prog 3 args W fun e W'=> ∃v,e= .returned v∧Rows.levelListsSpec.post enc Tryz.prog Tryz.f3 false true false false W args v W':=by
 have hW':=hW
 obtain⟨p,q,hA0,hV,rfl,hfz,hnd⟩:=hW
 have hA:DataW.TrodAll enc Tryz.prog W 0 (fun _=>true) true Tryz.f3.params.toList args.toList ds p:=hA0
 rw[Tryz.params3] at hA hval
 obtain⟨v0,vs0,d0,ds0,p0,q0,hargs,rfl,rfl,h0,r0⟩:=trodAll_cons hA
 obtain⟨v1,vs1,d1,ds1,p1,q1,rfl,rfl,rfl,h1,r1⟩:=trodAll_cons r0
 obtain⟨rfl,rfl,rfl⟩:=trodAll_nil r1
 obtain rfl:args= #[v0,v1]:=by cases args;simp_all
 obtain⟨rfl,rfl⟩:=trodVars_none hV
 have h0k:=h0
 obtain⟨a0,cap0,rs0,rfl,hR0,_,hb0⟩:=UF (hval 0 24 v0 rfl rfl) h0
 have h1k:=h1
 obtain⟨y1,rfl,rfl,rfl,w1⟩:=Go.ChangeMaps.open_string Tryz.underlying25 (hval 1 25 v1 rfl rfl) h1
 obtain⟨b1,rfl⟩: ∃b:List UInt8,y1=⟨b.toArray⟩:=⟨y1.data.toList,by cases y1;simp⟩
 clear hA0
 simp only[List.append_nil] at hW' hk
 have bd:Rows.uptoBulkAll [d0, .lit (.string (⟨b1.toArray⟩:ByteArray).data.toList)]≤1048576:=by simpa[Rows.uptoSmall] using hk
 simp only[Rows.uptoBulkAll,Rows.uptoBulk] at bd
 have hlt0: ∀x∈p0,x.block<W.heap.size:=fun x hx=>by simpa using hW'.lt x (by simp[hx])
 refine(PE W a0 cap0 rs0 b1 (by omega) ⟨by omega,by omega,hR0,RJ hL,Zm hS,Q6 hL⟩).out.mono fun e W' ⟨u,he,_,hbl,_⟩=> ?_
 subst he
 exact⟨_,I,_,_,_,[],_,[],hW',trodAll_mk1 (shut_bool Tryz.underlying4 _),
  trodAll_cons_mk (Below.trod Uk (by kernel_rfl) (of_decide_eq_true (by kernel_rfl)) h0k hbl hlt0) (trodAll_cons_mk (Go.ChangeMaps.shut_string Tryz.underlying25 w1) trodAll_mk0),
  rfl,hbl.frame _,fun h=>by cases h⟩
noncomputable def witArgs:Array Value:= #[.agg #[.slice none 0 0], .string ⟨#[]⟩]
theorem FJ (os:Os) {H:Type} (enc:TypeId×Value→H): ∃places,DataW.whole enc Tryz.prog ((witW os).forCall (fun _ _=>0) ⟨#[],witArgs,[]⟩).memory Tryz.f3.params.toList Rows.levelListsSpec.vars false witArgs.toList 8=some ([.agg [.nil], .lit (.string [])],[],places):=
 ⟨[],by kernel_rfl⟩
theorem Zt (os:Os) (started:os.Started) (H:Type) (enc:TypeId×Value→H) (F:Stop.Interp):
  ReturnsInHanded {} Tryz.checked os 3 .any ((Rows.OpenSpec.upto Rows.levelListsSpec).preRow enc Tryz.prog Tryz.f3 Rows.levelListsUptoRow.domain false Rows.levelListsUptoRow.laid) (((Rows.OpenSpec.upto Rows.levelListsSpec).at F).post enc Tryz.prog Tryz.f3 false true false false):=by
 obtain⟨places,hx⟩:=FJ os enc
 refine returnsInHanded_of_row (C:=Tryz.checked) (s:=Rows.OpenSpec.upto Rows.levelListsSpec) own started (by kernel_rfl) Tryz.func3
  (XW os witArgs (by kernel_rfl) (OpenSpec.preRow_of_cond 8 hx (by kernel_rfl) (fun k hk=>by cases hk;kernel_rfl) (by kernel_rfl) (X0 os witArgs))) ?_
 intro W base args ds gs before hval hW _ hk _ hL hS _
 exact WZ H enc W base args ds gs before hval hW (hk _ I) hL hS
theorem k1:(Rows.levelListsUptoRow.inPlace==Tryz.prog.inPlace 3)=true:=by kernel_rfl
theorem k2:(Rows.levelListsUptoRow.unfollowed==Tryz.prog.unfollowed 3)=true:=by kernel_rfl
theorem k3:(Rows.levelListsUptoRow.recurses==Tryz.prog.recurses 3)=true:=by kernel_rfl
theorem k4:(Rows.levelListsUptoRow.named==Tryz.prog.varsNamed 3)=true:=by kernel_rfl
theorem k5:mapsRowed Tryz.prog=true:=by kernel_rfl
theorem k6:(Tryz.prog.stops==[])=true:=by kernel_rfl
theorem k7:(Tryz.prog.stopKnobs==[])=true:=by kernel_rfl
theorem k8:Tryz.prog.stopsHeard=true:=by kernel_rfl
theorem k9:Tryz.prog.mayEnter=true:=by kernel_rfl
theorem Z3:joinedFacts Tryz.prog 3 Tryz.f3 (Rows.OpenSpec.upto Rows.levelListsSpec).bare Rows.levelListsUptoRow=true:=by
 unfold joinedFacts
 rw[k1,k2,k3,k4,k5,k6,k7,k8,k9,Uk]
 kernel_rfl
theorem aL:Rows.LevelListsUptoSaid:=
 OpenClaim.holds_of_cond 3 Tryz.f3 rfl rfl rfl rfl rfl rfl rfl ⟨rfl,rfl,rfl,rfl,rfl⟩ rfl rfl rfl rfl rfl (by kernel_rfl) Tryz.func3 Z3
  (of_decide_eq_true (by kernel_rfl)) (by unfold Func.isWrapper;first|(rw[if_pos (by decide+kernel)];kernel_rfl)|(rw[if_neg (by decide+kernel)];exact⟨rfl,rfl⟩))
  (fun os started H enc _ F=>by rw[OpenClaim.pre_eq_preRow];exact Zt os started H enc F)
theorem ZV (f : FuncId) (fn : Func) (hf : Tryz.pinned.checked.prog.funcNamed "kingpost/kingpostlaw17.LevelLists" = some f) (hfn : Tryz.pinned.checked.prog.funcs[f]? = some fn) :
  true=Tryz.pinned.checked.prog.looks []∧ ∀(j:Nat) t,fn.params[j]? =some t→Tryz.pinned.checked.prog.wantsStandIn t=false:=by
 obtain rfl : f = 3 := Option.some.inj ((show Tryz.prog.funcNamed "kingpost/kingpostlaw17.LevelLists" = some 3 by kernel_rfl).symm.trans hf) |>.symm
 obtain rfl:fn=Tryz.f3:=(Option.some.inj (Tryz.func3.symm.trans hfn)).symm
 refine⟨by kernel_rfl,fun j t ht=> ?_⟩
 rw[Tryz.params3] at ht
 have hm:t∈[24,25]:=by simpa using Array.mem_of_getElem? ht
 have hall:([24,25].all fun u=> !Tryz.prog.wantsStandIn u)=true:=by kernel_rfl
 exact(show Tryz.prog.wantsStandIn t=false by simpa using List.all_eq_true.1 hall t hm)
theorem aD:false=Rows.levelListsUptoRow.goesBy Tryz.pinned.checked.prog:=by kernel_rfl
theorem wf0:Rows.levelListsUptoRow.wfByText (Rows.OpenSpec.upto Rows.levelListsSpec)=true:=by kernel_rfl
theorem card:Rows.LevelListsUptoCardSaid:=
 Claim7.holds_tied_plain_at .later [] _ _ _ _ aL (fun _ h=>by cases h) wf0 (fun _ h=>by cases h) levelListsUpto_row_tie rfl ⟨rfl,rfl⟩ (by kernel_rfl) rfl ZV aD
end CLevelLists
theorem levelLists_upto_card:Rows.LevelListsUptoCardSaid:=CLevelLists.card
end
end Go.Proofs.YtmblgcglonikiaaGreatDoor
