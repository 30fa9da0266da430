/-
  The law FrontPlans:All and Equal return the results of the reference implementation,for any plan and fronts of the sizes of the statement;with its tied card.
-/
import Derived.Test.YtmblgcglonikiaaGreatDoorFqg
set_option maxHeartbeats 64000000
namespace Go.Proofs.YtmblgcglonikiaaGreatDoor
section
open Go Go.RowKit Go.Am Go.ChangeShapes Go.WideShapes Go.ChangeAt
set_option maxRecDepth 100000
namespace CFrontPlans
theorem SE (H:Type) (enc:TypeId×Value→H) (W:World) (base:Nat) (args:Array Value) (ds gs:List (DataW H)) (before:List MemPlace)
  (hval: ∀(j:Nat) t v,Tryz.f6.params[j]? =some t→args[j]? =some v→Value.okWide Tryz.prog W .any base t v)
  (hW:DataW.Whole enc Tryz.prog Tryz.f6.params.toList Rows.frontPlansSpec.vars false W args.toList ds gs before) (hk:Rows.uptoSmall H (ds++gs)=true) (hL:laidMetH Tryz.prog laidL W) (hS:W.ShapedOpen Tryz.prog):
  Calls Tryz.prog 6 args W fun e W'=> ∃v,e= .returned v∧Rows.frontPlansSpec.post enc Tryz.prog Tryz.f6 false true false false W args v W':=by
 have hW':=hW
 obtain⟨p,q,hA0,hV,rfl,hfz,hnd⟩:=hW
 have hA:DataW.TrodAll enc Tryz.prog W 0 (fun _=>true) true Tryz.f6.params.toList args.toList ds p:=hA0
 rw[Tryz.params6] at hA hval
 obtain⟨v0,vs0,d0,ds0,p0,q0,hargs,rfl,rfl,h0,r0⟩:=trodAll_cons hA
 obtain⟨v1,vs1,d1,ds1,p1,q1,rfl,rfl,rfl,h1,r1⟩:=trodAll_cons r0
 obtain⟨v2,vs2,d2,ds2,p2,q2,rfl,rfl,rfl,h2,r2⟩:=trodAll_cons r1
 obtain⟨rfl,rfl,rfl⟩:=trodAll_nil r2
 obtain rfl:args= #[v0,v1,v2]:=by cases args;simp_all
 obtain⟨rfl,rfl⟩:=trodVars_none hV
 have h0k:=h0
 obtain⟨a0,cap0,rs0,rfl,hR0,_,hb0⟩:=R9 (hval 0 24 v0 rfl rfl) h0
 have h1k:=h1
 obtain⟨w1,rfl,hb1⟩:=KS (hval 1 48 v1 rfl rfl) h1
 have h2k:=h2
 obtain⟨w2,rfl,hb2⟩:=KS (hval 2 48 v2 rfl rfl) h2
 clear hA0
 simp only[List.append_nil] at hW' hk
 have bd:Rows.uptoBulkAll [d0,d1,d2]≤1048576:=by simpa[Rows.uptoSmall] using hk
 simp only[Rows.uptoBulkAll] at bd
 have hlt0: ∀x∈p0,x.block<W.heap.size:=fun x hx=>by simpa using hW'.lt x (by simp[hx])
 have hlt1: ∀x∈p1,x.block<W.heap.size:=fun x hx=>by simpa using hW'.lt x (by simp[hx])
 have hlt2: ∀x∈p2,x.block<W.heap.size:=fun x hx=>by simpa using hW'.lt x (by simp[hx])
 refine(N4 W a0 cap0 rs0 w1 w2 (by omega) (by omega) hR0 (OE hL) (Vm hS) (ON hL)).out.mono fun e W' ⟨u,he,_,hbl,_⟩=> ?_
 subst he
 exact⟨_,I,_,_,_,[],_,[],hW',trodAll_mk1 (shut_bool Tryz.underlying4 _),
  trodAll_cons_mk (Below.trod Ky (by kernel_rfl) (of_decide_eq_true (by kernel_rfl)) h0k hbl hlt0) (trodAll_cons_mk (Below.trod Ky (by kernel_rfl) (of_decide_eq_true (by kernel_rfl)) h1k hbl hlt1) (trodAll_cons_mk (Below.trod Ky (by kernel_rfl) (of_decide_eq_true (by kernel_rfl)) h2k hbl hlt2) trodAll_mk0)),
  rfl,hbl.frame _,fun h=>by cases h⟩
noncomputable def witArgs:Array Value:= #[.agg #[.slice none 0 0], .agg #[.bool false, .int .i64 0, .int .i64 0, .string ⟨#[]⟩, .string ⟨#[]⟩], .agg #[.bool false, .int .i64 0, .int .i64 0, .string ⟨#[]⟩, .string ⟨#[]⟩]]
theorem Fb (os:Os) {H:Type} (enc:TypeId×Value→H): ∃places,DataW.whole enc Tryz.prog ((witW os).forCall (fun _ _=>0) ⟨#[],witArgs,[]⟩).memory Tryz.f6.params.toList Rows.frontPlansSpec.vars false witArgs.toList 8=some ([.agg [.nil], .agg [.lit (.bool false), .lit (.int .i64 0), .lit (.int .i64 0), .lit (.string []), .lit (.string [])], .agg [.lit (.bool false), .lit (.int .i64 0), .lit (.int .i64 0), .lit (.string []), .lit (.string [])]],[],places):=
 ⟨[],by kernel_rfl⟩
theorem Vi (os:Os) (started:os.Started) (H:Type) (enc:TypeId×Value→H) (F:Stop.Interp):
  ReturnsInHanded {} Tryz.checked os 6 .any ((Rows.OpenSpec.upto Rows.frontPlansSpec).preRow enc Tryz.prog Tryz.f6 Rows.frontPlansUptoRow.domain false Rows.frontPlansUptoRow.laid) (((Rows.OpenSpec.upto Rows.frontPlansSpec).at F).post enc Tryz.prog Tryz.f6 false true false false):=by
 obtain⟨places,hx⟩:=Fb os enc
 refine returnsInHanded_of_row (C:=Tryz.checked) (s:=Rows.OpenSpec.upto Rows.frontPlansSpec) own started (by kernel_rfl) Tryz.func6
  (US os witArgs (by kernel_rfl) (OpenSpec.preRow_of_cond 8 hx (by kernel_rfl) (fun k hk=>by cases hk;kernel_rfl) (by kernel_rfl) (T0 os witArgs))) ?_
 intro W base args ds gs before hval hW _ hk _ hL hS _
 exact SE H enc W base args ds gs before hval hW (hk _ I) hL hS
theorem k1:(Rows.frontPlansUptoRow.inPlace==Tryz.prog.inPlace 6)=true:=by kernel_rfl
theorem k2:(Rows.frontPlansUptoRow.unfollowed==Tryz.prog.unfollowed 6)=true:=by kernel_rfl
theorem k3:(Rows.frontPlansUptoRow.recurses==Tryz.prog.recurses 6)=true:=by kernel_rfl
theorem k4:(Rows.frontPlansUptoRow.named==Tryz.prog.varsNamed 6)=true:=by kernel_rfl
theorem k5:mapsRowed Tryz.prog=true:=by kernel_rfl
theorem k6:(Tryz.prog.stops==[])=true:=by kernel_rfl
theorem k7:(Tryz.prog.stopKnobs==[])=true:=by kernel_rfl
theorem k8:Tryz.prog.stopsHeard=true:=by kernel_rfl
theorem k9:Tryz.prog.mayEnter=true:=by kernel_rfl
theorem VL:joinedFacts Tryz.prog 6 Tryz.f6 (Rows.OpenSpec.upto Rows.frontPlansSpec).bare Rows.frontPlansUptoRow=true:=by
 unfold joinedFacts
 rw[k1,k2,k3,k4,k5,k6,k7,k8,k9,Ky]
 kernel_rfl
theorem WA:Rows.FrontPlansUptoSaid:=
 OpenClaim.holds_of_cond 6 Tryz.f6 rfl rfl rfl rfl rfl rfl rfl ⟨rfl,rfl,rfl,rfl,rfl⟩ rfl rfl rfl rfl rfl (by kernel_rfl) Tryz.func6 VL
  (of_decide_eq_true (by kernel_rfl)) (by unfold Func.isWrapper;first|(rw[if_pos (by decide+kernel)];kernel_rfl)|(rw[if_neg (by decide+kernel)];exact⟨rfl,rfl⟩))
  (fun os started H enc _ F=>by rw[OpenClaim.pre_eq_preRow];exact Vi os started H enc F)
theorem Wo (f : FuncId) (fn : Func) (hf : Tryz.pinned.checked.prog.funcNamed "kingpost/kingpostlaw16.FrontPlans" = some f) (hfn : Tryz.pinned.checked.prog.funcs[f]? = some fn) :
  true=Tryz.pinned.checked.prog.looks []∧ ∀(j:Nat) t,fn.params[j]? =some t→Tryz.pinned.checked.prog.wantsStandIn t=false:=by
 obtain rfl : f = 6 := Option.some.inj ((show Tryz.prog.funcNamed "kingpost/kingpostlaw16.FrontPlans" = some 6 by kernel_rfl).symm.trans hf) |>.symm
 obtain rfl:fn=Tryz.f6:=(Option.some.inj (Tryz.func6.symm.trans hfn)).symm
 refine⟨by kernel_rfl,fun j t ht=> ?_⟩
 rw[Tryz.params6] at ht
 have hm:t∈[24,48,48]:=by simpa using Array.mem_of_getElem? ht
 have hall:([24,48,48].all fun u=> !Tryz.prog.wantsStandIn u)=true:=by kernel_rfl
 exact(show Tryz.prog.wantsStandIn t=false by simpa using List.all_eq_true.1 hall t hm)
theorem Wb:false=Rows.frontPlansUptoRow.goesBy Tryz.pinned.checked.prog:=by kernel_rfl
theorem wf0:Rows.frontPlansUptoRow.wfByText (Rows.OpenSpec.upto Rows.frontPlansSpec)=true:=by kernel_rfl
theorem card:Rows.FrontPlansUptoCardSaid:=
 Claim7.holds_tied_plain_at .later [] _ _ _ _ WA (fun _ h=>by cases h) wf0 (fun _ h=>by cases h) frontPlansUpto_row_tie rfl ⟨rfl,rfl⟩ (by kernel_rfl) rfl Wo Wb
end CFrontPlans
theorem frontPlans_upto_card:Rows.FrontPlansUptoCardSaid:=CFrontPlans.card
end
end Go.Proofs.YtmblgcglonikiaaGreatDoor
