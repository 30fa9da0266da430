/-
  The law OpeningMeets:the feet of a dormer lie on the plane of the face at the level of the eaves,the upper end at that of the ridge,for valid plans of up to 8 sides and numbers of up to 8 bytes;with its tied card.
-/
import Derived.Test.YtndkgionklmdfaaGreatDoorOmg
set_option maxHeartbeats 64000000
namespace Go.Proofs.YtndkgionklmdfaaGreatDoor
section
open Go Go.RowKit Go.Am Go.ChangeShapes Go.WideShapes Go.ChangeAt
set_option maxRecDepth 100000
namespace COpeningMeets
theorem Uk (H:Type) (enc:TypeId×Value→H) (W:World) (base:Nat) (args:Array Value) (ds gs:List (DataW H)) (before:List MemPlace)
  (hval: ∀(j:Nat) t v,Tryz.f4.params[j]? =some t→args[j]? =some v→Value.okWide Tryz.prog W .any base t v)
  (hW:DataW.Whole enc Tryz.prog Tryz.f4.params.toList Rows.openingMeetsSpec.vars false W args.toList ds gs before) (hk:Rows.uptoSmall H (ds++gs)=true) (hL:laidMetH Tryz.prog laidL W) (hS:W.ShapedOpen Tryz.prog):
  Calls Tryz.prog 4 args W fun e W'=> ∃v,e= .returned v∧Rows.openingMeetsSpec.post enc Tryz.prog Tryz.f4 false true false false W args v W':=by
 have hW':=hW
 obtain⟨p,q,hA0,hV,rfl,hfz,hnd⟩:=hW
 have hA:DataW.TrodAll enc Tryz.prog W 0 (fun _=>true) true Tryz.f4.params.toList args.toList ds p:=hA0
 rw[Tryz.params4] at hA hval
 obtain⟨v0,vs0,d0,ds0,p0,q0,hargs,rfl,rfl,h0,r0⟩:=trodAll_cons hA
 obtain⟨v1,vs1,d1,ds1,p1,q1,rfl,rfl,rfl,h1,r1⟩:=trodAll_cons r0
 obtain⟨rfl,rfl,rfl⟩:=trodAll_nil r1
 obtain rfl:args= #[v0,v1]:=by cases args;simp_all
 obtain⟨rfl,rfl⟩:=trodVars_none hV
 have h0k:=h0
 obtain⟨a0,cap0,rs0,rfl,hR0,_,hb0⟩:=SZ (hval 0 36 v0 rfl rfl) h0
 have h1k:=h1
 obtain⟨sd1,ga1,gb1,xa1,xb1,xc1,rfl,hb1⟩:=Ov (hval 1 38 v1 rfl rfl) h1
 clear hA0
 simp only[List.append_nil] at hW' hk
 have bd:Rows.uptoBulkAll [d0,d1]≤1048576:=by simpa[Rows.uptoSmall] using hk
 simp only[Rows.uptoBulkAll] at bd
 have hlt0: ∀x∈p0,x.block<W.heap.size:=fun x hx=>by simpa using hW'.lt x (by simp[hx])
 have hlt1: ∀x∈p1,x.block<W.heap.size:=fun x hx=>by simpa using hW'.lt x (by simp[hx])
 refine(OR W a0 cap0 rs0 (by omega) (by omega) hR0 (PA hL) (Xt hS) (PU hL) sd1 ga1 gb1 xa1 xb1 xc1 (by omega) (by omega) (by omega)).out.mono fun e W' ⟨u,he,_,hbl,_⟩=> ?_
 subst he
 exact⟨_,I,_,_,_,[],_,[],hW',trodAll_mk1 (shut_bool Tryz.underlying4 _),
  trodAll_cons_mk (Below.trod NU (by kernel_rfl) (of_decide_eq_true (by kernel_rfl)) h0k hbl hlt0) (trodAll_cons_mk (Below.trod NU (by kernel_rfl) (of_decide_eq_true (by kernel_rfl)) h1k hbl hlt1) trodAll_mk0),
  rfl,hbl.frame _,fun h=>by cases h⟩
noncomputable def witArgs:Array Value:= #[.agg #[.slice none 0 0], .agg #[.int .i64 0, .string ⟨#[]⟩, .string ⟨#[]⟩, .string ⟨#[]⟩, .int .i64 0, .int .i64 0]]
theorem Fp (os:Os) {H:Type} (enc:TypeId×Value→H): ∃places,DataW.whole enc Tryz.prog ((witW os).forCall (fun _ _=>0) ⟨#[],witArgs,[]⟩).memory Tryz.f4.params.toList Rows.openingMeetsSpec.vars false witArgs.toList 8=some ([.agg [.nil], .agg [.lit (.int .i64 0), .lit (.string []), .lit (.string []), .lit (.string []), .lit (.int .i64 0), .lit (.int .i64 0)]],[],places):=
 ⟨[],by kernel_rfl⟩
theorem X1 (os:Os) (started:os.Started) (H:Type) (enc:TypeId×Value→H) (F:Stop.Interp):
  ReturnsInHanded {} Tryz.checked os 4 .any ((Rows.OpenSpec.upto Rows.openingMeetsSpec).preRow enc Tryz.prog Tryz.f4 Rows.openingMeetsUptoRow.domain false Rows.openingMeetsUptoRow.laid) (((Rows.OpenSpec.upto Rows.openingMeetsSpec).at F).post enc Tryz.prog Tryz.f4 false true false false):=by
 obtain⟨places,hx⟩:=Fp os enc
 refine returnsInHanded_of_row (C:=Tryz.checked) (s:=Rows.OpenSpec.upto Rows.openingMeetsSpec) own started (by kernel_rfl) Tryz.func4
  (VV os witArgs (by kernel_rfl) (OpenSpec.preRow_of_cond 8 hx (by kernel_rfl) (fun k hk=>by cases hk;kernel_rfl) (by kernel_rfl) (Va os witArgs))) ?_
 intro W base args ds gs before hval hW _ hk _ hL hS _
 exact Uk H enc W base args ds gs before hval hW (hk _ I) hL hS
theorem k1:(Rows.openingMeetsUptoRow.inPlace==Tryz.prog.inPlace 4)=true:=by kernel_rfl
theorem k2:(Rows.openingMeetsUptoRow.unfollowed==Tryz.prog.unfollowed 4)=true:=by kernel_rfl
theorem k3:(Rows.openingMeetsUptoRow.recurses==Tryz.prog.recurses 4)=true:=by kernel_rfl
theorem k4:(Rows.openingMeetsUptoRow.named==Tryz.prog.varsNamed 4)=true:=by kernel_rfl
theorem k5:mapsRowed Tryz.prog=true:=by kernel_rfl
theorem k6:(Tryz.prog.stops==[])=true:=by kernel_rfl
theorem k7:(Tryz.prog.stopKnobs==[])=true:=by kernel_rfl
theorem k8:Tryz.prog.stopsHeard=true:=by kernel_rfl
theorem k9:Tryz.prog.mayEnter=true:=by kernel_rfl
theorem XA:joinedFacts Tryz.prog 4 Tryz.f4 (Rows.OpenSpec.upto Rows.openingMeetsSpec).bare Rows.openingMeetsUptoRow=true:=by
 unfold joinedFacts
 rw[k1,k2,k3,k4,k5,k6,k7,k8,k9,NU]
 kernel_rfl
theorem Y2:Rows.OpeningMeetsUptoSaid:=
 OpenClaim.holds_of_cond 4 Tryz.f4 rfl rfl rfl rfl rfl rfl rfl ⟨rfl,rfl,rfl,rfl,rfl⟩ rfl rfl rfl rfl rfl (by kernel_rfl) Tryz.func4 XA
  (of_decide_eq_true (by kernel_rfl)) (by unfold Func.isWrapper;first|(rw[if_pos (by decide+kernel)];kernel_rfl)|(rw[if_neg (by decide+kernel)];exact⟨rfl,rfl⟩))
  (fun os started H enc _ F=>by rw[OpenClaim.pre_eq_preRow];exact X1 os started H enc F)
theorem Yg (f : FuncId) (fn : Func) (hf : Tryz.pinned.checked.prog.funcNamed "kingpost/kingpostlaw25.OpeningMeets" = some f) (hfn : Tryz.pinned.checked.prog.funcs[f]? = some fn) :
  true=Tryz.pinned.checked.prog.looks []∧ ∀(j:Nat) t,fn.params[j]? =some t→Tryz.pinned.checked.prog.wantsStandIn t=false:=by
 obtain rfl : f = 4 := Option.some.inj ((show Tryz.prog.funcNamed "kingpost/kingpostlaw25.OpeningMeets" = some 4 by kernel_rfl).symm.trans hf) |>.symm
 obtain rfl:fn=Tryz.f4:=(Option.some.inj (Tryz.func4.symm.trans hfn)).symm
 refine⟨by kernel_rfl,fun j t ht=> ?_⟩
 rw[Tryz.params4] at ht
 have hm:t∈[36,38]:=by simpa using Array.mem_of_getElem? ht
 have hall:([36,38].all fun u=> !Tryz.prog.wantsStandIn u)=true:=by kernel_rfl
 exact(show Tryz.prog.wantsStandIn t=false by simpa using List.all_eq_true.1 hall t hm)
theorem XT:false=Rows.openingMeetsUptoRow.goesBy Tryz.pinned.checked.prog:=by kernel_rfl
theorem wf0:Rows.openingMeetsUptoRow.wfByText (Rows.OpenSpec.upto Rows.openingMeetsSpec)=true:=by kernel_rfl
theorem card:Rows.OpeningMeetsUptoCardSaid:=
 Claim7.holds_tied_plain_at .later [] _ _ _ _ Y2 (fun _ h=>by cases h) wf0 (fun _ h=>by cases h) openingMeetsUpto_row_tie rfl ⟨rfl,rfl⟩ (by kernel_rfl) rfl Yg XT
end COpeningMeets
theorem openingMeets_upto_card:Rows.OpeningMeetsUptoCardSaid:=COpeningMeets.card
end
end Go.Proofs.YtndkgionklmdfaaGreatDoor
