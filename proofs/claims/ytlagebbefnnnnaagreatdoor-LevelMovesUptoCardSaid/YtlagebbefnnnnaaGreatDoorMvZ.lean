/-
  The law LevelMoves:a plan that is moved keeps its levels;with its tied card.
-/
import Derived.Test.YtlagebbefnnnnaaGreatDoorMvh
set_option maxHeartbeats 64000000
namespace Go.Proofs.YtlagebbefnnnnaaGreatDoor
section
open Go Go.RowKit Go.Am Go.ChangeShapes Go.WideShapes Go.ChangeAt
set_option maxRecDepth 100000
namespace CLevelMoves
theorem W8 (H:Type) (enc:TypeId×Value→H) (W:World) (base:Nat) (args:Array Value) (ds gs:List (DataW H)) (before:List MemPlace)
  (hval: ∀(j:Nat) t v,Tryz.f10.params[j]? =some t→args[j]? =some v→Value.okWide Tryz.prog W .any base t v)
  (hW:DataW.Whole enc Tryz.prog Tryz.f10.params.toList Rows.levelMovesSpec.vars false W args.toList ds gs before) (hk:Rows.uptoSmall H (ds++gs)=true) (hL:laidMetH Tryz.prog laidL W) (hS:W.ShapedOpen Tryz.prog):
  Calls Tryz.prog 10 args W fun e W'=> ∃v,e= .returned v∧Rows.levelMovesSpec.post enc Tryz.prog Tryz.f10 false true false false W args v W':=by
 have hW':=hW
 obtain⟨p,q,hA0,hV,rfl,hfz,hnd⟩:=hW
 have hA:DataW.TrodAll enc Tryz.prog W 0 (fun _=>true) true Tryz.f10.params.toList args.toList ds p:=hA0
 rw[Tryz.params10] at hA hval
 obtain⟨v0,vs0,d0,ds0,p0,q0,hargs,rfl,rfl,h0,r0⟩:=trodAll_cons hA
 obtain⟨v1,vs1,d1,ds1,p1,q1,rfl,rfl,rfl,h1,r1⟩:=trodAll_cons r0
 obtain⟨v2,vs2,d2,ds2,p2,q2,rfl,rfl,rfl,h2,r2⟩:=trodAll_cons r1
 obtain⟨v3,vs3,d3,ds3,p3,q3,rfl,rfl,rfl,h3,r3⟩:=trodAll_cons r2
 obtain⟨rfl,rfl,rfl⟩:=trodAll_nil r3
 obtain rfl:args= #[v0,v1,v2,v3]:=by cases args;simp_all
 obtain⟨rfl,rfl⟩:=trodVars_none hV
 have h0k:=h0
 obtain⟨a0,cap0,rs0,rfl,hR0,_,hb0⟩:=UA (hval 0 24 v0 rfl rfl) h0
 have h1k:=h1
 obtain⟨x1,rfl,rfl,rfl,w1⟩:=open_int Tryz.underlying5 (hval 1 5 v1 rfl rfl) h1
 have b1:0≤x1∧x1≤255:=by simpa[Lit.wf,IntKind.min,IntKind.max,IntKind.signed,IntKind.bits] using w1
 obtain⟨m1,rfl⟩: ∃m:Nat,x1=m:=⟨x1.toNat,by omega⟩
 have h2k:=h2
 obtain⟨x2,rfl,rfl,rfl,w2⟩:=open_int Tryz.underlying5 (hval 2 5 v2 rfl rfl) h2
 have b2:0≤x2∧x2≤255:=by simpa[Lit.wf,IntKind.min,IntKind.max,IntKind.signed,IntKind.bits] using w2
 obtain⟨m2,rfl⟩: ∃m:Nat,x2=m:=⟨x2.toNat,by omega⟩
 have h3k:=h3
 obtain⟨x3,rfl,rfl,rfl,w3⟩:=open_int Tryz.underlying77 (hval 3 77 v3 rfl rfl) h3
 have b3: -128≤x3∧x3≤127:=by simpa[Lit.wf,IntKind.min,IntKind.max,IntKind.signed,IntKind.bits] using w3
 clear hA0
 simp only[List.append_nil] at hW' hk
 have bd:Rows.uptoBulkAll [d0, .lit (.int .u8 m1), .lit (.int .u8 m2), .lit (.int .i8 x3)]≤1048576:=by simpa[Rows.uptoSmall] using hk
 simp only[Rows.uptoBulkAll] at bd
 have hlt0: ∀x∈p0,x.block<W.heap.size:=fun x hx=>by simpa using hW'.lt x (by simp[hx])
 refine(NQ W a0 cap0 rs0 x3 b3 m1 m2 (by omega) (by omega) (by omega) (by omega) hR0 (Qs hL) (YH hS) (PI hL)).out.mono fun e W' ⟨u,he,_,hbl,_⟩=> ?_
 subst he
 exact⟨_,rfl,_,_,_,[],_,[],hW',trodAll_mk1 (shut_bool Tryz.underlying4 _),
  trodAll_cons_mk (Below.trod SW (by kernel_rfl) (of_decide_eq_true (by kernel_rfl)) h0k hbl hlt0) (trodAll_cons_mk (shut_int Tryz.underlying5 w1) (trodAll_cons_mk (shut_int Tryz.underlying5 w2) (trodAll_cons_mk (shut_int Tryz.underlying77 w3) trodAll_mk0))),
  rfl,hbl.frame _,fun h=>by cases h⟩
noncomputable def witArgs:Array Value:= #[.agg #[.slice none 0 0], .int .u8 0, .int .u8 0, .int .i8 0]
theorem Fj (os:Os) {H:Type} (enc:TypeId×Value→H): ∃places,DataW.whole enc Tryz.prog ((witW os).forCall (fun _ _=>0) ⟨#[],witArgs,[]⟩).memory Tryz.f10.params.toList Rows.levelMovesSpec.vars false witArgs.toList 8=some ([.agg [.nil], .lit (.int .u8 0), .lit (.int .u8 0), .lit (.int .i8 0)],[],places):=
 ⟨[],by kernel_rfl⟩
theorem Zu (os:Os) (started:os.Started) (H:Type) (enc:TypeId×Value→H) (F:Stop.Interp):
  ReturnsInHanded {} Tryz.checked os 10 .any ((Rows.OpenSpec.upto Rows.levelMovesSpec).preRow enc Tryz.prog Tryz.f10 Rows.levelMovesUptoRow.domain false Rows.levelMovesUptoRow.laid) (((Rows.OpenSpec.upto Rows.levelMovesSpec).at F).post enc Tryz.prog Tryz.f10 false true false false):=by
 obtain⟨places,hx⟩:=Fj os enc
 refine returnsInHanded_of_row (C:=Tryz.checked) (s:=Rows.OpenSpec.upto Rows.levelMovesSpec) own started (by kernel_rfl) Tryz.func10
  (XQ os witArgs (by kernel_rfl) (OpenSpec.preRow_of_cond 8 hx (by kernel_rfl) (fun k hk=>by cases hk;kernel_rfl) (by kernel_rfl) (WO os witArgs))) ?_
 intro W base args ds gs before hval hW _ hk _ hL hS _
 exact W8 H enc W base args ds gs before hval hW (hk _ rfl) hL hS
theorem k1:(Rows.levelMovesUptoRow.inPlace==Tryz.prog.inPlace 10)=true:=by kernel_rfl
theorem k2:(Rows.levelMovesUptoRow.unfollowed==Tryz.prog.unfollowed 10)=true:=by kernel_rfl
theorem k3:(Rows.levelMovesUptoRow.recurses==Tryz.prog.recurses 10)=true:=by kernel_rfl
theorem k4:(Rows.levelMovesUptoRow.named==Tryz.prog.varsNamed 10)=true:=by kernel_rfl
theorem k5:mapsRowed Tryz.prog=true:=by kernel_rfl
theorem k6:(Tryz.prog.stops==[])=true:=by kernel_rfl
theorem k7:(Tryz.prog.stopKnobs==[])=true:=by kernel_rfl
theorem k8:Tryz.prog.stopsHeard=true:=by kernel_rfl
theorem k9:Tryz.prog.mayEnter=true:=by kernel_rfl
theorem Z0:joinedFacts Tryz.prog 10 Tryz.f10 (Rows.OpenSpec.upto Rows.levelMovesSpec).bare Rows.levelMovesUptoRow=true:=by
 unfold joinedFacts
 rw[k1,k2,k3,k4,k5,k6,k7,k8,k9,SW]
 kernel_rfl
theorem aP:Rows.LevelMovesUptoSaid:=
 OpenClaim.holds_of_cond 10 Tryz.f10 rfl rfl rfl rfl rfl rfl rfl ⟨rfl,rfl,rfl,rfl,rfl⟩ rfl rfl rfl rfl rfl (by kernel_rfl) Tryz.func10 Z0
  (of_decide_eq_true (by kernel_rfl)) (by unfold Func.isWrapper;first|(rw[if_pos (by decide+kernel)];kernel_rfl)|(rw[if_neg (by decide+kernel)];exact⟨rfl,rfl⟩))
  (fun os started H enc _ F=>by rw[OpenClaim.pre_eq_preRow];exact Zu os started H enc F)
theorem aI (f : FuncId) (fn : Func) (hf : Tryz.pinned.checked.prog.funcNamed "kingpost/kingpostlaw17.LevelMoves" = some f) (hfn : Tryz.pinned.checked.prog.funcs[f]? = some fn) :
  true=Tryz.pinned.checked.prog.looks []∧ ∀(j:Nat) t,fn.params[j]? =some t→Tryz.pinned.checked.prog.wantsStandIn t=false:=by
 obtain rfl : f = 10 := Option.some.inj ((show Tryz.prog.funcNamed "kingpost/kingpostlaw17.LevelMoves" = some 10 by kernel_rfl).symm.trans hf) |>.symm
 obtain rfl:fn=Tryz.f10:=(Option.some.inj (Tryz.func10.symm.trans hfn)).symm
 refine⟨by kernel_rfl,fun j t ht=> ?_⟩
 rw[Tryz.params10] at ht
 have hm:t∈[24,5,5,77]:=by simpa using Array.mem_of_getElem? ht
 have hall:([24,5,5,77].all fun u=> !Tryz.prog.wantsStandIn u)=true:=by kernel_rfl
 exact(show Tryz.prog.wantsStandIn t=false by simpa using List.all_eq_true.1 hall t hm)
theorem aE:false=Rows.levelMovesUptoRow.goesBy Tryz.pinned.checked.prog:=by kernel_rfl
theorem wf0:Rows.levelMovesUptoRow.wfByText (Rows.OpenSpec.upto Rows.levelMovesSpec)=true:=by kernel_rfl
theorem card:Rows.LevelMovesUptoCardSaid:=
 Claim7.holds_tied_plain_at .later [] _ _ _ _ aP (fun _ h=>by cases h) wf0 (fun _ h=>by cases h) levelMovesUpto_row_tie rfl ⟨rfl,rfl⟩ (by kernel_rfl) rfl aI aE
end CLevelMoves
theorem levelMoves_upto_card:Rows.LevelMovesUptoCardSaid:=CLevelMoves.card
end
end Go.Proofs.YtlagebbefnnnnaaGreatDoor
