/-
  The law ConvexHulls:the hull of points is a convex polygon that has them all,and whose corners are some of them;with its tied card.
-/
import Derived.Test.YthndmdimmgkpgaaGreatDoorCyh
set_option maxHeartbeats 64000000
namespace Go.Proofs.YthndmdimmgkpgaaGreatDoor
section
open Go Go.RowKit Go.Am Go.ChangeShapes Go.WideShapes Go.ChangeAt
set_option maxRecDepth 100000
namespace CConvexHulls
theorem T2 (H:Type) (enc:TypeId×Value→H) (W:World) (base:Nat) (args:Array Value) (ds gs:List (DataW H)) (before:List MemPlace)
  (hval: ∀(j:Nat) t v,Tryz.f6.params[j]? =some t→args[j]? =some v→Value.okWide Tryz.prog W .any base t v)
  (hW:DataW.Whole enc Tryz.prog Tryz.f6.params.toList Rows.convexHullsSpec.vars false W args.toList ds gs before) (hk:Rows.uptoSmall H (ds++gs)=true) (hL:laidMetH Tryz.prog laidL W) (hS:W.ShapedOpen Tryz.prog):
  Calls Tryz.prog 6 args W fun e W'=> ∃v,e= .returned v∧Rows.convexHullsSpec.post enc Tryz.prog Tryz.f6 false true false false W args v W':=by
 have hW':=hW
 obtain⟨p,q,hA0,hV,rfl,hfz,hnd⟩:=hW
 have hA:DataW.TrodAll enc Tryz.prog W 0 (fun _=>true) true Tryz.f6.params.toList args.toList ds p:=hA0
 rw[Tryz.params6] at hA hval
 obtain⟨v0,vs0,d0,ds0,p0,q0,hargs,rfl,rfl,h0,r0⟩:=trodAll_cons hA
 obtain⟨rfl,rfl,rfl⟩:=trodAll_nil r0
 obtain rfl:args= #[v0]:=by cases args;simp_all
 obtain⟨rfl,rfl⟩:=trodVars_none hV
 have h0k:=h0
 obtain⟨pp0,mm0,w0,rfl,hf0,hb0⟩:=O6 (hval 0 22 v0 rfl rfl) h0
 clear hA0
 simp only[List.append_nil] at hW' hk
 have bd:Rows.uptoBulkAll [d0]≤1048576:=by simpa[Rows.uptoSmall] using hk
 simp only[Rows.uptoBulkAll] at bd
 have hlt0: ∀x∈p0,x.block<W.heap.size:=fun x hx=>by simpa using hW'.lt x (by simp[hx])
 refine(Pn w0 pp0 mm0 W hf0 (by omega) (VY hS) (Pi hL)).out.mono fun e W' ⟨u,he,_,hbl,_⟩=> ?_
 subst he
 exact⟨_,I,_,_,_,[],_,[],hW',trodAll_mk1 (shut_bool Tryz.underlying4 _),
  trodAll_cons_mk (Below.trod QR (by kernel_rfl) (of_decide_eq_true (by kernel_rfl)) h0k hbl hlt0) trodAll_mk0,
  rfl,hbl.frame _,fun h=>by cases h⟩
noncomputable def witArgs:Array Value:= #[.slice none 0 0]
theorem Fi (os:Os) {H:Type} (enc:TypeId×Value→H): ∃places,DataW.whole enc Tryz.prog ((witW os).forCall (fun _ _=>0) ⟨#[],witArgs,[]⟩).memory Tryz.f6.params.toList Rows.convexHullsSpec.vars false witArgs.toList 8=some ([.nil],[],places):=
 ⟨[],by kernel_rfl⟩
theorem VE (os:Os) (started:os.Started) (H:Type) (enc:TypeId×Value→H) (F:Stop.Interp):
  ReturnsInHanded {} Tryz.checked os 6 .any ((Rows.OpenSpec.upto Rows.convexHullsSpec).preRow enc Tryz.prog Tryz.f6 Rows.convexHullsUptoRow.domain false Rows.convexHullsUptoRow.laid) (((Rows.OpenSpec.upto Rows.convexHullsSpec).at F).post enc Tryz.prog Tryz.f6 false true false false):=by
 obtain⟨places,hx⟩:=Fi os enc
 refine returnsInHanded_of_row (C:=Tryz.checked) (s:=Rows.OpenSpec.upto Rows.convexHullsSpec) own started (by kernel_rfl) Tryz.func6
  (Vw os witArgs (by kernel_rfl) (OpenSpec.preRow_of_cond 8 hx (by kernel_rfl) (fun k hk=>by cases hk;kernel_rfl) (by kernel_rfl) (T8 os witArgs))) ?_
 intro W base args ds gs before hval hW _ hk _ hL hS _
 exact T2 H enc W base args ds gs before hval hW (hk _ I) hL hS
theorem k1:(Rows.convexHullsUptoRow.inPlace==Tryz.prog.inPlace 6)=true:=by kernel_rfl
theorem k2:(Rows.convexHullsUptoRow.unfollowed==Tryz.prog.unfollowed 6)=true:=by kernel_rfl
theorem k3:(Rows.convexHullsUptoRow.recurses==Tryz.prog.recurses 6)=true:=by kernel_rfl
theorem k4:(Rows.convexHullsUptoRow.named==Tryz.prog.varsNamed 6)=true:=by kernel_rfl
theorem k5:mapsRowed Tryz.prog=true:=by kernel_rfl
theorem k6:(Tryz.prog.stops==[])=true:=by kernel_rfl
theorem k7:(Tryz.prog.stopKnobs==[])=true:=by kernel_rfl
theorem k8:Tryz.prog.stopsHeard=true:=by kernel_rfl
theorem k9:Tryz.prog.mayEnter=true:=by kernel_rfl
theorem VX:joinedFacts Tryz.prog 6 Tryz.f6 (Rows.OpenSpec.upto Rows.convexHullsSpec).bare Rows.convexHullsUptoRow=true:=by
 unfold joinedFacts
 rw[k1,k2,k3,k4,k5,k6,k7,k8,k9,QR]
 kernel_rfl
theorem WS:Rows.ConvexHullsUptoSaid:=
 OpenClaim.holds_of_cond 6 Tryz.f6 rfl rfl rfl rfl rfl rfl rfl ⟨rfl,rfl,rfl,rfl,rfl⟩ rfl rfl rfl rfl rfl (by kernel_rfl) Tryz.func6 VX
  (of_decide_eq_true (by kernel_rfl)) (by unfold Func.isWrapper;first|(rw[if_pos (by decide+kernel)];kernel_rfl)|(rw[if_neg (by decide+kernel)];exact⟨rfl,rfl⟩))
  (fun os started H enc _ F=>by rw[OpenClaim.pre_eq_preRow];exact VE os started H enc F)
theorem Wy (f : FuncId) (fn : Func) (hf : Tryz.pinned.checked.prog.funcNamed "kingpost/kingpostlaw13.ConvexHulls" = some f) (hfn : Tryz.pinned.checked.prog.funcs[f]? = some fn) :
  true=Tryz.pinned.checked.prog.looks []∧ ∀(j:Nat) t,fn.params[j]? =some t→Tryz.pinned.checked.prog.wantsStandIn t=false:=by
 obtain rfl : f = 6 := Option.some.inj ((show Tryz.prog.funcNamed "kingpost/kingpostlaw13.ConvexHulls" = some 6 by kernel_rfl).symm.trans hf) |>.symm
 obtain rfl:fn=Tryz.f6:=(Option.some.inj (Tryz.func6.symm.trans hfn)).symm
 refine⟨by kernel_rfl,fun j t ht=> ?_⟩
 rw[Tryz.params6] at ht
 have hm:t∈[22]:=by simpa using Array.mem_of_getElem? ht
 have hall:([22].all fun u=> !Tryz.prog.wantsStandIn u)=true:=by kernel_rfl
 exact(show Tryz.prog.wantsStandIn t=false by simpa using List.all_eq_true.1 hall t hm)
theorem WI:false=Rows.convexHullsUptoRow.goesBy Tryz.pinned.checked.prog:=by kernel_rfl
theorem wf0:Rows.convexHullsUptoRow.wfByText (Rows.OpenSpec.upto Rows.convexHullsSpec)=true:=by kernel_rfl
theorem card:Rows.ConvexHullsUptoCardSaid:=
 Claim7.holds_tied_plain_at .later [] _ _ _ _ WS (fun _ h=>by cases h) wf0 (fun _ h=>by cases h) convexHullsUpto_row_tie rfl ⟨rfl,rfl⟩ (by kernel_rfl) rfl Wy WI
end CConvexHulls
theorem convexHulls_upto_card:Rows.ConvexHullsUptoCardSaid:=CConvexHulls.card
end
end Go.Proofs.YthndmdimmgkpgaaGreatDoor
