/-
  The law BeamForces:Check,Reactions,Shear,Moment and Total return the results of the reference implementation,for any beam and place;with its tied card.
-/
import Derived.Test.YtemghkmmcomalaaGreatDoorBff
set_option maxHeartbeats 64000000
namespace Go.Proofs.YtemghkmmcomalaaGreatDoor
section
open Go Go.RowKit Go.Am Go.ChangeShapes Go.WideShapes Go.ChangeAt
set_option maxRecDepth 100000
namespace CBeamForces
theorem Se (H:Type) (enc:TypeId×Value→H) (W:World) (base:Nat) (args:Array Value) (ds gs:List (DataW H)) (before:List MemPlace)
  (hval: ∀(j:Nat) t v,Tryz.f3.params[j]? =some t→args[j]? =some v→Value.okWide Tryz.prog W .any base t v)
  (hW:DataW.Whole enc Tryz.prog Tryz.f3.params.toList Rows.beamForcesSpec.vars false W args.toList ds gs before) (hk:Rows.uptoSmall H (ds++gs)=true) (hL:laidMetH Tryz.prog laidL W) (hS:W.ShapedOpen Tryz.prog):
  Calls Tryz.prog 3 args W fun e W'=> ∃v,e= .returned v∧Rows.beamForcesSpec.post enc Tryz.prog Tryz.f3 false true false false W args v W':=by
 have hW':=hW
 obtain⟨p,q,hA0,hV,rfl,hfz,hnd⟩:=hW
 have hA:DataW.TrodAll enc Tryz.prog W 0 (fun _=>true) true Tryz.f3.params.toList args.toList ds p:=hA0
 rw[Tryz.params3] at hA hval
 obtain⟨v0,vs0,d0,ds0,p0,q0,hargs,rfl,rfl,h0,r0⟩:=trodAll_cons hA
 obtain⟨v1,vs1,d1,ds1,p1,q1,rfl,rfl,rfl,h1,r1⟩:=trodAll_cons r0
 obtain⟨rfl,rfl,rfl⟩:=trodAll_nil r1
 obtain rfl:args= #[v0,v1]:=by cases args;simp_all
 obtain⟨rfl,rfl⟩:=trodVars_none hV
 have h0k:=h0
 obtain⟨w0,pp0,qq0,mm0,nn0,rfl,hf0,hs0,hb0⟩:=Qs (hval 0 26 v0 rfl rfl) h0
 have h1k:=h1
 obtain⟨y1,rfl,rfl,rfl,w1⟩:=Go.ChangeMaps.open_string Tryz.underlying22 (hval 1 22 v1 rfl rfl) h1
 obtain⟨b1,rfl⟩: ∃b:List UInt8,y1=⟨b.toArray⟩:=⟨y1.data.toList,by cases y1;simp⟩
 clear hA0
 simp only[List.append_nil] at hW' hk
 have bd:Rows.uptoBulkAll [d0, .lit (.string (⟨b1.toArray⟩:ByteArray).data.toList)]≤1048576:=by simpa[Rows.uptoSmall] using hk
 simp only[Rows.uptoBulkAll,Rows.uptoBulk] at bd
 have hlt0: ∀x∈p0,x.block<W.heap.size:=fun x hx=>by simpa using hW'.lt x (by simp[hx])
 refine(Mt w0 b1 (by omega) (by omega) (by omega) pp0 qq0 mm0 nn0 W ⟨hf0,hs0,Tn hS,Nu hL⟩).out.mono fun e W' ⟨u,he,_,hbl,_⟩=> ?_
 subst he
 exact⟨_,I,_,_,_,[],_,[],hW',trodAll_mk1 (shut_bool Tryz.underlying4 _),
  trodAll_cons_mk (Below.trod PC (by kernel_rfl) (of_decide_eq_true (by kernel_rfl)) h0k hbl hlt0) (trodAll_cons_mk (Go.ChangeMaps.shut_string Tryz.underlying22 w1) trodAll_mk0),
  rfl,hbl.frame _,fun h=>by cases h⟩
noncomputable def witArgs:Array Value:= #[.agg #[.string ⟨#[]⟩, .string ⟨#[]⟩, .string ⟨#[]⟩, .slice none 0 0, .slice none 0 0], .string ⟨#[]⟩]
theorem Ef (os:Os) {H:Type} (enc:TypeId×Value→H): ∃places,DataW.whole enc Tryz.prog ((witW os).forCall (fun _ _=>0) ⟨#[],witArgs,[]⟩).memory Tryz.f3.params.toList Rows.beamForcesSpec.vars false witArgs.toList 8=some ([.agg [.lit (.string []), .lit (.string []), .lit (.string []), .nil, .nil], .lit (.string [])],[],places):=
 ⟨[],by kernel_rfl⟩
theorem Tz (os:Os) (started:os.Started) (H:Type) (enc:TypeId×Value→H) (F:Stop.Interp):
  ReturnsInHanded {} Tryz.checked os 3 .any ((Rows.OpenSpec.upto Rows.beamForcesSpec).preRow enc Tryz.prog Tryz.f3 Rows.beamForcesUptoRow.domain false Rows.beamForcesUptoRow.laid) (((Rows.OpenSpec.upto Rows.beamForcesSpec).at F).post enc Tryz.prog Tryz.f3 false true false false):=by
 obtain⟨places,hx⟩:=Ef os enc
 refine returnsInHanded_of_row (C:=Tryz.checked) (s:=Rows.OpenSpec.upto Rows.beamForcesSpec) own started (by kernel_rfl) Tryz.func3
  (SE os witArgs (by kernel_rfl) (OpenSpec.preRow_of_cond 8 hx (by kernel_rfl) (fun k hk=>by cases hk;kernel_rfl) (by kernel_rfl) (QH os witArgs))) ?_
 intro W base args ds gs before hval hW _ hk _ hL hS _
 exact Se H enc W base args ds gs before hval hW (hk _ I) hL hS
theorem k1:(Rows.beamForcesUptoRow.inPlace==Tryz.prog.inPlace 3)=true:=by kernel_rfl
theorem k2:(Rows.beamForcesUptoRow.unfollowed==Tryz.prog.unfollowed 3)=true:=by kernel_rfl
theorem k3:(Rows.beamForcesUptoRow.recurses==Tryz.prog.recurses 3)=true:=by kernel_rfl
theorem k4:(Rows.beamForcesUptoRow.named==Tryz.prog.varsNamed 3)=true:=by kernel_rfl
theorem k5:mapsRowed Tryz.prog=true:=by kernel_rfl
theorem k6:(Tryz.prog.stops==[])=true:=by kernel_rfl
theorem k7:(Tryz.prog.stopKnobs==[])=true:=by kernel_rfl
theorem k8:Tryz.prog.stopsHeard=true:=by kernel_rfl
theorem k9:Tryz.prog.mayEnter=true:=by kernel_rfl
theorem Tx:joinedFacts Tryz.prog 3 Tryz.f3 (Rows.OpenSpec.upto Rows.beamForcesSpec).bare Rows.beamForcesUptoRow=true:=by
 unfold joinedFacts
 rw[k1,k2,k3,k4,k5,k6,k7,k8,k9,PC]
 kernel_rfl
theorem Ui:Rows.BeamForcesUptoSaid:=
 OpenClaim.holds_of_cond 3 Tryz.f3 rfl rfl rfl rfl rfl rfl rfl ⟨rfl,rfl,rfl,rfl,rfl⟩ rfl rfl rfl rfl rfl (by kernel_rfl) Tryz.func3 Tx
  (of_decide_eq_true (by kernel_rfl)) (by unfold Func.isWrapper;first|(rw[if_pos (by decide+kernel)];kernel_rfl)|(rw[if_neg (by decide+kernel)];exact⟨rfl,rfl⟩))
  (fun os started H enc _ F=>by rw[OpenClaim.pre_eq_preRow];exact Tz os started H enc F)
theorem TV (f : FuncId) (fn : Func) (hf : Tryz.pinned.checked.prog.funcNamed "kingpost/kingpostlaw52.BeamForces" = some f) (hfn : Tryz.pinned.checked.prog.funcs[f]? = some fn) :
  true=Tryz.pinned.checked.prog.looks []∧ ∀(j:Nat) t,fn.params[j]? =some t→Tryz.pinned.checked.prog.wantsStandIn t=false:=by
 obtain rfl : f = 3 := Option.some.inj ((show Tryz.prog.funcNamed "kingpost/kingpostlaw52.BeamForces" = some 3 by kernel_rfl).symm.trans hf) |>.symm
 obtain rfl:fn=Tryz.f3:=(Option.some.inj (Tryz.func3.symm.trans hfn)).symm
 refine⟨by kernel_rfl,fun j t ht=> ?_⟩
 rw[Tryz.params3] at ht
 have hm:t∈[26,22]:=by simpa using Array.mem_of_getElem? ht
 have hall:([26,22].all fun u=> !Tryz.prog.wantsStandIn u)=true:=by kernel_rfl
 exact(show Tryz.prog.wantsStandIn t=false by simpa using List.all_eq_true.1 hall t hm)
theorem TU:false=Rows.beamForcesUptoRow.goesBy Tryz.pinned.checked.prog:=by kernel_rfl
theorem wf0:Rows.beamForcesUptoRow.wfByText (Rows.OpenSpec.upto Rows.beamForcesSpec)=true:=by kernel_rfl
theorem card:Rows.BeamForcesUptoCardSaid:=
 Claim7.holds_tied_plain_at .later [] _ _ _ _ Ui (fun _ h=>by cases h) wf0 (fun _ h=>by cases h) beamForcesUpto_row_tie rfl ⟨rfl,rfl⟩ (by kernel_rfl) rfl TV TU
end CBeamForces
theorem beamForces_upto_card:Rows.BeamForcesUptoCardSaid:=CBeamForces.card
end
end Go.Proofs.YtemghkmmcomalaaGreatDoor
