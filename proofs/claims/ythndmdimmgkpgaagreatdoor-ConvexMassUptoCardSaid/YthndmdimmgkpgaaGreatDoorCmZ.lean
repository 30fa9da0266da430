/-
  The law ConvexMass:the centre of a convex polygon lies within it and its box,and moving the polygon moves it and keeps the area;with its tied card.
-/
import Derived.Test.YthndmdimmgkpgaaGreatDoorCmg
set_option maxHeartbeats 64000000
namespace Go.Proofs.YthndmdimmgkpgaaGreatDoor
section
open Go Go.RowKit Go.Am Go.ChangeShapes Go.WideShapes Go.ChangeAt
set_option maxRecDepth 100000
namespace CConvexMass
theorem UB (H:Type) (enc:TypeId×Value→H) (W:World) (base:Nat) (args:Array Value) (ds gs:List (DataW H)) (before:List MemPlace)
  (hval: ∀(j:Nat) t v,Tryz.f8.params[j]? =some t→args[j]? =some v→Value.okWide Tryz.prog W .any base t v)
  (hW:DataW.Whole enc Tryz.prog Tryz.f8.params.toList Rows.convexMassSpec.vars false W args.toList ds gs before) (hk:Rows.uptoSmall H (ds++gs)=true) (hL:laidMetH Tryz.prog laidL W) (hS:W.ShapedOpen Tryz.prog):
  Calls Tryz.prog 8 args W fun e W'=> ∃v,e= .returned v∧Rows.convexMassSpec.post enc Tryz.prog Tryz.f8 false true false false W args v W':=by
 have hW':=hW
 obtain⟨p,q,hA0,hV,rfl,hfz,hnd⟩:=hW
 have hA:DataW.TrodAll enc Tryz.prog W 0 (fun _=>true) true Tryz.f8.params.toList args.toList ds p:=hA0
 rw[Tryz.params8] at hA hval
 obtain⟨v0,vs0,d0,ds0,p0,q0,hargs,rfl,rfl,h0,r0⟩:=trodAll_cons hA
 obtain⟨v1,vs1,d1,ds1,p1,q1,rfl,rfl,rfl,h1,r1⟩:=trodAll_cons r0
 obtain⟨v2,vs2,d2,ds2,p2,q2,rfl,rfl,rfl,h2,r2⟩:=trodAll_cons r1
 obtain⟨rfl,rfl,rfl⟩:=trodAll_nil r2
 obtain rfl:args= #[v0,v1,v2]:=by cases args;simp_all
 obtain⟨rfl,rfl⟩:=trodVars_none hV
 have h0k:=h0
 obtain⟨pp0,mm0,w0,rfl,hf0,hb0⟩:=OJ (hval 0 22 v0 rfl rfl) h0
 have h1k:=h1
 obtain⟨y1,rfl,rfl,rfl,w1⟩:=Go.ChangeMaps.open_string Tryz.underlying23 (hval 1 23 v1 rfl rfl) h1
 obtain⟨b1,rfl⟩: ∃b:List UInt8,y1=⟨b.toArray⟩:=⟨y1.data.toList,by cases y1;simp⟩
 have h2k:=h2
 obtain⟨y2,rfl,rfl,rfl,w2⟩:=Go.ChangeMaps.open_string Tryz.underlying23 (hval 2 23 v2 rfl rfl) h2
 obtain⟨b2,rfl⟩: ∃b:List UInt8,y2=⟨b.toArray⟩:=⟨y2.data.toList,by cases y2;simp⟩
 clear hA0
 simp only[List.append_nil] at hW' hk
 have bd:Rows.uptoBulkAll [d0, .lit (.string (⟨b1.toArray⟩:ByteArray).data.toList), .lit (.string (⟨b2.toArray⟩:ByteArray).data.toList)]≤1048576:=by simpa[Rows.uptoSmall] using hk
 simp only[Rows.uptoBulkAll,Rows.uptoBulk] at bd
 have hlt0: ∀x∈p0,x.block<W.heap.size:=fun x hx=>by simpa using hW'.lt x (by simp[hx])
 refine(Rc w0 b1 b2 pp0 mm0 W hf0 (by omega) (V5 h0k) (Xk hS) (PQ hL)).out.mono fun e W' ⟨u,he,_,hbl,_⟩=> ?_
 subst he
 exact⟨_,I,_,_,_,[],_,[],hW',trodAll_mk1 (shut_bool Tryz.underlying4 _),
  trodAll_cons_mk (Below.trod RP (by kernel_rfl) (of_decide_eq_true (by kernel_rfl)) h0k hbl hlt0) (trodAll_cons_mk (Go.ChangeMaps.shut_string Tryz.underlying23 w1) (trodAll_cons_mk (Go.ChangeMaps.shut_string Tryz.underlying23 w2) trodAll_mk0)),
  rfl,hbl.frame _,fun h=>by cases h⟩
noncomputable def witArgs:Array Value:= #[.slice none 0 0, .string ⟨#[]⟩, .string ⟨#[]⟩]
theorem F1 (os:Os) {H:Type} (enc:TypeId×Value→H): ∃places,DataW.whole enc Tryz.prog ((witW os).forCall (fun _ _=>0) ⟨#[],witArgs,[]⟩).memory Tryz.f8.params.toList Rows.convexMassSpec.vars false witArgs.toList 8=some ([.nil, .lit (.string []), .lit (.string [])],[],places):=
 ⟨[],by kernel_rfl⟩
theorem Xc (os:Os) (started:os.Started) (H:Type) (enc:TypeId×Value→H) (F:Stop.Interp):
  ReturnsInHanded {} Tryz.checked os 8 .any ((Rows.OpenSpec.upto Rows.convexMassSpec).preRow enc Tryz.prog Tryz.f8 Rows.convexMassUptoRow.domain false Rows.convexMassUptoRow.laid) (((Rows.OpenSpec.upto Rows.convexMassSpec).at F).post enc Tryz.prog Tryz.f8 false true false false):=by
 obtain⟨places,hx⟩:=F1 os enc
 refine returnsInHanded_of_row (C:=Tryz.checked) (s:=Rows.OpenSpec.upto Rows.convexMassSpec) own started (by kernel_rfl) Tryz.func8
  (Wd os witArgs (by kernel_rfl) (OpenSpec.preRow_of_cond 8 hx (by kernel_rfl) (fun k hk=>by cases hk;kernel_rfl) (by kernel_rfl) (TR os witArgs))) ?_
 intro W base args ds gs before hval hW _ hk _ hL hS _
 exact UB H enc W base args ds gs before hval hW (hk _ I) hL hS
theorem k1:(Rows.convexMassUptoRow.inPlace==Tryz.prog.inPlace 8)=true:=by kernel_rfl
theorem k2:(Rows.convexMassUptoRow.unfollowed==Tryz.prog.unfollowed 8)=true:=by kernel_rfl
theorem k3:(Rows.convexMassUptoRow.recurses==Tryz.prog.recurses 8)=true:=by kernel_rfl
theorem k4:(Rows.convexMassUptoRow.named==Tryz.prog.varsNamed 8)=true:=by kernel_rfl
theorem k5:mapsRowed Tryz.prog=true:=by kernel_rfl
theorem k6:(Tryz.prog.stops==[])=true:=by kernel_rfl
theorem k7:(Tryz.prog.stopKnobs==[])=true:=by kernel_rfl
theorem k8:Tryz.prog.stopsHeard=true:=by kernel_rfl
theorem k9:Tryz.prog.mayEnter=true:=by kernel_rfl
theorem Xm:joinedFacts Tryz.prog 8 Tryz.f8 (Rows.OpenSpec.upto Rows.convexMassSpec).bare Rows.convexMassUptoRow=true:=by
 unfold joinedFacts
 rw[k1,k2,k3,k4,k5,k6,k7,k8,k9,RP]
 kernel_rfl
theorem XM:Rows.ConvexMassUptoSaid:=
 OpenClaim.holds_of_cond 8 Tryz.f8 rfl rfl rfl rfl rfl rfl rfl ⟨rfl,rfl,rfl,rfl,rfl⟩ rfl rfl rfl rfl rfl (by kernel_rfl) Tryz.func8 Xm
  (of_decide_eq_true (by kernel_rfl)) (by unfold Func.isWrapper;first|(rw[if_pos (by decide+kernel)];kernel_rfl)|(rw[if_neg (by decide+kernel)];exact⟨rfl,rfl⟩))
  (fun os started H enc _ F=>by rw[OpenClaim.pre_eq_preRow];exact Xc os started H enc F)
theorem X7 (f : FuncId) (fn : Func) (hf : Tryz.pinned.checked.prog.funcNamed "kingpost/kingpostlaw13.ConvexMass" = some f) (hfn : Tryz.pinned.checked.prog.funcs[f]? = some fn) :
  true=Tryz.pinned.checked.prog.looks []∧ ∀(j:Nat) t,fn.params[j]? =some t→Tryz.pinned.checked.prog.wantsStandIn t=false:=by
 obtain rfl : f = 8 := Option.some.inj ((show Tryz.prog.funcNamed "kingpost/kingpostlaw13.ConvexMass" = some 8 by kernel_rfl).symm.trans hf) |>.symm
 obtain rfl:fn=Tryz.f8:=(Option.some.inj (Tryz.func8.symm.trans hfn)).symm
 refine⟨by kernel_rfl,fun j t ht=> ?_⟩
 rw[Tryz.params8] at ht
 have hm:t∈[22,23,23]:=by simpa using Array.mem_of_getElem? ht
 have hall:([22,23,23].all fun u=> !Tryz.prog.wantsStandIn u)=true:=by kernel_rfl
 exact(show Tryz.prog.wantsStandIn t=false by simpa using List.all_eq_true.1 hall t hm)
theorem XF:false=Rows.convexMassUptoRow.goesBy Tryz.pinned.checked.prog:=by kernel_rfl
theorem wf0:Rows.convexMassUptoRow.wfByText (Rows.OpenSpec.upto Rows.convexMassSpec)=true:=by kernel_rfl
theorem card:Rows.ConvexMassUptoCardSaid:=
 Claim7.holds_tied_plain_at .later [] _ _ _ _ XM (fun _ h=>by cases h) wf0 (fun _ h=>by cases h) convexMassUpto_row_tie rfl ⟨rfl,rfl⟩ (by kernel_rfl) rfl X7 XF
end CConvexMass
theorem convexMass_upto_card:Rows.ConvexMassUptoCardSaid:=CConvexMass.card
end
end Go.Proofs.YthndmdimmgkpgaaGreatDoor
