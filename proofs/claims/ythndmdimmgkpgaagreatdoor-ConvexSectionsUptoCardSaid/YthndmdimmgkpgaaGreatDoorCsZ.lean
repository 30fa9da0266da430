/-
  The law ConvexSections:the ends of a section lie on the line and in the polygon,and there is one exactly if the line divides the polygon or goes along a side;with its tied card.
-/
import Derived.Test.YthndmdimmgkpgaaGreatDoorCsg
set_option maxHeartbeats 64000000
namespace Go.Proofs.YthndmdimmgkpgaaGreatDoor
section
open Go Go.RowKit Go.Am Go.ChangeShapes Go.WideShapes Go.ChangeAt
set_option maxRecDepth 100000
namespace CConvexSections
theorem Uc (H:Type) (enc:TypeId×Value→H) (W:World) (base:Nat) (args:Array Value) (ds gs:List (DataW H)) (before:List MemPlace)
  (hval: ∀(j:Nat) t v,Tryz.f5.params[j]? =some t→args[j]? =some v→Value.okWide Tryz.prog W .any base t v)
  (hW:DataW.Whole enc Tryz.prog Tryz.f5.params.toList Rows.convexSectionsSpec.vars false W args.toList ds gs before) (hk:Rows.uptoSmall H (ds++gs)=true) (hL:laidMetH Tryz.prog laidL W) (hS:W.ShapedOpen Tryz.prog):
  Calls Tryz.prog 5 args W fun e W'=> ∃v,e= .returned v∧Rows.convexSectionsSpec.post enc Tryz.prog Tryz.f5 false true false false W args v W':=by
 have hW':=hW
 obtain⟨p,q,hA0,hV,rfl,hfz,hnd⟩:=hW
 have hA:DataW.TrodAll enc Tryz.prog W 0 (fun _=>true) true Tryz.f5.params.toList args.toList ds p:=hA0
 rw[Tryz.params5] at hA hval
 obtain⟨v0,vs0,d0,ds0,p0,q0,hargs,rfl,rfl,h0,r0⟩:=trodAll_cons hA
 obtain⟨v1,vs1,d1,ds1,p1,q1,rfl,rfl,rfl,h1,r1⟩:=trodAll_cons r0
 obtain⟨v2,vs2,d2,ds2,p2,q2,rfl,rfl,rfl,h2,r2⟩:=trodAll_cons r1
 obtain⟨v3,vs3,d3,ds3,p3,q3,rfl,rfl,rfl,h3,r3⟩:=trodAll_cons r2
 obtain⟨rfl,rfl,rfl⟩:=trodAll_nil r3
 obtain rfl:args= #[v0,v1,v2,v3]:=by cases args;simp_all
 obtain⟨rfl,rfl⟩:=trodVars_none hV
 have h0k:=h0
 obtain⟨pp0,mm0,w0,rfl,hf0,hb0⟩:=PA (hval 0 22 v0 rfl rfl) h0
 have h1k:=h1
 obtain⟨y1,rfl,rfl,rfl,w1⟩:=Go.ChangeMaps.open_string Tryz.underlying23 (hval 1 23 v1 rfl rfl) h1
 obtain⟨b1,rfl⟩: ∃b:List UInt8,y1=⟨b.toArray⟩:=⟨y1.data.toList,by cases y1;simp⟩
 have h2k:=h2
 obtain⟨y2,rfl,rfl,rfl,w2⟩:=Go.ChangeMaps.open_string Tryz.underlying23 (hval 2 23 v2 rfl rfl) h2
 obtain⟨b2,rfl⟩: ∃b:List UInt8,y2=⟨b.toArray⟩:=⟨y2.data.toList,by cases y2;simp⟩
 have h3k:=h3
 obtain⟨y3,rfl,rfl,rfl,w3⟩:=Go.ChangeMaps.open_string Tryz.underlying23 (hval 3 23 v3 rfl rfl) h3
 obtain⟨b3,rfl⟩: ∃b:List UInt8,y3=⟨b.toArray⟩:=⟨y3.data.toList,by cases y3;simp⟩
 clear hA0
 simp only[List.append_nil] at hW' hk
 have bd:Rows.uptoBulkAll [d0, .lit (.string (⟨b1.toArray⟩:ByteArray).data.toList), .lit (.string (⟨b2.toArray⟩:ByteArray).data.toList), .lit (.string (⟨b3.toArray⟩:ByteArray).data.toList)]≤1048576:=by simpa[Rows.uptoSmall] using hk
 simp only[Rows.uptoBulkAll,Rows.uptoBulk] at bd
 have hlt0: ∀x∈p0,x.block<W.heap.size:=fun x hx=>by simpa using hW'.lt x (by simp[hx])
 refine(Lu w0 b1 b2 b3 pp0 mm0 W hf0 (by omega) (Xa hS) (Pk hL)).out.mono fun e W' ⟨u,he,_,hbl,_⟩=> ?_
 subst he
 exact⟨_,I,_,_,_,[],_,[],hW',trodAll_mk1 (shut_bool Tryz.underlying4 _),
  trodAll_cons_mk (Below.trod Sb (by kernel_rfl) (of_decide_eq_true (by kernel_rfl)) h0k hbl hlt0) (trodAll_cons_mk (Go.ChangeMaps.shut_string Tryz.underlying23 w1) (trodAll_cons_mk (Go.ChangeMaps.shut_string Tryz.underlying23 w2) (trodAll_cons_mk (Go.ChangeMaps.shut_string Tryz.underlying23 w3) trodAll_mk0))),
  rfl,hbl.frame _,fun h=>by cases h⟩
noncomputable def witArgs:Array Value:= #[.slice none 0 0, .string ⟨#[]⟩, .string ⟨#[]⟩, .string ⟨#[]⟩]
theorem FC (os:Os) {H:Type} (enc:TypeId×Value→H): ∃places,DataW.whole enc Tryz.prog ((witW os).forCall (fun _ _=>0) ⟨#[],witArgs,[]⟩).memory Tryz.f5.params.toList Rows.convexSectionsSpec.vars false witArgs.toList 8=some ([.nil, .lit (.string []), .lit (.string []), .lit (.string [])],[],places):=
 ⟨[],by kernel_rfl⟩
theorem WY (os:Os) (started:os.Started) (H:Type) (enc:TypeId×Value→H) (F:Stop.Interp):
  ReturnsInHanded {} Tryz.checked os 5 .any ((Rows.OpenSpec.upto Rows.convexSectionsSpec).preRow enc Tryz.prog Tryz.f5 Rows.convexSectionsUptoRow.domain false Rows.convexSectionsUptoRow.laid) (((Rows.OpenSpec.upto Rows.convexSectionsSpec).at F).post enc Tryz.prog Tryz.f5 false true false false):=by
 obtain⟨places,hx⟩:=FC os enc
 refine returnsInHanded_of_row (C:=Tryz.checked) (s:=Rows.OpenSpec.upto Rows.convexSectionsSpec) own started (by kernel_rfl) Tryz.func5
  (Wi os witArgs (by kernel_rfl) (OpenSpec.preRow_of_cond 8 hx (by kernel_rfl) (fun k hk=>by cases hk;kernel_rfl) (by kernel_rfl) (TV os witArgs))) ?_
 intro W base args ds gs before hval hW _ hk _ hL hS _
 exact Uc H enc W base args ds gs before hval hW (hk _ I) hL hS
theorem k1:(Rows.convexSectionsUptoRow.inPlace==Tryz.prog.inPlace 5)=true:=by kernel_rfl
theorem k2:(Rows.convexSectionsUptoRow.unfollowed==Tryz.prog.unfollowed 5)=true:=by kernel_rfl
theorem k3:(Rows.convexSectionsUptoRow.recurses==Tryz.prog.recurses 5)=true:=by kernel_rfl
theorem k4:(Rows.convexSectionsUptoRow.named==Tryz.prog.varsNamed 5)=true:=by kernel_rfl
theorem k5:mapsRowed Tryz.prog=true:=by kernel_rfl
theorem k6:(Tryz.prog.stops==[])=true:=by kernel_rfl
theorem k7:(Tryz.prog.stopKnobs==[])=true:=by kernel_rfl
theorem k8:Tryz.prog.stopsHeard=true:=by kernel_rfl
theorem k9:Tryz.prog.mayEnter=true:=by kernel_rfl
theorem XB:joinedFacts Tryz.prog 5 Tryz.f5 (Rows.OpenSpec.upto Rows.convexSectionsSpec).bare Rows.convexSectionsUptoRow=true:=by
 unfold joinedFacts
 rw[k1,k2,k3,k4,k5,k6,k7,k8,k9,Sb]
 kernel_rfl
theorem Yg:Rows.ConvexSectionsUptoSaid:=
 OpenClaim.holds_of_cond 5 Tryz.f5 rfl rfl rfl rfl rfl rfl rfl ⟨rfl,rfl,rfl,rfl,rfl⟩ rfl rfl rfl rfl rfl (by kernel_rfl) Tryz.func5 XB
  (of_decide_eq_true (by kernel_rfl)) (by unfold Func.isWrapper;first|(rw[if_pos (by decide+kernel)];kernel_rfl)|(rw[if_neg (by decide+kernel)];exact⟨rfl,rfl⟩))
  (fun os started H enc _ F=>by rw[OpenClaim.pre_eq_preRow];exact WY os started H enc F)
theorem XE (f : FuncId) (fn : Func) (hf : Tryz.pinned.checked.prog.funcNamed "kingpost/kingpostlaw13.ConvexSections" = some f) (hfn : Tryz.pinned.checked.prog.funcs[f]? = some fn) :
  true=Tryz.pinned.checked.prog.looks []∧ ∀(j:Nat) t,fn.params[j]? =some t→Tryz.pinned.checked.prog.wantsStandIn t=false:=by
 obtain rfl : f = 5 := Option.some.inj ((show Tryz.prog.funcNamed "kingpost/kingpostlaw13.ConvexSections" = some 5 by kernel_rfl).symm.trans hf) |>.symm
 obtain rfl:fn=Tryz.f5:=(Option.some.inj (Tryz.func5.symm.trans hfn)).symm
 refine⟨by kernel_rfl,fun j t ht=> ?_⟩
 rw[Tryz.params5] at ht
 have hm:t∈[22,23,23,23]:=by simpa using Array.mem_of_getElem? ht
 have hall:([22,23,23,23].all fun u=> !Tryz.prog.wantsStandIn u)=true:=by kernel_rfl
 exact(show Tryz.prog.wantsStandIn t=false by simpa using List.all_eq_true.1 hall t hm)
theorem XI:false=Rows.convexSectionsUptoRow.goesBy Tryz.pinned.checked.prog:=by kernel_rfl
theorem wf0:Rows.convexSectionsUptoRow.wfByText (Rows.OpenSpec.upto Rows.convexSectionsSpec)=true:=by kernel_rfl
theorem card:Rows.ConvexSectionsUptoCardSaid:=
 Claim7.holds_tied_plain_at .later [] _ _ _ _ Yg (fun _ h=>by cases h) wf0 (fun _ h=>by cases h) convexSectionsUpto_row_tie rfl ⟨rfl,rfl⟩ (by kernel_rfl) rfl XE XI
end CConvexSections
theorem convexSections_upto_card:Rows.ConvexSectionsUptoCardSaid:=CConvexSections.card
end
end Go.Proofs.YthndmdimmgkpgaaGreatDoor
