/-
  The law OpeningCheeks:cheeks are 0 at the distance of the feet,and higher by the pitch of the face further down;the opening of a dormer reaches from its front to its upper end,for valid plans of up to 8 sides and numbers of up to 8 bytes;with its tied card.
-/
import Derived.Test.YtndkgionklmdfaaGreatDoorOch
set_option maxHeartbeats 64000000
namespace Go.Proofs.YtndkgionklmdfaaGreatDoor
section
open Go Go.RowKit Go.Am Go.ChangeShapes Go.WideShapes Go.ChangeAt
set_option maxRecDepth 100000
namespace COpeningCheeks
theorem Xb (H:Type) (enc:TypeId×Value->H) (W:World) (base:Nat) (args:Array Value) (ds gs:List (DataW H)) (before:List MemPlace)
  (hval: ∀(j:Nat) t v,Tryz.f5.params[j]? =some t->args[j]? =some v->Value.okWide Tryz.prog W .any base t v)
  (hW:DataW.Whole enc Tryz.prog Tryz.f5.params.toList Rows.openingCheeksSpec.vars false W args.toList ds gs before) (hk:Rows.uptoSmall H (ds++gs)=true) (hL:laidMetH Tryz.prog laidL W) (hS:W.ShapedOpen Tryz.prog):
  Calls Tryz.prog 5 args W fun e W'=> ∃v,e= .returned v/\Rows.openingCheeksSpec.post enc Tryz.prog Tryz.f5 false true false false W args v W':=by
 have hW':=hW
 obtain⟨p,q,hA0,hV,rfl,hfz,hnd⟩:=hW
 have hA:DataW.TrodAll enc Tryz.prog W 0 (fun _=>true) true Tryz.f5.params.toList args.toList ds p:=hA0
 rw[Tryz.params5] at hA hval
 obtain⟨v0,vs0,d0,ds0,p0,q0,hargs,rfl,rfl,h0,r0⟩:=trodAll_cons hA
 obtain⟨v1,vs1,d1,ds1,p1,q1,rfl,rfl,rfl,h1,r1⟩:=trodAll_cons r0
 obtain⟨v2,vs2,d2,ds2,p2,q2,rfl,rfl,rfl,h2,r2⟩:=trodAll_cons r1
 obtain⟨rfl,rfl,rfl⟩:=trodAll_nil r2
 obtain rfl:args= #[v0,v1,v2]:=by cases args;simp_all
 obtain⟨rfl,rfl⟩:=trodVars_none hV
 have h0k:=h0
 obtain⟨a0,cap0,rs0,rfl,hR0,_,hb0⟩:=Vu (hval 0 36 v0 rfl rfl) h0
 have h1k:=h1
 obtain⟨sd1,ga1,gb1,xa1,xb1,xc1,rfl,hb1⟩:=P8 (hval 1 38 v1 rfl rfl) h1
 have h2k:=h2
 obtain⟨x2,rfl,rfl,rfl,w2⟩:=open_int Tryz.underlying5 (hval 2 5 v2 rfl rfl) h2
 have b2:0<=x2/\x2<=255:=by simpa[Lit.wf,IntKind.min,IntKind.max,IntKind.signed,IntKind.bits] using w2
 obtain⟨m2,rfl⟩: ∃m:Nat,x2=m:=⟨x2.toNat,by omega⟩
 clear hA0
 simp only[List.append_nil] at hW' hk
 have bd:Rows.uptoBulkAll [d0,d1, .lit (.int .u8 m2)]<=1048576:=by simpa[Rows.uptoSmall] using hk
 simp only[Rows.uptoBulkAll,Rows.uptoBulk] at bd
 have hlt0: ∀x∈p0,x.block<W.heap.size:=fun x hx=>by simpa using hW'.lt x (by simp[hx])
 have hlt1: ∀x∈p1,x.block<W.heap.size:=fun x hx=>by simpa using hW'.lt x (by simp[hx])
 refine(Ow W a0 cap0 rs0 (by omega) (by omega) hR0 (Sg hL) (ZI hS) (RL hL) sd1 ga1 gb1 xa1 xb1 xc1 m2 (by omega)).out.mono fun e W' ⟨u,he,_,hbl,_⟩=> ?_
 subst he
 exact⟨_,I,_,_,_,[],_,[],hW',trodAll_mk1 (shut_bool Tryz.underlying4 _),
  trodAll_cons_mk (Below.trod QT (by kernel_rfl) (of_decide_eq_true (by kernel_rfl)) h0k hbl hlt0) (trodAll_cons_mk (Below.trod QT (by kernel_rfl) (of_decide_eq_true (by kernel_rfl)) h1k hbl hlt1) (trodAll_cons_mk (shut_int Tryz.underlying5 w2) trodAll_mk0)),
  rfl,hbl.frame _,fun h=>by cases h⟩
noncomputable def witArgs:Array Value:= #[.agg #[.slice none 0 0], .agg #[.int .i64 0, .string ⟨#[]⟩, .string ⟨#[]⟩, .string ⟨#[]⟩, .int .i64 0, .int .i64 0], .int .u8 0]
theorem FZ (os:Os) {H:Type} (enc:TypeId×Value->H): ∃places,DataW.whole enc Tryz.prog ((witW os).forCall (fun _ _=>0) ⟨#[],witArgs,[]⟩).memory Tryz.f5.params.toList Rows.openingCheeksSpec.vars false witArgs.toList 8=some ([.agg [.nil], .agg [.lit (.int .i64 0), .lit (.string []), .lit (.string []), .lit (.string []), .lit (.int .i64 0), .lit (.int .i64 0)], .lit (.int .u8 0)],[],places):=
 ⟨[],by kernel_rfl⟩
theorem Z1 (os:Os) (started:os.Started) (H:Type) (enc:TypeId×Value->H) (F:Stop.Interp):
  ReturnsInHanded {} Tryz.checked os 5 .any ((Rows.OpenSpec.upto Rows.openingCheeksSpec).preRow enc Tryz.prog Tryz.f5 Rows.openingCheeksUptoRow.domain false Rows.openingCheeksUptoRow.laid) (((Rows.OpenSpec.upto Rows.openingCheeksSpec).at F).post enc Tryz.prog Tryz.f5 false true false false):=by
 obtain⟨places,hx⟩:=FZ os enc
 refine returnsInHanded_of_row (C:=Tryz.checked) (s:=Rows.OpenSpec.upto Rows.openingCheeksSpec) own started (by kernel_rfl) Tryz.func5
  (YI os witArgs (by kernel_rfl) (OpenSpec.preRow_of_cond 8 hx (by kernel_rfl) (fun k hk=>by cases hk;kernel_rfl) (by kernel_rfl) (Xt os witArgs))) ?_
 intro W base args ds gs before hval hW _ hk _ hL hS _
 exact Xb H enc W base args ds gs before hval hW (hk _ I) hL hS
theorem k1:(Rows.openingCheeksUptoRow.inPlace==Tryz.prog.inPlace 5)=true:=by kernel_rfl
theorem k2:(Rows.openingCheeksUptoRow.unfollowed==Tryz.prog.unfollowed 5)=true:=by kernel_rfl
theorem k3:(Rows.openingCheeksUptoRow.recurses==Tryz.prog.recurses 5)=true:=by kernel_rfl
theorem k4:(Rows.openingCheeksUptoRow.named==Tryz.prog.varsNamed 5)=true:=by kernel_rfl
theorem k5:mapsRowed Tryz.prog=true:=by kernel_rfl
theorem k6:(Tryz.prog.stops==[])=true:=by kernel_rfl
theorem k7:(Tryz.prog.stopKnobs==[])=true:=by kernel_rfl
theorem k8:Tryz.prog.stopsHeard=true:=by kernel_rfl
theorem k9:Tryz.prog.mayEnter=true:=by kernel_rfl
theorem aC:joinedFacts Tryz.prog 5 Tryz.f5 (Rows.OpenSpec.upto Rows.openingCheeksSpec).bare Rows.openingCheeksUptoRow=true:=by
 unfold joinedFacts
 rw[k1,k2,k3,k4,k5,k6,k7,k8,k9,QT]
 kernel_rfl
theorem cH:Rows.OpeningCheeksUptoSaid:=
 OpenClaim.holds_of_cond 5 Tryz.f5 rfl rfl rfl rfl rfl rfl rfl ⟨rfl,rfl,rfl,rfl,rfl⟩ rfl rfl rfl rfl rfl (by kernel_rfl) Tryz.func5 aC
  (of_decide_eq_true (by kernel_rfl)) (by unfold Func.isWrapper;first|(rw[if_pos (by decide+kernel)];kernel_rfl)|(rw[if_neg (by decide+kernel)];exact⟨rfl,rfl⟩))
  (fun os started H enc _ F=>by rw[OpenClaim.pre_eq_preRow];exact Z1 os started H enc F)
theorem cD (f : FuncId) (fn : Func) (hf : Tryz.pinned.checked.prog.funcNamed "kingpost/kingpostlaw25.OpeningCheeks" = some f) (hfn : Tryz.pinned.checked.prog.funcs[f]? = some fn) :
  true=Tryz.pinned.checked.prog.looks []/\ ∀(j:Nat) t,fn.params[j]? =some t->Tryz.pinned.checked.prog.wantsStandIn t=false:=by
 obtain rfl : f = 5 := Option.some.inj ((show Tryz.prog.funcNamed "kingpost/kingpostlaw25.OpeningCheeks" = some 5 by kernel_rfl).symm.trans hf) |>.symm
 obtain rfl:fn=Tryz.f5:=(Option.some.inj (Tryz.func5.symm.trans hfn)).symm
 refine⟨by kernel_rfl,fun j t ht=> ?_⟩
 rw[Tryz.params5] at ht
 have hm:t∈[36,38,5]:=by simpa using Array.mem_of_getElem? ht
 have hall:([36,38,5].all fun u=> !Tryz.prog.wantsStandIn u)=true:=by kernel_rfl
 exact(show Tryz.prog.wantsStandIn t=false by simpa using List.all_eq_true.1 hall t hm)
theorem bU:false=Rows.openingCheeksUptoRow.goesBy Tryz.pinned.checked.prog:=by kernel_rfl
theorem wf0:Rows.openingCheeksUptoRow.wfByText (Rows.OpenSpec.upto Rows.openingCheeksSpec)=true:=by kernel_rfl
theorem card:Rows.OpeningCheeksUptoCardSaid:=
 Claim7.holds_tied_plain_at .later [] _ _ _ _ cH (fun _ h=>by cases h) wf0 (fun _ h=>by cases h) openingCheeksUpto_row_tie rfl ⟨rfl,rfl⟩ (by kernel_rfl) rfl cD bU
end COpeningCheeks
theorem openingCheeks_upto_card:Rows.OpeningCheeksUptoCardSaid:=COpeningCheeks.card
end
end Go.Proofs.YtndkgionklmdfaaGreatDoor
