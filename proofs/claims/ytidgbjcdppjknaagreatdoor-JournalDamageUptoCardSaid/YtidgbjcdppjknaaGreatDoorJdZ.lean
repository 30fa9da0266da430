/-
  The law JournalDamage:a record ahead of another one whose line feed,first digit of the length,or kind is changed is found,or at least not read as it was,for up to 10 entries with texts of up to 2000 bytes;with its tied card.
-/
import Derived.Test.YtidgbjcdppjknaaGreatDoorJdh
set_option maxHeartbeats 64000000
namespace Go.Proofs.YtidgbjcdppjknaaGreatDoor
section
open Go Go.RowKit Go.Am Go.ChangeShapes Go.WideShapes Go.ChangeAt
set_option maxRecDepth 100000
namespace CJournalDamage
theorem Xv (H:Type) (enc:TypeId×Value->H) (W:World) (base:Nat) (args:Array Value) (ds gs:List (DataW H)) (before:List MemPlace)
  (hval: ∀(j:Nat) t v,Tryz.f5.params[j]? =some t->args[j]? =some v->Value.okWide Tryz.prog W .any base t v)
  (hW:DataW.Whole enc Tryz.prog Tryz.f5.params.toList Rows.journalDamageSpec.vars false W args.toList ds gs before) (hk:Rows.uptoSmall H (ds++gs)=true) (hL:laidMetH Tryz.prog laidL W) (hS:W.ShapedOpen Tryz.prog):
  Calls Tryz.prog 5 args W fun e W'=> ∃v,e= .returned v/\Rows.journalDamageSpec.post enc Tryz.prog Tryz.f5 false true false false W args v W':=by
 have hW':=hW
 obtain⟨p,q,hA0,hV,rfl,hfz,hnd⟩:=hW
 have hA:DataW.TrodAll enc Tryz.prog W 0 (fun _=>true) true Tryz.f5.params.toList args.toList ds p:=hA0
 rw[Tryz.params5] at hA hval
 obtain⟨v0,vs0,d0,ds0,p0,q0,hargs,rfl,rfl,h0,r0⟩:=trodAll_cons hA
 obtain⟨v1,vs1,d1,ds1,p1,q1,rfl,rfl,rfl,h1,r1⟩:=trodAll_cons r0
 obtain⟨v2,vs2,d2,ds2,p2,q2,rfl,rfl,rfl,h2,r2⟩:=trodAll_cons r1
 obtain⟨rfl,rfl,rfl⟩:=trodAll_nil r2
 obtain rfl:args= #[v0,v1,v2]:=by cases args;simp_all
 obtain⟨rfl,rfl⟩:=trodVars_none hV
 have h0k:=h0
 obtain⟨pp0,mm0,w0,rfl,hf0,hb0⟩:=YF (hval 0 22 v0 rfl rfl) h0
 have h1k:=h1
 obtain⟨x1,rfl,rfl,rfl,w1⟩:=open_int Tryz.underlying5 (hval 1 5 v1 rfl rfl) h1
 have b1:0<=x1/\x1<=255:=by simpa[Lit.wf,IntKind.min,IntKind.max,IntKind.signed,IntKind.bits] using w1
 obtain⟨m1,rfl⟩: ∃m:Nat,x1=m:=⟨x1.toNat,by omega⟩
 have h2k:=h2
 obtain⟨x2,rfl,rfl,rfl,w2⟩:=open_int Tryz.underlying5 (hval 2 5 v2 rfl rfl) h2
 have b2:0<=x2/\x2<=255:=by simpa[Lit.wf,IntKind.min,IntKind.max,IntKind.signed,IntKind.bits] using w2
 obtain⟨m2,rfl⟩: ∃m:Nat,x2=m:=⟨x2.toNat,by omega⟩
 clear hA0
 simp only[List.append_nil] at hW' hk
 have bd:Rows.uptoBulkAll [d0, .lit (.int .u8 m1), .lit (.int .u8 m2)]<=1048576:=by simpa[Rows.uptoSmall] using hk
 simp only[Rows.uptoBulkAll,Rows.uptoBulk] at bd
 have hlt0: ∀x∈p0,x.block<W.heap.size:=fun x hx=>by simpa using hW'.lt x (by simp[hx])
 refine((Pc w0 pp0 mm0 (by omega) m1 m2 W hf0 (by omega) (ZB hL hS) (Rr hL) (Ya hL))).out.mono fun e W' ⟨u,he,_,hbl,_⟩=> ?_
 subst he
 exact⟨_,I,_,_,_,[],_,[],hW',trodAll_mk1 (shut_bool Tryz.underlying4 _),
  trodAll_cons_mk (Below.trod UP (by kernel_rfl) (of_decide_eq_true (by kernel_rfl)) h0k hbl hlt0) (trodAll_cons_mk (shut_int Tryz.underlying5 w1) (trodAll_cons_mk (shut_int Tryz.underlying5 w2) trodAll_mk0)),
  rfl,hbl.frame _,fun h=>by cases h⟩
noncomputable def witArgs:Array Value:= #[.slice none 0 0, .int .u8 0, .int .u8 0]
theorem Fv (os:Os) {H:Type} (enc:TypeId×Value->H): ∃places,DataW.whole enc Tryz.prog ((witW os).forCall (fun _ _=>0) ⟨#[],witArgs,[]⟩).memory Tryz.f5.params.toList Rows.journalDamageSpec.vars false witArgs.toList 8=some ([.nil, .lit (.int .u8 0), .lit (.int .u8 0)],[],places):=
 ⟨[],by kernel_rfl⟩
theorem dR (os:Os) (started:os.Started) (H:Type) (enc:TypeId×Value->H) (F:Stop.Interp):
  ReturnsInHanded {} Tryz.checked os 5 .any ((Rows.OpenSpec.upto Rows.journalDamageSpec).preRow enc Tryz.prog Tryz.f5 Rows.journalDamageUptoRow.domain false Rows.journalDamageUptoRow.laid) (((Rows.OpenSpec.upto Rows.journalDamageSpec).at F).post enc Tryz.prog Tryz.f5 false true false false):=by
 obtain⟨places,hx⟩:=Fv os enc
 refine returnsInHanded_of_row (C:=Tryz.checked) (s:=Rows.OpenSpec.upto Rows.journalDamageSpec) own started (by kernel_rfl) Tryz.func5
  (ZQ os witArgs (by kernel_rfl) (OpenSpec.preRow_of_cond 8 hx (by kernel_rfl) (fun k hk=>by cases hk;kernel_rfl) (by kernel_rfl) (X6 os witArgs))) ?_
 intro W base args ds gs before hval hW _ hk _ hL hS _
 exact Xv H enc W base args ds gs before hval hW (hk _ I) hL hS
theorem k1:(Rows.journalDamageUptoRow.inPlace==Tryz.prog.inPlace 5)=true:=by kernel_rfl
theorem k2:(Rows.journalDamageUptoRow.unfollowed==Tryz.prog.unfollowed 5)=true:=by kernel_rfl
theorem k3:(Rows.journalDamageUptoRow.recurses==Tryz.prog.recurses 5)=true:=by kernel_rfl
theorem k4:(Rows.journalDamageUptoRow.named==Tryz.prog.varsNamed 5)=true:=by kernel_rfl
theorem k5:mapsRowed Tryz.prog=true:=by kernel_rfl
theorem k6:(Tryz.prog.stops==[])=true:=by kernel_rfl
theorem k7:(Tryz.prog.stopKnobs==[])=true:=by kernel_rfl
theorem k8:Tryz.prog.stopsHeard=true:=by kernel_rfl
theorem k9:Tryz.prog.mayEnter=true:=by kernel_rfl
theorem dE:joinedFacts Tryz.prog 5 Tryz.f5 (Rows.OpenSpec.upto Rows.journalDamageSpec).bare Rows.journalDamageUptoRow=true:=by
 unfold joinedFacts
 rw[k1,k2,k3,k4,k5,k6,k7,k8,k9,UP]
 kernel_rfl
theorem fM:Rows.JournalDamageUptoSaid:=
 OpenClaim.holds_of_cond 5 Tryz.f5 rfl rfl rfl rfl rfl rfl rfl ⟨rfl,rfl,rfl,rfl,rfl⟩ rfl rfl rfl rfl rfl (by kernel_rfl) Tryz.func5 dE
  (of_decide_eq_true (by kernel_rfl)) (by unfold Func.isWrapper;first|(rw[if_pos (by decide+kernel)];kernel_rfl)|(rw[if_neg (by decide+kernel)];exact⟨rfl,rfl⟩))
  (fun os started H enc _ F=>by rw[OpenClaim.pre_eq_preRow];exact dR os started H enc F)
theorem eN (f : FuncId) (fn : Func) (hf : Tryz.pinned.checked.prog.funcNamed "kingpost/kingpostlaw59.JournalDamage" = some f) (hfn : Tryz.pinned.checked.prog.funcs[f]? = some fn) :
  true=Tryz.pinned.checked.prog.looks []/\ ∀(j:Nat) t,fn.params[j]? =some t->Tryz.pinned.checked.prog.wantsStandIn t=false:=by
 obtain rfl : f = 5 := Option.some.inj ((show Tryz.prog.funcNamed "kingpost/kingpostlaw59.JournalDamage" = some 5 by kernel_rfl).symm.trans hf) |>.symm
 obtain rfl:fn=Tryz.f5:=(Option.some.inj (Tryz.func5.symm.trans hfn)).symm
 refine⟨by kernel_rfl,fun j t ht=> ?_⟩
 rw[Tryz.params5] at ht
 have hm:t∈[22,5,5]:=by simpa using Array.mem_of_getElem? ht
 have hall:([22,5,5].all fun u=> !Tryz.prog.wantsStandIn u)=true:=by kernel_rfl
 exact(show Tryz.prog.wantsStandIn t=false by simpa using List.all_eq_true.1 hall t hm)
theorem eZ:false=Rows.journalDamageUptoRow.goesBy Tryz.pinned.checked.prog:=by kernel_rfl
theorem wf0:Rows.journalDamageUptoRow.wfByText (Rows.OpenSpec.upto Rows.journalDamageSpec)=true:=by kernel_rfl
theorem card:Rows.JournalDamageUptoCardSaid:=
 Claim7.holds_tied_plain_at .later [] _ _ _ _ fM (fun _ h=>by cases h) wf0 (fun _ h=>by cases h) journalDamageUpto_row_tie rfl ⟨rfl,rfl⟩ (by kernel_rfl) rfl eN eZ
end CJournalDamage
theorem journalDamage_upto_card:Rows.JournalDamageUptoCardSaid:=CJournalDamage.card
end
end Go.Proofs.YtidgbjcdppjknaaGreatDoor
