/-
  The law JournalAppends:what is appended is read again,in order,and nothing else;two files,one after the other,have the entries of both,for up to 10 entries with texts of up to 2000 bytes;with its tied card.
-/
import Derived.Test.YtidgbjcdppjknaaGreatDoorJah
set_option maxHeartbeats 64000000
namespace Go.Proofs.YtidgbjcdppjknaaGreatDoor
section
open Go Go.RowKit Go.Am Go.ChangeShapes Go.WideShapes Go.ChangeAt
set_option maxRecDepth 100000
namespace CJournalAppends
theorem Xt (H:Type) (enc:TypeId×Value->H) (W:World) (base:Nat) (args:Array Value) (ds gs:List (DataW H)) (before:List MemPlace)
  (hval: ∀(j:Nat) t v,Tryz.f3.params[j]? =some t->args[j]? =some v->Value.okWide Tryz.prog W .any base t v)
  (hW:DataW.Whole enc Tryz.prog Tryz.f3.params.toList Rows.journalAppendsSpec.vars false W args.toList ds gs before) (hk:Rows.uptoSmall H (ds++gs)=true) (hL:laidMetH Tryz.prog laidL W) (hS:W.ShapedOpen Tryz.prog):
  Calls Tryz.prog 3 args W fun e W'=> ∃v,e= .returned v/\Rows.journalAppendsSpec.post enc Tryz.prog Tryz.f3 false true false false W args v W':=by
 have hW':=hW
 obtain⟨p,q,hA0,hV,rfl,hfz,hnd⟩:=hW
 have hA:DataW.TrodAll enc Tryz.prog W 0 (fun _=>true) true Tryz.f3.params.toList args.toList ds p:=hA0
 rw[Tryz.params3] at hA hval
 obtain⟨v0,vs0,d0,ds0,p0,q0,hargs,rfl,rfl,h0,r0⟩:=trodAll_cons hA
 obtain⟨v1,vs1,d1,ds1,p1,q1,rfl,rfl,rfl,h1,r1⟩:=trodAll_cons r0
 obtain⟨rfl,rfl,rfl⟩:=trodAll_nil r1
 obtain rfl:args= #[v0,v1]:=by cases args;simp_all
 obtain⟨rfl,rfl⟩:=trodVars_none hV
 have h0k:=h0
 obtain⟨pp0,mm0,w0,rfl,hf0,hb0⟩:=RD (hval 0 22 v0 rfl rfl) h0
 have h1k:=h1
 obtain⟨pp1,mm1,w1,rfl,hf1,hb1⟩:=RD (hval 1 22 v1 rfl rfl) h1
 clear hA0
 simp only[List.append_nil] at hW' hk
 have bd:Rows.uptoBulkAll [d0,d1]<=1048576:=by simpa[Rows.uptoSmall] using hk
 simp only[Rows.uptoBulkAll] at bd
 have hlt0: ∀x∈p0,x.block<W.heap.size:=fun x hx=>by simpa using hW'.lt x (by simp[hx])
 have hlt1: ∀x∈p1,x.block<W.heap.size:=fun x hx=>by simpa using hW'.lt x (by simp[hx])
 refine(Nx w0 w1 pp0 pp1 mm0 mm1 (by omega) (by omega) W hf0 hf1 (ZL hL hS) (R6 hL) (XX hL)).out.mono fun e W' ⟨u,he,_,hbl,_⟩=> ?_
 subst he
 exact⟨_,I,_,_,_,[],_,[],hW',trodAll_mk1 (shut_bool Tryz.underlying4 _),
  trodAll_cons_mk (Below.trod O3 (by kernel_rfl) (of_decide_eq_true (by kernel_rfl)) h0k hbl hlt0) (trodAll_cons_mk (Below.trod O3 (by kernel_rfl) (of_decide_eq_true (by kernel_rfl)) h1k hbl hlt1) trodAll_mk0),
  rfl,hbl.frame _,fun h=>by cases h⟩
noncomputable def witArgs:Array Value:= #[.slice none 0 0, .slice none 0 0]
theorem Fv (os:Os) {H:Type} (enc:TypeId×Value->H): ∃places,DataW.whole enc Tryz.prog ((witW os).forCall (fun _ _=>0) ⟨#[],witArgs,[]⟩).memory Tryz.f3.params.toList Rows.journalAppendsSpec.vars false witArgs.toList 8=some ([.nil, .nil],[],places):=
 ⟨[],by kernel_rfl⟩
theorem bY (os:Os) (started:os.Started) (H:Type) (enc:TypeId×Value->H) (F:Stop.Interp):
  ReturnsInHanded {} Tryz.checked os 3 .any ((Rows.OpenSpec.upto Rows.journalAppendsSpec).preRow enc Tryz.prog Tryz.f3 Rows.journalAppendsUptoRow.domain false Rows.journalAppendsUptoRow.laid) (((Rows.OpenSpec.upto Rows.journalAppendsSpec).at F).post enc Tryz.prog Tryz.f3 false true false false):=by
 obtain⟨places,hx⟩:=Fv os enc
 refine returnsInHanded_of_row (C:=Tryz.checked) (s:=Rows.OpenSpec.upto Rows.journalAppendsSpec) own started (by kernel_rfl) Tryz.func3
  (Zu os witArgs (by kernel_rfl) (OpenSpec.preRow_of_cond 8 hx (by kernel_rfl) (fun k hk=>by cases hk;kernel_rfl) (by kernel_rfl) (Yn os witArgs))) ?_
 intro W base args ds gs before hval hW _ hk _ hL hS _
 exact Xt H enc W base args ds gs before hval hW (hk _ I) hL hS
theorem k1:(Rows.journalAppendsUptoRow.inPlace==Tryz.prog.inPlace 3)=true:=by kernel_rfl
theorem k2:(Rows.journalAppendsUptoRow.unfollowed==Tryz.prog.unfollowed 3)=true:=by kernel_rfl
theorem k3:(Rows.journalAppendsUptoRow.recurses==Tryz.prog.recurses 3)=true:=by kernel_rfl
theorem k4:(Rows.journalAppendsUptoRow.named==Tryz.prog.varsNamed 3)=true:=by kernel_rfl
theorem k5:mapsRowed Tryz.prog=true:=by kernel_rfl
theorem k6:(Tryz.prog.stops==[])=true:=by kernel_rfl
theorem k7:(Tryz.prog.stopKnobs==[])=true:=by kernel_rfl
theorem k8:Tryz.prog.stopsHeard=true:=by kernel_rfl
theorem k9:Tryz.prog.mayEnter=true:=by kernel_rfl
theorem aQ:joinedFacts Tryz.prog 3 Tryz.f3 (Rows.OpenSpec.upto Rows.journalAppendsSpec).bare Rows.journalAppendsUptoRow=true:=by
 unfold joinedFacts
 rw[k1,k2,k3,k4,k5,k6,k7,k8,k9,O3]
 kernel_rfl
theorem eR:Rows.JournalAppendsUptoSaid:=
 OpenClaim.holds_of_cond 3 Tryz.f3 rfl rfl rfl rfl rfl rfl rfl ⟨rfl,rfl,rfl,rfl,rfl⟩ rfl rfl rfl rfl rfl (by kernel_rfl) Tryz.func3 aQ
  (of_decide_eq_true (by kernel_rfl)) (by unfold Func.isWrapper;first|(rw[if_pos (by decide+kernel)];kernel_rfl)|(rw[if_neg (by decide+kernel)];exact⟨rfl,rfl⟩))
  (fun os started H enc _ F=>by rw[OpenClaim.pre_eq_preRow];exact bY os started H enc F)
theorem eG (f : FuncId) (fn : Func) (hf : Tryz.pinned.checked.prog.funcNamed "kingpost/kingpostlaw59.JournalAppends" = some f) (hfn : Tryz.pinned.checked.prog.funcs[f]? = some fn) :
  true=Tryz.pinned.checked.prog.looks []/\ ∀(j:Nat) t,fn.params[j]? =some t->Tryz.pinned.checked.prog.wantsStandIn t=false:=by
 obtain rfl : f = 3 := Option.some.inj ((show Tryz.prog.funcNamed "kingpost/kingpostlaw59.JournalAppends" = some 3 by kernel_rfl).symm.trans hf) |>.symm
 obtain rfl:fn=Tryz.f3:=(Option.some.inj (Tryz.func3.symm.trans hfn)).symm
 refine⟨by kernel_rfl,fun j t ht=> ?_⟩
 rw[Tryz.params3] at ht
 have hm:t∈[22,22]:=by simpa using Array.mem_of_getElem? ht
 have hall:([22,22].all fun u=> !Tryz.prog.wantsStandIn u)=true:=by kernel_rfl
 exact(show Tryz.prog.wantsStandIn t=false by simpa using List.all_eq_true.1 hall t hm)
theorem eD:false=Rows.journalAppendsUptoRow.goesBy Tryz.pinned.checked.prog:=by kernel_rfl
theorem wf0:Rows.journalAppendsUptoRow.wfByText (Rows.OpenSpec.upto Rows.journalAppendsSpec)=true:=by kernel_rfl
theorem card:Rows.JournalAppendsUptoCardSaid:=
 Claim7.holds_tied_plain_at .later [] _ _ _ _ eR (fun _ h=>by cases h) wf0 (fun _ h=>by cases h) journalAppendsUpto_row_tie rfl ⟨rfl,rfl⟩ (by kernel_rfl) rfl eG eD
end CJournalAppends
theorem journalAppends_upto_card:Rows.JournalAppendsUptoCardSaid:=CJournalAppends.card
end
end Go.Proofs.YtidgbjcdppjknaaGreatDoor
