/-
  The law JournalTorn:whatever is cut off at the end of a file,the records that are whole are read;the repaired file is the beginning,and nothing can be appended ahead of repairing it,for up to 10 entries with texts of up to 2000 bytes;with its tied card.
-/
import Derived.Test.YtidgbjcdppjknaaGreatDoorJta
set_option maxHeartbeats 64000000
namespace Go.Proofs.YtidgbjcdppjknaaGreatDoor
section
open Go Go.RowKit Go.Am Go.ChangeShapes Go.WideShapes Go.ChangeAt
set_option maxRecDepth 100000
namespace CJournalTorn
theorem Xv (H:Type) (enc:TypeId×Value->H) (W:World) (base:Nat) (args:Array Value) (ds gs:List (DataW H)) (before:List MemPlace)
  (hval: ∀(j:Nat) t v,Tryz.f4.params[j]? =some t->args[j]? =some v->Value.okWide Tryz.prog W .any base t v)
  (hW:DataW.Whole enc Tryz.prog Tryz.f4.params.toList Rows.journalTornSpec.vars false W args.toList ds gs before) (hk:Rows.uptoSmall H (ds++gs)=true) (hL:laidMetH Tryz.prog laidL W) (hS:W.ShapedOpen Tryz.prog):
  Calls Tryz.prog 4 args W fun e W'=> ∃v,e= .returned v/\Rows.journalTornSpec.post enc Tryz.prog Tryz.f4 false true false false W args v W':=by
 have hW':=hW
 obtain⟨p,q,hA0,hV,rfl,hfz,hnd⟩:=hW
 have hA:DataW.TrodAll enc Tryz.prog W 0 (fun _=>true) true Tryz.f4.params.toList args.toList ds p:=hA0
 rw[Tryz.params4] at hA hval
 obtain⟨v0,vs0,d0,ds0,p0,q0,hargs,rfl,rfl,h0,r0⟩:=trodAll_cons hA
 obtain⟨v1,vs1,d1,ds1,p1,q1,rfl,rfl,rfl,h1,r1⟩:=trodAll_cons r0
 obtain⟨rfl,rfl,rfl⟩:=trodAll_nil r1
 obtain rfl:args= #[v0,v1]:=by cases args;simp_all
 obtain⟨rfl,rfl⟩:=trodVars_none hV
 have h0k:=h0
 obtain⟨pp0,mm0,w0,rfl,hf0,hb0⟩:=YF (hval 0 22 v0 rfl rfl) h0
 have h1k:=h1
 obtain⟨x1,rfl,rfl,rfl,w1⟩:=open_int Tryz.underlying36 (hval 1 36 v1 rfl rfl) h1
 have b1:0<=x1/\x1<=65535:=by simpa[Lit.wf,IntKind.min,IntKind.max,IntKind.signed,IntKind.bits] using w1
 obtain⟨m1,rfl⟩: ∃m:Nat,x1=m:=⟨x1.toNat,by omega⟩
 clear hA0
 simp only[List.append_nil] at hW' hk
 have bd:Rows.uptoBulkAll [d0, .lit (.int .u16 m1)]<=1048576:=by simpa[Rows.uptoSmall] using hk
 simp only[Rows.uptoBulkAll,Rows.uptoBulk] at bd
 have hlt0: ∀x∈p0,x.block<W.heap.size:=fun x hx=>by simpa using hW'.lt x (by simp[hx])
 refine(BSq w0 pp0 mm0 (by omega) m1 W hf0 (by omega) (ZB hL hS) (Rr hL) (Ya hL)).out.mono fun e W' ⟨u,he,_,hbl,_⟩=> ?_
 subst he
 exact⟨_,I,_,_,_,[],_,[],hW',trodAll_mk1 (shut_bool Tryz.underlying4 _),
  trodAll_cons_mk (Below.trod UP (by kernel_rfl) (of_decide_eq_true (by kernel_rfl)) h0k hbl hlt0) (trodAll_cons_mk (shut_int Tryz.underlying36 w1) trodAll_mk0),
  rfl,hbl.frame _,fun h=>by cases h⟩
noncomputable def witArgs:Array Value:= #[.slice none 0 0, .int .u16 0]
theorem Fv (os:Os) {H:Type} (enc:TypeId×Value->H): ∃places,DataW.whole enc Tryz.prog ((witW os).forCall (fun _ _=>0) ⟨#[],witArgs,[]⟩).memory Tryz.f4.params.toList Rows.journalTornSpec.vars false witArgs.toList 8=some ([.nil, .lit (.int .u16 0)],[],places):=
 ⟨[],by kernel_rfl⟩
theorem dR (os:Os) (started:os.Started) (H:Type) (enc:TypeId×Value->H) (F:Stop.Interp):
  ReturnsInHanded {} Tryz.checked os 4 .any ((Rows.OpenSpec.upto Rows.journalTornSpec).preRow enc Tryz.prog Tryz.f4 Rows.journalTornUptoRow.domain false Rows.journalTornUptoRow.laid) (((Rows.OpenSpec.upto Rows.journalTornSpec).at F).post enc Tryz.prog Tryz.f4 false true false false):=by
 obtain⟨places,hx⟩:=Fv os enc
 refine returnsInHanded_of_row (C:=Tryz.checked) (s:=Rows.OpenSpec.upto Rows.journalTornSpec) own started (by kernel_rfl) Tryz.func4
  (ZQ os witArgs (by kernel_rfl) (OpenSpec.preRow_of_cond 8 hx (by kernel_rfl) (fun k hk=>by cases hk;kernel_rfl) (by kernel_rfl) (X6 os witArgs))) ?_
 intro W base args ds gs before hval hW _ hk _ hL hS _
 exact Xv H enc W base args ds gs before hval hW (hk _ I) hL hS
theorem k1:(Rows.journalTornUptoRow.inPlace==Tryz.prog.inPlace 4)=true:=by kernel_rfl
theorem k2:(Rows.journalTornUptoRow.unfollowed==Tryz.prog.unfollowed 4)=true:=by kernel_rfl
theorem k3:(Rows.journalTornUptoRow.recurses==Tryz.prog.recurses 4)=true:=by kernel_rfl
theorem k4:(Rows.journalTornUptoRow.named==Tryz.prog.varsNamed 4)=true:=by kernel_rfl
theorem k5:mapsRowed Tryz.prog=true:=by kernel_rfl
theorem k6:(Tryz.prog.stops==[])=true:=by kernel_rfl
theorem k7:(Tryz.prog.stopKnobs==[])=true:=by kernel_rfl
theorem k8:Tryz.prog.stopsHeard=true:=by kernel_rfl
theorem k9:Tryz.prog.mayEnter=true:=by kernel_rfl
theorem dE:joinedFacts Tryz.prog 4 Tryz.f4 (Rows.OpenSpec.upto Rows.journalTornSpec).bare Rows.journalTornUptoRow=true:=by
 unfold joinedFacts
 rw[k1,k2,k3,k4,k5,k6,k7,k8,k9,UP]
 kernel_rfl
theorem fM:Rows.JournalTornUptoSaid:=
 OpenClaim.holds_of_cond 4 Tryz.f4 rfl rfl rfl rfl rfl rfl rfl ⟨rfl,rfl,rfl,rfl,rfl⟩ rfl rfl rfl rfl rfl (by kernel_rfl) Tryz.func4 dE
  (of_decide_eq_true (by kernel_rfl)) (by unfold Func.isWrapper;first|(rw[if_pos (by decide+kernel)];kernel_rfl)|(rw[if_neg (by decide+kernel)];exact⟨rfl,rfl⟩))
  (fun os started H enc _ F=>by rw[OpenClaim.pre_eq_preRow];exact dR os started H enc F)
theorem eN (f : FuncId) (fn : Func) (hf : Tryz.pinned.checked.prog.funcNamed "kingpost/kingpostlaw59.JournalTorn" = some f) (hfn : Tryz.pinned.checked.prog.funcs[f]? = some fn) :
  true=Tryz.pinned.checked.prog.looks []/\ ∀(j:Nat) t,fn.params[j]? =some t->Tryz.pinned.checked.prog.wantsStandIn t=false:=by
 obtain rfl : f = 4 := Option.some.inj ((show Tryz.prog.funcNamed "kingpost/kingpostlaw59.JournalTorn" = some 4 by kernel_rfl).symm.trans hf) |>.symm
 obtain rfl:fn=Tryz.f4:=(Option.some.inj (Tryz.func4.symm.trans hfn)).symm
 refine⟨by kernel_rfl,fun j t ht=> ?_⟩
 rw[Tryz.params4] at ht
 have hm:t∈[22,36]:=by simpa using Array.mem_of_getElem? ht
 have hall:([22,36].all fun u=> !Tryz.prog.wantsStandIn u)=true:=by kernel_rfl
 exact(show Tryz.prog.wantsStandIn t=false by simpa using List.all_eq_true.1 hall t hm)
theorem eZ:false=Rows.journalTornUptoRow.goesBy Tryz.pinned.checked.prog:=by kernel_rfl
theorem wf0:Rows.journalTornUptoRow.wfByText (Rows.OpenSpec.upto Rows.journalTornSpec)=true:=by kernel_rfl
theorem card:Rows.JournalTornUptoCardSaid:=
 Claim7.holds_tied_plain_at .later [] _ _ _ _ fM (fun _ h=>by cases h) wf0 (fun _ h=>by cases h) journalTornUpto_row_tie rfl ⟨rfl,rfl⟩ (by kernel_rfl) rfl eN eZ
end CJournalTorn
theorem journalTorn_upto_card:Rows.JournalTornUptoCardSaid:=CJournalTorn.card
end
end Go.Proofs.YtidgbjcdppjknaaGreatDoor
