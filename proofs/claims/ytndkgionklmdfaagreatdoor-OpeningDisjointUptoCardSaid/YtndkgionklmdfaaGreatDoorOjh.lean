/-
  Lemmas that the theorem openingDisjoint_upto_card needs (part 8 of 8).
-/
import Derived.Test.YtndkgionklmdfaaGreatDoorOjg
import Derived.Test.YtndkgionklmdfaaGreatDoorCards
import Derived.Test.YtndkgionklmdfaaGreatDoorTie
import Derived.ProofKit
import Derived.OpenShut
import Derived.Deep.DeepHandedRow
import Derived.Lib.LaidTab
import Derived.Stop.LaidErr
import Derived.Lay
import Derived.SevenTiedAt
import Derived.Shelf.Vars
set_option maxHeartbeats 64000000
namespace Go.Proofs.YtndkgionklmdfaaGreatDoor
section
open Go Go.RowKit Go.Am Go.ChangeShapes Go.WideShapes Go.Deep Go.ChangeAt
set_option maxRecDepth 100000
section
variable {H:Type} {enc:TypeId×Value→H} {w:World} {base:Nat} {spare:Nat→Bool} {held:Bool} {v:Value} {d:DataW H} {ps:List MemPlace}
end
theorem own:ownKnob Tryz.prog.godebug=none:=by kernel_rfl
theorem Sg:laidOutB Tryz.prog=true:=by kernel_rfl
theorem I1:(laidL.all fun x=>x.2.handleName?.isNone)=true:=by kernel_rfl
theorem PX {W:World} (h:laidMetH Tryz.prog laidL W):AA W:=by
 rw[MakeChecks.laidMetH_plain _ _ _ I1] at h
 exact Lib.tabIs_of_head (g:=1) (t:=326) (e:=281) (n:=20) (by kernel_rfl) (by kernel_rfl) (by kernel_rfl) (by kernel_rfl) (by kernel_rfl) (by kernel_rfl) h.tail.tail
theorem XO {W:World} (hS:W.ShapedOpen Tryz.prog):AL W:=
 cell_of_shapedOpen_int (g:=6) (t:=3) (zero:= #[.int .i64 0]) hS (of_decide_eq_true (by kernel_rfl)) (by kernel_rfl) rfl (by kernel_rfl) (by kernel_rfl) Tryz.underlying3
noncomputable def witW (os:Os):World:=World.laidAll Tryz.prog os laidL
theorem UK (os:Os) (args:Array Value):laidMetH Tryz.prog laidL ((witW os).forCall (fun _ _=>0) ⟨#[],args,[]⟩).memory:=by
 rw[MakeChecks.laidMetH_plain _ _ _ I1]
 exact laidMet_laidAll _ (by kernel_rfl) (by kernel_rfl)
theorem Ro (os:Os) (args:Array Value):((witW os).forCall (fun _ _=>0) ⟨#[],args,[]⟩).Shaped Tryz.prog:=
 World.shaped_of_ZipB (by kernel_rfl) (by kernel_rfl)
theorem VU {H:Type} {enc:TypeId×Value→H} (os:Os) {f:FuncId} {fn:Func} {s:OpenSpec} {conds:List PathCond} (args:Array Value)
  (hok:Input.okWideB Tryz.prog ((witW os).forCall (fun _ _=>0) ⟨#[],args,[]⟩) f ⟨#[],args,[]⟩=true)
  (hrow:s.preRow enc Tryz.prog fn conds false laidL ((witW os).forCall (fun _ _=>0) ⟨#[],args,[]⟩).memory args):
  ∃(w:World) (tape:Tape) (i:Input),w.os=os∧(w.forCall tape i).Shaped Tryz.prog∧i.vars=[]∧Input.okWide Tryz.prog (w.forCall tape i) .any w.heap.size f i∧
   s.preRow enc Tryz.prog fn conds false laidL (w.forCall tape i).memory i.args∧({}:Assume).holds Tryz.prog (lone (Frame.enter Tryz.prog f i.args .normal) [] (w.forCall tape i)):=
 ⟨witW os,fun _ _=>0,⟨#[],args,[]⟩,World.laidAll_os _ _ _,Ro os args,(Input.okWide_of_okWideB (base:=0) hok).1,(Input.okWide_of_okWideB hok).2,hrow,by
  simp only[Assume.holds]
  exact⟨by simp,by simp,by simp,by simp,by simp,by simp⟩⟩
theorem Yd:Tryz.prog.cellsOf 183=2:=by kernel_rfl
theorem Yq:Tryz.prog.cellsOf 184=8:=by kernel_rfl
theorem Yg:Tryz.prog.cellsOf 4=1:=by kernel_rfl
theorem Y7:Tryz.prog.cellsOf 3=1:=by kernel_rfl
section
variable {H:Type} {enc:TypeId×Value→H} {w:World} {base:Nat} {spare:Nat→Bool} {held:Bool} {fuel:Nat} {cs:List Value} {x:DataW H×List MemPlace}
theorem IC (h:DataW.trod enc Tryz.prog w base spare held fuel 183 cs=some x): ∃(b:Bool) (z:Int),cs=[.bool b, .int .i64 z]∧x.1= .agg [.lit (.bool b), .lit (.int .i64 z)]:=by
 obtain⟨xs,m,rfl,rfl,hl,hn,hg⟩:=DataW.trod_struct Tryz.underlying183 h
 rw[Yd] at hl
 match cs,hl with
 |[u,v],_=>
  match xs,hn with
  |[y0,y1],_=>
   have h0:DataW.trod enc Tryz.prog w base spare held m 4 (([u,v].drop 0).take (Tryz.prog.cellsOf 4))=some y0:=hg 0 _ rfl
   have h1:DataW.trod enc Tryz.prog w base spare held m 3 (([u,v].drop 1).take (Tryz.prog.cellsOf 3))=some y1:=hg 1 _ rfl
   rw[Yg] at h0
   rw[Y7] at h1
   obtain⟨b,e0,f0⟩:=DataW.trod_bool Tryz.underlying4 h0
   obtain⟨z,e1,f1,_⟩:=DataW.trod_int Tryz.underlying3 h1
   refine⟨b,z, ?_, ?_⟩
   ·have a0:u= .bool b:=by simpa using e0
    have a1:v= .int .i64 z:=by simpa using e1
    rw[a0,a1]
   ·simp[f0,f1]
theorem T8 (h:DataW.trod enc Tryz.prog w base spare held fuel 184 cs=some x) (hx:x.1= .agg [.agg [.lit (.bool false), .lit (.int .i64 1)], .agg [.lit (.bool true), .lit (.int .i64 (-1))], .agg [.lit (.bool false), .lit (.int .i64 (-1))], .agg [.lit (.bool true), .lit (.int .i64 1)]]):cs=Xk:=by
 obtain⟨xs,m,rfl,rfl,hl,hn,hg⟩:=DataW.trod_array Tryz.underlying184 h
 rw[Yq] at hl
 match cs,hl with
 |[a0,a1,a2,a3,a4,a5,a6,a7],_=>
  match xs,hn with
  |[y0,y1,y2,y3],_=>
   have h0:=hg 0 (by decide)
   have h1:=hg 1 (by decide)
   have h2:=hg 2 (by decide)
   have h3:=hg 3 (by decide)
   rw[Yd] at h0 h1 h2 h3
   obtain⟨b0,z0,e0,f0⟩:=IC (x:=y0) h0
   obtain⟨b1,z1,e1,f1⟩:=IC (x:=y1) h1
   obtain⟨b2,z2,e2,f2⟩:=IC (x:=y2) h2
   obtain⟨b3,z3,e3,f3⟩:=IC (x:=y3) h3
   simp only[List.map_cons,List.map_nil,f0,f1,f2,f3,DataW.agg.injEq,List.cons.injEq,DataW.lit.injEq,Lit.bool.injEq,Lit.int.injEq,true_and,and_true] at hx
   obtain⟨⟨rfl,rfl⟩,⟨rfl,rfl⟩,⟨rfl,rfl⟩,⟨rfl,rfl⟩⟩:=hx
   simp at e0 e1 e2 e3
   obtain⟨rfl,rfl⟩:=e0
   obtain⟨rfl,rfl⟩:=e1
   obtain⟨rfl,rfl⟩:=e2
   obtain⟨rfl,rfl⟩:=e3
   rfl
end
theorem Q4 {W:World} (h:laidMetH Tryz.prog laidL W):HK W:=by
 rw[MakeChecks.laidMetH_plain _ _ _ I1] at h
 obtain⟨ps,⟨g',t',cs,fuel,p,q,hg',ht',hvar,hd,_,_⟩,_⟩:=h.tail.tail.tail.tail.tail.tail
 obtain rfl := Option.some.inj ((show Tryz.prog.globalNamed "kingpost/front.directions" = some 0 by kernel_rfl).symm.trans hg')
 obtain rfl:=Option.some.inj ((show(Tryz.prog.globals[0]?).map (·.type)=some 184 by kernel_rfl).symm.trans ht')
 have e:=T8 hd rfl
 have hc: ∀i u,Xk[i]? =some u→W.cell? ⟨0,i,none⟩=some u:=fun i u hu=>by
  rw[World.var?_cell hg' hvar i]
  rw[←e] at hu
  simpa using hu
 refine⟨?_,fun m u hu=> ?_⟩
 ·obtain⟨c,ty,fr,h1,_⟩:=Sort.cells_of_cell? (hc 0 _ rfl)
  exact(Array.getElem?_eq_some_iff.1 h1).1
 ·rw[Nat.zero_add]
  exact hc m u hu
end
end Go.Proofs.YtndkgionklmdfaaGreatDoor
