/-
  Lemmas that the theorem levelSteady_upto_card needs (part 6 of 7).
-/
import Derived.Test.YtlagebbefnnnnaaGreatDoorSte
namespace Go.Proofs.YtlagebbefnnnnaaGreatDoor
open Go Go.RowKit Go.Am
set_option maxRecDepth 10000
-- BOXES 1
def axR (l:List Sd) (i:Nat):Bool:=w64 (w64 (dirX l i*dirX l i)+w64 (dirY l i*dirY l i))==1
def okR (l:List Sd) (i:Nat):Bool:=axR l i&& !(trnR l i==0)
def shpR (l:List Sd):Bool:=(List.range l.length).all (okR l)&&decide (l.length≥4)
theorem shpR_false {l:List Sd} {k:Nat} (hk:k<l.length) (h:okR l k=false):shpR l=false:=by
 unfold shpR
 rw[all_range_false hk h];rfl
set_option maxHeartbeats 4000000 in
theorem shapedR_gives (W:World) (p:Option Addr) (cap:Nat) (l:List Sd) (hn:l.length<4611686018427387904) (hR:RingP W p l):
  CallsR Tryz.prog 47 #[slv p l.length cap] W (fun _:Unit=> .bool (shpR l)) (fun _=>True) (fun _=>[]):=by
 refine calls_enter (args:=[slv p l.length cap]) Tryz.func47 rfl rfl rfl ?_
 refine zA (zB (wP rfl (wl_nil (zE (zA (zA (zB (wP rfl (wl_nil (zE (zH ?_)))))))))))
 refine wc_loop (X:=Nat) (fun k=>[(0,slv p l.length cap),(3, .int .i64 (k:Nat))]) (fun _=>[]) (fun k=>k≤l.length∧ ∀i,i<k→okR l i=true) (fun k=>l.length-k) 0 ⟨Nat.zero_le _,fun i hi=>absurd hi (Nat.not_lt_zero _)⟩ ⟨rfl,rfl,trivial⟩ [] rfl ?_
 rintro k ⟨hk,hok⟩
 refine zA (zA (zB (wP rfl (wP rfl (wP rfl (wP rfl (wl_nil (zE ?_))))))))
 refine wc_cond rfl (fun h=> ?_) (fun h=> ?_)
 rotate_left
 ·have e:k=l.length:=by simp at h;omega
  subst e
  refine zJ (zK (zK (zL (zE (zA (zB (wP rfl (wP rfl (wP rfl (wP rfl (wl_nil (zE (zO ?_)))))))))))))
  have hall:(List.range l.length).all (okR l)=true:=List.all_eq_true.2 fun i hi=>hok i (List.mem_range.1 hi)
  have e:shpR l=decide ((l.length:Int)≥4):=by
   unfold shpR
   rw[hall,Bool.true_and]
   by_cases h4:l.length≥4
   ·rw[decide_eq_true h4,decide_eq_true (by omega)]
   ·rw[decide_eq_false h4,decide_eq_false (by omega)]
  exact ne_ret1 tH rfl (.tmp rfl) () (by rw[e]) trivial fun W _=>NewBx.nil _ _
 have hk:k<l.length:=by simp at h;omega
 clear h
 refine zI (zE (zA (zH (zA (zB (wP rfl (wP rfl ?_)))))))
 refine wl_call1 rfl rfl rfl rfl rfl rfl (by kernel_rfl) (fun W hp=>direction_gives W _ cap l k hn (hR.hp hp) hk) ?_
 iterate 5 refine wP rfl ?_
 refine wl_nil (zE (zA (zB ?_)))
 iterate 9 refine wP rfl ?_
 refine wl_part 26 rfl (fun h26=> ?_) (fun h26=> ?_)
 ·refine wl_skip rfl rfl ?_
  iterate 3 refine wl_skip rfl rfl ?_
  refine wP rfl (wl_nil (zE (zR rfl (zA (zB (wP rfl (wl_nil (zE (zO (zQ (zP (zP (zQ ?_)))))))))))))
  refine zP ?_
  have h':(w64 (w64 (dirX l k*dirX l k)+w64 (dirY l k*dirY l k)) !=1)=true:=h26
  have hf:okR l k=false:=by unfold okR axR;rw[bne_iff_ne] at h';rw[beq_eq_false_iff_ne.2 h'];rfl
  exact ne_ret1 tH rfl (.tmp rfl) () (by rw[shpR_false hk hf]) trivial fun W _=>NewBx.nil _ _
 ·refine wP rfl (wP rfl ?_)
  refine wl_call1 rfl rfl rfl rfl rfl rfl (by kernel_rfl) (fun W hp=>turn_gives W _ cap l k hn (hR.hp hp) hk) ?_
  refine wP rfl (wP rfl (wl_nil ?_))
  have h':(w64 (w64 (dirX l k*dirX l k)+w64 (dirY l k*dirY l k)) !=1)=false:=h26
  have ha:axR l k=true:=by unfold axR;rw[bne_eq_false_iff_eq] at h';rw[beq_iff_eq];exact h'
  refine zE ?_
  refine wc_cond rfl (fun h=> ?_) (fun h=> ?_)
  ·refine zA (zB (wP rfl (wl_nil (zE (zO (zQ (zP (zP (zQ (zP ?_))))))))))
   have hf:okR l k=false:=by unfold okR;rw[show(trnR l k==0)=true from h,Bool.not_true,Bool.and_false]
   exact ne_ret1 tH rfl (.tmp rfl) () (by rw[shpR_false hk hf]) trivial fun W _=>NewBx.nil _ _
  ·have hf:okR l k=true:=by unfold okR;rw[ha,show(trnR l k==0)=false from h];rfl
   refine zI (zN (zE (zB (wP rfl (wP rfl (wP rfl (wl_nil ?_)))))))
   refine ne_loop (k+1) ⟨hk,fun i hi=> ?_⟩ (by omega) ⟨rfl,congrArg (fun z=>some (Value.int .i64 z)) (wrap_id (x:=(k:Int)+1) (by omega) (by omega)),trivial⟩ [] rfl
   by_cases e:i=k
   ·subst e;exact hf
   ·exact hok i (by omega)
set_option maxHeartbeats 4000000 in
theorem touch_gives (W:World) (p q:Option Addr) (cap caq:Nat) (l m:List Sd) (i k:Nat) (hn:l.length<4611686018427387904) (hm:m.length<4611686018427387904) (hR:RingP W p l) (hS:RingP W q m) (hi:i<l.length) (hk:k<m.length):
  CallsR Tryz.prog 120 #[slv p l.length cap, .int .i64 (i:Nat),slv q m.length caq, .int .i64 (k:Nat)] W (fun _:Unit=> .bool (meetB (sd l i) (sd l (nxt l.length i)) (sd m k) (sd m (nxt m.length k)))) (fun _=>True) (fun _=>[]):=by
 obtain⟨b,off,rfl,hrow⟩:=hR.row hi
 obtain⟨b',off',rfl,hrow'⟩:=hS.row hk
 refine calls_enter (args:=[slv (some ⟨b,off,none⟩) l.length cap, .int .i64 (i:Nat),slv (some ⟨b',off',none⟩) m.length caq, .int .i64 (k:Nat)]) Tryz.func120 rfl rfl rfl ?_
 refine zA (zB (wP rfl (wl_nil (zE (zA (zB (wP rfl (wP rfl ?_))))))))
 refine wl_call1 rfl rfl rfl rfl rfl rfl (by kernel_rfl) (fun W hp=>end_gives W _ cap l i hn (hR.hp hp) hi) ?_
 iterate 5 refine wP rfl ?_
 refine wl_nil (zE (zA (zB (wP rfl (wP rfl ?_)))))
 refine wl_call1 rfl rfl rfl rfl rfl rfl (by kernel_rfl) (fun W hp=>end_gives W _ caq m k hm (hS.hp hp) hk) ?_
 iterate 5 refine wP rfl ?_
 refine wl_nil ?_
 obtain⟨B1,e1⟩: ∃b,decide (lox (sd l i) (sd l (nxt l.length i))≤hix (sd m k) (sd m (nxt m.length k)))=b:=⟨_,rfl⟩
 obtain⟨B2,e2⟩: ∃b,decide (lox (sd m k) (sd m (nxt m.length k))≤hix (sd l i) (sd l (nxt l.length i)))=b:=⟨_,rfl⟩
 obtain⟨B3,e3⟩: ∃b,decide (loy (sd l i) (sd l (nxt l.length i))≤hiy (sd m k) (sd m (nxt m.length k)))=b:=⟨_,rfl⟩
 obtain⟨B4,e4⟩: ∃b,decide (loy (sd m k) (sd m (nxt m.length k))≤hiy (sd l i) (sd l (nxt l.length i)))=b:=⟨_,rfl⟩
 have hM:meetB (sd l i) (sd l (nxt l.length i)) (sd m k) (sd m (nxt m.length k))=(B1&&B2&&B3&&B4):=by unfold meetB;rw[e1,e2,e3,e4]
 refine zE (zA ?_)
 refine zT Tryz.mixed (by kernel_rfl) ?_
 refine qP rfl (qP rfl ?_)
 refine qI rfl rfl (by omega) (by omega) ?_
 refine qP rfl ?_
 refine wq_load rfl rfl rfl rfl (fun W hp=>RowAt.load 0 tH rfl ((fun W hp=>(hrow i hi).hp hp) W hp) rfl) ?_
 refine qP rfl (qP rfl (qP rfl (qP rfl ?_)))
 refine qI rfl rfl (by omega) (by omega) ?_
 refine qP rfl ?_
 refine wq_load rfl rfl rfl rfl (fun W hp=>RowAt.load 0 tH rfl ((fun W hp=>(hrow' k hk).hp hp) W hp) rfl) ?_
 refine qP rfl (qP rfl (qP rfl (qP rfl ?_)))
 refine wq_part 40 rfl (fun h40=> ?_) (fun h40=> ?_)
 ·refine qP rfl (qP rfl ?_)
  refine qI rfl rfl (by omega) (by omega) ?_
  refine qP rfl ?_
  refine wq_load rfl rfl rfl rfl (fun W hp=>RowAt.load 0 tH rfl ((fun W hp=>(hrow' k hk).hp hp) W hp) rfl) ?_
  refine qP rfl (qP rfl (qP rfl (qP rfl ?_)))
  refine qI rfl rfl (by omega) (by omega) ?_
  refine qP rfl ?_
  refine wq_load rfl rfl rfl rfl (fun W hp=>RowAt.load 0 tH rfl ((fun W hp=>(hrow i hi).hp hp) W hp) rfl) ?_
  iterate 5 refine qP rfl ?_
  refine wq_part 57 rfl (fun h57=> ?_) (fun h57=> ?_)
  ·refine qP rfl (qP rfl ?_)
   refine qI rfl rfl (by omega) (by omega) ?_
   refine qP rfl ?_
   refine wq_load rfl rfl rfl rfl (fun W hp=>RowAt.load 1 tH rfl ((fun W hp=>(hrow i hi).hp hp) W hp) rfl) ?_
   refine qP rfl (qP rfl (qP rfl (qP rfl ?_)))
   refine qI rfl rfl (by omega) (by omega) ?_
   refine qP rfl ?_
   refine wq_load rfl rfl rfl rfl (fun W hp=>RowAt.load 1 tH rfl ((fun W hp=>(hrow' k hk).hp hp) W hp) rfl) ?_
   iterate 5 refine qP rfl ?_
   refine wq_part 74 rfl (fun h74=> ?_) (fun h74=> ?_)
   ·refine qP rfl (qP rfl ?_)
    refine qI rfl rfl (by omega) (by omega) ?_
    refine qP rfl ?_
    refine wq_load rfl rfl rfl rfl (fun W hp=>RowAt.load 1 tH rfl ((fun W hp=>(hrow' k hk).hp hp) W hp) rfl) ?_
    refine qP rfl (qP rfl (qP rfl (qP rfl ?_)))
    refine qI rfl rfl (by omega) (by omega) ?_
    refine qP rfl ?_
    refine wq_load rfl rfl rfl rfl (fun W hp=>RowAt.load 1 tH rfl ((fun W hp=>(hrow i hi).hp hp) W hp) rfl) ?_
    iterate 5 refine qP rfl ?_
    refine wq_nil (wl_nil (zE (zO ?_)))
    exact ne_ret1 tH rfl (.tmp rfl) () (by rw[hM,show B1=true from e1.symm.trans h40,show B2=true from e2.symm.trans h57,show B3=true from e3.symm.trans h74];exact congrArg Value.bool e4) trivial fun W _=>NewBx.nil _ _
   ·refine wq_skip rfl rfl ?_
    iterate 14 refine wq_skip rfl rfl ?_
    refine qP rfl (qP rfl (wq_nil (wl_nil (zE (zO ?_)))))
    have e:(B1&&B2&&B3&&B4)=false:=by first|(rw[show B1=false from e1.symm.trans h40];rfl)|(rw[show B2=false from e2.symm.trans h57];cases B1<;>rfl)|(rw[show B3=false from e3.symm.trans h74];cases B1<;>cases B2<;>rfl)
    exact ne_ret1 tH rfl (.tmp rfl) () (by rw[hM,e]) trivial fun W _=>NewBx.nil _ _
  ·refine wq_skip rfl rfl ?_
   iterate 14 refine wq_skip rfl rfl ?_
   refine qP rfl (qP rfl ?_)
   iterate 15 refine wq_skip rfl rfl ?_
   refine qP rfl (qP rfl (wq_nil (wl_nil (zE (zO ?_)))))
   have e:(B1&&B2&&B3&&B4)=false:=by first|(rw[show B1=false from e1.symm.trans h40];rfl)|(rw[show B2=false from e2.symm.trans h57];cases B1<;>rfl)|(rw[show B3=false from e3.symm.trans h74];cases B1<;>cases B2<;>rfl)
   exact ne_ret1 tH rfl (.tmp rfl) () (by rw[hM,e]) trivial fun W _=>NewBx.nil _ _
 ·refine wq_skip rfl rfl ?_
  iterate 14 refine wq_skip rfl rfl ?_
  refine qP rfl (qP rfl ?_)
  iterate 15 refine wq_skip rfl rfl ?_
  refine qP rfl (qP rfl ?_)
  iterate 15 refine wq_skip rfl rfl ?_
  refine qP rfl (qP rfl (wq_nil (wl_nil (zE (zO ?_)))))
  have e:(B1&&B2&&B3&&B4)=false:=by first|(rw[show B1=false from e1.symm.trans h40];rfl)|(rw[show B2=false from e2.symm.trans h57];cases B1<;>rfl)|(rw[show B3=false from e3.symm.trans h74];cases B1<;>cases B2<;>rfl)
  exact ne_ret1 tH rfl (.tmp rfl) () (by rw[hM,e]) trivial fun W _=>NewBx.nil _ _
def passR (t u:Sd) (px py:Int):Bool:=(t.x==u.x)&&decide (u.x>px)&&decide (loy t u≤py)&&decide (py<hiy t u)
def insR (l:List Sd) (px py:Int):Nat→Bool
 |0=>false
 |k+1=>if passR (sd l k) (sd l (nxt l.length k)) px py=true then !insR l px py k else insR l px py k
set_option maxHeartbeats 4000000 in
theorem insideR_gives (W:World) (p:Option Addr) (cap:Nat) (l:List Sd) (px py:Int) (hn:l.length<4611686018427387904) (hR:RingP W p l):
  CallsR Tryz.prog 122 #[slv p l.length cap, .int .i64 px, .int .i64 py] W (fun _:Unit=> .bool (insR l px py l.length)) (fun _=>True) (fun _=>[]):=by
 refine calls_enter (args:=[slv p l.length cap, .int .i64 px, .int .i64 py]) Tryz.func122 rfl rfl rfl ?_
 refine zA (zB (wP rfl (wl_nil (zE (zA (zB (wP rfl (wl_nil (zE (zA (zA (zB (wP rfl ?_)))))))))))))
 refine wl_nil (zE (zH ?_))
 refine wc_loop (X:=Nat) (fun k=>[(0,slv p l.length cap),(1, .int .i64 px),(2, .int .i64 py),(7, .bool (insR l px py k)),(8, .int .i64 (k:Nat))]) (fun _=>[]) (fun k=>k≤l.length) (fun k=>l.length-k) 0 (Nat.zero_le _) ⟨rfl,rfl,rfl,rfl,rfl,trivial⟩ [] rfl ?_
 intro k hk
 refine zA (zA (zB (wP rfl (wP rfl (wP rfl (wP rfl (wl_nil (zE ?_))))))))
 refine wc_cond rfl (fun h=> ?_) (fun h=> ?_)
 rotate_left
 ·have e:k=l.length:=by simp at h;omega
  subst e
  refine zJ (zK (zK (zL (zE (zA (zB (wP rfl (wP rfl (wl_nil (zE (zO ?_)))))))))))
  exact ne_ret1 tH rfl (.tmp rfl) () rfl trivial fun W _=>NewBx.nil _ _
 have hk:k<l.length:=by simp at h;omega
 clear h
 obtain⟨b,off,rfl,hrow⟩:=hR.row hk
 refine zI (zE (zA (zH (zA (zB (wP rfl (wP rfl ?_)))))))
 refine wl_call1 rfl rfl rfl rfl rfl rfl (by kernel_rfl) (fun W hp=>end_gives W _ cap l k hn (hR.hp hp) hk) ?_
 iterate 5 refine wP rfl ?_
 refine wl_nil ?_
 obtain⟨B1,e1⟩: ∃b,((sd l k).x==(sd l (nxt l.length k)).x)=b:=⟨_,rfl⟩
 obtain⟨B2,e2⟩: ∃b,decide ((sd l (nxt l.length k)).x>px)=b:=⟨_,rfl⟩
 obtain⟨B3,e3⟩: ∃b,decide (loy (sd l k) (sd l (nxt l.length k))≤py)=b:=⟨_,rfl⟩
 obtain⟨B4,e4⟩: ∃b,decide (py<hiy (sd l k) (sd l (nxt l.length k)))=b:=⟨_,rfl⟩
 have hM:passR (sd l k) (sd l (nxt l.length k)) px py=(B1&&B2&&B3&&B4):=by unfold passR;rw[e1,e2,e3,e4]
 have no:(B1&&B2&&B3&&B4)=false→insR l px py (k+1)=insR l px py k:=fun h=>by
  show(if passR (sd l k) (sd l (nxt l.length k)) px py=true then !insR l px py k else insR l px py k)=_
  rw[hM,h,if_neg (by decide)]
 have yes:(B1&&B2&&B3&&B4)=true→insR l px py (k+1)= !insR l px py k:=fun h=>by
  show(if passR (sd l k) (sd l (nxt l.length k)) px py=true then !insR l px py k else insR l px py k)=_
  rw[hM,h,if_pos rfl]
 refine zE (zA (zB (wP rfl (wP rfl ?_))))
 refine wI rfl rfl (by omega) (by omega) ?_
 refine wP rfl ?_
 refine wl_load rfl rfl rfl rfl (fun W hp=>RowAt.load 0 tH rfl ((fun W hp=>(hrow k hk).hp hp) W hp) rfl) ?_
 refine wP rfl (wP rfl (wP rfl ?_))
 refine wl_part 30 rfl (fun h30=> ?_) (fun h30=> ?_)
 ·refine wP rfl (wP rfl (wP rfl (wP rfl (wP rfl ?_))))
  refine wl_part 35 rfl (fun h35=> ?_) (fun h35=> ?_)
  ·refine wP rfl (wP rfl ?_)
   refine wI rfl rfl (by omega) (by omega) ?_
   refine wP rfl ?_
   refine wl_load rfl rfl rfl rfl (fun W hp=>RowAt.load 1 tH rfl ((fun W hp=>(hrow k hk).hp hp) W hp) rfl) ?_
   iterate 6 refine wP rfl ?_
   refine wl_part 46 rfl (fun h46=> ?_) (fun h46=> ?_)
   ·refine wP rfl (wP rfl (wP rfl ?_))
    refine wI rfl rfl (by omega) (by omega) ?_
    refine wP rfl ?_
    refine wl_load rfl rfl rfl rfl (fun W hp=>RowAt.load 1 tH rfl ((fun W hp=>(hrow k hk).hp hp) W hp) rfl) ?_
    refine wP rfl (wP rfl (wP rfl (wP rfl (wl_nil ?_))))
    have e:(B1&&B2&&B3&&B4)=B4:=by rw[show B1=true from e1.symm.trans h30,show B2=true from e2.symm.trans h35,show B3=true from e3.symm.trans h46];rfl
    refine zE ?_
    refine wc_cond rfl (fun h=> ?_) (fun h=> ?_)
    ·have e5:(B1&&B2&&B3&&B4)=true:=e.trans (e4.symm.trans h)
     refine zB (wP rfl (wP rfl (wP rfl (wl_nil (zN (zE (zB (wP rfl (wP rfl (wP rfl (wl_nil ?_)))))))))))
     exact ne_loop (k+1) hk (by omega) ⟨rfl,rfl,rfl,congrArg (fun z=>some (Value.bool z)) (yes e5).symm,congrArg (fun z=>some (Value.int .i64 z)) (wrap_id (x:=(k:Int)+1) (by omega) (by omega)),trivial⟩ [] rfl
    ·have e5:(B1&&B2&&B3&&B4)=false:=e.trans (e4.symm.trans h)
     refine zI (zN (zE (zB (wP rfl (wP rfl (wP rfl (wl_nil ?_)))))))
     exact ne_loop (k+1) hk (by omega) ⟨rfl,rfl,rfl,congrArg (fun z=>some (Value.bool z)) (no e5).symm,congrArg (fun z=>some (Value.int .i64 z)) (wrap_id (x:=(k:Int)+1) (by omega) (by omega)),trivial⟩ [] rfl
   ·refine wl_skip rfl rfl ?_
    iterate 8 refine wl_skip rfl rfl ?_
    refine wP rfl (wl_nil ?_)
    have e:(B1&&B2&&B3&&B4)=false:=by first|(rw[show B1=false from e1.symm.trans h30];rfl)|(rw[show B2=false from e2.symm.trans h35];cases B1<;>rfl)|(rw[show B3=false from e3.symm.trans h46];cases B1<;>cases B2<;>rfl)
    refine zE (zS rfl (zI (zN (zE (zB (wP rfl (wP rfl (wP rfl (wl_nil ?_)))))))))
    exact ne_loop (k+1) hk (by omega) ⟨rfl,rfl,rfl,congrArg (fun z=>some (Value.bool z)) (no e).symm,congrArg (fun z=>some (Value.int .i64 z)) (wrap_id (x:=(k:Int)+1) (by omega) (by omega)),trivial⟩ [] rfl
  ·refine wl_skip rfl rfl ?_
   iterate 8 refine wl_skip rfl rfl ?_
   refine wP rfl (wP rfl ?_)
   iterate 9 refine wl_skip rfl rfl ?_
   refine wP rfl (wl_nil ?_)
   have e:(B1&&B2&&B3&&B4)=false:=by first|(rw[show B1=false from e1.symm.trans h30];rfl)|(rw[show B2=false from e2.symm.trans h35];cases B1<;>rfl)|(rw[show B3=false from e3.symm.trans h46];cases B1<;>cases B2<;>rfl)
   refine zE (zS rfl (zI (zN (zE (zB (wP rfl (wP rfl (wP rfl (wl_nil ?_)))))))))
   exact ne_loop (k+1) hk (by omega) ⟨rfl,rfl,rfl,congrArg (fun z=>some (Value.bool z)) (no e).symm,congrArg (fun z=>some (Value.int .i64 z)) (wrap_id (x:=(k:Int)+1) (by omega) (by omega)),trivial⟩ [] rfl
 ·refine wl_skip rfl rfl ?_
  iterate 2 refine wl_skip rfl rfl ?_
  refine wP rfl (wP rfl ?_)
  iterate 9 refine wl_skip rfl rfl ?_
  refine wP rfl (wP rfl ?_)
  iterate 9 refine wl_skip rfl rfl ?_
  refine wP rfl (wl_nil ?_)
  have e:(B1&&B2&&B3&&B4)=false:=by first|(rw[show B1=false from e1.symm.trans h30];rfl)|(rw[show B2=false from e2.symm.trans h35];cases B1<;>rfl)|(rw[show B3=false from e3.symm.trans h46];cases B1<;>cases B2<;>rfl)
  refine zE (zS rfl (zI (zN (zE (zB (wP rfl (wP rfl (wP rfl (wl_nil ?_)))))))))
  exact ne_loop (k+1) hk (by omega) ⟨rfl,rfl,rfl,congrArg (fun z=>some (Value.bool z)) (no e).symm,congrArg (fun z=>some (Value.int .i64 z)) (wrap_id (x:=(k:Int)+1) (by omega) (by omega)),trivial⟩ [] rfl
-- BOXES 2
def badR (rs:List (List Sd)) (r i s k:Nat):Bool:=
 !((r==s)&&(decide (k≤i)||(k==i+1)||((i==0)&&(k+1==(rg rs r).length))))&&meetB (sd (rg rs r) i) (sd (rg rs r) (nxt (rg rs r).length i)) (sd (rg rs s) k) (sd (rg rs s) (nxt (rg rs s).length k))
theorem badR_crs {rs:List (List Sd)} {r i s k:Nat} (hr:r<rs.length) (hi:i<(rg rs r).length) (hs:s<rs.length) (hk:k<(rg rs s).length) (h:badR rs r i s k=true):crs rs=true:=by
 unfold badR at h
 obtain⟨h1,h2⟩:=Bool.and_eq_true_iff.1 h
 cases hc:crs rs with
 |true=>rfl
 |false=>
  have:=(crs_iff rs).1 hc r i s k hr hi hs hk (fun hn=>by
   obtain⟨rfl,hn⟩:=hn
   rw[nxt_val hi,nxt_val hk] at hn
   have:((r==r)&&(decide (k≤i)||(k==i+1)||((i==0)&&(k+1==(rg rs r).length))))=true:=by
    simp only[beq_self_eq_true,Bool.true_and,Bool.or_eq_true,Bool.and_eq_true,decide_eq_true_eq,beq_iff_eq]
    revert hn
    split<;>split<;>intro hn<;>omega
   rw[this] at h1;cases h1)
  rw[show meetB (bsd rs (r,i)) (esd rs (r,i)) (bsd rs (s,k)) (esd rs (s,k))=true from h2] at this
  cases this
theorem crs_noBad {rs:List (List Sd)} (h: ∀r i s k,r<rs.length→i<(rg rs r).length→s<rs.length→k<(rg rs s).length→r≤s→badR rs r i s k=false):crs rs=false:=by
 have one: ∀r i s k,r<rs.length→i<(rg rs r).length→s<rs.length→k<(rg rs s).length→(r<s∨(r=s∧i<k))→ ¬near rs r i s k→meetB (bsd rs (r,i)) (esd rs (r,i)) (bsd rs (s,k)) (esd rs (s,k))=false:=fun r i s k hr hi hs hk ho hn=>by
  have hb:=h r i s k hr hi hs hk (by omega)
  unfold badR at hb
  have:((r==s)&&(decide (k≤i)||(k==i+1)||((i==0)&&(k+1==(rg rs r).length))))=false:=by
   by_cases e:r=s
   ·subst e
    have hik:i<k:=by omega
    rw[beq_self_eq_true,Bool.true_and,Bool.eq_false_iff]
    intro h2
    refine hn ⟨rfl, ?_⟩
    rw[nxt_val hi,nxt_val hk]
    simp only[Bool.or_eq_true,Bool.and_eq_true,decide_eq_true_eq,beq_iff_eq] at h2
    split<;>split<;>omega
   ·rw[beq_eq_false_iff_ne.2 e];rfl
  rw[this,Bool.not_false,Bool.true_and] at hb
  exact hb
 refine(crs_iff rs).2 fun r i s k hr hi hs hk hn=> ?_
 by_cases ho:r<s∨(r=s∧i<k)
 ·exact one r i s k hr hi hs hk ho hn
 ·rw[meet_comm]
  have hne: ¬(r=s∧i=k):=fun⟨e1,e2⟩=>hn ⟨e1, .inl e2⟩
  refine one s k r i hs hk hr hi (by omega) fun hn2=>hn ?_
  obtain⟨rfl,hn2⟩:=hn2
  exact⟨rfl,by omega⟩
set_option maxHeartbeats 8000000 in
theorem crossedR_gives (W:World) (p:Option Addr) (cap:Nat) (rs:List (List Sd)) (hn:rs.length<4611686018427387904) (hl: ∀l∈rs,l.length<4611686018427387904) (hR:RingsP W p rs):
  CallsR Tryz.prog 48 #[slv p rs.length cap] W (fun _:Unit=> .bool (crs rs)) (fun _=>True) (fun _=>[]):=by
 refine calls_enter (args:=[slv p rs.length cap]) Tryz.func48 rfl rfl rfl ?_
 refine zA (zB (wP rfl (wl_nil (zE (zA (zA (zB (wP rfl (wl_nil (zE (zH ?_)))))))))))
 refine wc_loop (X:=Nat) (fun r=>[(0,slv p rs.length cap),(3, .int .i64 (r:Nat))]) (fun _=>[])
  (fun r=>r≤rs.length∧ ∀r' i s k,r'<r→r'<rs.length→i<(rg rs r').length→s<rs.length→k<(rg rs s).length→r'≤s→badR rs r' i s k=false) (fun r=>rs.length-r) 0 ⟨Nat.zero_le _,fun r' i s k h=>absurd h (Nat.not_lt_zero _)⟩ ⟨rfl,rfl,trivial⟩ [] rfl ?_
 rintro r ⟨hr,P1⟩
 refine zA (zA (zB (wP rfl (wP rfl (wP rfl (wP rfl (wl_nil (zE ?_))))))))
 refine wc_cond rfl (fun h=> ?_) (fun h=> ?_)
 rotate_left
 ·have e:r=rs.length:=by simp at h;omega
  subst e
  refine zJ (zK (zK (zL (zE (zA (zB (wP rfl (wl_nil (zE (zO ?_))))))))))
  have hc:crs rs=false:=crs_noBad fun r' i s k h1 h2 h3 h4 h5=>P1 r' i s k h1 h1 h2 h3 h4 h5
  exact ne_ret1 tH rfl (.tmp rfl) () (by rw[hc]) trivial fun W _=>NewBx.nil _ _
 have hr:r<rs.length:=by simp at h;omega
 clear h
 obtain⟨b,off,rfl,hrow⟩:=hR.row hr
 obtain⟨q,cap2,hq1,hq2⟩:=hrow r hr
 have hlr:=hl _ (List.mem_of_getElem? (rg_get hr))
 refine zI (zE (zA (zH (zA (zB (wP rfl (wl_nil (zE (zH ?_)))))))))
 refine wc_loop (X:=Nat) (fun i=>[(0,slv (some ⟨b,off,none⟩) rs.length cap),(3, .int .i64 (r:Nat)),(4, .int .i64 (i:Nat))]) (fun _=>[])
  (fun i=>i≤(rg rs r).length∧ ∀i' s k,i'<i→i'<(rg rs r).length→s<rs.length→k<(rg rs s).length→r≤s→badR rs r i' s k=false) (fun i=>(rg rs r).length-i) 0 ⟨Nat.zero_le _,fun i' s k h=>absurd h (Nat.not_lt_zero _)⟩ ⟨rfl,rfl,rfl,trivial⟩ [] rfl ?_
 rintro i ⟨hi,P2⟩
 refine zA (zA (zB (wP rfl (wP rfl (wP rfl ?_)))))
 refine wI rfl rfl (by omega) (by omega) ?_
 refine wl_load rfl rfl rfl rfl (fun W hp=>RowAt.load 0 tH rfl ((fun W hp=>hq1.hp hp) W hp) rfl) ?_
 refine wP rfl (wP rfl (wl_nil (zE ?_)))
 refine wc_cond rfl (fun h=> ?_) (fun h=> ?_)
 rotate_left
 ·have e:i=(rg rs r).length:=by simp at h;omega
  subst e
  refine zJ (zK (zK (zL (zN (zE (zB (wP rfl (wP rfl (wP rfl (wl_nil ?_))))))))))
  refine ne_loop (r+1) ⟨hr,fun r' i' s k h0 h1 h2 h3 h4 h5=> ?_⟩ (by omega) ⟨rfl,congrArg (fun z=>some (Value.int .i64 z)) (wrap_id (x:=(r:Int)+1) (by omega) (by omega)),trivial⟩ [] rfl
  by_cases e:r'=r
  ·subst e;exact P2 i' s k h2 h2 h3 h4 h5
  ·exact P1 r' i' s k (by omega) h1 h2 h3 h4 h5
 have hi:i<(rg rs r).length:=by simp at h;omega
 clear h
 refine zI (zE (zA (zH (zA (zB (wP rfl (wP rfl (wl_nil (zE (zH ?_))))))))))
 refine wc_loop (X:=Nat) (fun s=>[(0,slv (some ⟨b,off,none⟩) rs.length cap),(3, .int .i64 (r:Nat)),(4, .int .i64 (i:Nat)),(5, .int .i64 (s:Nat))]) (fun _=>[])
  (fun s=>s≤rs.length∧r≤s∧ ∀s' k,s'<s→s'<rs.length→k<(rg rs s').length→r≤s'→badR rs r i s' k=false) (fun s=>rs.length-s) r ⟨by omega,Nat.le_refl _,fun s' k h0 _ _ h5=>absurd h0 (by omega)⟩ ⟨rfl,rfl,rfl,rfl,trivial⟩ [] rfl ?_
 rintro s ⟨hs,hrs,P3⟩
 refine zA (zA (zB (wP rfl (wP rfl (wP rfl (wP rfl (wl_nil (zE ?_))))))))
 refine wc_cond rfl (fun h=> ?_) (fun h=> ?_)
 rotate_left
 ·have e:s=rs.length:=by simp at h;omega
  subst e
  refine zJ (zK (zK (zL (zN (zE (zB (wP rfl (wP rfl (wP rfl (wl_nil ?_))))))))))
  refine ne_loop (i+1) ⟨hi,fun i' s k h0 h2 h3 h4 h5=> ?_⟩ (by omega) ⟨rfl,rfl,congrArg (fun z=>some (Value.int .i64 z)) (wrap_id (x:=(i:Int)+1) (by omega) (by omega)),trivial⟩ [] rfl
  by_cases e:i'=i
  ·subst e;exact P3 s k h3 h3 h4 h5
  ·exact P2 i' s k (by omega) h2 h3 h4 h5
 have hs:s<rs.length:=by simp at h;omega
 clear h
 obtain⟨q',cap3,hq3,hq4⟩:=hrow s hs
 have hls:=hl _ (List.mem_of_getElem? (rg_get hs))
 refine zI (zE (zA (zH (zA (zB (wP rfl (wl_nil (zE (zH ?_)))))))))
 refine wc_loop (X:=Nat) (fun k=>[(0,slv (some ⟨b,off,none⟩) rs.length cap),(3, .int .i64 (r:Nat)),(4, .int .i64 (i:Nat)),(5, .int .i64 (s:Nat)),(6, .int .i64 (k:Nat))]) (fun _=>[])
  (fun k=>k≤(rg rs s).length∧ ∀k',k'<k→badR rs r i s k'=false) (fun k=>(rg rs s).length-k) 0 ⟨Nat.zero_le _,fun k' h=>absurd h (Nat.not_lt_zero _)⟩ ⟨rfl,rfl,rfl,rfl,rfl,trivial⟩ [] rfl ?_
 rintro k ⟨hk,P4⟩
 refine zA (zA (zB (wP rfl (wP rfl (wP rfl ?_)))))
 refine wI rfl rfl (by omega) (by omega) ?_
 refine wl_load rfl rfl rfl rfl (fun W hp=>RowAt.load 0 tH rfl ((fun W hp=>hq3.hp hp) W hp) rfl) ?_
 refine wP rfl (wP rfl (wl_nil (zE ?_)))
 refine wc_cond rfl (fun h=> ?_) (fun h=> ?_)
 rotate_left
 ·have e:k=(rg rs s).length:=by simp at h;omega
  subst e
  refine zJ (zK (zK (zL (zN (zE (zB (wP rfl (wP rfl (wP rfl (wl_nil ?_))))))))))
  refine ne_loop (s+1) ⟨hs,by omega,fun s' k h0 h3 h4 h5=> ?_⟩ (by omega) ⟨rfl,rfl,rfl,congrArg (fun z=>some (Value.int .i64 z)) (wrap_id (x:=(s:Int)+1) (by omega) (by omega)),trivial⟩ [] rfl
  by_cases e:s'=s
  ·subst e;exact P4 k h4
  ·exact P3 s' k (by omega) h3 h4 h5
 have hk:k<(rg rs s).length:=by simp at h;omega
 clear h
 have fin:badR rs r i s k=false→ ∀k',k'<k+1→badR rs r i s k'=false:=fun h k' hk'=>by
  by_cases e:k'=k
  ·subst e;exact h
  ·exact P4 k' (by omega)
 have e1: ∀z:Int,z=(k:Int)+1→w64 z=((k+1:Nat):Int):=fun z h=>by rw[h,w64_id (by omega) (by omega)];omega
 -- the side is left out
 have skip:((r==s)&&(decide (k≤i)||(k==i+1)||((i==0)&&(k+1==(rg rs r).length))))=true→badR rs r i s k=false:=fun h=>by unfold badR;rw[h];rfl
 have test:((r==s)&&(decide (k≤i)||(k==i+1)||((i==0)&&(k+1==(rg rs r).length))))=false→badR rs r i s k=meetB (sd (rg rs r) i) (sd (rg rs r) (nxt (rg rs r).length i)) (sd (rg rs s) k) (sd (rg rs s) (nxt (rg rs s).length k)):=fun h=>by unfold badR;rw[h];rfl
 obtain⟨C1,c1⟩: ∃b,((r:Int)==(s:Int))=b:=⟨_,rfl⟩
 obtain⟨C2,c2⟩: ∃b,decide ((k:Int)≤(i:Int))=b:=⟨_,rfl⟩
 obtain⟨C3,c3⟩: ∃b,((k:Int)==w64 ((i:Int)+1))=b:=⟨_,rfl⟩
 obtain⟨C4,c4⟩: ∃b,((i:Int)==0)=b:=⟨_,rfl⟩
 obtain⟨C5,c5⟩: ∃b,((k:Int)==w64 (((rg rs r).length:Nat)-1))=b:=⟨_,rfl⟩
 have hC:((r==s)&&(decide (k≤i)||(k==i+1)||((i==0)&&(k+1==(rg rs r).length))))=(C1&&(C2||C3||(C4&&C5))):=by
  rw[w64_id (by omega) (by omega)] at c3 c5
  rw[←c1, ←c2, ←c3, ←c4, ←c5,natInt_beq]
  have a2:decide (k≤i)=decide ((k:Int)≤(i:Int)):=by by_cases h:k≤i;rw[decide_eq_true h,decide_eq_true (by omega)];rw[decide_eq_false h,decide_eq_false (by omega)]
  have a3:(k==i+1)=((k:Int)==(i:Int)+1):=by rw[Bool.eq_iff_iff,beq_iff_eq,beq_iff_eq];omega
  have a4:(i==0)=((i:Int)==0):=by rw[Bool.eq_iff_iff,beq_iff_eq,beq_iff_eq];omega
  have a5:(k+1==(rg rs r).length)=((k:Int)==((rg rs r).length:Nat)-1):=by rw[Bool.eq_iff_iff,beq_iff_eq,beq_iff_eq];omega
  rw[a2,a3,a4,a5]
 refine zI (zE (zA (zH (zA (zB (wP rfl (wP rfl ?_)))))))
 refine wI rfl rfl (by omega) (by omega) ?_
 refine wl_load rfl rfl rfl rfl (fun W hp=>RowAt.load 0 tH rfl ((fun W hp=>hq1.hp hp) W hp) rfl) ?_
 refine wP rfl (wP rfl (wl_nil (zE (zA (zA (zB (wP rfl (wP rfl (wP rfl (wP rfl ?_))))))))))
 refine wl_part 47 rfl (fun h47=> ?_) (fun h47=> ?_)
 ·refine wP rfl (wP rfl (wP rfl (wP rfl ?_)))
  refine wl_part 51 rfl (fun h51=> ?_) (fun h51=> ?_)
  ·refine wl_skip rfl rfl ?_
   iterate 3 refine wl_skip rfl rfl ?_
   refine wP rfl (wP rfl ?_)
   iterate 8 refine wl_skip rfl rfl ?_
   refine wP rfl (wP rfl (wl_nil ?_))
   have e:(C1&&(C2||C3||(C4&&C5)))=true:=by first|(rw[show C1=true from c1.symm.trans h47,show C2=true from c2.symm.trans h51];rfl)|(rw[show C1=true from c1.symm.trans h47,show C3=true from c3.symm.trans h57];cases C2<;>rfl)
   refine zE (zR rfl (zJ (zK (zL (zE (zB (wP rfl (wP rfl (wP rfl (wl_nil ?_))))))))))
   exact ne_loop (k+1) ⟨hk,fin (skip (hC.trans e))⟩ (by omega) ⟨rfl,rfl,rfl,rfl,congrArg (fun z=>some (Value.int .i64 z)) (wrap_id (x:=(k:Int)+1) (by omega) (by omega)),trivial⟩ [] rfl
  ·refine wP rfl ?_
   iterate 5 refine wP rfl ?_
   refine wl_part 57 rfl (fun h57=> ?_) (fun h57=> ?_)
   ·refine wl_skip rfl rfl ?_
    iterate 7 refine wl_skip rfl rfl ?_
    refine wP rfl (wP rfl (wl_nil ?_))
    have e:(C1&&(C2||C3||(C4&&C5)))=true:=by first|(rw[show C1=true from c1.symm.trans h47,show C2=true from c2.symm.trans h51];rfl)|(rw[show C1=true from c1.symm.trans h47,show C3=true from c3.symm.trans h57];cases C2<;>rfl)
    refine zE (zR rfl (zJ (zK (zL (zE (zB (wP rfl (wP rfl (wP rfl (wl_nil ?_))))))))))
    exact ne_loop (k+1) ⟨hk,fin (skip (hC.trans e))⟩ (by omega) ⟨rfl,rfl,rfl,rfl,congrArg (fun z=>some (Value.int .i64 z)) (wrap_id (x:=(k:Int)+1) (by omega) (by omega)),trivial⟩ [] rfl
   ·refine wP rfl (wP rfl (wP rfl ?_))
    refine wl_part 60 rfl (fun h60=> ?_) (fun h60=> ?_)
    ·refine wP rfl ?_
     iterate 6 refine wP rfl ?_
     refine wl_nil (zE ?_)
     refine wc_cond rfl (fun hx=> ?_) (fun hx=> ?_)
     ·have e:(C1&&(C2||C3||(C4&&C5)))=true:=by first|(rw[show C1=true from c1.symm.trans h47,show C3=true from c3.symm.trans h57];cases C2<;>rfl)|(rw[show C1=true from c1.symm.trans h47,show C4=true from c4.symm.trans h60,show C5=true from c5.symm.trans hx];cases C2<;>cases C3<;>rfl)|(rw[show C1=true from c1.symm.trans h47,show C3=true from c3.symm.trans hx];cases C2<;>rfl)
      refine zJ (zK (zL (zE (zB (wP rfl (wP rfl (wP rfl (wl_nil ?_))))))))
      exact ne_loop (k+1) ⟨hk,fin (skip (hC.trans e))⟩ (by omega) ⟨rfl,rfl,rfl,rfl,congrArg (fun z=>some (Value.int .i64 z)) (wrap_id (x:=(k:Int)+1) (by omega) (by omega)),trivial⟩ [] rfl
     ·have e:(C1&&(C2||C3||(C4&&C5)))=false:=by first|(rw[show C2=false from c2.symm.trans h51,show C3=false from c3.symm.trans h57,show C5=false from c5.symm.trans hx,Bool.and_false];cases C1<;>rfl)
      refine zI (zE (zA ?_))
      refine zT Tryz.mixed (by kernel_rfl) ?_
      refine qP rfl (qP rfl ?_)
      refine qI rfl rfl (by omega) (by omega) ?_
      refine wq_load rfl rfl rfl rfl (fun W hp=>RowAt.load 0 tH rfl ((fun W hp=>hq1.hp hp) W hp) rfl) ?_
      refine qP rfl (qP rfl (qP rfl ?_))
      refine qI rfl rfl (by omega) (by omega) ?_
      refine wq_load rfl rfl rfl rfl (fun W hp=>RowAt.load 0 tH rfl ((fun W hp=>hq3.hp hp) W hp) rfl) ?_
      refine qP rfl ?_
      refine wq_call1 rfl rfl rfl rfl rfl rfl (by kernel_rfl) (fun W hp=>touch_gives W q q' cap2 cap3 (rg rs r) (rg rs s) i k hlr hls (hq2.hp hp) (hq4.hp hp) hi hk) ?_
      refine wq_nil (wl_nil (zE ?_))
      refine wc_cond rfl (fun h=> ?_) (fun h=> ?_)
      ·refine zA (zB (wP rfl (wl_nil (zE (zO (zQ (zP (zP (zQ (zQ (zP (zP (zQ (zQ ?_))))))))))))))
       refine zP (zP (zQ (zQ (zP (zP (zQ (zP ?_)))))))
       have hc:crs rs=true:=badR_crs hr hi hs hk ((test (hC.trans e)).trans h)
       exact ne_ret1 tH rfl (.tmp rfl) () (by rw[hc]) trivial fun W _=>NewBx.nil _ _
      ·refine zI (zN (zE (zB (wP rfl (wP rfl (wP rfl (wl_nil ?_)))))))
       exact ne_loop (k+1) ⟨hk,fin ((test (hC.trans e)).trans h)⟩ (by omega) ⟨rfl,rfl,rfl,rfl,congrArg (fun z=>some (Value.int .i64 z)) (wrap_id (x:=(k:Int)+1) (by omega) (by omega)),trivial⟩ [] rfl
    ·refine wl_skip rfl rfl ?_
     iterate 3 refine wl_skip rfl rfl ?_
     refine wP rfl (wP rfl (wP rfl (wl_nil ?_)))
     have e:(C1&&(C2||C3||(C4&&C5)))=false:=by first|(rw[show C1=false from c1.symm.trans h47];rfl)|(rw[show C2=false from c2.symm.trans h51,show C3=false from c3.symm.trans h57,show C4=false from c4.symm.trans h60,Bool.false_and];cases C1<;>rfl)
     refine zE (zS rfl (zI (zE (zA ?_))))
     refine zT Tryz.mixed (by kernel_rfl) ?_
     refine qP rfl (qP rfl ?_)
     refine qI rfl rfl (by omega) (by omega) ?_
     refine wq_load rfl rfl rfl rfl (fun W hp=>RowAt.load 0 tH rfl ((fun W hp=>hq1.hp hp) W hp) rfl) ?_
     refine qP rfl (qP rfl (qP rfl ?_))
     refine qI rfl rfl (by omega) (by omega) ?_
     refine wq_load rfl rfl rfl rfl (fun W hp=>RowAt.load 0 tH rfl ((fun W hp=>hq3.hp hp) W hp) rfl) ?_
     refine qP rfl ?_
     refine wq_call1 rfl rfl rfl rfl rfl rfl (by kernel_rfl) (fun W hp=>touch_gives W q q' cap2 cap3 (rg rs r) (rg rs s) i k hlr hls (hq2.hp hp) (hq4.hp hp) hi hk) ?_
     refine wq_nil (wl_nil (zE ?_))
     refine wc_cond rfl (fun h=> ?_) (fun h=> ?_)
     ·refine zA (zB (wP rfl (wl_nil (zE (zO (zQ (zP (zP (zQ (zQ (zP (zP (zQ (zQ ?_))))))))))))))
      refine zP (zP (zQ (zQ (zP (zP (zQ (zP ?_)))))))
      have hc:crs rs=true:=badR_crs hr hi hs hk ((test (hC.trans e)).trans h)
      exact ne_ret1 tH rfl (.tmp rfl) () (by rw[hc]) trivial fun W _=>NewBx.nil _ _
     ·refine zI (zN (zE (zB (wP rfl (wP rfl (wP rfl (wl_nil ?_)))))))
      exact ne_loop (k+1) ⟨hk,fin ((test (hC.trans e)).trans h)⟩ (by omega) ⟨rfl,rfl,rfl,rfl,congrArg (fun z=>some (Value.int .i64 z)) (wrap_id (x:=(k:Int)+1) (by omega) (by omega)),trivial⟩ [] rfl
 ·refine wl_skip rfl rfl ?_
  iterate 18 refine wl_skip rfl rfl ?_
  refine wP rfl (wl_nil ?_)
  have e:(C1&&(C2||C3||(C4&&C5)))=false:=by first|(rw[show C1=false from c1.symm.trans h47];rfl)|(rw[show C2=false from c2.symm.trans h51,show C3=false from c3.symm.trans h57,show C4=false from c4.symm.trans h60,Bool.false_and];cases C1<;>rfl)
  refine zE (zS rfl (zI (zE (zA ?_))))
  refine zT Tryz.mixed (by kernel_rfl) ?_
  refine qP rfl (qP rfl ?_)
  refine qI rfl rfl (by omega) (by omega) ?_
  refine wq_load rfl rfl rfl rfl (fun W hp=>RowAt.load 0 tH rfl ((fun W hp=>hq1.hp hp) W hp) rfl) ?_
  refine qP rfl (qP rfl (qP rfl ?_))
  refine qI rfl rfl (by omega) (by omega) ?_
  refine wq_load rfl rfl rfl rfl (fun W hp=>RowAt.load 0 tH rfl ((fun W hp=>hq3.hp hp) W hp) rfl) ?_
  refine qP rfl ?_
  refine wq_call1 rfl rfl rfl rfl rfl rfl (by kernel_rfl) (fun W hp=>touch_gives W q q' cap2 cap3 (rg rs r) (rg rs s) i k hlr hls (hq2.hp hp) (hq4.hp hp) hi hk) ?_
  refine wq_nil (wl_nil (zE ?_))
  refine wc_cond rfl (fun h=> ?_) (fun h=> ?_)
  ·refine zA (zB (wP rfl (wl_nil (zE (zO (zQ (zP (zP (zQ (zQ (zP (zP (zQ (zQ ?_))))))))))))))
   refine zP (zP (zQ (zQ (zP (zP (zQ (zP ?_)))))))
   have hc:crs rs=true:=badR_crs hr hi hs hk ((test (hC.trans e)).trans h)
   exact ne_ret1 tH rfl (.tmp rfl) () (by rw[hc]) trivial fun W _=>NewBx.nil _ _
  ·refine zI (zN (zE (zB (wP rfl (wP rfl (wP rfl (wl_nil ?_)))))))
   exact ne_loop (k+1) ⟨hk,fin ((test (hC.trans e)).trans h)⟩ (by omega) ⟨rfl,rfl,rfl,rfl,congrArg (fun z=>some (Value.int .i64 z)) (wrap_id (x:=(k:Int)+1) (by omega) (by omega)),trivial⟩ [] rfl
-- BOXES 2
def plsR (rs:List (List Sd)) (r s:Nat):Bool:=(s==r)||(insR (rg rs s) (sd (rg rs r) 0).x (sd (rg rs r) 0).y (rg rs s).length==(s==0))
def plrR (rs:List (List Sd)) (r:Nat):Bool:=(r==0)||(!decide (twR (rg rs r) (rg rs r).length≥0)&&(List.range rs.length).all (plsR rs r))
def plcR (rs:List (List Sd)):Bool:= !decide (twR (rg rs 0) (rg rs 0).length≤0)&&(List.range rs.length).all (plrR rs)
set_option maxHeartbeats 8000000 in
theorem placedR_gives (W:World) (p:Option Addr) (cap:Nat) (rs:List (List Sd)) (hn:rs.length<4611686018427387904) (hl: ∀l∈rs,l.length<4611686018427387904) (hne: ∀l∈rs,l≠[]) (h0:0<rs.length) (hR:RingsP W p rs):
  CallsR Tryz.prog 49 #[slv p rs.length cap] W (fun _:Unit=> .bool (plcR rs)) (fun _=>True) (fun _=>[]):=by
 obtain⟨b,off,rfl,hrow⟩:=hR.row h0
 obtain⟨q0,cap0,hq1,hq2⟩:=hrow 0 h0
 refine calls_enter (args:=[slv (some ⟨b,off,none⟩) rs.length cap]) Tryz.func49 rfl rfl rfl ?_
 refine zA (zB (wP rfl (wl_nil (zE (zA (zA (zB (wP rfl ?_))))))))
 refine wI rfl rfl (by omega) (by omega) ?_
 refine wl_load rfl rfl rfl rfl (fun W hp=>RowAt.load 0 tH rfl ((fun W hp=>hq1.hp hp) W hp) rfl) ?_
 refine wl_call1 rfl rfl rfl rfl rfl rfl (by kernel_rfl) (fun W hp=>twice_gives W q0 cap0 (rg rs 0) (hl _ (List.mem_of_getElem? (rg_get h0))) (hq2.hp hp)) ?_
 refine wP rfl (wl_nil (zE ?_))
 refine wc_cond rfl (fun h=> ?_) (fun h=> ?_)
 ·refine zA (zB (wP rfl (wl_nil (zE (zO (zP ?_))))))
  have hf:plcR rs=false:=by unfold plcR;rw[show decide (twR (rg rs 0) (rg rs 0).length≤0)=true from h];rfl
  exact ne_ret1 tH rfl (.tmp rfl) () (by rw[hf]) trivial fun W _=>NewBx.nil _ _
 have hA:decide (twR (rg rs 0) (rg rs 0).length≤0)=false:=h
 clear h
 refine zI (zE (zA (zA (zB (wP rfl (wl_nil (zE (zH ?_))))))))
 refine wc_loop (X:=Nat) (fun r=>[(0,slv (some ⟨b,off,none⟩) rs.length cap),(3, .int .i64 (r:Nat))]) (fun _=>[]) (fun r=>1≤r∧r≤rs.length∧ ∀j,j<r→plrR rs j=true) (fun r=>rs.length-r) 1
  ⟨Nat.le_refl _,h0,fun j hj=>by rw[show j=0 by omega];rfl⟩ ⟨rfl,rfl,trivial⟩ [] rfl ?_
 rintro r ⟨hr1,hr,hok⟩
 refine zA (zA (zB (wP rfl (wP rfl (wP rfl (wP rfl (wl_nil (zE ?_))))))))
 refine wc_cond rfl (fun h=> ?_) (fun h=> ?_)
 rotate_left
 ·have e:r=rs.length:=by simp at h;omega
  subst e
  refine zJ (zK (zK (zL (zE (zA (zB (wP rfl (wl_nil (zE (zO ?_))))))))))
  have ht:plcR rs=true:=by unfold plcR;rw[hA,List.all_eq_true.2 fun j hj=>hok j (List.mem_range.1 hj)];rfl
  exact ne_ret1 tH rfl (.tmp rfl) () (by rw[ht]) trivial fun W _=>NewBx.nil _ _
 have hr:r<rs.length:=by simp at h;omega
 clear h
 obtain⟨q,cap2,hq3,hq4⟩:=hrow r hr
 have hlr:=hl _ (List.mem_of_getElem? (rg_get hr))
 have hner:0<(rg rs r).length:=List.length_pos_iff.2 (hne _ (List.mem_of_getElem? (rg_get hr)))
 have hr0:(r==0)=false:=beq_eq_false_iff_ne.2 (by omega)
 refine zI (zE (zA (zH (zA (zA (zB (wP rfl (wP rfl ?_))))))))
 refine wI rfl rfl (by omega) (by omega) ?_
 refine wl_load rfl rfl rfl rfl (fun W hp=>RowAt.load 0 tH rfl ((fun W hp=>hq3.hp hp) W hp) rfl) ?_
 refine wl_call1 rfl rfl rfl rfl rfl rfl (by kernel_rfl) (fun W hp=>twice_gives W q cap2 (rg rs r) hlr (hq4.hp hp)) ?_
 refine wP rfl (wl_nil (zE ?_))
 refine wc_cond rfl (fun h=> ?_) (fun h=> ?_)
 ·refine zA (zB (wP rfl (wl_nil (zE (zO (zP (zQ (zP (zP (zQ (zP ?_)))))))))))
  have hf:plcR rs=false:=by unfold plcR;rw[all_range_false hr (by unfold plrR;rw[hr0,show decide (twR (rg rs r) (rg rs r).length≥0)=true from h];rfl),Bool.and_false]
  exact ne_ret1 tH rfl (.tmp rfl) () (by rw[hf]) trivial fun W _=>NewBx.nil _ _
 have hB:decide (twR (rg rs r) (rg rs r).length≥0)=false:=h
 clear h
 refine zI (zE (zA (zB (wP rfl (wl_nil (zE (zH ?_)))))))
 refine wc_loop (X:=Nat) (fun s=>[(0,slv (some ⟨b,off,none⟩) rs.length cap),(3, .int .i64 (r:Nat)),(4, .int .i64 (s:Nat))]) (fun _=>[]) (fun s=>s≤rs.length∧ ∀j,j<s→plsR rs r j=true) (fun s=>rs.length-s) 0
  ⟨Nat.zero_le _,fun j hj=>absurd hj (Nat.not_lt_zero _)⟩ ⟨rfl,rfl,rfl,trivial⟩ [] rfl ?_
 rintro s ⟨hs,hoks⟩
 refine zA (zA (zB (wP rfl (wP rfl (wP rfl (wP rfl (wl_nil (zE ?_))))))))
 refine wc_cond rfl (fun h=> ?_) (fun h=> ?_)
 rotate_left
 ·have e:s=rs.length:=by simp at h;omega
  subst e
  refine zJ (zK (zK (zL (zN (zE (zB (wP rfl (wP rfl (wP rfl (wl_nil ?_))))))))))
  refine ne_loop (r+1) ⟨by omega,hr,fun j hj=> ?_⟩ (by omega) ⟨rfl,congrArg (fun z=>some (Value.int .i64 z)) (wrap_id (x:=(r:Int)+1) (by omega) (by omega)),trivial⟩ [] rfl
  by_cases e:j=r
  ·subst e
   unfold plrR
   rw[hB,List.all_eq_true.2 fun m hm=>hoks m (List.mem_range.1 hm),hr0];rfl
  ·exact hok j (by omega)
 have hs:s<rs.length:=by simp at h;omega
 clear h
 obtain⟨q',cap3,hq5,hq6⟩:=hrow s hs
 have hls:=hl _ (List.mem_of_getElem? (rg_get hs))
 have next:plsR rs r s=true→ ∀j,j<s+1→plsR rs r j=true:=fun h j hj=>by
  by_cases e:j=s
  ·subst e;exact h
  ·exact hoks j (by omega)
 obtain⟨b3,off3,rfl,hrow3⟩:=hq4.row hner
 refine zI (zE (zA (zH (zA ?_))))
 refine zT Tryz.mixed (by kernel_rfl) ?_
 refine qP rfl (qP rfl (qP rfl (qP rfl ?_)))
 refine wq_part 31 rfl (fun h31=> ?_) (fun h31=> ?_)
 ·refine qP rfl (qP rfl ?_)
  refine qI rfl rfl (by omega) (by omega) ?_
  refine wq_load rfl rfl rfl rfl (fun W hp=>RowAt.load 0 tH rfl ((fun W hp=>hq5.hp hp) W hp) rfl) ?_
  refine qP rfl (qP rfl ?_)
  refine qI rfl rfl (by omega) (by omega) ?_
  refine wq_load rfl rfl rfl rfl (fun W hp=>RowAt.load 0 tH rfl ((fun W hp=>hq3.hp hp) W hp) rfl) ?_
  refine qI rfl rfl (by omega) (by omega) ?_
  refine qP rfl ?_
  refine wq_load rfl rfl rfl rfl (fun W hp=>RowAt.load 0 tH rfl ((fun W hp=>(hrow3 0 hner).hp hp) W hp) rfl) ?_
  refine qP rfl (qP rfl ?_)
  refine qI rfl rfl (by omega) (by omega) ?_
  refine wq_load rfl rfl rfl rfl (fun W hp=>RowAt.load 0 tH rfl ((fun W hp=>hq3.hp hp) W hp) rfl) ?_
  refine qI rfl rfl (by omega) (by omega) ?_
  refine qP rfl ?_
  refine wq_load rfl rfl rfl rfl (fun W hp=>RowAt.load 1 tH rfl ((fun W hp=>(hrow3 0 hner).hp hp) W hp) rfl) ?_
  refine wq_call1 rfl rfl rfl rfl rfl rfl (by kernel_rfl) (fun W hp=>insideR_gives W q' cap3 (rg rs s) _ _ hls (hq6.hp hp)) ?_
  refine qP rfl (qP rfl ?_)
  refine wq_eqB Tryz.underlying4 rfl rfl rfl rfl rfl rfl ?_
  refine qP rfl (wq_nil (wl_nil ?_))
  have e:(s==r)=false:=by have h':((s:Int) !=(r:Int))=true:=h31;rw[bne_iff_ne] at h';rw[beq_eq_false_iff_ne];omega
  refine zE ?_
  refine wc_cond rfl (fun h=> ?_) (fun h=> ?_)
  ·refine zA (zB (wP rfl (wl_nil (zE (zO (zQ (zP (zP (zQ (zQ (zP (zP (zQ ?_)))))))))))))
   refine zP ?_
   have h':(insR (rg rs s) (sd (rg rs r) 0).x (sd (rg rs r) 0).y (rg rs s).length==(s==0))=false:=by
    rw[←natInt_beq s 0]
    have h2:(!(insR (rg rs s) (sd (rg rs r) 0).x (sd (rg rs r) 0).y (rg rs s).length==((s:Int)==0)))=true:=h
    simpa using h2
   have hf:plcR rs=false:=by unfold plcR;rw[all_range_false hr (by unfold plrR;rw[hr0,all_range_false hs (by unfold plsR;rw[e,h'];rfl),Bool.and_false];rfl),Bool.and_false]
   exact ne_ret1 tH rfl (.tmp rfl) () (by rw[hf]) trivial fun W _=>NewBx.nil _ _
  ·have h':(insR (rg rs s) (sd (rg rs r) 0).x (sd (rg rs r) 0).y (rg rs s).length==(s==0))=true:=by
    rw[←natInt_beq s 0]
    have h2:(!(insR (rg rs s) (sd (rg rs r) 0).x (sd (rg rs r) 0).y (rg rs s).length==((s:Int)==0)))=false:=h
    simpa using h2
   refine zI (zN (zE (zB (wP rfl (wP rfl (wP rfl (wl_nil ?_)))))))
   exact ne_loop (s+1) ⟨hs,next (by unfold plsR;rw[h',Bool.or_true])⟩ (by omega) ⟨rfl,rfl,congrArg (fun z=>some (Value.int .i64 z)) (wrap_id (x:=(s:Int)+1) (by omega) (by omega)),trivial⟩ [] rfl
 ·refine wq_skip rfl rfl ?_
  iterate 21 refine wq_skip rfl rfl ?_
  refine qP rfl (wq_nil (wl_nil ?_))
  have e:(s==r)=true:=by have h':((s:Int) !=(r:Int))=false:=h31;rw[bne_eq_false_iff_eq] at h';rw[beq_iff_eq];omega
  refine zE (zS rfl (zI (zN (zE (zB (wP rfl (wP rfl (wP rfl (wl_nil ?_)))))))))
  exact ne_loop (s+1) ⟨hs,next (by unfold plsR;rw[e];rfl)⟩ (by omega) ⟨rfl,rfl,congrArg (fun z=>some (Value.int .i64 z)) (wrap_id (x:=(s:Int)+1) (by omega) (by omega)),trivial⟩ [] rfl
def refS (l:List Sd) (k:Nat):Bool:= !(decide (trnR l k<0)&&((sd l (prv l.length k)).gable||(sd l k).gable||((sd l (prv l.length k)).plate !=(sd l k).plate)))
def jndR (rs:List (List Sd)):Bool:=rs.all (fun l=>(List.range l.length).all (refS l))&&someRs rs rs.length
set_option maxHeartbeats 8000000 in
theorem reflex_gives (W:World) (p:Option Addr) (cap:Nat) (rs:List (List Sd)) (hn:rs.length<4611686018427387904) (hl: ∀l∈rs,l.length<4611686018427387904) (hR:RingsP W p rs):
  CallsR Tryz.prog 50 #[slv p rs.length cap] W (fun _:Unit=> .bool (jndR rs)) (fun _=>True) (fun _=>[]):=by
 refine calls_enter (args:=[slv p rs.length cap]) Tryz.func50 rfl rfl rfl ?_
 refine zA (zB (wP rfl (wl_nil (zE (zA (zB (wP rfl (wl_nil (zE (zA (zA (zB (wP rfl ?_)))))))))))))
 refine wl_nil (zE (zH ?_))
 refine wc_loop (X:=Nat) (fun r=>[(0,slv p rs.length cap),(3, .bool (someRs rs r)),(4, .int .i64 (r:Nat))]) (fun _=>[]) (fun r=>r≤rs.length∧ ∀j,j<r→(List.range (rg rs j).length).all (refS (rg rs j))=true) (fun r=>rs.length-r) 0
  ⟨Nat.zero_le _,fun j hj=>absurd hj (Nat.not_lt_zero _)⟩ ⟨rfl,rfl,rfl,trivial⟩ [] rfl ?_
 rintro r ⟨hr,hok⟩
 refine zA (zA (zB (wP rfl (wP rfl (wP rfl (wP rfl (wl_nil (zE ?_))))))))
 refine wc_cond rfl (fun h=> ?_) (fun h=> ?_)
 rotate_left
 ·have e:r=rs.length:=by simp at h;omega
  subst e
  refine zJ (zK (zK (zL (zE (zA (zB (wP rfl (wP rfl (wl_nil (zE (zO ?_)))))))))))
  have ht:jndR rs=someRs rs rs.length:=by
   unfold jndR
   rw[List.all_eq_true.2 fun l hl=> ?_,Bool.true_and]
   obtain⟨j,hj,e⟩:=List.getElem_of_mem hl
   have:=hok j hj
   rw[show rg rs j=l by simp[rg,hj,e]] at this
   exact this
  exact ne_ret1 tH rfl (.tmp rfl) () (by rw[ht]) trivial fun W _=>NewBx.nil _ _
 have hr:r<rs.length:=by simp at h;omega
 clear h
 obtain⟨b,off,rfl,hrow⟩:=hR.row hr
 obtain⟨q,cap2,hq1,hq2⟩:=hrow r hr
 have hlr:=hl _ (List.mem_of_getElem? (rg_get hr))
 refine zI (zE (zA (zH (zA (zB (wP rfl (wP rfl ?_)))))))
 refine wI rfl rfl (by omega) (by omega) ?_
 refine wl_load rfl rfl rfl rfl (fun W hp=>RowAt.load 0 tH rfl ((fun W hp=>hq1.hp hp) W hp) rfl) ?_
 refine wP rfl (wl_nil (zE (zA (zB (wP rfl (wl_nil (zE (zH ?_))))))))
 refine wc_loop (X:=Nat) (fun i=>[(0,slv (some ⟨b,off,none⟩) rs.length cap),(3, .bool (someUp (rg rs r) (someRs rs r) i)),(4, .int .i64 (r:Nat)),(5,slv q (rg rs r).length cap2),(6, .int .i64 (i:Nat))]) (fun _=>[]) (fun i=>i≤(rg rs r).length∧ ∀j,j<i→refS (rg rs r) j=true) (fun i=>(rg rs r).length-i) 0
  ⟨Nat.zero_le _,fun j hj=>absurd hj (Nat.not_lt_zero _)⟩ ⟨rfl,rfl,rfl,rfl,rfl,trivial⟩ [] rfl ?_
 rintro i ⟨hi,hoki⟩
 refine zA (zA (zB (wP rfl (wP rfl (wP rfl (wP rfl (wl_nil (zE ?_))))))))
 refine wc_cond rfl (fun h=> ?_) (fun h=> ?_)
 rotate_left
 ·have e:i=(rg rs r).length:=by simp at h;omega
  subst e
  refine zJ (zK (zK (zL (zN (zE (zB (wP rfl (wP rfl (wP rfl (wl_nil ?_))))))))))
  refine ne_loop (r+1) ⟨hr,fun j hj=> ?_⟩ (by omega) ⟨rfl,rfl,congrArg (fun z=>some (Value.int .i64 z)) (wrap_id (x:=(r:Int)+1) (by omega) (by omega)),trivial⟩ [] rfl
  by_cases e:j=r
  ·subst e;exact List.all_eq_true.2 fun m hm=>hoki m (List.mem_range.1 hm)
  ·exact hok j (by omega)
 have hi:i<(rg rs r).length:=by simp at h;omega
 clear h
 have hi2:=prv_lt hi
 obtain⟨b3,off3,rfl,hrow3⟩:=hq2.row hi
 have bad:refS (rg rs r) i=false→jndR rs=false:=fun h=>by
  unfold jndR
  have:rs.all (fun l=>(List.range l.length).all (refS l))=false:=Bool.eq_false_iff.2 fun e=>by
   have:=List.all_eq_true.1 e _ (List.mem_of_getElem? (rg_get hr))
   rw[all_range_false hi h] at this;cases this
  rw[this];rfl
 have good:refS (rg rs r) i=true→ ∀j,j<i+1→refS (rg rs r) j=true:=fun h j hj=>by
  by_cases e:j=i
  ·subst e;exact h
  ·exact hoki j (by omega)
 refine zI (zE (wc_seq (wc_block ?_)))
 repeat refine wc_seq ?_
 refine wc_lateS (X:=Nat×Nat) (fun y=>[(0,slv (some ⟨b,off,none⟩) rs.length cap),(3, .bool (someUp (rg rs r) (someRs rs r) i)),(4, .int .i64 (r:Nat)),(5,slv (some ⟨b3,off3,none⟩) (rg rs r).length cap2),(6, .int .i64 (i:Nat)),(7, .pointer (some ⟨y.1,0,none⟩)),(8, .pointer (some ⟨y.2,0,none⟩))])
  (fun y=>[⟨y.1,42,(sd (rg rs r) (prv (rg rs r).length i)).cells,true,none⟩,⟨y.2,42,(sd (rg rs r) i).cells,true,none⟩]) 4 Tryz.mixed (by kernel_rfl) ?_ ?_
 ·refine qP rfl ?_
  iterate 5 refine qP rfl ?_
  refine wq_upd 30 (.int .i64 ((i+(rg rs r).length-1:Nat):Int)) rfl (congrArg (Value.int .i64) (show w64 (w64 ((i:Nat)+((rg rs r).length:Nat))-1)=((i+(rg rs r).length-1:Nat):Int) by rw[w64_id (x:=(i:Nat)+((rg rs r).length:Nat)) (by omega) (by omega),w64_id (by omega) (by omega)];omega)) ?_
  refine qP rfl (qP rfl ?_)
  refine wq_rem rfl rfl rfl rfl rfl (by omega) ?_
  refine wq_upd 33 (.int .i64 (prv (rg rs r).length i:Nat)) rfl (congrArg (Value.int .i64) (show Int.tmod ((i+(rg rs r).length-1:Nat):Int) ((rg rs r).length:Nat)=(prv (rg rs r).length i:Nat) from(Int.ofNat_tmod _ _).symm)) ?_
  refine qI rfl rfl (by omega) (by omega) ?_
  refine wq_load rfl rfl rfl rfl (fun W hp=>RowAt.load 0 tH rfl ((fun W hp=>(hrow3 _ hi2).hp hp) W hp) rfl) ?_
  refine qP rfl (qP rfl ?_)
  refine qI rfl rfl (by omega) (by omega) ?_
  refine wq_load rfl rfl rfl rfl (fun W hp=>RowAt.load 0 tH rfl ((fun W hp=>(hrow3 i hi).hp hp) W hp) rfl) ?_
  refine wq_wt ?_
  refine wt_step rfl rfl (by((repeat (first|refine Weak.same ?_|refine Weak.off rfl ?_));exact trivial)) ?_
  refine RS.cons ?_ (RS.cons ?_ (RS.nil))
  ·refine wl_allocZ Tryz.hZ rfl rfl rfl rfl ?_;intro b7
   refine wl_nil (ne_wt ?_)
   refine wt_step rfl rfl (by((repeat (first|refine Weak.same ?_|refine Weak.off rfl ?_));exact trivial)) ?_
   refine RS.cons ?_ (RS.nil)
   refine wl_allocZ Tryz.hZ rfl rfl rfl rfl ?_;intro b8
   refine wl_nil (ne_wt ?_)
   refine wt_step rfl rfl (by((repeat (first|refine Weak.same ?_|refine Weak.off rfl ?_));exact trivial)) ?_
   refine RS.cons ?_ (RS.nil)
   refine wS 0 rfl rfl rfl (wl_nil (ne_wt ?_))
   refine wt_step rfl rfl (by((repeat (first|refine Weak.same ?_|refine Weak.off rfl ?_));exact trivial)) ?_
   refine RS.cons ?_ (RS.nil)
   refine wS 1 rfl rfl rfl (wl_nil (ne_wt ?_))
   (first|refine wt_done rfl (by((repeat (first|refine Weak.same ?_|refine Weak.off rfl ?_));exact trivial)) ?_|refine wt_doneF rfl (by kernel_rfl) ?_);(first|exact ne_late (b7,b8) ⟨rfl,rfl,rfl,rfl,rfl,rfl,rfl,trivial⟩ [0,1] (by decide) rfl|exact ne_late (b7,b8) ⟨rfl,rfl,rfl,rfl,rfl,rfl,rfl,trivial⟩ [1,0] (by decide) rfl)
  ·refine wl_allocZ Tryz.hZ rfl rfl rfl rfl ?_;intro b8
   refine wl_nil (ne_wt ?_)
   refine wt_step rfl rfl (by((repeat (first|refine Weak.same ?_|refine Weak.off rfl ?_));exact trivial)) ?_
   refine RS.cons ?_ (RS.nil)
   refine wl_allocZ Tryz.hZ rfl rfl rfl rfl ?_;intro b7
   refine wl_nil (ne_wt ?_)
   refine wt_step rfl rfl (by((repeat (first|refine Weak.same ?_|refine Weak.off rfl ?_));exact trivial)) ?_
   refine RS.cons ?_ (RS.nil)
   refine wS 1 rfl rfl rfl (wl_nil (ne_wt ?_))
   refine wt_step rfl rfl (by((repeat (first|refine Weak.same ?_|refine Weak.off rfl ?_));exact trivial)) ?_
   refine RS.cons ?_ (RS.nil)
   refine wS 0 rfl rfl rfl (wl_nil (ne_wt ?_))
   (first|refine wt_done rfl (by((repeat (first|refine Weak.same ?_|refine Weak.off rfl ?_));exact trivial)) ?_|refine wt_doneF rfl (by kernel_rfl) ?_);(first|exact ne_late (b7,b8) ⟨rfl,rfl,rfl,rfl,rfl,rfl,rfl,trivial⟩ [0,1] (by decide) rfl|exact ne_late (b7,b8) ⟨rfl,rfl,rfl,rfl,rfl,rfl,rfl,trivial⟩ [1,0] (by decide) rfl)
 rintro⟨b7,b8⟩
 obtain⟨C1,c1⟩: ∃b,decide (trnR (rg rs r) i<0)=b:=⟨_,rfl⟩
 obtain⟨C4,c4⟩: ∃b,((sd (rg rs r) (prv (rg rs r).length i)).plate !=(sd (rg rs r) i).plate)=b:=⟨_,rfl⟩
 have hC:refS (rg rs r) i= !(C1&&((sd (rg rs r) (prv (rg rs r).length i)).gable||(sd (rg rs r) i).gable||C4)):=by unfold refS;rw[c1,c4]
 refine zE (zA (zA (zB (wP rfl (wP rfl ?_)))))
 refine wl_call1 rfl rfl rfl rfl rfl rfl (by kernel_rfl) (fun W hp=>turn_gives W _ cap2 (rg rs r) i hlr (hq2.hp hp) hi) ?_
 refine wP rfl (wP rfl ?_)
 refine wl_part 44 rfl (fun h44=> ?_) (fun h44=> ?_)
 ·refine wP rfl (wB 0 rfl rfl rfl (wP rfl ?_))
  refine wl_part 47 rfl (fun h47=> ?_) (fun h47=> ?_)
  ·refine wl_skip rfl rfl ?_
   refine wl_skip rfl rfl ?_
   refine wP rfl (wP rfl ?_)
   iterate 5 refine wl_skip rfl rfl ?_
   refine wP rfl (wP rfl (wl_nil ?_))
   have e:refS (rg rs r) i=false:=by
    rw[hC,show C1=true from c1.symm.trans h44]
    first
    |(rw[show(sd (rg rs r) (prv (rg rs r).length i)).gable=true from h47];rfl)
    |(rw[show(sd (rg rs r) i).gable=true from h51];cases(sd (rg rs r) (prv (rg rs r).length i)).gable<;>rfl)
   refine zE (zR rfl (zA (zB (wP rfl (wl_nil (zE (zO (zP (zQ (zP (zP (zQ (zQ ?_)))))))))))))
   refine zP (zP (zQ (zP ?_)))
   exact ne_ret1 tH rfl (.tmp rfl) () (by rw[bad e]) trivial fun W _=>NewBx.nil _ _
  ·refine wP rfl (wB 1 rfl rfl rfl (wP rfl (wP rfl ?_)))
   refine wl_part 51 rfl (fun h51=> ?_) (fun h51=> ?_)
   ·refine wl_skip rfl rfl ?_
    iterate 4 refine wl_skip rfl rfl ?_
    refine wP rfl (wP rfl (wl_nil ?_))
    have e:refS (rg rs r) i=false:=by
     rw[hC,show C1=true from c1.symm.trans h44]
     first
     |(rw[show(sd (rg rs r) (prv (rg rs r).length i)).gable=true from h47];rfl)
     |(rw[show(sd (rg rs r) i).gable=true from h51];cases(sd (rg rs r) (prv (rg rs r).length i)).gable<;>rfl)
    refine zE (zR rfl (zA (zB (wP rfl (wl_nil (zE (zO (zP (zQ (zP (zP (zQ (zQ ?_)))))))))))))
    refine zP (zP (zQ (zP ?_)))
    exact ne_ret1 tH rfl (.tmp rfl) () (by rw[bad e]) trivial fun W _=>NewBx.nil _ _
   ·refine wP rfl (wB 0 rfl rfl rfl (wP rfl (wB 1 rfl rfl rfl (wP rfl (wP rfl (wP rfl (wl_nil (zE ?_))))))))
    refine wc_cond rfl (fun hx=> ?_) (fun hx=> ?_)
    ·have e:refS (rg rs r) i=false:=by
      rw[hC,show C1=true from c1.symm.trans h44,show C4=true from c4.symm.trans hx]
      cases(sd (rg rs r) (prv (rg rs r).length i)).gable<;>cases(sd (rg rs r) i).gable<;>rfl
     refine zA (zB (wP rfl (wl_nil (zE (zO (zP (zQ (zP (zP (zQ (zQ (zP (zP ?_)))))))))))))
     refine zQ (zP ?_)
     exact ne_ret1 tH rfl (.tmp rfl) () (by rw[bad e]) trivial fun W _=>NewBx.nil _ _
    ·have e:refS (rg rs r) i=true:=by
      rw[hC,show(sd (rg rs r) (prv (rg rs r).length i)).gable=false from h47]
      rw[show(sd (rg rs r) i).gable=false from h51,show C4=false from c4.symm.trans hx]
      cases C1<;>rfl
     refine zI (zE (zB (wP rfl (wP rfl ?_))))
     refine wl_part 60 rfl (fun h60=> ?_) (fun h60=> ?_)
     ·refine wl_skip rfl rfl ?_
      iterate 2 refine wl_skip rfl rfl ?_
      refine wP rfl (wP rfl (wl_nil (zN (zE (zB (wP rfl (wP rfl (wP rfl (wl_nil ?_)))))))))
      exact ne_loop (i+1) ⟨hi,good e⟩ (by omega) ⟨rfl,congrArg (fun z=>some (Value.bool z)) (show _=(someUp (rg rs r) (someRs rs r) i|| !(sd (rg rs r) i).gable) by first|(rw[show someUp (rg rs r) (someRs rs r) i=true from h60];rfl)|(rw[show someUp (rg rs r) (someRs rs r) i=false from h60];rfl)),rfl,rfl,congrArg (fun z=>some (Value.int .i64 z)) (wrap_id (x:=(i:Int)+1) (by omega) (by omega)),trivial⟩ [_,_] rfl
     ·refine wP rfl (wB 1 rfl rfl rfl (wP rfl (wP rfl (wP rfl (wl_nil (zN (zE (zB (wP rfl (wP rfl (wP rfl (wl_nil ?_))))))))))))
      exact ne_loop (i+1) ⟨hi,good e⟩ (by omega) ⟨rfl,congrArg (fun z=>some (Value.bool z)) (show _=(someUp (rg rs r) (someRs rs r) i|| !(sd (rg rs r) i).gable) by first|(rw[show someUp (rg rs r) (someRs rs r) i=true from h60];rfl)|(rw[show someUp (rg rs r) (someRs rs r) i=false from h60];rfl)),rfl,rfl,congrArg (fun z=>some (Value.int .i64 z)) (wrap_id (x:=(i:Int)+1) (by omega) (by omega)),trivial⟩ [_,_] rfl
 ·refine wl_skip rfl rfl ?_
  iterate 12 refine wl_skip rfl rfl ?_
  refine wP rfl (wl_nil ?_)
  have e:refS (rg rs r) i=true:=by rw[hC,show C1=false from c1.symm.trans h44];rfl
  refine zE (zS rfl (zI (zE (zB (wP rfl (wP rfl ?_))))))
  refine wl_part 60 rfl (fun h60=> ?_) (fun h60=> ?_)
  ·refine wl_skip rfl rfl ?_
   iterate 2 refine wl_skip rfl rfl ?_
   refine wP rfl (wP rfl (wl_nil (zN (zE (zB (wP rfl (wP rfl (wP rfl (wl_nil ?_)))))))))
   exact ne_loop (i+1) ⟨hi,good e⟩ (by omega) ⟨rfl,congrArg (fun z=>some (Value.bool z)) (show _=(someUp (rg rs r) (someRs rs r) i|| !(sd (rg rs r) i).gable) by first|(rw[show someUp (rg rs r) (someRs rs r) i=true from h60];rfl)|(rw[show someUp (rg rs r) (someRs rs r) i=false from h60];rfl)),rfl,rfl,congrArg (fun z=>some (Value.int .i64 z)) (wrap_id (x:=(i:Int)+1) (by omega) (by omega)),trivial⟩ [_,_] rfl
  ·refine wP rfl (wB 1 rfl rfl rfl (wP rfl (wP rfl (wP rfl (wl_nil (zN (zE (zB (wP rfl (wP rfl (wP rfl (wl_nil ?_))))))))))))
   exact ne_loop (i+1) ⟨hi,good e⟩ (by omega) ⟨rfl,congrArg (fun z=>some (Value.bool z)) (show _=(someUp (rg rs r) (someRs rs r) i|| !(sd (rg rs r) i).gable) by first|(rw[show someUp (rg rs r) (someRs rs r) i=true from h60];rfl)|(rw[show someUp (rg rs r) (someRs rs r) i=false from h60];rfl)),rfl,rfl,congrArg (fun z=>some (Value.int .i64 z)) (wrap_id (x:=(i:Int)+1) (by omega) (by omega)),trivial⟩ [_,_] rfl
-- BOXES 1
def chkR (rs:List (List Sd)):Int:=
 if rs.any (fun l=>l.length==0)=true then 5
 else if tot rs=0 then 5
 else if tot rs>24 then 4
 else if rs.flatten.any (fun s=> !rgd s)=true then 2
 else if rs.any (fun l=> !shpR l)=true then 14
 else if crs rs=true then 15
 else if (!plcR rs|| !jndR rs)=true then 14
 else 0
set_option maxHeartbeats 8000000 in
theorem checkR_gives (W:World) (p:Option Addr) (cap:Nat) (rs:List (List Sd)) (hn:rs.length<4611686018427387904) (hT:tot rs<1099511627776) (hR:RingsP W p rs):
  CallsR Tryz.prog 12 #[planV p rs.length cap] W (fun _:Unit=> .int .i64 (chkR rs)) (fun _=>True) (fun _=>[]):=by
 have hl: ∀l∈rs,l.length<4611686018427387904:=fun l h=>by have:=len_le_tot h;omega
 refine calls_enter (args:=[planV p rs.length cap]) Tryz.func12 rfl rfl rfl ?_
 refine zA (zB ?_)
 (refine wl_box rfl rfl rfl rfl ?_;intro)
 refine wP rfl (wl_nil ?_)
 rename_i b1
 refine zE (zA (zA (zB (wP rfl (wB 0 rfl rfl rfl (wP rfl (wP rfl (wl_nil (zE ?_)))))))))
 refine wc_cond rfl (fun h=> ?_) (fun h=> ?_)
 ·refine zA (zB (wP rfl (wl_nil (zE (zO (zP ?_))))))
  have h0:rs=[]:=by have h':(((rs.length:Nat):Int)==0)=true:=h;rw[beq_iff_eq] at h';exact List.length_eq_zero_iff.1 (by omega)
  exact ne_ret1 tH rfl (.tmp rfl) () (by subst h0;rfl) trivial fun W _=>NewBx.nil _ _
 have hpos:0<rs.length:=by have h':(((rs.length:Nat):Int)==0)=false:=h;rw[beq_eq_false_iff_ne] at h';omega
 clear h
 obtain⟨b,off,rfl,hrow⟩:=hR.row hpos
 refine zI (zE (zA (zB (wP rfl (wl_nil (zE (zA (zA (zB (wP rfl (wl_nil (zE (zH ?_)))))))))))))
 refine wc_loop (X:=Nat) (fun k=>[(1, .pointer (some ⟨b1,0,none⟩)),(3, .int .i64 (tot (rs.take k):Nat)),(4, .int .i64 (k:Nat))]) (fun _=>[⟨b1,24,[slv (some ⟨b,off,none⟩) rs.length cap],true,none⟩])
  (fun k=>k≤rs.length∧ ∀j,j<k→(rg rs j).length≠0) (fun k=>rs.length-k) 0 ⟨Nat.zero_le _,fun j hj=>absurd hj (Nat.not_lt_zero _)⟩ ⟨rfl,rfl,rfl,trivial⟩ [] rfl ?_
 rintro k ⟨hk,hok⟩
 refine zA (zA (zB (wP rfl (wP rfl (wB 0 rfl rfl rfl (wP rfl (wP rfl (wl_nil (zE ?_)))))))))
 refine wc_cond rfl (fun h=> ?_) (fun h=> ?_)
 ·have hk:k<rs.length:=by simp at h;omega
  clear h
  obtain⟨q,cap2,hq1,hq2⟩:=hrow k hk
  refine zI (zE (zA (zH (zA (zA (zB (wP rfl (wB 0 rfl rfl rfl (wP rfl ?_)))))))))
  refine wI rfl rfl (by omega) (by omega) ?_
  refine wl_load rfl rfl rfl rfl (fun W hp=>RowAt.load 0 tH rfl ((fun W hp=>hq1.hp hp) W hp) rfl) ?_
  refine wP rfl (wP rfl (wl_nil (zE ?_)))
  refine wc_cond rfl (fun h=> ?_) (fun h=> ?_)
  ·refine zA (zB (wP rfl (wl_nil (zE (zO (zP (zQ (zP (zP (zQ (zP ?_)))))))))))
   have he:rs.any (fun l=>l.length==0)=true:=List.any_eq_true.2 ⟨_,List.mem_of_getElem? (rg_get hk),by have h':((((rg rs k).length:Nat):Int)==0)=true:=h;rw[beq_iff_eq] at h'⊢;omega⟩
   exact ne_ret1 tH rfl (.tmp rfl) () (by unfold chkR;rw[if_pos he]) trivial fun W _=>NewBx.nil _ _
  have hz:(rg rs k).length≠0:=by
   have h':((((rg rs k).length:Nat):Int)==0)=false:=h
   rw[beq_eq_false_iff_ne] at h';omega
  clear h
  refine zI (zE (zB (wP rfl (wP rfl (wB 0 rfl rfl rfl (wP rfl ?_))))))
  refine wI rfl rfl (by omega) (by omega) ?_
  refine wl_load rfl rfl rfl rfl (fun W hp=>RowAt.load 0 tH rfl ((fun W hp=>hq1.hp hp) W hp) rfl) ?_
  refine wP rfl (wP rfl (wP rfl (wl_nil ?_)))
  have hs:w64 ((tot (rs.take k):Nat)+((rg rs k).length:Nat))=(tot (rs.take (k+1)):Nat):=by
   have h1:=tot_take_succ hk
   have h2:=tot_take_le rs (k+1)
   rw[w64_id (by omega) (by omega)];omega
  refine zN (zE (zB ?_))
  refine wl_upd 3 _ rfl (congrArg (Value.int .i64) hs) ?_
  refine wP rfl (wP rfl (wP rfl (wl_nil ?_)))
  refine ne_loop (k+1) ⟨hk,fun j hj=> ?_⟩ (by omega) ⟨rfl,rfl,congrArg (fun z=>some (Value.int .i64 z)) (wrap_id (x:=(k:Int)+1) (by omega) (by omega)),trivial⟩ [] rfl
  by_cases e:j=k
  ·subst e;exact hz
  ·exact hok j (by omega)
 have e:k=rs.length:=by simp at h;omega
 subst e
 clear h
 rw[List.take_length]
 have hne: ∀l∈rs,l≠[]:=fun l hl e=>by
  obtain⟨i,hi,e2⟩:=List.getElem_of_mem hl
  have:=hok i hi
  rw[show rg rs i=rs[i] by simp[rg,hi],e2,e] at this
  exact this rfl
 have he:rs.any (fun l=>l.length==0)=false:=Bool.eq_false_iff.2 fun h2=>by
  obtain⟨l,h3,h4⟩:=List.any_eq_true.1 h2
  rw[beq_iff_eq] at h4
  exact hne l h3 (List.length_eq_zero_iff.1 h4)
 have hN: ¬(rs.any (fun l=>l.length==0)=true):=by rw[he];decide
 have h0: ¬tot rs=0:=by
  have h1:=len_le_tot (List.mem_of_getElem? (rg_get hpos))
  have h2:=hok 0 hpos
  omega
 refine zJ (zK (zK (zL (zE (zA (zA (zB (wP rfl (wP rfl (wl_nil (zE ?_)))))))))))
 refine wc_cond rfl (fun h=> ?_) (fun h=> ?_)
 ·refine zA (zB (wP rfl (wl_nil (zE (zO (zP ?_))))))
  have h1:tot rs>24:=by have h':decide (((tot rs:Nat):Int)>24)=true:=h;rw[decide_eq_true_iff] at h';omega
  exact ne_ret1 tH rfl (.tmp rfl) () (by unfold chkR;rw[if_neg hN,if_neg h0,if_pos h1]) trivial fun W _=>NewBx.nil _ _
 have h1: ¬tot rs>24:=by have h':decide (((tot rs:Nat):Int)>24)=false:=h;rw[decide_eq_false_iff_not] at h';omega
 clear h
 refine zI (zE (zA (zA (zB (wP rfl (wl_nil (zE (zH ?_))))))))
 refine wc_loop (X:=Nat) (fun k=>[(1, .pointer (some ⟨b1,0,none⟩)),(5, .int .i64 (k:Nat))]) (fun _=>[⟨b1,24,[slv (some ⟨b,off,none⟩) rs.length cap],true,none⟩])
  (fun k=>k≤rs.length∧ ∀j,j<k→ ∀s∈rg rs j,rgd s=true) (fun k=>rs.length-k) 0 ⟨Nat.zero_le _,fun j hj=>absurd hj (Nat.not_lt_zero _)⟩ ⟨rfl,rfl,trivial⟩ [] rfl ?_
 rintro k ⟨hk,hok2⟩
 refine zA (zA (zB (wP rfl (wP rfl (wB 0 rfl rfl rfl (wP rfl (wP rfl (wl_nil (zE ?_)))))))))
 refine wc_cond rfl (fun h=> ?_) (fun h=> ?_)
 ·have hk:k<rs.length:=by simp at h;omega
  clear h
  obtain⟨q,cap2,hq1,hq2⟩:=hrow k hk
  have hlk:=hl _ (List.mem_of_getElem? (rg_get hk))
  refine zI (zE (zA (zH (zA (zB (wP rfl (wl_nil (zE (zH ?_)))))))))
  refine wc_loop (X:=Nat) (fun i=>[(1, .pointer (some ⟨b1,0,none⟩)),(5, .int .i64 (k:Nat)),(6, .int .i64 (i:Nat))]) (fun _=>[⟨b1,24,[slv (some ⟨b,off,none⟩) rs.length cap],true,none⟩])
   (fun i=>i≤(rg rs k).length∧ ∀j,j<i→rgd (sd (rg rs k) j)=true) (fun i=>(rg rs k).length-i) 0 ⟨Nat.zero_le _,fun j hj=>absurd hj (Nat.not_lt_zero _)⟩ ⟨rfl,rfl,rfl,trivial⟩ [] rfl ?_
  rintro i ⟨hi,hoki⟩
  refine zA (zA (zB (wP rfl (wP rfl (wB 0 rfl rfl rfl (wP rfl ?_))))))
  refine wI rfl rfl (by omega) (by omega) ?_
  refine wl_load rfl rfl rfl rfl (fun W hp=>RowAt.load 0 tH rfl ((fun W hp=>hq1.hp hp) W hp) rfl) ?_
  refine wP rfl (wP rfl (wl_nil (zE ?_)))
  refine wc_cond rfl (fun h=> ?_) (fun h=> ?_)
  ·have hi:i<(rg rs k).length:=by simp at h;omega
   clear h
   obtain⟨b4,off4,rfl,hrow4⟩:=hq2.row hi
   refine zI (zE (zA (zH (zA (zB (wP rfl (wB 0 rfl rfl rfl (wP rfl ?_))))))))
   refine wI rfl rfl (by omega) (by omega) ?_
   refine wl_load rfl rfl rfl rfl (fun W hp=>RowAt.load 0 tH rfl ((fun W hp=>hq1.hp hp) W hp) rfl) ?_
   refine wP rfl ?_
   refine wI rfl rfl (by omega) (by omega) ?_
   refine wl_load rfl rfl rfl rfl (fun W hp=>RowAt.load 0 tH rfl ((fun W hp=>(hrow4 i hi).hp hp) W hp) rfl) ?_
   refine wl_call1 rfl rfl rfl rfl rfl rfl (by kernel_rfl) (fun W _=>rangedR_gives (sd (rg rs k) i) W) ?_
   refine wP rfl (wl_nil (zE ?_))
   refine wc_cond rfl (fun h=> ?_) (fun h=> ?_)
   ·refine zA (zB (wP rfl (wl_nil (zE (zO (zQ (zP (zP (zQ (zQ (zP (zP (zQ ?_)))))))))))))
    refine zP ?_
    have h2:rs.flatten.any (fun s=> !rgd s)=true:=List.any_eq_true.2 ⟨sd (rg rs k) i,List.mem_flatten.2 ⟨rg rs k,List.mem_of_getElem? (rg_get hk),List.mem_of_getElem? (sd_get hi)⟩,h⟩
    exact ne_ret1 tH rfl (.tmp rfl) () (by unfold chkR;rw[if_neg hN,if_neg h0,if_neg h1,if_pos h2]) trivial fun W _=>NewBx.nil _ _
   ·have hg:rgd (sd (rg rs k) i)=true:=by have h':(!rgd (sd (rg rs k) i))=false:=h;simpa using h'
    refine zI (zN (zE (zB (wP rfl (wP rfl (wP rfl (wl_nil ?_)))))))
    refine ne_loop (i+1) ⟨hi,fun j hj=> ?_⟩ (by omega) ⟨rfl,rfl,congrArg (fun z=>some (Value.int .i64 z)) (wrap_id (x:=(i:Int)+1) (by omega) (by omega)),trivial⟩ [] rfl
    by_cases e:j=i
    ·subst e;exact hg
    ·exact hoki j (by omega)
  ·have e:i=(rg rs k).length:=by simp at h;omega
   subst e
   refine zJ (zK (zK (zL (zN (zE (zB (wP rfl (wP rfl (wP rfl (wl_nil ?_))))))))))
   refine ne_loop (k+1) ⟨hk,fun j hj s hs=> ?_⟩ (by omega) ⟨rfl,congrArg (fun z=>some (Value.int .i64 z)) (wrap_id (x:=(k:Int)+1) (by omega) (by omega)),trivial⟩ [] rfl
   by_cases e:j=k
   ·subst e
    obtain⟨m,hm,e⟩:=List.getElem_of_mem hs
    have:=hoki m hm
    rw[show sd (rg rs j) m=s by simp[sd,hm,e]] at this
    exact this
   ·exact hok2 j (by omega) s hs
 have e:k=rs.length:=by simp at h;omega
 subst e
 clear h
 have hrg: ∀l∈rs, ∀s∈l,rgd s=true:=fun l hl s hs=>by
  obtain⟨i,hi,e2⟩:=List.getElem_of_mem hl
  have:=hok2 i hi
  rw[show rg rs i=l by simp[rg,hi,e2]] at this
  exact this s hs
 have h2: ¬(rs.flatten.any (fun s=> !rgd s)=true):=fun h=>by
  obtain⟨s,hs,h⟩:=List.any_eq_true.1 h
  obtain⟨l,hl,hs⟩:=List.mem_flatten.1 hs
  rw[hrg l hl s hs] at h;cases h
 refine zJ (zK (zK (zL (zE (zA (zA (zB (wP rfl (wl_nil (zE (zH ?_)))))))))))
 refine wc_loop (X:=Nat) (fun k=>[(1, .pointer (some ⟨b1,0,none⟩)),(7, .int .i64 (k:Nat))]) (fun _=>[⟨b1,24,[slv (some ⟨b,off,none⟩) rs.length cap],true,none⟩])
  (fun k=>k≤rs.length∧ ∀j,j<k→shpR (rg rs j)=true) (fun k=>rs.length-k) 0 ⟨Nat.zero_le _,fun j hj=>absurd hj (Nat.not_lt_zero _)⟩ ⟨rfl,rfl,trivial⟩ [] rfl ?_
 rintro k ⟨hk,hok3⟩
 refine zA (zA (zB (wP rfl (wP rfl (wB 0 rfl rfl rfl (wP rfl (wP rfl (wl_nil (zE ?_)))))))))
 refine wc_cond rfl (fun h=> ?_) (fun h=> ?_)
 ·have hk:k<rs.length:=by simp at h;omega
  clear h
  obtain⟨q,cap2,hq1,hq2⟩:=hrow k hk
  have hlk:=hl _ (List.mem_of_getElem? (rg_get hk))
  refine zI (zE (zA (zH (zA (zB (wP rfl (wB 0 rfl rfl rfl (wP rfl ?_))))))))
  refine wI rfl rfl (by omega) (by omega) ?_
  refine wl_load rfl rfl rfl rfl (fun W hp=>RowAt.load 0 tH rfl ((fun W hp=>hq1.hp hp) W hp) rfl) ?_
  refine wl_call1 rfl rfl rfl rfl rfl rfl (by kernel_rfl) (fun W hp=>shapedR_gives W q cap2 (rg rs k) hlk (hq2.hp hp)) ?_
  refine wP rfl (wl_nil (zE ?_))
  refine wc_cond rfl (fun h=> ?_) (fun h=> ?_)
  ·refine zA (zB (wP rfl (wl_nil (zE (zO (zQ (zP (zP (zQ (zP ?_))))))))))
   have h3:rs.any (fun l=> !shpR l)=true:=List.any_eq_true.2 ⟨_,List.mem_of_getElem? (rg_get hk),h⟩
   exact ne_ret1 tH rfl (.tmp rfl) () (by unfold chkR;rw[if_neg hN,if_neg h0,if_neg h1,if_neg h2,if_pos h3]) trivial fun W _=>NewBx.nil _ _
  ·have hg:shpR (rg rs k)=true:=by have h':(!shpR (rg rs k))=false:=h;simpa using h'
   refine zI (zN (zE (zB (wP rfl (wP rfl (wP rfl (wl_nil ?_)))))))
   refine ne_loop (k+1) ⟨hk,fun j hj=> ?_⟩ (by omega) ⟨rfl,congrArg (fun z=>some (Value.int .i64 z)) (wrap_id (x:=(k:Int)+1) (by omega) (by omega)),trivial⟩ [] rfl
   by_cases e:j=k
   ·subst e;exact hg
   ·exact hok3 j (by omega)
 have e:k=rs.length:=by simp at h;omega
 subst e
 clear h
 have h3: ¬(rs.any (fun l=> !shpR l)=true):=fun h=>by
  obtain⟨l,hl,h⟩:=List.any_eq_true.1 h
  obtain⟨i,hi,e2⟩:=List.getElem_of_mem hl
  have:=hok3 i hi
  rw[show rg rs i=l by simp[rg,hi,e2]] at this
  rw[this] at h;cases h
 refine zJ (zK (zK (zL (zE (zA (zA (zB (wP rfl (wB 0 rfl rfl rfl ?_)))))))))
 refine wl_call1 rfl rfl rfl rfl rfl rfl (by kernel_rfl) (fun W hp=>crossedR_gives W _ cap rs hn hl (hR.below (Nat.le_refl _) hp.below)) ?_
 refine wl_nil (zE ?_)
 refine wc_cond rfl (fun h=> ?_) (fun h=> ?_)
 ·refine zA (zB (wP rfl (wl_nil (zE (zO (zP ?_))))))
  exact ne_ret1 tH rfl (.tmp rfl) () (by unfold chkR;rw[if_neg hN,if_neg h0,if_neg h1,if_neg h2,if_neg h3,if_pos h]) trivial fun W _=>NewBx.nil _ _
 have h4: ¬(crs rs=true):=by rw[h];decide
 clear h
 refine zI (zE (zA (zA (zB (wP rfl (wB 0 rfl rfl rfl ?_))))))
 refine wl_call1 rfl rfl rfl rfl rfl rfl (by kernel_rfl) (fun W hp=>placedR_gives W _ cap rs hn hl hne hpos (hR.below (Nat.le_refl _) hp.below)) ?_
 refine wP rfl (wP rfl ?_)
 refine wl_part 84 rfl (fun h84=> ?_) (fun h84=> ?_)
 ·refine wl_skip rfl rfl ?_
  iterate 3 refine wl_skip rfl rfl ?_
  refine wP rfl (wl_nil ?_)
  have h5:(!plcR rs|| !jndR rs)=true:=by rw[show(!plcR rs)=true from h84];rfl
  refine zE (zR rfl (zA (zB (wP rfl (wl_nil (zE (zO (zP ?_))))))))
  exact ne_ret1 tH rfl (.tmp rfl) () (by unfold chkR;rw[if_neg hN,if_neg h0,if_neg h1,if_neg h2,if_neg h3,if_neg h4,if_pos h5]) trivial fun W _=>NewBx.nil _ _
 ·refine wP rfl (wB 0 rfl rfl rfl ?_)
  refine wl_call1 rfl rfl rfl rfl rfl rfl (by kernel_rfl) (fun W hp=>reflex_gives W _ cap rs hn hl (hR.below (Nat.le_refl _) hp.below)) ?_
  refine wP rfl (wP rfl (wl_nil ?_))
  have h':(!plcR rs)=false:=h84
  refine zE ?_
  refine wc_cond rfl (fun h=> ?_) (fun h=> ?_)
  ·refine zA (zB (wP rfl (wl_nil (zE (zO (zP ?_))))))
   have h5:(!plcR rs|| !jndR rs)=true:=by rw[h',show(!jndR rs)=true from h];rfl
   exact ne_ret1 tH rfl (.tmp rfl) () (by unfold chkR;rw[if_neg hN,if_neg h0,if_neg h1,if_neg h2,if_neg h3,if_neg h4,if_pos h5]) trivial fun W _=>NewBx.nil _ _
  ·refine zI (zE (zA (zB (wP rfl (wl_nil (zE (zO ?_)))))))
   have h5: ¬((!plcR rs|| !jndR rs)=true):=by rw[h',show(!jndR rs)=false from h];decide
   exact ne_ret1 tH rfl (.tmp rfl) () (by unfold chkR;rw[if_neg hN,if_neg h0,if_neg h1,if_neg h2,if_neg h3,if_neg h4,if_neg h5]) trivial fun W _=>NewBx.nil _ _
end Go.Proofs.YtlagebbefnnnnaaGreatDoor
namespace Go.Proofs.YtlagebbefnnnnaaGreatDoor
open Go Go.RowKit Go.Am
theorem sgI_cases (a:Int):(sgI a= -1∧a<0)∨(sgI a=0∧a=0)∨(sgI a=1∧a>0):=by
 unfold sgI
 rcases Int.lt_trichotomy a 0 with h|h|h
 ·rw[if_pos h];exact .inl ⟨rfl,h⟩
 ·rw[if_neg (by omega),if_neg (by omega)];exact .inr (.inl ⟨rfl,h⟩)
 ·rw[if_neg (by omega),if_pos h];exact .inr (.inr ⟨rfl,h⟩)
theorem dir_eq {l:List Sd} (hr: ∀s∈l,inR s) {i:Nat} (hi:i<l.length):dirX l i=sgI ((sd l (nxt l.length i)).x-(sd l i).x)∧dirY l i=sgI ((sd l (nxt l.length i)).y-(sd l i).y):=by
 obtain⟨s1,s2,s3,s4⟩:=sd_inR hr hi
 obtain⟨n1,n2,n3,n4⟩:=sd_inR hr (nxt_lt hi)
 unfold dirX dirY
 rw[d64 ⟨n1,n2⟩ ⟨s1,s2⟩,d64 ⟨n3,n4⟩ ⟨s3,s4⟩]
 exact⟨rfl,rfl⟩
theorem ax_iff {l:List Sd} (hr: ∀s∈l,inR s) {i:Nat} (hi:i<l.length):axR l i=true↔ ¬(((sd l (nxt l.length i)).x-(sd l i).x=0)↔((sd l (nxt l.length i)).y-(sd l i).y=0)):=by
 obtain⟨e1,e2⟩:=dir_eq hr hi
 unfold axR
 rw[e1,e2]
 generalize (sd l (nxt l.length i)).x-(sd l i).x=a
 generalize (sd l (nxt l.length i)).y-(sd l i).y=b
 rcases sgI_cases a with⟨ea,ha⟩|⟨ea,ha⟩|⟨ea,ha⟩<;>rcases sgI_cases b with⟨eb,hb⟩|⟨eb,hb⟩|⟨eb,hb⟩<;>rw[ea,eb]
 ·rw[show(w64 (w64 (-1* -1)+w64 (-1* -1))==1)=false by decide];constructor<;>intro h;cases h;omega
 ·rw[show(w64 (w64 (-1* -1)+w64 (0*0))==1)=true by decide];constructor<;>intro h;omega;rfl
 ·rw[show(w64 (w64 (-1* -1)+w64 (1*1))==1)=false by decide];constructor<;>intro h;cases h;omega
 ·rw[show(w64 (w64 (0*0)+w64 (-1* -1))==1)=true by decide];constructor<;>intro h;omega;rfl
 ·rw[show(w64 (w64 (0*0)+w64 (0*0))==1)=false by decide];constructor<;>intro h;cases h;omega
 ·rw[show(w64 (w64 (0*0)+w64 (1*1))==1)=true by decide];constructor<;>intro h;omega;rfl
 ·rw[show(w64 (w64 (1*1)+w64 (-1* -1))==1)=false by decide];constructor<;>intro h;cases h;omega
 ·rw[show(w64 (w64 (1*1)+w64 (0*0))==1)=true by decide];constructor<;>intro h;omega;rfl
 ·rw[show(w64 (w64 (1*1)+w64 (1*1))==1)=false by decide];constructor<;>intro h;cases h;omega
theorem trn_cases {l:List Sd} (hr: ∀s∈l,inR s) {i:Nat} (hi:i<l.length) (h1:axR l i=true) (h2:axR l (prv l.length i)=true):
  (trnR l i≠0↔ ¬(((sd l i).x-(sd l (prv l.length i)).x=0)↔((sd l (nxt l.length i)).x-(sd l i).x=0)))∧(trnR l i≠0→(trnR l i<0↔leftB (sd l (prv l.length i)) (sd l i) (sd l (nxt l.length i))=false)):=by
 have a1:=(ax_iff hr hi).1 h1
 have a2:=(ax_iff hr (prv_lt hi)).1 h2
 obtain⟨e1,e2⟩:=dir_eq hr hi
 obtain⟨e3,e4⟩:=dir_eq hr (prv_lt hi)
 rw[nxt_prv hi] at a2 e3 e4
 have i1:=sd_inR hr hi
 have i2:=sd_inR hr (nxt_lt hi)
 have i3:=sd_inR hr (prv_lt hi)
 rw[leftB_eq i3 i1 i2,decide_eq_false_iff_not]
 unfold trnR
 rw[e1,e2,e3,e4]
 generalize (sd l (nxt l.length i)).x-(sd l i).x=c at*
 generalize (sd l (nxt l.length i)).y-(sd l i).y=d at*
 generalize (sd l i).x-(sd l (prv l.length i)).x=a at*
 generalize (sd l i).y-(sd l (prv l.length i)).y=b at*
 have pp: ∀x y:Int,x>0→y>0→x*y>0:=fun x y h h'=>Int.mul_pos h h'
 have pn: ∀x y:Int,x>0→y<0→x*y<0:=fun x y h h'=>Int.mul_neg_of_pos_of_neg h h'
 have np: ∀x y:Int,x<0→y>0→x*y<0:=fun x y h h'=>Int.mul_neg_of_neg_of_pos h h'
 have nn: ∀x y:Int,x<0→y<0→x*y>0:=fun x y h h'=>Int.mul_pos_of_neg_of_neg h h'
 by_cases ha:a=0
 ·subst ha
  have hb:b≠0:=by omega
  rw[show sgI 0=0 from rfl,Int.zero_mul,Int.zero_mul]
  by_cases hd:d=0
  ·subst hd
   have hc:c≠0:=by omega
   rcases sgI_cases b with⟨eb,hb'⟩|⟨eb,hb'⟩|⟨eb,hb'⟩<;>rcases sgI_cases c with⟨ec,hc'⟩|⟨ec,hc'⟩|⟨ec,hc'⟩<;>first|omega|skip
   ·rw[eb,ec,show w64 (w64 0-w64 (-1* -1))= -1 by decide];have:=nn b c hb' hc';omega
   ·rw[eb,ec,show w64 (w64 0-w64 (-1*1))=1 by decide];have:=np b c hb' hc';omega
   ·rw[eb,ec,show w64 (w64 0-w64 (1* -1))=1 by decide];have:=pn b c hb' hc';omega
   ·rw[eb,ec,show w64 (w64 0-w64 (1*1))= -1 by decide];have:=pp b c hb' hc';omega
  ·have hc:c=0:=by omega
   subst hc
   rw[show sgI 0=0 from rfl,Int.mul_zero,show w64 (w64 0-w64 0)=0 by decide]
   omega
 ·have hb:b=0:=by omega
  subst hb
  rw[show sgI 0=0 from rfl,Int.zero_mul,Int.zero_mul]
  by_cases hc:c=0
  ·subst hc
   have hd:d≠0:=by omega
   rcases sgI_cases a with⟨eb,hb'⟩|⟨eb,hb'⟩|⟨eb,hb'⟩<;>rcases sgI_cases d with⟨ec,hc'⟩|⟨ec,hc'⟩|⟨ec,hc'⟩<;>first|omega|skip
   ·rw[eb,ec,show w64 (w64 (-1* -1)-w64 0)=1 by decide];have:=nn a d hb' hc';omega
   ·rw[eb,ec,show w64 (w64 (-1*1)-w64 0)= -1 by decide];have:=np a d hb' hc';omega
   ·rw[eb,ec,show w64 (w64 (1* -1)-w64 0)= -1 by decide];have:=pn a d hb' hc';omega
   ·rw[eb,ec,show w64 (w64 (1*1)-w64 0)=1 by decide];have:=pp a d hb' hc';omega
  ·have hd:d=0:=by omega
   subst hd
   rw[show sgI 0=0 from rfl,Int.mul_zero,show w64 (w64 0-w64 0)=0 by decide]
   omega
theorem shp_eq {l:List Sd} (hr: ∀s∈l,inR s):shpR l=shp l:=by
 rw[Bool.eq_iff_iff]
 constructor
 ·intro h
  unfold shpR at h
  obtain⟨h1,h2⟩:=Bool.and_eq_true_iff.1 h
  have ok: ∀i,i<l.length→axR l i=true∧trnR l i≠0:=fun i hi=>by
   have:=List.all_eq_true.1 h1 i (List.mem_range.2 hi)
   unfold okR at this
   obtain⟨a,b⟩:=Bool.and_eq_true_iff.1 this
   exact⟨a,by simpa using b⟩
  exact shp_mk hr (of_decide_eq_true h2) fun i hi=>⟨(ax_iff hr hi).1 (ok i hi).1,(trn_cases hr hi (ok i hi).1 (ok _ (prv_lt hi)).1).1.1 (ok i hi).2⟩
 ·intro h
  have ax: ∀i,i<l.length→axR l i=true:=fun i hi=>(ax_iff hr hi).2 (shp_side hr h hi).1
  unfold shpR
  rw[decide_eq_true (shp_len h),Bool.and_true]
  refine List.all_eq_true.2 fun i hi=> ?_
  have hi:=List.mem_range.1 hi
  have:=(trn_cases hr hi (ax i hi) (ax _ (prv_lt hi))).1.2 (shp_side hr h hi).2
  unfold okR
  rw[ax i hi,beq_eq_false_iff_ne.2 this];rfl
theorem shp_turn {l:List Sd} (hr: ∀s∈l,inR s) (h:shp l=true) {i:Nat} (hi:i<l.length):trnR l i≠0∧(trnR l i<0↔leftB (sd l (prv l.length i)) (sd l i) (sd l (nxt l.length i))=false):=by
 have ax: ∀i,i<l.length→axR l i=true:=fun i hi=>(ax_iff hr hi).2 (shp_side hr h hi).1
 have t:=trn_cases hr hi (ax i hi) (ax _ (prv_lt hi))
 have hne:=t.1.2 (shp_side hr h hi).2
 exact⟨hne,t.2 hne⟩
theorem ref_eq {l:List Sd} (hr: ∀s∈l,inR s) (h:shp l=true) {i:Nat} (hi:i<l.length):refS l i=joinSide l i:=by
 have t:=(shp_turn hr h hi).2
 unfold refS joinSide joinB
 cases hl:leftB (sd l (prv l.length i)) (sd l i) (sd l (nxt l.length i)) with
 |true=>rw[decide_eq_false (fun e=>by rw[t.1 e] at hl;cases hl)];rfl
 |false=>
  rw[decide_eq_true (t.2 hl),Bool.true_and,Bool.false_or]
  have e: ∀a b:Int,(!(false||false||(a !=b)))=(!false&& !false&&(b==a)):=fun a b=>by
   by_cases h:a=b
   ·subst h;simp
   ·rw[bne_iff_ne.2 h,beq_eq_false_iff_ne.2 (fun x=>h x.symm)];rfl
  cases(sd l i).gable<;>cases(sd l (prv l.length i)).gable<;>first|rfl|exact e _ _
theorem jnd_eq {rs:List (List Sd)} (hin:allR rs) (hs: ∀l∈rs,shp l=true):jndR rs=jnd rs:=by
 unfold jndR jnd
 congr 1
 rw[Bool.eq_iff_iff,List.all_eq_true,List.all_eq_true]
 have e: ∀l∈rs,((List.range l.length).all (refS l))=joinRing l:=fun l hl=>all_congr fun i hi=>ref_eq (hin l hl) (hs l hl) hi
 constructor<;>intro h l hl
 ·rw[←e l hl];exact h l hl
 ·rw[e l hl];exact h l hl
theorem tw_eq {l:List Sd} (h: ∀s∈l,inR s): ∀k,k≤l.length→k≤1000000→twR l k=sumTo (crossAt l) k∧ -(k*4294967296:Int)≤twR l k∧twR l k≤k*4294967296
 |0,_,_=>⟨rfl,by simp[twR],by simp[twR]⟩
 |k+1,hk,hm=>by
  obtain⟨h1,h2,h3⟩:=tw_eq h k (by omega) (by omega)
  have hs:=sd_inR h (show k<l.length by omega)
  have hn:=sd_inR h (nxt_lt (show k<l.length by omega))
  obtain⟨a1,a2⟩:=mul_bound hs.1 hs.2.1 hn.2.2.1 hn.2.2.2
  obtain⟨b1,b2⟩:=mul_bound hs.2.2.1 hs.2.2.2 hn.1 hn.2.1
  have e:twR l (k+1)=twR l k+crossAt l k:=by
   show w64 (w64 (twR l k+w64 ((sd l k).x*(sd l (nxt l.length k)).y))-w64 ((sd l (nxt l.length k)).x*(sd l k).y))=_
   unfold crossAt
   rw[Int.mul_comm (sd l (nxt l.length k)).x,w64_id (x:=(sd l k).x*_) (by omega) (by omega),w64_id (x:=(sd l k).y*_) (by omega) (by omega),w64_id (x:=twR l k+_) (by omega) (by omega)]
   rw[w64_id (by omega) (by omega)];omega
  have ec:crossAt l k=(sd l k).x*(sd l (nxt l.length k)).y-(sd l k).y*(sd l (nxt l.length k)).x:=rfl
  refine⟨by rw[e,h1];rfl, ?_, ?_⟩<;>rw[e,ec]<;>push_cast<;>omega
theorem ins_eq {l:List Sd} (h: ∀s∈l,inR s) (px py:Int): ∀k,k≤l.length→insR l px py k=insUp l px py k
 |0,_=>rfl
 |k+1,hk=>by
  have hs:=sd_inR h (show k<l.length by omega)
  have hn:=sd_inR h (nxt_lt (show k<l.length by omega))
  have e:passR (sd l k) (sd l (nxt l.length k)) px py=passB (sd l k) (sd l (nxt l.length k)) px py:=by
   unfold passR passB
   rw[d64 ⟨hn.1,hn.2.1⟩ ⟨hs.1,hs.2.1⟩]
   generalize sd l k=t
   generalize sd l (nxt l.length k)=u
   by_cases hx:t.x=u.x
   ·rw[beq_iff_eq.2 hx,beq_iff_eq.2 (show u.x-t.x=0 by omega),hx]
    rw[Bool.true_and,Bool.and_assoc]
    congr 1
    unfold loy hiy
    by_cases h1:t.y>py<;>by_cases h2:u.y>py
    ·rw[decide_eq_true h1,decide_eq_true h2,decide_eq_false (by split<;>omega)];rfl
    ·rw[decide_eq_true h1,decide_eq_false h2,decide_eq_true (by split<;>omega),decide_eq_true (by split<;>omega)];rfl
    ·rw[decide_eq_false h1,decide_eq_true h2,decide_eq_true (by split<;>omega),decide_eq_true (by split<;>omega)];rfl
    ·rw[decide_eq_false h1,decide_eq_false h2,decide_eq_false (p:=py<_) (by split<;>omega),Bool.and_false];rfl
   ·rw[beq_eq_false_iff_ne.2 hx,beq_eq_false_iff_ne.2 (show u.x-t.x≠0 by omega)];rfl
  show(if passR (sd l k) (sd l (nxt l.length k)) px py=true then !insR l px py k else insR l px py k)=(if passB (sd l k) (sd l (nxt l.length k)) px py=true then !insUp l px py k else insUp l px py k)
  rw[e,ins_eq h px py k (by omega)]
theorem plc_eq {rs:List (List Sd)} (hin:allR rs) (hs: ∀l∈rs,shp l=true) (hc:crs rs=false) (hT:tot rs≤24) (hpos:0<rs.length):plcR rs=plc rs:=by
 have ar: ∀r,r<rs.length→twR (rg rs r) (rg rs r).length=areaUp (rg rs r) (rg rs r).length∧areaUp (rg rs r) (rg rs r).length≠0:=fun r hr=>by
  have hm:rg rs r∈rs:=List.mem_of_getElem? (rg_get hr)
  have hlen:=len_le_tot hm
  rw[(tw_eq (hin _ hm) _ (Nat.le_refl _) (by omega)).1,(areaUp_eq (hin _ hm) _ (Nat.le_refl _) (by omega)).1]
  exact⟨rfl,area_ne hin hs hc hr⟩
 have pk: ∀r s,r<rs.length→s<rs.length→r≠0→plsR rs r s=placeK rs r s:=fun r s hr hs' h0=>by
  unfold plsR placeK
  rw[ins_eq (hin _ (List.mem_of_getElem? (rg_get hs'))) _ _ _ (Nat.le_refl _),beq_eq_false_iff_ne.2 h0,Bool.or_false]
 have all: ∀r,r<rs.length→r≠0→((List.range rs.length).all (plsR rs r))=((List.range rs.length).all (placeK rs r)):=fun r hr h0=>all_congr fun s hs'=>pk r s hr hs' h0
 rw[Bool.eq_iff_iff]
 constructor
 ·intro h
  unfold plcR at h
  obtain⟨h1,h2⟩:=Bool.and_eq_true_iff.1 h
  refine List.all_eq_true.2 fun r hr=> ?_
  have hr:=List.mem_range.1 hr
  have hr2:=List.all_eq_true.1 h2 r (List.mem_range.2 hr)
  obtain⟨a1,a2⟩:=ar r hr
  unfold placeRing
  by_cases e:r=0
  ·subst e
   rw[a1] at h1
   have h1: ¬areaUp (rg rs 0) (rg rs 0).length≤0:=by simpa using h1
   rw[decide_eq_true (by omega)]
   exact Bool.and_eq_true_iff.2 ⟨rfl,List.all_eq_true.2 fun k _=>by unfold placeK;simp⟩
  ·unfold plrR at hr2
   rw[beq_eq_false_iff_ne.2 e,Bool.false_or,a1] at hr2
   obtain⟨b1,b2⟩:=Bool.and_eq_true_iff.1 hr2
   have b1: ¬areaUp (rg rs r) (rg rs r).length≥0:=by simpa using b1
   rw[decide_eq_false (by omega),beq_eq_false_iff_ne.2 e, ←all r hr e,b2];rfl
 ·intro h
  have pr: ∀r,r<rs.length→placeRing rs r=true:=fun r hr=>List.all_eq_true.1 h r (List.mem_range.2 hr)
  unfold plcR
  have h0:=pr 0 hpos
  unfold placeRing at h0
  obtain⟨c1,_⟩:=Bool.and_eq_true_iff.1 h0
  obtain⟨a1,a2⟩:=ar 0 hpos
  have c2:areaUp (rg rs 0) (rg rs 0).length>0:=by simpa using c1
  rw[a1,decide_eq_false (by omega),Bool.not_false,Bool.true_and]
  refine List.all_eq_true.2 fun r hr=> ?_
  have hr:=List.mem_range.1 hr
  unfold plrR
  by_cases e:r=0
  ·subst e;rfl
  ·have h1:=pr r hr
   unfold placeRing at h1
   obtain⟨d1,d2⟩:=Bool.and_eq_true_iff.1 h1
   obtain⟨a1,a2⟩:=ar r hr
   rw[beq_eq_false_iff_ne.2 e,beq_iff_eq,decide_eq_false_iff_not] at d1
   rw[a1,decide_eq_false (by omega),all r hr e,d2]
   simp
theorem chkR_eq (rs:List (List Sd)):chkR rs=chk rs:=by
 unfold chkR chk
 by_cases hN:rs.any (fun l=>l.length==0)=true
 ·rw[if_pos hN,if_pos hN]
 rw[if_neg hN,if_neg hN]
 by_cases h0:tot rs=0
 ·rw[if_pos h0,if_pos h0]
 rw[if_neg h0,if_neg h0]
 by_cases h1:tot rs>24
 ·rw[if_pos h1,if_pos h1]
 rw[if_neg h1,if_neg h1]
 by_cases h2:rs.flatten.any (fun s=> !rgd s)=true
 ·rw[if_pos h2,if_pos h2]
 rw[if_neg h2,if_neg h2]
 have hg: ∀l∈rs, ∀s∈l,rgd s=true:=any_rgd (by simpa using h2)
 have hin:allR rs:=fun l hl s hs=>rgd_inR (hg l hl s hs)
 have e3:rs.any (fun l=> !shpR l)=rs.any (fun l=> !shp l):=by
  rw[Bool.eq_iff_iff,List.any_eq_true,List.any_eq_true]
  constructor<;>rintro⟨l,hl,h⟩
  ·exact⟨l,hl,by rw[←shp_eq (hin l hl)];exact h⟩
  ·exact⟨l,hl,by rw[shp_eq (hin l hl)];exact h⟩
 rw[e3]
 by_cases h3:rs.any (fun l=> !shp l)=true
 ·rw[if_pos h3,if_pos h3]
 rw[if_neg h3,if_neg h3]
 have hs: ∀l∈rs,shp l=true:=fun l hl=>by
  cases h:shp l with
  |true=>rfl
  |false=>exact absurd (List.any_eq_true.2 ⟨l,hl,by rw[h];rfl⟩) h3
 by_cases h4:crs rs=true
 ·rw[if_pos h4,if_pos h4]
 rw[if_neg h4,if_neg h4]
 have hpos:0<rs.length:=by
  cases rs with
  |nil=>exact absurd rfl h0
  |cons x rs=>simp
 rw[plc_eq hin hs (by simpa using h4) (by omega) hpos,jnd_eq hin hs]
end Go.Proofs.YtlagebbefnnnnaaGreatDoor
namespace Go.Proofs.YtlagebbefnnnnaaGreatDoor
open Go Go.RowKit Go.Am Go.Lib
set_option maxRecDepth 10000
-- BOXES 5
-- CODE2
theorem flat_at {rs:List (List Sd)} {r:Nat} (hr:r<rs.length) (i:Nat) (hi:i<(rg rs r).length):rs.flatten[tot (rs.take r)+i]? =some (sd (rg rs r) i):=by
 have e:rs.flatten=(rs.take r).flatten++(rg rs r++(rs.drop (r+1)).flatten):=by
  conv=>lhs;rw[←List.take_append_drop r rs,List.drop_eq_getElem_cons hr,List.flatten_append,List.flatten_cons]
  rw[show rs[r]=rg rs r by unfold rg;rw[List.getD_eq_getElem?_getD,List.getElem?_eq_getElem hr];rfl]
 have hl:(rs.take r).flatten.length=tot (rs.take r):=List.length_flatten
 rw[e,List.getElem?_append_right (by omega),hl,Nat.add_sub_cancel_left,List.getElem?_append_left hi]
 exact sd_get hi
theorem flat_sd {rs:List (List Sd)} {r:Nat} (hr:r<rs.length) {i:Nat} (hi:i<(rg rs r).length):sd rs.flatten (tot (rs.take r)+i)=sd (rg rs r) i:=by
 have h1:=flat_at hr i hi
 have h2:=sd_get (l:=rs.flatten) (List.getElem?_eq_some_iff.1 h1).1
 rw[h1] at h2
 exact(Option.some.inj h2).symm
theorem Vec.frs {V:Vec} {l:List FrP} (hV:V.OK 5 l.length (frC l)) (h0:0<l.length): ∃g cap,V.val l.length= .slice (some ⟨g,0,none⟩) l.length cap∧
  ∀ {W0 W:World} {bxs:List Bx},Hp W0 bxs W→ ∀k,nth bxs k=some (V.bx 39 (frC l))→ ∀m f,l[m]? =some f→RowAt W g (0+m*5) (frV f).cells.toList:=by
 obtain⟨p,cap,junk⟩:=V
 cases p with
 |none=>have:=hV.nil rfl;omega
 |some g=>
  refine⟨g,cap,rfl,fun {W0 W bxs} hp k hk m f hf=> ?_⟩
  obtain⟨hm,rfl⟩:=List.getElem?_eq_some_iff.1 hf
  refine row_pt hp k (A:=frC (l.take m)) (C:=frC (l.drop (m+1))++junk) hk ?_ (by rw[frC_len,List.length_take];omega)
  have e:frC l=frC (l.take m)++((frV l[m]).cells.toList++frC (l.drop (m+1))):=by
   conv=>lhs;rw[←List.take_append_drop m l,List.drop_eq_getElem_cons hm,frC_app]
   rfl
  rw[e,List.append_assoc,List.append_assoc]
theorem Vec.sds {V:Vec} {l:List Sd} (hV:V.OK 7 l.length (cellsOf l)) (h0:0<l.length): ∃g cap,V.val l.length=slv (some ⟨g,0,none⟩) l.length cap∧
  ∀ {W0 W:World} {bxs:List Bx},Hp W0 bxs W→ ∀k,nth bxs k=some (V.bx 42 (cellsOf l))→ ∀m,m<l.length→RowAt W g (0+m*7) (sd l m).cells:=by
 obtain⟨p,cap,junk⟩:=V
 cases p with
 |none=>have:=hV.nil rfl;omega
 |some g=>
  refine⟨g,cap,rfl,fun {W0 W bxs} hp k hk m hm=> ?_⟩
  have hrow:=RowAt.of_bx hp k hk rfl
  have hring:RingAt W g 0 l:=RingAt.of_cells hrow.lt fun j u hj=>by
   refine hrow.get j u ?_
   show(cellsOf l++junk)[j]? =some u
   rw[List.getElem?_append_left (List.getElem?_eq_some_iff.1 hj).1]
   exact hj
  exact hring.get m _ (sd_get hm)
-- BOXES 15
-- CODE2
theorem RowAt.keep {W W':World} {b off g:Nat} {c:List Value} (h:RowAt W b off c) (hk:Keep W W' g) (hne:b≠g):RowAt W' b off c:=by
 refine⟨Nat.lt_of_lt_of_le h.lt hk.size,fun j x hx=> ?_⟩
 have h1:=h.get j x hx
 have h2:=hk.at_ b hne h.lt
 rw[←h1]
 simp only[World.cell?,h2]
theorem vec_one (V:Vec) (n:Nat):Nat.beq (V.val n).cells.toList.length 1=true∧allOne (V.val n).cells.toList=true∧(V.val n).cells.toList=[V.val n]:=by
 obtain⟨p,c,j⟩:=V
 cases p<;>exact⟨rfl,rfl,rfl⟩
theorem Vec.num {V:Vec} {l:List Rat} (hV:V.OK 1 l.length (nS l)): ∃p cap,V.val l.length= .slice p l.length cap∧(0<l.length→ ∃g,p=some ⟨g,0,none⟩∧
  ∀ {W0 W:World} {bxs:List Bx},Hp W0 bxs W→ ∀k,nth bxs k=some (V.bx 37 (nS l))→ ∀i (hi:i<l.length),RowAt W g (0+i*1) [str (numS l[i])]):=by
 obtain⟨p,cap,junk⟩:=V
 cases p with
 |none=>
  have h0:=hV.nil rfl
  exact⟨none,0,by rw[h0];rfl,fun h=>by omega⟩
 |some g=>
  refine⟨some ⟨g,0,none⟩,cap,rfl,fun _=>⟨g,rfl,fun {W0 W bxs} hp k hk i hi=> ?_⟩⟩
  exact row_pt hp k (A:=nS (l.take i)) (C:=nS (l.drop (i+1))++junk) hk (by rw[nS_split hi];simp only[List.append_assoc]) (by rw[nS_len,List.length_take];omega)
theorem fr_plate {rs:List (List Sd)} {i:Nat} (hi:i<tot rs):(fr (allF rs) i).st=((sd rs.flatten i).plate:Rat):=by
 obtain⟨r,j,hr,hj,e⟩:=at_ex hi
 have h1:=allF_at hr hj
 have h2:=flat_sd hr hj
 rw[←e] at h1 h2
 have h3:=fr_get (F:=allF rs) (i:=i) (by rw[allF_len];exact hi)
 rw[h1] at h3
 rw[←Option.some.inj h3,h2];rfl
theorem ne_bx {N:Nat} {W0:World} {D:List Deferred} {Q:Exit→Act→World→Prop} {e:Exit} {env:Env} {bxs bxs':List Bx} (h:bxs=bxs') (h2:NE N D Q e env (Hp W0 bxs')):NE N D Q e env (Hp W0 bxs):=h▸h2
abbrev bxE (b:Nat) (t:TypeId) (v:Value):Bx:=⟨b,t,[v],true,none⟩
abbrev bxN (x:Nat×Nat×List Value) (l:List Rat):Bx:=⟨x.1,37,nS l++x.2.2,true,none⟩
abbrev okV (x:Nat×Nat×List Value) (l:List Rat):Prop:=(⟨some x.1,x.2.1,x.2.2⟩:Vec).OK 1 l.length (nS l)
abbrev slN (x:Nat×Nat×List Value) (l:List Rat):Value:= .slice (some ⟨x.1,0,none⟩) l.length x.2.1
set_option maxHeartbeats 32000000 in
theorem levels_gives (W:World) (p:Option Addr) (cap:Nat) (rs:List (List Sd)) (hn:rs.length<1099511627776) (hR:RingsP W p rs) (hc:chk rs=0) (hd:DirP W) (hv:MaxP W) (ht:TabP W):
  CallsR Tryz.prog 62 #[planV p rs.length cap] W (fun x:Vec×Vec=> .tuple #[x.1.val (allF rs).length,x.2.val (lvls rs).length, .int .i64 0]) (fun x=>x.1.OK 5 (allF rs).length (frC (allF rs))∧x.2.OK 1 (lvls rs).length (nS (lvls rs)))
   (fun x=>[x.1.bx 39 (frC (allF rs)),x.2.bx 37 (nS (lvls rs))]):=by
 obtain⟨hne,hT24,hT0⟩:=chk_ne hc
 obtain⟨hrg,_⟩:=chk_parts hc
 have eF:=allF_len rs
 have eS:rs.flatten.length=tot rs:=List.length_flatten
 have hsne:=starts_ne hc
 obtain⟨T,hTe⟩: ∃T,T=tot rs:=⟨_,rfl⟩
 rw[←hTe] at eF eS hT24 hT0
 refine calls_enter (args:=[planV p rs.length cap]) Tryz.func62 rfl rfl rfl ?_
 refine zA (zB ?_)
 (refine wl_box rfl rfl rfl rfl ?_;intro)
 (refine wl_allocZ Tryz.hZ rfl rfl rfl rfl ?_;intro)
 (refine wl_allocZ Tryz.hZ rfl rfl rfl rfl ?_;intro)
 (refine wl_allocZ Tryz.hZ rfl rfl rfl rfl ?_;intro)
 refine wl_nil ?_
 rename_i b1 b2 b3 b4
 refine zE (zA (zB (wB 0 rfl rfl rfl ?_)))
 refine wl_call (X:=Vec) rfl rfl rfl rfl rfl rfl (by kernel_rfl) (fun W1 hp=>fAll_gives W1 p cap rs (by omega) (hR.hp hp) hc (hd.hp hp) (ht.hp hp)) ?_
 intro F hF
 have hF:F.OK 5 (allF rs).length (frC (allF rs)):=hF
 obtain⟨gF,cF,hFv,hFr⟩:=Vec.frs hF (by omega)
 rw[hFv,eF]
 refine wP rfl (wP rfl (wP rfl ?_))
 (refine wl_allocZ Tryz.hZ rfl rfl rfl rfl ?_;intro)
 refine wS 5 rfl rfl rfl (wP rfl (wl_nil ?_))
 rename_i b5
 refine zE (zA (zA (zB (wP rfl (wP rfl (wl_nil (zE (zS rfl (zI (zE (zA (zB (wB 0 rfl rfl rfl ?_)))))))))))))
 refine wl_call (X:=Vec) rfl rfl rfl rfl rfl rfl (by kernel_rfl) (fun W1 hp=>sides_ok W1 p cap rs (by omega) (hR.hp hp) hc) ?_
 intro S hS
 have hS:S.OK 7 rs.flatten.length (cellsOf rs.flatten):=hS
 obtain⟨gS,cS,hSv,hSr⟩:=Vec.sds hS (by omega)
 rw[hSv,eS]
 iterate 5 refine wP rfl ?_
 refine wl_nil (zE (zA (zA (zB (wP rfl (wP rfl (wl_nil (zE (zS rfl (zI (zE (zA (zB ?_)))))))))))))
 (refine wl_allocZ Tryz.hZ rfl rfl rfl rfl ?_;intro)
 refine wl_nil ?_
 rename_i b8
 refine zE (zA (zA (zB (wP rfl (wP rfl (wP rfl (wl_nil (zE (zH ?_)))))))))
 refine wc_newGone ?_
 have hFr: ∀ {W0 W:World} {bxs:List Bx},Hp W0 bxs W→ ∀k,nth bxs k=some (F.bx 39 (frC (allF rs)))→ ∀m,m<T→RowAt W gF (0+m*5) (frV (fr (allF rs) m)).cells.toList:=fun hp k hk m hm=>hFr hp k hk m _ (fr_get (by omega))
 have hFr4: ∀ {W0 W:World} {bxs:List Bx},Hp W0 bxs W→ ∀k,nth bxs k=some (F.bx 39 (frC (allF rs)))→ ∀m,m<T→RowAt W gF (0+m*5+4) [str (numS ((sd rs.flatten m).plate:Rat))]:=fun hp k hk m hm=>by
  have h:=(hFr hp k hk m hm).sub 4
  rw[←fr_plate (by omega)]
  exact h
 have hSr: ∀ {W0 W:World} {bxs:List Bx},Hp W0 bxs W→ ∀k,nth bxs k=some (S.bx 42 (cellsOf rs.flatten))→ ∀m,m<T→RowAt W gS (0+m*7) (sd rs.flatten m).cells:=fun hp k hk m hm=>hSr hp k hk m (by omega)
 refine wc_loop (X:=Nat×Vec) (fun s=>[(2,selfP b2),(3,selfP b3),(4,selfP b4),(5,selfP b5),(8,selfP b8),(32,slv (some ⟨gS,0,none⟩) T cS),(33, .int .i64 (T:Nat)),(34, .int .i64 (s.1:Nat))])
  (fun s=>[bxE b1 24 (slv p rs.length cap),bxE b2 29 (.slice none 0 0),bxE b3 50 (.slice none 0 0),bxE b4 26 (.int .i64 0),F.bx 39 (frC (allF rs)),bxE b5 29 (.slice (some ⟨gF,0,none⟩) T cF),S.bx 42 (cellsOf rs.flatten),bxE b8 50 (s.2.val (stT rs s.1).length),s.2.bx 37 (nS (stT rs s.1))])
  (fun s=>s.1≤T∧s.2.OK 1 (stT rs s.1).length (nS (stT rs s.1))) (fun s=>T-s.1) (0,Vec.empty) ⟨Nat.zero_le _,Vec.OK.empty 1⟩ ⟨rfl,rfl,rfl,rfl,rfl,rfl,rfl,rfl,trivial⟩ [] rfl ?_
 rintro⟨i,V⟩ ⟨hi,hV⟩
 have hi:i≤T:=hi
 have hV:V.OK 1 (stT rs i).length (nS (stT rs i)):=hV
 by_cases hlt:i<T
 ·refine zA (zB (wP rfl ?_))
  refine wl_upd 35 (.bool true) rfl (congrArg Value.bool (decide_eq_true (by omega))) ?_
  refine wl_nil (zE (zA (zR rfl (zI (zE (zA (zH (zA (zB ?_)))))))))
  have hsu:=stT_succ (rs:=rs) (i:=i) (by omega)
  have hsl:=stT_len rs i (by omega)
  have hsz: ∀x∈stT rs i,Sz2 x ((sd rs.flatten i).plate:Rat):=fun x hx=>by
   have hm:sd rs.flatten i∈rs.flatten:=List.mem_of_getElem? (sd_get (by omega))
   obtain⟨l,hl,hsm⟩:=List.mem_flatten.1 hm
   obtain⟨_,_,hp,_⟩:=rgd_parts (hrg l hl _ hsm)
   exact sz2 (starts_sz hrg (mem_stT hx)) (szQ_int (k:=5) (by show _<100000;omega) (by decide)) (by decide)
  refine wP rfl ?_
  refine wI rfl rfl (by omega) (by omega) ?_
  refine wl_load rfl rfl rfl rfl (fun W hp=>RowAt.load 0 tH rfl ((fun W1 hp=>hSr hp 6 rfl i hlt) W hp) rfl) ?_
  (refine wl_allocZ Tryz.hZ rfl rfl rfl rfl ?_;intro)
  refine wP rfl (wS 9 rfl rfl rfl (wl_nil ?_))
  rename_i b10
  obtain⟨cg,hcg⟩: ∃cg,cg= !(sd rs.flatten i).gable:=⟨_,rfl⟩
  rw[←hcg] at hsu
  refine zE ?_
  repeat refine wc_seq ?_
  cases hVc:V.p with
  |none=>
   have h0:=hV.nil hVc
   have h00:stT rs i=[]:=List.length_eq_zero_iff.1 h0
   have hv0:V.val (stT rs i).length= .slice none 0 0:=by unfold Vec.val;rw[hVc]
   have hb0:V.bx 37 (nS (stT rs i))=gone:=by unfold Vec.bx;rw[hVc]
   rw[hv0,hb0]
   rw[h00] at hsu
   refine wc_lateY (X:= { U:Vec//U.OK 1 (stT rs (i+1)).length (nS (stT rs (i+1))) }) [true,true,true,true,true,true,true,false,false] (fun U=>[(2,selfP b2),(3,selfP b3),(4,selfP b4),(5,selfP b5),(8,selfP b8),(32,slv (some ⟨gS,0,none⟩) T cS),(33, .int .i64 (T:Nat)),(34, .int .i64 (i:Nat))])
    (fun U=>[bxE b1 24 (slv p rs.length cap),bxE b2 29 (.slice none 0 0),bxE b3 50 (.slice none 0 0),bxE b4 26 (.int .i64 0),F.bx 39 (frC (allF rs)),bxE b5 29 (.slice (some ⟨gF,0,none⟩) T cF),S.bx 42 (cellsOf rs.flatten),bxE b8 50 (U.1.val (stT rs (i+1)).length),U.1.bx 37 (nS (stT rs (i+1)))])
    2 [bxE b1 24 (slv p rs.length cap),bxE b2 29 (.slice none 0 0),bxE b3 50 (.slice none 0 0),bxE b4 26 (.int .i64 0),F.bx 39 (frC (allF rs)),bxE b5 29 (.slice (some ⟨gF,0,none⟩) T cF),S.bx 42 (cellsOf rs.flatten),bxE b8 50 (.slice none 0 0),gone,⟨b10,42,(sd rs.flatten i).cells,true,none⟩] Tryz.mixed (by kernel_rfl) ?_ ?_
   ·refine qB 7 rfl rfl rfl (qB 5 rfl rfl rfl (qP rfl ?_))
    refine qI rfl rfl (by omega) (by omega) ?_
    refine qP rfl ?_
    refine wq_load rfl rfl rfl rfl (fun W hp=>RowAt.load 0 tH rfl ((fun W1 hp=>hFr4 hp 4 rfl i hlt) W hp) rfl) ?_
    refine qP rfl (wq_wt ?_)
    refine wt_step rfl rfl (by((repeat (first|refine Weak.same ?_|refine Weak.off rfl ?_));exact trivial)) ?_
    refine RS.cons ?_ (RS.nil)
    refine wl_call (X:=Vec) rfl rfl rfl rfl rfl rfl (by kernel_rfl) (fun W1 hp=>merge0_gives W1 ((sd rs.flatten i).plate:Rat) 137 [selfP b10] cg (by kernel_rfl) (hv.hp hp) (ht.hp hp) fun W' hb=>by rw[hcg];exact cond1_gives _ b10 (sd rs.flatten i) W' ((RowAt.of_bx hp 9 rfl rfl).below (Nat.le_refl _) hb)) ?_;intro U hU;rw[←hsu] at hU⊢
    refine wl_nil (ne_wt ?_)
    refine wt_step rfl rfl (by((repeat (first|refine Weak.same ?_|refine Weak.off rfl ?_));exact trivial)) ?_
    refine RS.cons ?_ (RS.nil)
    refine wl_storeTo 7 [U.val (stT rs (i+1)).length] tH rfl rfl rfl rfl rfl rfl rfl rfl (vec_one _ _).1 (vec_one _ _).2.1 (by exact Nat.le_refl 1) (by rw[(vec_one _ _).2.2];rfl) ?_
    refine wl_nil (ne_wt ?_)
    refine wt_doneF rfl (by kernel_rfl) ?_
    exact ne_late ⟨U,hU⟩ ⟨rfl,rfl,rfl,rfl,rfl,rfl,rfl,rfl,trivial⟩ [0,1,2,3,4,5,6,7,10] (by decide) rfl
   intro U
   refine zN (zE (zB (wP rfl ?_)))
   refine wl_upd 47 (.int .i64 ((i+1:Nat):Int)) rfl (congrArg (Value.int .i64) (w64_succ (by omega))) ?_
   refine wP rfl (wl_nil ?_)
   exact ne_loop (i+1,U.1) ⟨hlt,U.2⟩ (by show T-(i+1)<T-i;omega) ⟨rfl,rfl,rfl,rfl,rfl,rfl,rfl,rfl,trivial⟩ [] rfl
  |some gV=>
   obtain⟨pV,cV,jk⟩:=V
   obtain rfl:pV=some gV:=hVc
   refine wc_lateY (X:= { U:Nat×Nat×List Value//okV U (stT rs (i+1)) }) [true,true,true,true,true,true,true,false,false] (fun U=>[(2,selfP b2),(3,selfP b3),(4,selfP b4),(5,selfP b5),(8,selfP b8),(32,slv (some ⟨gS,0,none⟩) T cS),(33, .int .i64 (T:Nat)),(34, .int .i64 (i:Nat))])
    (fun U=>[bxE b1 24 (slv p rs.length cap),bxE b2 29 (.slice none 0 0),bxE b3 50 (.slice none 0 0),bxE b4 26 (.int .i64 0),F.bx 39 (frC (allF rs)),bxE b5 29 (.slice (some ⟨gF,0,none⟩) T cF),S.bx 42 (cellsOf rs.flatten),bxE b8 50 (slN U.1 (stT rs (i+1))),bxN U.1 (stT rs (i+1))])
    2 [bxE b1 24 (slv p rs.length cap),bxE b2 29 (.slice none 0 0),bxE b3 50 (.slice none 0 0),bxE b4 26 (.int .i64 0),F.bx 39 (frC (allF rs)),bxE b5 29 (.slice (some ⟨gF,0,none⟩) T cF),S.bx 42 (cellsOf rs.flatten),bxE b8 50 (slN (gV,cV,jk) (stT rs i)),bxN (gV,cV,jk) (stT rs i),⟨b10,42,(sd rs.flatten i).cells,true,none⟩] Tryz.mixed (by kernel_rfl) ?_ ?_
   ·refine qB 7 rfl rfl rfl (qB 5 rfl rfl rfl (qP rfl ?_))
    refine qI rfl rfl (by omega) (by omega) ?_
    refine qP rfl ?_
    refine wq_load rfl rfl rfl rfl (fun W hp=>RowAt.load 0 tH rfl ((fun W1 hp=>hFr4 hp 4 rfl i hlt) W hp) rfl) ?_
    refine qP rfl (wq_wt ?_)
    refine wt_step rfl rfl (by((repeat (first|refine Weak.same ?_|refine Weak.off rfl ?_));exact trivial)) ?_
    refine RS.cons ?_ (RS.nil)
    refine wl_callN 8 (X:=Nat×Nat×List Value) (val:=fun x=> .slice (some ⟨x.1,0,none⟩) (mrg cg (stT rs i) ((sd rs.flatten i).plate:Rat)).length x.2.1) (Φ:=fun x=>okV x (mrg cg (stT rs i) ((sd rs.flatten i).plate:Rat))) (L1:=[]) (L2:=[]) (B:=bxN (gV,cV,jk) (stT rs i)) (fun x=>bxN x (mrg cg (stT rs i) ((sd rs.flatten i).plate:Rat))) rfl rfl rfl rfl rfl rfl (by kernel_rfl) rfl rfl (fun _ _=>rfl) (fun W1 hp=>merge_gives W1 gV cV jk (stT rs i) ((sd rs.flatten i).plate:Rat) 137 [selfP b10] cg (by kernel_rfl) (by omega) hV (stT_strict rs i) hsz (hp.own.cell 8 _ rfl _ (List.mem_cons_self ..)).1 fun W' hk=>(by have hbel:=hk.below hp.below (hp.own.cell 8 _ rfl _ (List.mem_cons_self ..)).2;refine⟨⟨hv.below hbel,ht.below hbel⟩, ?_⟩;rw[hcg];exact cond1_gives _ b10 (sd rs.flatten i) W' (RowAt.keep (RowAt.of_bx hp 9 rfl rfl) hk (hp.own.apart 9 8 _ _ rfl rfl (by decide) _ (List.mem_cons_self ..) _ (List.mem_cons_self ..))))) ?_;intro U hU;rw[←hsu] at hU⊢
    refine wl_nil (ne_wt ?_)
    refine wt_stepF rfl rfl (by kernel_rfl) ?_
    refine RS.cons ?_ (RS.nil)
    refine wS 7 rfl rfl rfl (wl_nil (ne_wt ?_))
    refine wt_doneF rfl (by kernel_rfl) ?_
    exact ne_late ⟨U,hU⟩ ⟨rfl,rfl,rfl,rfl,rfl,rfl,rfl,rfl,trivial⟩ [0,1,2,3,4,5,6,7,8] (by decide) rfl
   rintro⟨⟨g',c',j'⟩,hU⟩
   refine zN (zE (zB (wP rfl ?_)))
   refine wl_upd 47 (.int .i64 ((i+1:Nat):Int)) rfl (congrArg (Value.int .i64) (w64_succ (by omega))) ?_
   refine wP rfl (wl_nil ?_)
   exact ne_loop (i+1,⟨some g',c',j'⟩) ⟨hlt,hU⟩ (by show T-(i+1)<T-i;omega) ⟨rfl,rfl,rfl,rfl,rfl,rfl,rfl,rfl,trivial⟩ [] rfl
 have e:i=T:=by omega
 subst e
 have est:stT rs i=st0 rs:=by rw[←eS];exact stT_all rs
 obtain⟨pV,cV,jk⟩:=V
 have hst0:st0 rs≠[]:=fun e=>by
  have:=mem_st0.2 (base_mem hsne)
  rw[e] at this;cases this
 have hstl:0<(st0 rs).length:=by
  cases h:st0 rs with
  |nil=>exact absurd h hst0
  |cons x l=>rw[List.length_cons];omega
 cases pV with
 |none=>
  have:=hV.nil rfl
  rw[est] at this
  omega
 |some gV=>
 rw[est] at hV
 refine wc_bx (bxs':=[bxE b1 24 (slv p rs.length cap),bxE b2 29 (.slice none 0 0),bxE b3 50 (.slice none 0 0),bxE b4 26 (.int .i64 0),F.bx 39 (frC (allF rs)),bxE b5 29 (.slice (some ⟨gF,0,none⟩) i cF),S.bx 42 (cellsOf rs.flatten),bxE b8 50 (slN (gV,cV,jk) (st0 rs)),bxN (gV,cV,jk) (st0 rs)]) (by rw[est];rfl) ?_
 refine zA (zB (wP rfl ?_))
 refine wl_upd 35 (.bool false) rfl (congrArg Value.bool (decide_eq_false (by omega))) ?_
 refine wl_nil (zE (zA (zS rfl (zJ (zK (zK (zL (zE (zA (zB ?_))))))))))
 obtain⟨st,hst⟩: ∃st,st0 rs=base rs::st:=by
  cases h:st0 rs with
  |nil=>exact absurd h hst0
  |cons x l=>exact⟨l,by unfold base;rw[h];rfl⟩
 refine wB 7 rfl rfl rfl ?_
 refine wI rfl rfl (by omega) (by omega) ?_
 refine wl_load rfl rfl rfl rfl (fun W hp=>RowAt.load 0 tH rfl ((fun W1 hp=>show RowAt W1 gV (0+0*1) [str (numS (base rs))] from row_pt hp 8 (A:=[]) (C:=nS st++jk) rfl (by show nS (st0 rs)++jk=_;rw[hst];rfl) rfl) W hp) rfl) ?_
 (refine wl_allocZ Tryz.hZ rfl rfl rfl rfl ?_;intro)
 refine wS 9 rfl rfl rfl (wl_nil ?_)
 rename_i b11
 refine zE (zA (zA (zB (wB 5 rfl rfl rfl ?_))))
 refine wl_call (X:=Nat) rfl rfl rfl rfl rfl rfl (by kernel_rfl) (fun W1 _=>pairs_gives W1 _) ?_
 intro bp _
 refine wl_nil (zE (zH ?_))
 refine wc_rangeO (X:=Nat×(Nat×Nat×List Value)) (fun x=>[bxE b1 24 (slv p rs.length cap),bxE b2 29 (.slice none 0 0),bxE b3 50 (.slice none 0 0),bxE b4 26 (.int .i64 0),F.bx 39 (frC (allF rs)),bxE b5 29 (.slice (some ⟨gF,0,none⟩) i cF),S.bx 42 (cellsOf rs.flatten),bxE b8 50 (slN x.2 (lvT rs x.1)),bxN x.2 (lvT rs x.1),bxE b11 37 (str (numS (base rs))),bxE bp 29 (.slice (some ⟨gF,0,none⟩) i cF)])
  (fun j x=>x.1=j∧okV x.2 (lvT rs x.1)) (fun _ _=>False) (0,(gV,cV,jk)) rfl (by kernel_rfl) (pairs_iter (allF rs) bp gF cF (by omega)) (fun _=>rfl)
  ⟨rfl,hV⟩ [] rfl (fun k x W1 _ hp=>⟨by rw[eF];exact RowAt.of_bx hp 10 rfl rfl,fun m hm=>hFr hp 4 rfl m (by omega)⟩) ?_ ?_ (fun _ _ _ _ _ h=>h.elim)
 ·rintro j' ⟨j,V⟩ d l rec L hj ⟨e1,hV⟩ hrec
  obtain rfl:j=j':=e1
  have hV:okV V (lvT rs j):=hV
  obtain⟨q,hq⟩: ∃q,q=(prs (allF rs)).getD j (0,0):=⟨_,rfl⟩
  have hqm:q∈prs (allF rs):=by rw[hq,List.getD_eq_getElem?_getD,List.getElem?_eq_getElem hj];exact List.getElem_mem hj
  obtain⟨q1,q2,q3⟩:=mem_prs.1 hqm
  have henc:encP (allF rs) j=[.int .i64 (q.1:Nat), .int .i64 (q.2:Nat)]:=by rw[hq]
  rw[henc]
  have hsuc:=lvT_succ hj
  rw[←hq] at hsuc
  obtain⟨f,hf⟩: ∃f,f=fr (allF rs) q.1:=⟨_,rfl⟩
  obtain⟨g,hg⟩: ∃g,g=fr (allF rs) q.2:=⟨_,rfl⟩
  have pf:f.Pl:=hf▸allF_pl hrg (fr_mem (by omega))
  have pg:g.Pl:=hg▸allF_pl hrg (fr_mem q2)
  have hax:f.ax=g.ax:=by rw[hf,hg];exact q3
  obtain⟨E,hE⟩: ∃E,E=eqL f g:=⟨_,rfl⟩
  have hEk:eqK (allF rs) q=E:=by rw[hE,hf,hg]
  rw[hEk] at hsuc
  have hEl:E.length≤5:=hE▸eqL_len f g
  have hEz: ∀z∈E,szQ z 9:=fun z hz=>pf.meet pg (eqL_mem_meet (hE▸hz))
  have hlz: ∀ {t:Nat} {z:Rat},z∈lvU rs j E t→szQ z 9:=fun {t z} hz=>by
   unfold lvU at hz
   rcases(mem_addL _ _).1 hz with h|h
   ·exact lvls_sz hrg (lvT_mem h)
   ·exact hEz z (List.mem_of_mem_take (List.mem_filter.1 h).1)
  have hll: ∀t,(lvU rs j E t).length≤20000:=fun t=>lvU_len (by omega) hEl
  have hbz:szQ (base rs) 9:=lvls_sz hrg (mem_lvls.2 (.inl (base_mem hsne)))
  refine zA (zB (wP rfl (wl_nil (zE (zB (wP rfl (wl_nil ?_)))))))
  refine ne_begin 13 hrec rfl ?_
  refine wc_block ?_
  repeat refine wc_seq ?_
  refine wc_lateY (X:= { U:Vec//U.OK 1 E.length (nS E) }) [true,true,true,true,true,true,true,true,false,false,false,false,false,false] (fun U=>[(8,selfP b8),(11,selfP b11),(14,U.1.val E.length),(15, .int .i64 0)])
   (fun U=>[grpB L,bxE b1 24 (slv p rs.length cap),bxE b2 29 (.slice none 0 0),bxE b3 50 (.slice none 0 0),bxE b4 26 (.int .i64 0),F.bx 39 (frC (allF rs)),bxE b5 29 (.slice (some ⟨gF,0,none⟩) i cF),S.bx 42 (cellsOf rs.flatten),bxE b8 50 (slN V (lvT rs j)),bxN V (lvT rs j),bxE b11 37 (str (numS (base rs))),bxE bp 29 (.slice (some ⟨gF,0,none⟩) i cF),rawD d,rawL l rec .busy none,U.1.bx 37 (nS E)]) 6 [grpB L,bxE b1 24 (slv p rs.length cap),bxE b2 29 (.slice none 0 0),bxE b3 50 (.slice none 0 0),bxE b4 26 (.int .i64 0),F.bx 39 (frC (allF rs)),bxE b5 29 (.slice (some ⟨gF,0,none⟩) i cF),S.bx 42 (cellsOf rs.flatten),bxE b8 50 (slN V (lvT rs j)),bxN V (lvT rs j),bxE b11 37 (str (numS (base rs))),bxE bp 29 (.slice (some ⟨gF,0,none⟩) i cF),rawD d,rawL l rec .busy none] Tryz.mixed (by kernel_rfl) ?_ ?_
  ·refine qB 6 rfl rfl rfl (qP rfl ?_)
   refine qI rfl rfl (by omega) (by omega) ?_
   refine wq_load rfl rfl rfl rfl (fun W hp=>RowAt.load 0 tH rfl ((fun W1 hp=>show RowAt W1 gF (0+q.1*5) (frV f).cells.toList from hf▸hFr hp 5 rfl q.1 (by omega)) W hp) rfl) ?_
   refine qB 6 rfl rfl rfl (qP rfl ?_)
   refine qI rfl rfl (by omega) (by omega) ?_
   refine wq_load rfl rfl rfl rfl (fun W hp=>RowAt.load 0 tH rfl ((fun W1 hp=>show RowAt W1 gF (0+q.2*5) (frV g).cells.toList from hg▸hFr hp 5 rfl q.2 (by omega)) W hp) rfl) ?_
   refine wq_wt ?_
   refine wt_step rfl rfl (by((repeat (first|refine Weak.same ?_|refine Weak.off rfl ?_));exact trivial)) ?_
   refine RS.cons ?_ (RS.nil)
   refine wl_call (X:=Vec) rfl rfl rfl rfl rfl rfl (by kernel_rfl) (fun W1 hp=>hE▸fEqual_gives f g pf.ok pg.ok hax (meetZ_pl pf pg) (fun p hp q hq=>sz2 (pf.meet pg hp) (pf.meet pg hq) (by decide)) 2 5 9 pf.szp pf.szt pg.szp pg.szt (fun t ht=>pf.meet pg ht) (by decide) (by decide) W1 (hv.hp hp) (ht.hp hp)) ?_;intro U hU
   refine wl_nil (ne_wt ?_)
   refine wt_step rfl rfl (by((repeat (first|refine Weak.same ?_|refine Weak.off rfl ?_));exact trivial)) ?_
   refine RS.cons ?_ (RS.nil)
   refine wP rfl (wl_nil (ne_wt ?_))
   refine wt_step rfl rfl (by((repeat (first|refine Weak.same ?_|refine Weak.off rfl ?_));exact trivial)) ?_
   refine RS.cons ?_ (RS.cons ?_ (RS.nil))
   ·refine wP rfl (wl_nil (ne_wt ?_))
    refine wt_step rfl rfl (by((repeat (first|refine Weak.same ?_|refine Weak.off rfl ?_));exact trivial)) ?_
    refine RS.cons ?_ (RS.cons ?_ (RS.nil))
    ·refine wP rfl (wl_nil (ne_wt ?_))
     refine wt_step rfl rfl (by((repeat (first|refine Weak.same ?_|refine Weak.off rfl ?_));exact trivial)) ?_
     refine RS.cons ?_ (RS.nil)
     refine wP rfl (wl_nil (ne_wt ?_))
     refine wt_step rfl rfl (by((repeat (first|refine Weak.same ?_|refine Weak.off rfl ?_));exact trivial)) ?_
     refine RS.cons ?_ (RS.nil)
     refine wP rfl (wl_nil (ne_wt ?_))
     refine wt_done rfl (by((repeat (first|refine Weak.same ?_|refine Weak.off rfl ?_));exact trivial)) ?_
     exact ne_late ⟨U,hU⟩ ⟨rfl,rfl,rfl,rfl,trivial⟩ [0,1,2,3,4,5,6,7,8,9,10,11,12,13,14] (by decide) rfl
    ·refine wP rfl (wl_nil (ne_wt ?_))
     refine wt_step rfl rfl (by((repeat (first|refine Weak.same ?_|refine Weak.off rfl ?_));exact trivial)) ?_
     refine RS.cons ?_ (RS.nil)
     refine wP rfl (wl_nil (ne_wt ?_))
     refine wt_step rfl rfl (by((repeat (first|refine Weak.same ?_|refine Weak.off rfl ?_));exact trivial)) ?_
     refine RS.cons ?_ (RS.nil)
     refine wP rfl (wl_nil (ne_wt ?_))
     refine wt_done rfl (by((repeat (first|refine Weak.same ?_|refine Weak.off rfl ?_));exact trivial)) ?_
     exact ne_late ⟨U,hU⟩ ⟨rfl,rfl,rfl,rfl,trivial⟩ [0,1,2,3,4,5,6,7,8,9,10,11,12,13,14] (by decide) rfl
   ·refine wP rfl (wl_nil (ne_wt ?_))
    refine wt_step rfl rfl (by((repeat (first|refine Weak.same ?_|refine Weak.off rfl ?_));exact trivial)) ?_
    refine RS.cons ?_ (RS.nil)
    refine wP rfl (wl_nil (ne_wt ?_))
    refine wt_step rfl rfl (by((repeat (first|refine Weak.same ?_|refine Weak.off rfl ?_));exact trivial)) ?_
    refine RS.cons ?_ (RS.nil)
    refine wP rfl (wl_nil (ne_wt ?_))
    refine wt_step rfl rfl (by((repeat (first|refine Weak.same ?_|refine Weak.off rfl ?_));exact trivial)) ?_
    refine RS.cons ?_ (RS.nil)
    refine wP rfl (wl_nil (ne_wt ?_))
    refine wt_done rfl (by((repeat (first|refine Weak.same ?_|refine Weak.off rfl ?_));exact trivial)) ?_
    exact ne_late ⟨U,hU⟩ ⟨rfl,rfl,rfl,rfl,trivial⟩ [0,1,2,3,4,5,6,7,8,9,10,11,12,13,14] (by decide) rfl
  rintro⟨U,hU⟩
  have hU:U.OK 1 E.length (nS E):=hU
  obtain⟨pU,cU,hUv,hUr⟩:=Vec.num hU
  have hUr:0<E.length→ ∃g,pU=some ⟨g,0,none⟩∧ ∀ {W0 W:World} {bxs:List Bx},Hp W0 bxs W→ ∀k,nth bxs k=some (U.bx 37 (nS E))→ ∀i (hi:i<E.length),RowAt W g (0+i*1) [str (numS E[i])]:=hUr
  dsimp only
  rw[hUv]
  refine zE (zA (zA (zB (wP rfl (wP rfl (wl_nil (zE (zS rfl (zI (zE (zA (zB (wP rfl (wP rfl (wP rfl ?_)))))))))))))))
  refine wl_nil (zE (zH ?_))
  refine wc_loop (X:=Nat×(Nat×Nat×List Value)) (fun s=>[(8,selfP b8),(11,selfP b11),(70, .slice pU E.length cU),(71, .int .i64 (E.length:Nat)),(72, .int .i64 (s.1:Nat))])
   (fun s=>[grpB L,bxE b1 24 (slv p rs.length cap),bxE b2 29 (.slice none 0 0),bxE b3 50 (.slice none 0 0),bxE b4 26 (.int .i64 0),F.bx 39 (frC (allF rs)),bxE b5 29 (.slice (some ⟨gF,0,none⟩) i cF),S.bx 42 (cellsOf rs.flatten),bxE b8 50 (slN s.2 (lvU rs j E s.1)),bxN s.2 (lvU rs j E s.1),bxE b11 37 (str (numS (base rs))),bxE bp 29 (.slice (some ⟨gF,0,none⟩) i cF),rawD d,rawL l rec .busy none,U.bx 37 (nS E)])
   (fun s=>s.1≤E.length∧okV s.2 (lvU rs j E s.1)) (fun s=>E.length-s.1) (0,V) ⟨Nat.zero_le _,hV⟩ ⟨rfl,rfl,rfl,rfl,rfl,trivial⟩ [] rfl ?_
  rintro⟨t,V'⟩ ⟨ht',hV'⟩
  have ht':t≤E.length:=ht'
  have hV':okV V' (lvU rs j E t):=hV'
  by_cases htl:t<E.length
  rotate_left
  ·have e:t=E.length:=by omega
   subst e
   rw[←hsuc] at hV'
   refine wc_bx (bxs':=[grpB L,bxE b1 24 (slv p rs.length cap),bxE b2 29 (.slice none 0 0),bxE b3 50 (.slice none 0 0),bxE b4 26 (.int .i64 0),F.bx 39 (frC (allF rs)),bxE b5 29 (.slice (some ⟨gF,0,none⟩) i cF),S.bx 42 (cellsOf rs.flatten),bxE b8 50 (slN V' (lvT rs (j+1))),bxN V' (lvT rs (j+1)),bxE b11 37 (str (numS (base rs))),bxE bp 29 (.slice (some ⟨gF,0,none⟩) i cF),rawD d,rawL l rec .busy none,U.bx 37 (nS E)]) (by rw[hsuc]) ?_
   refine zA (zB (wP rfl ?_))
   refine wl_upd 73 (.bool false) rfl (congrArg Value.bool (decide_eq_false (by omega))) ?_
   refine wl_nil (zE (zA (zS rfl (zJ (zK (zK (zL (zN ?_))))))))
   exact ne_round 13 (j+1,V') hrec rfl ⟨rfl,hV'⟩ [U.bx 37 (nS E)] rfl
  obtain⟨gU,hpe,hUq⟩:=hUr (by omega)
  subst hpe
  obtain⟨z,hz⟩: ∃z,z=E[t]:=⟨_,rfl⟩
  have hzE:z∈E:=hz▸List.getElem_mem htl
  have hsu:=lvU_succ (rs:=rs) (k:=j) htl
  rw[←hz] at hsu
  have hlen:=hll t
  refine zA (zB (wP rfl ?_))
  refine wl_upd 73 (.bool true) rfl (congrArg Value.bool (decide_eq_true (by omega))) ?_
  refine wl_nil (zE (zA (zR rfl (zI (zE (zA (zH (zA (zB ?_)))))))))
  refine wI rfl rfl (by omega) (by omega) ?_
  refine wl_load rfl rfl rfl rfl (fun W hp=>RowAt.load 0 tH rfl ((fun W1 hp=>show RowAt W1 gU (0+t*1) [str (numS z)] from hz▸hUq hp 14 rfl t htl) W hp) rfl) ?_
  refine wP rfl (wl_nil (zE (zB (wB 8 rfl rfl rfl (wP rfl (wP rfl ?_))))))
  refine wl_callN 9 (X:=Nat×Nat×List Value) (val:=fun x=>slN x (mrg (decide (base rs<z)) (lvU rs j E t) z)) (Φ:=fun x=>okV x (mrg (decide (base rs<z)) (lvU rs j E t) z)) (L1:=[]) (L2:=[]) (B:=bxN V' (lvU rs j E t)) (fun x=>bxN x (mrg (decide (base rs<z)) (lvU rs j E t) z)) rfl rfl rfl rfl rfl rfl (by kernel_rfl) rfl rfl (fun _ _=>rfl) (fun W1 hp=> ?_) ?_
  ·refine merge_gives W1 V'.1 V'.2.1 V'.2.2 (lvU rs j E t) z 138 [selfP b11] (decide (base rs<z)) (by kernel_rfl) (by omega) hV' (lvU_strict rs j E t) (fun x hx=>sz2 (hlz hx) (hEz z hzE) (by decide)) (hp.own.cell 9 _ rfl _ (List.mem_cons_self ..)).1 fun W' hk=> ?_
   have hbel:=hk.below hp.below (hp.own.cell 9 _ rfl _ (List.mem_cons_self ..)).2
   refine⟨⟨hv.below hbel,ht.below hbel⟩, ?_⟩
   exact cond2_gives z (base rs) (sz2 (hEz z hzE) hbz (by decide)) b11 W' (hv.below hbel) (ht.below hbel) (RowAt.keep (RowAt.of_bx hp 10 rfl rfl) hk (hp.own.apart 10 9 _ _ rfl rfl (by decide) _ (List.mem_cons_self ..) _ (List.mem_cons_self ..)))
  intro V2 hV2
  have hV2:okV V2 (mrg (decide (base rs<z)) (lvU rs j E t) z):=hV2
  dsimp only
  rw[←hsu] at hV2⊢
  refine wS 8 rfl rfl rfl (wl_nil (zN (zE (zB (wP rfl ?_)))))
  refine wl_upd 80 (.int .i64 ((t+1:Nat):Int)) rfl (congrArg (Value.int .i64) (w64_succ (by omega))) ?_
  refine wP rfl (wl_nil ?_)
  exact ne_loop (t+1,V2) ⟨htl,hV2⟩ (by show E.length-(t+1)<E.length-t;omega) ⟨rfl,rfl,rfl,rfl,rfl,trivial⟩ [] rfl
 ·rintro⟨j,V⟩ d l rec ⟨e1,hV⟩
  obtain rfl:j=(prs (allF rs)).length:=e1
  have hV:okV V (lvT rs (prs (allF rs)).length):=hV
  rw[lvT_all] at hV
  refine ne_bx (bxs':=[bxE b1 24 (slv p rs.length cap),bxE b2 29 (.slice none 0 0),bxE b3 50 (.slice none 0 0),bxE b4 26 (.int .i64 0),F.bx 39 (frC (allF rs)),bxE b5 29 (.slice (some ⟨gF,0,none⟩) i cF),S.bx 42 (cellsOf rs.flatten),bxE b8 50 (slN V (lvls rs)),bxN V (lvls rs),bxE b11 37 (str (numS (base rs))),bxE bp 29 (.slice (some ⟨gF,0,none⟩) i cF),rawD d,rawL l rec .exhausted none]) (by dsimp only;rw[lvT_all];rfl) ?_
  refine zN (zE ?_)
  repeat refine wc_seq ?_
  refine wc_lateY (X:=Unit) [true,true,false,false,false] (fun _=>[(2,selfP b2),(3,selfP b3),(4,selfP b4)]) (fun _=>[bxE b2 29 (.slice (some ⟨gF,0,none⟩) i cF),bxE b3 50 (slN V (lvls rs)),bxE b4 26 (.int .i64 0),F.bx 39 (frC (allF rs)),bxN V (lvls rs),rawD d])
   3 [gone,gone,gone,gone,gone,bxE b5 29 (.slice (some ⟨gF,0,none⟩) i cF),gone,bxE b8 50 (slN V (lvls rs)),gone,gone,gone,gone,gone] Tryz.mixed (by kernel_rfl) ?_ ?_
  ·refine qB 5 rfl rfl rfl (qB 7 rfl rfl rfl (wq_wt ?_))
   refine wt_step rfl rfl (by((repeat (first|refine Weak.same ?_|refine Weak.off rfl ?_));exact trivial)) ?_
   refine RS.cons ?_ (RS.nil)
   refine wS 1 rfl rfl rfl (wl_nil (ne_wt ?_))
   refine wt_step rfl rfl (by((repeat (first|refine Weak.same ?_|refine Weak.off rfl ?_));exact trivial)) ?_
   refine RS.cons ?_ (RS.nil)
   refine wS 2 rfl rfl rfl (wl_nil (ne_wt ?_))
   refine wt_step rfl rfl (by((repeat (first|refine Weak.same ?_|refine Weak.off rfl ?_));exact trivial)) ?_
   refine RS.cons ?_ (RS.nil)
   refine wS 3 rfl rfl rfl (wl_nil (ne_wt ?_))
   refine wt_done rfl (by((repeat (first|refine Weak.same ?_|refine Weak.off rfl ?_));exact trivial)) ?_
   exact ne_late () ⟨rfl,rfl,rfl,trivial⟩ [1,2,3,4,8,11] (by decide) rfl
  intro _
  refine zE (zO ?_)
  refine ne_mark 5 rfl ?_
  refine ne_ret3 tH rfl (.cell 0 rfl rfl rfl rfl rfl) (.cell 1 rfl rfl rfl rfl rfl) (.cell 2 rfl rfl rfl rfl rfl) (F,⟨some V.1,V.2.1,V.2.2⟩) (by show Value.tuple #[.slice (some ⟨gF,0,none⟩) i cF,slN V (lvls rs), .int .i64 0]= .tuple #[F.val i,slN V (lvls rs), .int .i64 0];have hFi:=hFv;rw[eF] at hFi;rw[hFi]) ⟨eF▸hF,hV⟩ fun W1 hp=>NewBx.of_hp (hp.pick (l:=[F.bx 39 (frC (allF rs)),bxN V (lvls rs)]) [3,4] (by decide) rfl)
-- BOXES 6
-- CODE2
theorem dd_le: ∀(k n:Nat),n<10^(k+1)→(decDigits n).length≤k+1
 |k,n,h=>by
  by_cases h1:n<10
  ·rw[decDigits,dif_pos h1,List.length_singleton];omega
  ·cases k with
   |zero=>exact absurd h h1
   |succ k=>
    rw[decDigits,dif_neg h1,List.length_append,List.length_singleton]
    have h2:n/10<10^(k+1):=by
     rw[Nat.pow_succ] at h
     omega
    have:=dd_le k (n/10) h2
    omega
structure PlanW (W:World) (p:Option Addr) (rs:List (List Sd)):Prop where
 n:rs.length<1099511627776
 R:RingsP W p rs
 c:chk rs=0
 d:DirP W
 v:MaxP W
 t:TabP W
theorem PlanW.hp {W0 W:World} {bxs:List Bx} {p:Option Addr} {rs:List (List Sd)} (h:PlanW W0 p rs) (hp:Hp W0 bxs W):PlanW W p rs:=⟨h.n,h.R.hp hp,h.c,h.d.hp hp,h.v.hp hp,h.t.hp hp⟩
theorem PlanW.check {W:World} {p:Option Addr} {rs:List (List Sd)} (h:PlanW W p rs) (cap:Nat):CallsR Tryz.prog 40 #[planV p rs.length cap] W (fun _:Unit=> .int .i64 0) (fun _=>True) (fun _=>[]):=
 (check_gives W p cap rs (by have:=h.n;omega) (by have:=(chk_ne h.c).2.1;omega) h.R).cast (by rw[h.c])
def lvAt (rs:List (List Sd)) (i:Nat):Rat:=(lvls rs).getD i 0
theorem lv_get {rs:List (List Sd)} {i:Nat} (hi:i<(lvls rs).length):(lvls rs)[i]=lvAt rs i:=by unfold lvAt;rw[List.getD_eq_getElem?_getD,List.getElem?_eq_getElem hi];rfl
theorem lv_row {rs:List (List Sd)} {gL:Nat} {W0 W:World} {bxs:List Bx} {V:Vec} (hLq: ∀ {W0 W:World} {bxs:List Bx},Hp W0 bxs W→ ∀k,nth bxs k=some (V.bx 37 (nS (lvls rs)))→ ∀i (hi:i<(lvls rs).length),RowAt W gL (0+i*1) [str (numS (lvls rs)[i])])
  (hp:Hp W0 bxs W) (k:Nat) (hk:nth bxs k=some (V.bx 37 (nS (lvls rs)))) (i:Nat) (hi:i<(lvls rs).length):RowAt W gL (0+i*1) [str (numS (lvAt rs i))]:=by
 have h:=hLq hp k hk i hi
 rw[lv_get hi] at h
 exact h
theorem lvls_pos {rs:List (List Sd)} (h:chk rs=0):0<(lvls rs).length:=by
 obtain⟨l,e⟩:=lvls_head (starts_ne h)
 rw[e,List.length_cons];omega
set_option maxHeartbeats 4000000 in
theorem lAll_gives (W:World) (p:Option Addr) (cap:Nat) (rs:List (List Sd)) (h:PlanW W p rs):
  CallsR Tryz.prog 22 #[planV p rs.length cap] W (fun V:Vec=> .tuple #[V.val (lvls rs).length, .int .i64 0]) (fun V=>V.OK 1 (lvls rs).length (nS (lvls rs))) (fun V=>[V.bx 37 (nS (lvls rs))]):=by
 refine calls_enter (args:=[planV p rs.length cap]) Tryz.func22 rfl rfl rfl ?_
 refine zA (zB ?_)
 (refine wl_box rfl rfl rfl rfl ?_;intro)
 refine wP rfl (wP rfl (wl_nil (zE (zA (zB (wB 0 rfl rfl rfl ?_))))))
 refine wl_call (X:=Vec×Vec) rfl rfl rfl rfl rfl rfl (by kernel_rfl) (fun W1 hp=>levels_gives W1 p cap rs h.n (h.R.hp hp) h.c (h.d.hp hp) (h.v.hp hp) (h.t.hp hp)) ?_
 intro x hx
 iterate 7 refine wP rfl ?_
 refine wl_nil (zE (zA (zB (wP rfl (wP rfl (wP rfl (wP rfl (wl_nil (zE (zO ?_))))))))))
 exact ne_ret2 tH rfl (.tmp rfl) (.tmp rfl) x.2 rfl hx.2 fun W1 hp=>NewBx.of_hp (hp.pick (l:=[x.2.bx 37 (nS (lvls rs))]) [2] (by decide) rfl)
set_option maxHeartbeats 4000000 in
theorem lcheck_gives (W:World) (p:Option Addr) (cap:Nat) (rs:List (List Sd)) (h:PlanW W p rs) (z:Rat) (hz:szQ z 20):
  CallsR Tryz.prog 71 #[planV p rs.length cap,str (numS z)] W (fun _:Unit=> .int .i64 0) (fun _=>True) (fun _=>[]):=by
 have h1:=dd_le 19 z.num.natAbs hz.1
 have h2:=dd_le 19 z.den hz.2
 refine calls_enter (args:=[planV p rs.length cap,str (numS z)]) Tryz.func71 rfl rfl rfl ?_
 refine zA (zB ?_)
 (refine wl_box rfl rfl rfl rfl ?_;intro)
 refine wP rfl (wl_nil (zE (zA (zA (zB (wB 0 rfl rfl rfl ?_))))))
 refine wl_call1 rfl rfl rfl rfl rfl rfl (by kernel_rfl) (fun W1 hp=>(h.hp hp).check cap) ?_
 refine wP rfl (wl_nil (zE (zS rfl (zI (zE (zA (zB (wP rfl ?_))))))))
 refine wl_call1 rfl rfl rfl rfl rfl rfl (by kernel_rfl) (fun W1 hp=>rparts_gives z (hz.ok (by decide)) W1 (h.v.hp hp) (h.t.hp hp)) ?_
 iterate 7 refine wP rfl ?_
 refine wl_nil (zE (zA (zA (zB (wP rfl (wP rfl (wl_nil (zE (zS rfl (zI (zE (zA (zA ?_)))))))))))))
 refine zB (wP rfl ?_)
 refine wl_call1 rfl rfl rfl rfl rfl rfl (by kernel_rfl) (fun W1 _=>trimPrefix_gives (itoa z.num) [45] W1) ?_
 refine wl_upd 21 (str (decDigits z.num.natAbs)) rfl (by rw[trimPrefix_itoa]) ?_
 refine wP rfl ?_
 refine wl_upd 22 (.int .i64 ((decDigits z.num.natAbs).length:Nat)) rfl (congrArg (fun n:Nat=>Value.int .i64 (n:Int)) (str_size _)) ?_
 refine wP rfl ?_
 refine wl_upd 23 (.bool false) rfl (congrArg Value.bool (decide_eq_false (by omega))) ?_
 refine wP rfl (wP rfl (wP rfl ?_))
 refine wl_upd 26 (.int .i64 ((decDigits z.den).length:Nat)) rfl (congrArg (fun n:Nat=>Value.int .i64 (n:Int)) ((str_size _).trans (by rw[it_pos]))) ?_
 refine wP rfl ?_
 refine wl_upd 27 (.bool false) rfl (congrArg Value.bool (decide_eq_false (by omega))) ?_
 refine wP rfl (wl_nil (zE (zS rfl (zI (zE (zA (zB (wP rfl (wl_nil (zE (zO ?_)))))))))))
 exact ne_ret1 tH rfl (.tmp rfl) () rfl trivial fun W _=>NewBx.nil _ _
def posL (F:List FrP) (z:Rat):List Rat:=F.map fun f=>f.at z
theorem posL_len (F:List FrP) (z:Rat):(posL F z).length=F.length:=List.length_map _
theorem posL_at {F:List FrP} {z:Rat} {i:Nat} (hi:i<(posL F z).length):(posL F z)[i]=(fr F i).at z:=by
 have h:i<F.length:=by rwa [posL_len] at hi
 have e:(posL F z)[i]? =some ((fr F i).at z):=by unfold posL;rw[List.getElem?_map,fr_get h];rfl
 rw[List.getElem?_eq_getElem hi] at e
 exact Option.some.inj e
theorem posL_succ {F:List FrP} {z:Rat} {i:Nat} (h:i<F.length):posL (F.take (i+1)) z=posL (F.take i) z++[(fr F i).at z]:=by
 have e:F.take (i+1)=F.take i++[fr F i]:=by rw[List.take_add_one,fr_get h];rfl
 unfold posL
 rw[e,List.map_append];rfl
set_option maxHeartbeats 16000000 in
theorem positions_gives (W:World) (p:Option Addr) (cap:Nat) (rs:List (List Sd)) (h:PlanW W p rs) (z:Rat) (hz:szQ z 36):
  CallsR Tryz.prog 75 #[planV p rs.length cap,str (numS z)] W (fun x:Vec×Vec=> .tuple #[x.1.val (allF rs).length,x.2.val (posL (allF rs) z).length, .int .i64 0]) (fun x=>x.1.OK 5 (allF rs).length (frC (allF rs))∧x.2.OK 1 (posL (allF rs) z).length (nS (posL (allF rs) z)))
   (fun x=>[x.1.bx 39 (frC (allF rs)),x.2.bx 37 (nS (posL (allF rs) z))]):=by
 obtain⟨hne,hT24,hT0⟩:=chk_ne h.c
 obtain⟨hrg,_⟩:=chk_parts h.c
 have eF:=allF_len rs
 obtain⟨T,hTe⟩: ∃T,T=tot rs:=⟨_,rfl⟩
 rw[←hTe] at eF hT24 hT0
 refine calls_enter (args:=[planV p rs.length cap,str (numS z)]) Tryz.func75 rfl rfl rfl ?_
 refine zA (zB ?_)
 (refine wl_box rfl rfl rfl rfl ?_;intro)
 refine wP rfl (wP rfl (wP rfl (wl_nil ?_)))
 rename_i b2
 refine zE (zA (zB (wB 0 rfl rfl rfl ?_)))
 refine wl_call (X:=Vec) rfl rfl rfl rfl rfl rfl (by kernel_rfl) (fun W1 hp=>fAll_gives W1 p cap rs (by have:=h.n;omega) (h.R.hp hp) h.c (h.d.hp hp) (h.t.hp hp)) ?_
 intro F hF
 have hF:F.OK 5 (allF rs).length (frC (allF rs)):=hF
 obtain⟨gF,cF,hFv,hFr⟩:=Vec.frs hF (by omega)
 have hFr: ∀ {W0 W:World} {bxs:List Bx},Hp W0 bxs W→ ∀k,nth bxs k=some (F.bx 39 (frC (allF rs)))→ ∀m,m<T→RowAt W gF (0+m*5) (frV (fr (allF rs) m)).cells.toList:=fun hp k hk m hm=>hFr hp k hk m _ (fr_get (by omega))
 rw[hFv,eF]
 iterate 5 refine wP rfl ?_
 refine wl_nil (zE (zA (zA (zB (wP rfl (wP rfl (wl_nil (zE (zS rfl (zI (zE (zA (zB ?_)))))))))))))
 refine wP rfl (wl_nil (zE (zA (zA (zB (wP rfl (wP rfl (wP rfl (wl_nil (zE (zH ?_)))))))))))
 refine wc_newGone ?_
 refine wc_loop (X:=Nat×Vec) (fun s=>[(1,str (numS z)),(7, .slice (some ⟨gF,0,none⟩) T cF),(9,s.2.val s.1),(22, .slice (some ⟨gF,0,none⟩) T cF),(23, .int .i64 (T:Nat)),(24, .int .i64 (s.1:Nat))])
  (fun s=>[bxE b2 24 (slv p rs.length cap),F.bx 39 (frC (allF rs)),s.2.bx 37 (nS (posL ((allF rs).take s.1) z))]) (fun s=>s.1≤T∧s.2.OK 1 s.1 (nS (posL ((allF rs).take s.1) z))) (fun s=>T-s.1) (0,Vec.empty) ⟨Nat.zero_le _,Vec.OK.empty 1⟩ ⟨rfl,rfl,rfl,rfl,rfl,rfl,trivial⟩ [] rfl ?_
 rintro⟨i,V⟩ ⟨hi,hV⟩
 have hi:i≤T:=hi
 have hV:V.OK 1 i (nS (posL ((allF rs).take i) z)):=hV
 by_cases hlt:i<T
 ·refine zA (zB (wP rfl ?_))
  refine wl_upd 25 (.bool true) rfl (congrArg Value.bool (decide_eq_true (by omega))) ?_
  refine wl_nil (zE (zA (zR rfl (zI (zE (zA (zH (zA (zB ?_)))))))))
  refine wI rfl rfl (by omega) (by omega) ?_
  refine wl_load rfl rfl rfl rfl (fun W hp=>RowAt.load 0 tH rfl ((fun W1 hp=>hFr hp 1 rfl i hlt) W hp) rfl) ?_
  (refine wl_allocZ Tryz.hZ rfl rfl rfl rfl ?_;intro)
  refine wS 3 rfl rfl rfl (wl_nil (zE (zA (zB (wB 3 rfl rfl rfl (wP rfl ?_))))))
  have ok:=(allF_pl hrg (fr_mem (F:=allF rs) (i:=i) (by omega))).ok
  refine wl_call1 rfl rfl rfl rfl rfl rfl (by kernel_rfl) (fun W1 hp=>fPos_gives (fr (allF rs) i) ok z hz W1 (h.v.hp hp) (h.t.hp hp)) ?_
  iterate 5 refine wP rfl ?_
  refine wl_nil (zE (zA (zA (zB (wP rfl (wP rfl (wl_nil (zE (zS rfl (zI (zE (zB (wP rfl (wP rfl ?_))))))))))))))
  have hsu:=posL_succ (F:=allF rs) (z:=z) (i:=i) (by omega)
  refine wl_buildRowZ Tryz.hZ tH rfl rfl rfl rfl rfl rfl rfl rfl rfl rfl rfl fun bS=> ?_
  refine wl_appendTo (V:=V) (len:=i) (xs:=nS (posL ((allF rs).take i) z)) 2 4 Tryz.vec50 (i+1) (nS (posL ((allF rs).take (i+1)) z)) rfl rfl rfl rfl rfl rfl rfl rfl rfl rfl rfl hV rfl rfl rfl (by rw[hsu,nS_app];rfl) (by simp only[maxLen];omega) (by omega) rfl ?_
  intro gV cV jV hV1
  refine wP rfl (wl_nil (zN (zE (zB (wP rfl ?_)))))
  refine wl_upd 41 (.int .i64 ((i+1:Nat):Int)) rfl (congrArg (Value.int .i64) (w64_succ (by omega))) ?_
  refine wP rfl (wl_nil ?_)
  exact ne_loop (i+1,⟨some gV,cV,jV⟩) ⟨hlt,hV1⟩ (by show T-(i+1)<T-i;omega) ⟨rfl,rfl,rfl,rfl,rfl,rfl,trivial⟩ _ rfl
 have e:i=T:=by omega
 subst e
 have et:(allF rs).take i=allF rs:=List.take_of_length_le (by omega)
 rw[et] at hV
 refine wc_bx (bxs':=[bxE b2 24 (slv p rs.length cap),F.bx 39 (frC (allF rs)),V.bx 37 (nS (posL (allF rs) z))]) (by rw[et]) ?_
 refine zA (zB (wP rfl ?_))
 refine wl_upd 25 (.bool false) rfl (congrArg Value.bool (decide_eq_false (by omega))) ?_
 refine wl_nil (zE (zA (zS rfl (zJ (zK (zK (zL (zE (zA (zB ?_))))))))))
 iterate 5 refine wP rfl ?_
 refine wl_nil (zE (zO ?_))
 refine ne_ret3 tH rfl (.tmp rfl) (.tmp rfl) (.tmp rfl) (F,V) (by show Value.tuple #[.slice (some ⟨gF,0,none⟩) i cF,V.val i, .int .i64 0]= .tuple #[F.val i,V.val (posL (allF rs) z).length, .int .i64 0];have hFi:=hFv;rw[eF] at hFi;rw[posL_len,eF,hFi]) ⟨eF▸hF,by show V.OK 1 (posL (allF rs) z).length (nS (posL (allF rs) z));rw[posL_len,eF];exact hV⟩ fun W1 hp=>NewBx.of_hp (hp.pick (l:=[F.bx 39 (frC (allF rs)),V.bx 37 (nS (posL (allF rs) z))]) [1,2] (by decide) rfl)
abbrev iC (l:List Nat):List Value:=l.map fun i:Nat=> .int .i64 (i:Nat)
-- BOXES 3
-- CODE2
def insW (c:Nat→Nat→Int) (x:Nat) (s:List Nat):List Nat:=
 let k:=s.length-(s.reverse.takeWhile fun y=>decide (c x y<0)).length
 s.take k++x::s.drop k
def sortW (c:Nat→Nat→Int) (l:List Nat):List Nat:=l.foldl (fun s x=>insW c x s) []
theorem insW_len (c:Nat→Nat→Int) (x:Nat) (s:List Nat):(insW c x s).length=s.length+1:=by
 unfold insW
 simp only[List.length_append,List.length_take,List.length_cons,List.length_drop]
 omega
theorem mem_insW {c:Nat→Nat→Int} {x y:Nat} {s:List Nat}:y∈insW c x s↔y=x∨y∈s:=by
 unfold insW
 dsimp only
 obtain⟨k,hk⟩: ∃k,k=s.length-(s.reverse.takeWhile fun y=>decide (c x y<0)).length:=⟨_,rfl⟩
 rw[←hk]
 conv=>rhs;rw[←List.take_append_drop k s]
 simp only[List.mem_append,List.mem_cons]
 constructor
 ·rintro(h|h|h)
  ·exact .inr (.inl h)
  ·exact .inl h
  ·exact .inr (.inr h)
 ·rintro(h|h|h)
  ·exact .inr (.inl h)
  ·exact .inl h
  ·exact .inr (.inr h)
theorem sortW_take (c:Nat→Nat→Int) (l:List Nat) {i:Nat} (hi:i<l.length):sortW c (l.take (i+1))=insW c l[i] (sortW c (l.take i)):=by
 unfold sortW
 rw[List.take_add_one,List.getElem?_eq_getElem hi,List.foldl_append];rfl
theorem sortF_len (c:Nat→Nat→Int): ∀(l s:List Nat),(l.foldl (fun s x=>insW c x s) s).length=s.length+l.length
 |[],s=>by simp
 |x::l,s=>by
  rw[List.foldl_cons,sortF_len c l,insW_len,List.length_cons];omega
theorem sortW_len (c:Nat→Nat→Int) (l:List Nat):(sortW c l).length=l.length:=by
 have:=sortF_len c l []
 rw[List.length_nil,Nat.zero_add] at this
 exact this
theorem mem_sortF {c:Nat→Nat→Int} {y:Nat}: ∀(l s:List Nat),y∈l.foldl (fun s x=>insW c x s) s↔y∈s∨y∈l
 |[],s=>by simp
 |x::l,s=>by
  rw[List.foldl_cons,mem_sortF l,mem_insW,List.mem_cons]
  constructor
  ·rintro((h|h)|h)
   ·exact .inr (.inl h)
   ·exact .inl h
   ·exact .inr (.inr h)
  ·rintro(h|h|h)
   ·exact .inl (.inr h)
   ·exact .inl (.inl h)
   ·exact .inr h
theorem mem_sortW {c:Nat→Nat→Int} {y:Nat} {l:List Nat}:y∈sortW c l↔y∈l:=by
 unfold sortW
 rw[mem_sortF];simp
theorem take1_sortW (c:Nat→Nat→Int) (l:List Nat):sortW c (l.take 1)++l.drop 1=l:=by
 cases l with
 |nil=>rfl
 |cons x l=>rfl
theorem insI_done {c:Nat→Nat→Int} {x:Nat} {s:List Nat} {j:Nat} (hj:j≤s.length) (h2: ∀y∈s.drop j,c x y<0) (h1: ∀(h:0<j), ¬c x s[j-1]<0):insW c x s=s.take j++x::s.drop j:=by
 have e:(s.reverse.takeWhile fun y=>decide (c x y<0))=(s.drop j).reverse:=by
  have er:s.reverse=(s.drop j).reverse++(s.take j).reverse:=by rw[←List.reverse_append,List.take_append_drop]
  have et:(s.take j).reverse.takeWhile (fun y=>decide (c x y<0))=[]:=by
   cases j with
   |zero=>simp
   |succ m=>
    rw[List.take_add_one,List.getElem?_eq_getElem (by omega),Option.toList_some,List.reverse_append,List.reverse_singleton]
    show List.takeWhile _ (s[m]::_)=[]
    rw[List.takeWhile_cons,if_neg]
    have h3:=h1 (Nat.succ_pos _)
    simpa using h3
  rw[er,List.takeWhile_append_of_pos (fun y hy=>decide_eq_true (h2 y (List.mem_reverse.1 hy))),et,List.append_nil]
 unfold insW
 dsimp only
 rw[e,List.length_reverse,List.length_drop,show s.length-(s.length-j)=j by omega]
theorem takeWhile_same {α:Type} {p q:α→Bool}: ∀ {l:List α},(∀x∈l,p x=q x)→l.takeWhile p=l.takeWhile q
 |[],_=>rfl
 |x::l,h=>by
  rw[List.takeWhile_cons,List.takeWhile_cons,h x (List.mem_cons_self ..),takeWhile_same fun y hy=>h y (List.mem_cons_of_mem _ hy)]
theorem insW_same {c d:Nat→Nat→Int} {x:Nat} {s:List Nat} (h: ∀y∈s,c x y=d x y):insW c x s=insW d x s:=by
 unfold insW
 rw[takeWhile_same (p:=fun y=>decide (c x y<0)) (q:=fun y=>decide (d x y<0)) fun y hy=>by rw[h y (List.mem_reverse.1 hy)]]
theorem sortF_same {c d:Nat→Nat→Int} {L:List Nat} (h: ∀x∈L, ∀y∈L,c x y=d x y): ∀(l s:List Nat),(∀x∈l,x∈L)→(∀x∈s,x∈L)→l.foldl (fun s x=>insW c x s) s=l.foldl (fun s x=>insW d x s) s
 |[],_,_,_=>rfl
 |x::l,s,h1,h2=>by
  have hx:=h1 x (List.mem_cons_self ..)
  rw[List.foldl_cons,List.foldl_cons,insW_same fun y hy=>h x hx y (h2 y hy)]
  exact sortF_same h l _ (fun y hy=>h1 y (List.mem_cons_of_mem _ hy)) fun y hy=>(mem_insW.1 hy).elim (fun e=>e▸hx) (h2 y)
theorem sortW_same {c d:Nat→Nat→Int} {l:List Nat} (h: ∀x∈l, ∀y∈l,c x y=d x y):sortW c l=sortW d l:=sortF_same h l [] (fun _ h=>h) fun _ h=>by cases h
abbrev rowI (g:Nat) (l:List Nat) (junk:List Value):Bx:=⟨g,3,iC l++junk,true,none⟩
set_option maxHeartbeats 8000000 in
theorem insI_gives (cf:Nat) (capt:List Value) (hE:entersB Tryz.prog cf=true) (c:Nat→Nat→Int) (W:World) (g cap:Nat) (l:List Nat) (junk:List Value) (hn:l.length<4611686018427387904) (hg:W.heap[g]? =some (.cells (iC l++junk).toArray 3 (0,0)))
  (hf: ∀W',Keep W W' g→ ∀p∈l, ∀q∈l,CallsR Tryz.prog cf ([Value.int .i64 (p:Nat),Value.int .i64 (q:Nat)]++capt).toArray W' (fun _:Unit=> .int .i64 (c p q)) (fun _=>True) (fun _=>[])):
  Calls Tryz.prog 223 #[.slice (some ⟨g,0,none⟩) l.length cap, .int .i64 0, .int .i64 (l.length:Nat),fnM cf capt] W fun e W'=> ∃x:Unit,e= .returned ((fun _=> .tuple #[]) x)∧True∧Near W W' g ((fun _=>g) x) ((fun _=> .cells (iC (sortW c l)++junk).toArray 3 (0,0)) x):=by
 have key:Calls Tryz.prog 223 [.slice (some ⟨g,0,none⟩) l.length cap, .int .i64 0, .int .i64 (l.length:Nat),fnM cf capt].toArray W fun e W'=> ∃x:Unit,e= .returned ((fun _=> .tuple #[]) x)∧(fun _=>True) x∧Below (noHeap W).heap.size (noHeap W) W'∧NewBx (noHeap W) W' ((fun _=>[grpB (othersL W g),rowI g (sortW c l) junk]) x):=by
  refine calls_enterT (X:=Unit) (val:=fun _=> .tuple #[]) (Φ:=fun _=>True) (nb:=fun _=>[grpB (othersL W g),rowI g (sortW c l) junk]) (Hp.enterT (B:=rowI g l junk) rfl hg) Tryz.func223 rfl rfl rfl ?_
  refine zA (zB (wP rfl (wP rfl (wP rfl (wl_nil (zE (zH ?_)))))))
  refine wc_loop (X:=Nat) (fun i=>[(0, .slice (some ⟨g,0,none⟩) l.length cap),(1, .int .i64 0),(2, .int .i64 (l.length:Nat)),(3,fnM cf capt),(8, .int .i64 (i:Nat))]) (fun i=>[grpB (othersL W g),rowI g (sortW c (l.take i)++l.drop i) junk])
   (fun i=>1≤i∧(i≤l.length∨i=1)) (fun i=>l.length+1-i) 1 ⟨Nat.le_refl _, .inr rfl⟩ ⟨rfl,rfl,rfl,rfl,rfl,trivial⟩ [] (by rw[take1_sortW];rfl) ?_
  rintro i ⟨hi1,hi2⟩
  refine zA (zA (zB (wP rfl (wP rfl (wP rfl ?_)))))
  by_cases hlt:i<l.length
  rotate_left
  ·refine wl_upd 14 (.bool false) rfl (congrArg Value.bool (decide_eq_false (by omega))) ?_
   refine wl_nil (zE (zS rfl (zJ (zK (zK (zL ?_))))))
   have e:sortW c (l.take i)++l.drop i=sortW c l:=by rw[List.take_of_length_le (by omega),List.drop_of_length_le (by omega),List.append_nil]
   refine ne_end0 (X:=Unit) (val:=fun _=> .tuple #[]) (Φ:=fun _=>True) (nb:=fun _=>[grpB (othersL W g),rowI g (sortW c l) junk]) (fn:=Tryz.f223) tH rfl () rfl trivial fun W1 hp=> ?_
   rw[e] at hp
   exact(hp.pick (l:=[grpB (othersL W g),rowI g (sortW c l) junk]) [0,1] (by decide) rfl).own
  refine wl_upd 14 (.bool true) rfl (congrArg Value.bool (decide_eq_true (by omega))) ?_
  refine wl_nil (zE (zR rfl (zI (zE (zA (zH (zA (zB (wP rfl (wP rfl (wl_nil (zE (zH ?_)))))))))))))
  obtain⟨s,hs⟩: ∃s,s=sortW c (l.take i):=⟨_,rfl⟩
  obtain⟨x,hx⟩: ∃x,x=l[i]:=⟨_,rfl⟩
  obtain⟨rr,hr⟩: ∃rr,rr=l.drop (i+1):=⟨_,rfl⟩
  have hsl:s.length=i:=by rw[hs,sortW_len,List.length_take];omega
  have hdrop:l.drop i=x::rr:=by rw[hx,hr];exact List.drop_eq_getElem_cons hlt
  have hrl:rr.length=l.length-(i+1):=by rw[hr,List.length_drop]
  have hxl:x∈l:=hx▸List.getElem_mem hlt
  have hsm: ∀y∈s,y∈l:=fun y hy=>by rw[hs] at hy;exact List.mem_of_mem_take (mem_sortW.1 hy)
  have hnext: ∀j,j≤s.length→(∀y∈s.drop j,c x y<0)→(∀(h:0<j), ¬c x s[j-1]! <0)→s.take j++x::s.drop j++rr=sortW c (l.take (i+1))++l.drop (i+1):=fun j h1 h2 h3=>by
   rw[sortW_take c l hlt, ←hs, ←hx, ←hr,insI_done h1 h2 fun h=>by have:=h3 h;rwa [getElem!_pos s (j-1) (by omega)] at this]
  refine wc_loop (X:=Nat) (fun j=>[(0, .slice (some ⟨g,0,none⟩) l.length cap),(1, .int .i64 0),(2, .int .i64 (l.length:Nat)),(3,fnM cf capt),(8, .int .i64 (i:Nat)),(9, .int .i64 (j:Nat))]) (fun j=>[grpB (othersL W g),rowI g (s.take j++x::s.drop j++rr) junk])
   (fun j=>j≤s.length∧ ∀y∈s.drop j,c x y<0) (fun j=>j) i ⟨by omega,by rw[←hsl,List.drop_length];exact fun y hy=>absurd hy List.not_mem_nil⟩ ⟨rfl,rfl,rfl,rfl,rfl,rfl,trivial⟩ [] (by rw[←hs,hdrop, ←hsl,List.take_length,List.drop_length,List.append_assoc];rfl) ?_
  rintro j ⟨hj,hgt⟩
  have hj:j≤s.length:=hj
  have hgt: ∀y∈s.drop j,c x y<0:=hgt
  refine zA (zA ?_)
  refine zT Tryz.mixed (by kernel_rfl) ?_
  refine qP rfl (qP rfl (qP rfl ?_))
  cases j with
  |zero=>
   refine wq_upd 20 (.bool false) rfl rfl ?_
   refine qP rfl ?_
   iterate 12 refine wq_skip rfl rfl ?_
   refine qP rfl (wq_nil (wl_nil (zE (zS rfl (zJ (zK (zK (zL (zN (zE (zB (wP rfl (wP rfl ?_)))))))))))))
   refine wl_upd 16 (.int .i64 ((i+1:Nat):Int)) rfl (congrArg (Value.int .i64) (w64_succ (by omega))) ?_
   refine wP rfl (wl_nil ?_)
   refine ne_loop (i+1) ⟨by show 1≤i+1;omega, .inl hlt⟩ (by show l.length+1-(i+1)<l.length+1-i;omega) ⟨rfl,rfl,rfl,rfl,rfl,trivial⟩ [] ?_
   rw[hnext 0 hj hgt fun h=>absurd h (by decide)];rfl
  |succ m=>
   have hm:m<s.length:=hj
   obtain⟨y,hy⟩: ∃y,y=s[m]:=⟨_,rfl⟩
   have hyl:y∈l:=hsm y (hy▸List.getElem_mem hm)
   have e1:s.take (m+1)=s.take m++[y]:=by rw[List.take_add_one,List.getElem?_eq_getElem hm,hy];rfl
   have e2:s.drop m=y::s.drop (m+1):=by rw[hy];exact List.drop_eq_getElem_cons hm
   have e3:s[m+1-1]! =y:=by rw[Nat.add_sub_cancel,getElem!_pos s m hm,hy]
   have hA:(iC (s.take m)).length=m:=by rw[List.length_map,List.length_take];omega
   obtain⟨C,hC⟩: ∃C,C=iC (s.drop (m+1)++rr)++junk:=⟨_,rfl⟩
   have row1:iC (s.take (m+1)++x::s.drop (m+1)++rr)++junk=iC (s.take m)++([Value.int .i64 (y:Nat),Value.int .i64 (x:Nat)]++C):=by rw[e1,hC];simp[iC]
   have row2:iC (s.take m++x::s.drop m++rr)++junk=iC (s.take m)++([Value.int .i64 (x:Nat),Value.int .i64 (y:Nat)]++C):=by rw[e2,hC];simp[iC]
   refine wq_upd 20 (.bool true) rfl (congrArg Value.bool (decide_eq_true (by omega))) ?_
   refine qP rfl (qP rfl (qP rfl (qP rfl ?_)))
   refine qI rfl rfl (by omega) (by omega) ?_
   refine wq_load rfl rfl rfl rfl (fun W hp=>RowAt.load 0 tH rfl ((fun W1 hp=>show RowAt W1 g (0+(m+1)*1) [Value.int .i64 (x:Nat)] from row_pt hp 1 (A:=iC (s.take m)++[Value.int .i64 (y:Nat)]) (C:=C) rfl (by rw[row1];simp) (by rw[List.length_append,hA];simp)) W hp) rfl) ?_
   refine qP rfl (qP rfl (qP rfl ?_))
   refine wq_upd 29 (.int .i64 (m:Nat)) rfl (congrArg (Value.int .i64) (show w64 (((m+1:Nat):Int)-1)=_ by rw[w64_id (by omega) (by omega)];omega)) ?_
   refine qI rfl rfl (by omega) (by omega) ?_
   refine wq_load rfl rfl rfl rfl (fun W hp=>RowAt.load 0 tH rfl ((fun W1 hp=>show RowAt W1 g (0+m*1) [Value.int .i64 (y:Nat)] from row_pt hp 1 (A:=iC (s.take m)) (C:=[Value.int .i64 (x:Nat)]++C) rfl (by rw[row1];simp) (by rw[hA];simp)) W hp) rfl) ?_
   refine wq_call1 (capt:=capt) rfl rfl rfl rfl rfl rfl hE (fun W1 hp=>hf W1 (keep_of hg ⟨_,List.mem_cons_self ..⟩ hp) x hxl y hyl) ?_
   refine qP rfl ?_
   refine wq_upd 33 (.bool (decide (c x y<0))) rfl rfl ?_
   refine qP rfl (wq_nil (wl_nil (zE ?_)))
   refine wc_cond rfl (fun h=> ?_) (fun h=> ?_)
   rotate_left
   ·have hc: ¬c x y<0:=of_decide_eq_false h
    refine zJ (zK (zK (zL (zN (zE (zB (wP rfl (wP rfl ?_))))))))
    refine wl_upd 16 (.int .i64 ((i+1:Nat):Int)) rfl (congrArg (Value.int .i64) (w64_succ (by omega))) ?_
    refine wP rfl (wl_nil ?_)
    refine ne_loop (i+1) ⟨by show 1≤i+1;omega, .inl hlt⟩ (by show l.length+1-(i+1)<l.length+1-i;omega) ⟨rfl,rfl,rfl,rfl,rfl,trivial⟩ [] ?_
    rw[hnext (m+1) hj hgt fun _=>by rw[e3];exact hc];rfl
   have hc:c x y<0:=of_decide_eq_true h
   clear h
   refine wc_bx (bxs':=[grpB (othersL W g),⟨g,3,iC (s.take m)++([Value.int .i64 (y:Nat),Value.int .i64 (x:Nat)]++C),true,none⟩]) (by rw[←row1]) ?_
   refine zI (zE (wc_seq (wc_block ?_)))
   repeat refine wc_seq ?_
   refine wc_lateY (X:=Unit) [true,true,false,false,false,true,true,true,true,true,true,true,true,true,true,false,false,false] (fun _=>[(0, .slice (some ⟨g,0,none⟩) l.length cap),(1, .int .i64 0),(2, .int .i64 (l.length:Nat)),(3,fnM cf capt),(8, .int .i64 (i:Nat)),(9, .int .i64 ((m+1:Nat):Int))]) (fun _=>[grpB (othersL W g),⟨g,3,iC (s.take m)++([Value.int .i64 (x:Nat),Value.int .i64 (y:Nat)]++C),true,none⟩])
    6 [grpB (othersL W g),⟨g,3,iC (s.take m)++([Value.int .i64 (y:Nat),Value.int .i64 (x:Nat)]++C),true,none⟩] Tryz.mixed (by kernel_rfl) ?_ ?_
   ·refine qP rfl (qP rfl (qP rfl (qP rfl (qP rfl ?_))))
    refine wq_upd 44 (.int .i64 (m:Nat)) rfl (congrArg (Value.int .i64) (show w64 (((m+1:Nat):Int)-1)=_ by rw[w64_id (by omega) (by omega)];omega)) ?_
    refine qI rfl rfl (by omega) (by omega) ?_
    refine wq_load rfl rfl rfl rfl (fun W hp=>RowAt.load 0 tH rfl ((fun W1 hp=>show RowAt W1 g (0+m*1) [Value.int .i64 (y:Nat)] from row_pt hp 1 (A:=iC (s.take m)) (C:=[Value.int .i64 (x:Nat)]++C) rfl (by simp) (by rw[hA];simp)) W hp) rfl) ?_
    refine qP rfl (qP rfl ?_)
    refine qI rfl rfl (by omega) (by omega) ?_
    refine wq_load rfl rfl rfl rfl (fun W hp=>RowAt.load 0 tH rfl ((fun W1 hp=>show RowAt W1 g (0+(m+1)*1) [Value.int .i64 (x:Nat)] from row_pt hp 1 (A:=iC (s.take m)++[Value.int .i64 (y:Nat)]) (C:=C) rfl (by simp) (by rw[List.length_append,hA];simp)) W hp) rfl) ?_
    refine qI rfl rfl (by omega) (by omega) ?_
    refine wq_wt ?_
    have h1:splice (iC (s.take m)++([Value.int .i64 (y:Nat),Value.int .i64 (x:Nat)]++C)) (0+(m+1)*1) (Value.int .i64 (y:Nat)).cells.toList=iC (s.take m)++([Value.int .i64 (y:Nat),Value.int .i64 (y:Nat)]++C):=by
     rw[show 0+(m+1)*1=(iC (s.take m)).length+1 by rw[hA];omega,splice_right];rfl
    have h2:splice (iC (s.take m)++([Value.int .i64 (y:Nat),Value.int .i64 (y:Nat)]++C)) (0+m*1) (Value.int .i64 (x:Nat)).cells.toList=iC (s.take m)++([Value.int .i64 (x:Nat),Value.int .i64 (y:Nat)]++C):=by
     rw[show 0+m*1=(iC (s.take m)).length+0 by rw[hA];omega,splice_right];rfl
    refine wt_step rfl rfl (by((repeat (first|refine Weak.same ?_|refine Weak.off rfl ?_));exact trivial)) ?_
    refine RS.cons ?_ (RS.cons ?_ (RS.cons ?_ (RS.nil)))
    ·refine wP rfl (wl_nil (ne_wt ?_))
     refine wt_step rfl rfl (by((repeat (first|refine Weak.same ?_|refine Weak.off rfl ?_));exact trivial)) ?_
     refine RS.cons ?_ (RS.cons ?_ (RS.nil))
     ·refine wP rfl (wl_nil (ne_wt ?_))
      refine wt_step rfl rfl (by((repeat (first|refine Weak.same ?_|refine Weak.off rfl ?_));exact trivial)) ?_
      refine RS.cons ?_ (RS.cons ?_ (RS.nil))
      ·refine wP rfl (wl_nil (ne_wt ?_))
       refine wt_step rfl rfl (by((repeat (first|refine Weak.same ?_|refine Weak.off rfl ?_));exact trivial)) ?_
       refine RS.cons ?_ (RS.nil)
       refine wl_storeTo 1 _ tH rfl rfl rfl rfl rfl rfl rfl rfl rfl rfl (by show 0+(m+1)*1+1≤(iC (s.take m)++([Value.int .i64 (y:Nat),Value.int .i64 (x:Nat)]++C)).length;rw[List.length_append,hA];simp<;>omega) h1 ?_
       refine wl_nil (ne_wt ?_)
       refine wt_stepF rfl rfl (by kernel_rfl) ?_
       refine RS.cons ?_ (RS.nil)
       refine wl_upd 41 (.int .i64 (m:Nat)) rfl (congrArg (Value.int .i64) (show w64 (((m+1:Nat):Int)-1)=_ by rw[w64_id (by omega) (by omega)];omega)) ?_;(first|refine wI rfl rfl (by omega) (by omega) ?_|refine qI rfl rfl (by omega) (by omega) ?_)
       refine wl_nil (ne_wt ?_)
       refine wt_stepF rfl rfl (by kernel_rfl) ?_
       refine RS.cons ?_ (RS.nil)
       refine wl_storeTo 1 _ tH rfl rfl rfl rfl rfl rfl rfl rfl rfl rfl (by show 0+m*1+1≤(iC (s.take m)++([Value.int .i64 (y:Nat),Value.int .i64 (y:Nat)]++C)).length;rw[List.length_append,hA];simp<;>omega) h2 ?_
       refine wl_nil (ne_wt ?_)
       refine wt_doneF rfl (by kernel_rfl) ?_
       exact ne_late () ⟨rfl,rfl,rfl,rfl,rfl,rfl,trivial⟩ [0,1] (by decide) rfl
      ·refine wl_storeTo 1 _ tH rfl rfl rfl rfl rfl rfl rfl rfl rfl rfl (by show 0+(m+1)*1+1≤(iC (s.take m)++([Value.int .i64 (y:Nat),Value.int .i64 (x:Nat)]++C)).length;rw[List.length_append,hA];simp<;>omega) h1 ?_
       refine wl_nil (ne_wt ?_)
       refine wt_stepF rfl rfl (by kernel_rfl) ?_
       refine RS.cons ?_ (RS.nil)
       refine wP rfl (wl_nil (ne_wt ?_))
       refine wt_stepF rfl rfl (by kernel_rfl) ?_
       refine RS.cons ?_ (RS.nil)
       refine wl_upd 41 (.int .i64 (m:Nat)) rfl (congrArg (Value.int .i64) (show w64 (((m+1:Nat):Int)-1)=_ by rw[w64_id (by omega) (by omega)];omega)) ?_;(first|refine wI rfl rfl (by omega) (by omega) ?_|refine qI rfl rfl (by omega) (by omega) ?_)
       refine wl_nil (ne_wt ?_)
       refine wt_stepF rfl rfl (by kernel_rfl) ?_
       refine RS.cons ?_ (RS.nil)
       refine wl_storeTo 1 _ tH rfl rfl rfl rfl rfl rfl rfl rfl rfl rfl (by show 0+m*1+1≤(iC (s.take m)++([Value.int .i64 (y:Nat),Value.int .i64 (y:Nat)]++C)).length;rw[List.length_append,hA];simp<;>omega) h2 ?_
       refine wl_nil (ne_wt ?_)
       refine wt_doneF rfl (by kernel_rfl) ?_
       exact ne_late () ⟨rfl,rfl,rfl,rfl,rfl,rfl,trivial⟩ [0,1] (by decide) rfl
     ·refine wl_storeTo 1 _ tH rfl rfl rfl rfl rfl rfl rfl rfl rfl rfl (by show 0+(m+1)*1+1≤(iC (s.take m)++([Value.int .i64 (y:Nat),Value.int .i64 (x:Nat)]++C)).length;rw[List.length_append,hA];simp<;>omega) h1 ?_
      refine wl_nil (ne_wt ?_)
      refine wt_stepF rfl rfl (by kernel_rfl) ?_
      refine RS.cons ?_ (RS.nil)
      refine wP rfl (wl_nil (ne_wt ?_))
      refine wt_stepF rfl rfl (by kernel_rfl) ?_
      refine RS.cons ?_ (RS.nil)
      refine wP rfl (wl_nil (ne_wt ?_))
      refine wt_stepF rfl rfl (by kernel_rfl) ?_
      refine RS.cons ?_ (RS.nil)
      refine wl_upd 41 (.int .i64 (m:Nat)) rfl (congrArg (Value.int .i64) (show w64 (((m+1:Nat):Int)-1)=_ by rw[w64_id (by omega) (by omega)];omega)) ?_;(first|refine wI rfl rfl (by omega) (by omega) ?_|refine qI rfl rfl (by omega) (by omega) ?_)
      refine wl_nil (ne_wt ?_)
      refine wt_stepF rfl rfl (by kernel_rfl) ?_
      refine RS.cons ?_ (RS.nil)
      refine wl_storeTo 1 _ tH rfl rfl rfl rfl rfl rfl rfl rfl rfl rfl (by show 0+m*1+1≤(iC (s.take m)++([Value.int .i64 (y:Nat),Value.int .i64 (y:Nat)]++C)).length;rw[List.length_append,hA];simp<;>omega) h2 ?_
      refine wl_nil (ne_wt ?_)
      refine wt_doneF rfl (by kernel_rfl) ?_
      exact ne_late () ⟨rfl,rfl,rfl,rfl,rfl,rfl,trivial⟩ [0,1] (by decide) rfl
    ·refine wP rfl (wl_nil (ne_wt ?_))
     refine wt_step rfl rfl (by((repeat (first|refine Weak.same ?_|refine Weak.off rfl ?_));exact trivial)) ?_
     refine RS.cons ?_ (RS.cons ?_ (RS.cons ?_ (RS.nil)))
     ·refine wP rfl (wl_nil (ne_wt ?_))
      refine wt_step rfl rfl (by((repeat (first|refine Weak.same ?_|refine Weak.off rfl ?_));exact trivial)) ?_
      refine RS.cons ?_ (RS.cons ?_ (RS.nil))
      ·refine wP rfl (wl_nil (ne_wt ?_))
       refine wt_step rfl rfl (by((repeat (first|refine Weak.same ?_|refine Weak.off rfl ?_));exact trivial)) ?_
       refine RS.cons ?_ (RS.nil)
       refine wl_storeTo 1 _ tH rfl rfl rfl rfl rfl rfl rfl rfl rfl rfl (by show 0+(m+1)*1+1≤(iC (s.take m)++([Value.int .i64 (y:Nat),Value.int .i64 (x:Nat)]++C)).length;rw[List.length_append,hA];simp<;>omega) h1 ?_
       refine wl_nil (ne_wt ?_)
       refine wt_stepF rfl rfl (by kernel_rfl) ?_
       refine RS.cons ?_ (RS.nil)
       refine wl_upd 41 (.int .i64 (m:Nat)) rfl (congrArg (Value.int .i64) (show w64 (((m+1:Nat):Int)-1)=_ by rw[w64_id (by omega) (by omega)];omega)) ?_;(first|refine wI rfl rfl (by omega) (by omega) ?_|refine qI rfl rfl (by omega) (by omega) ?_)
       refine wl_nil (ne_wt ?_)
       refine wt_stepF rfl rfl (by kernel_rfl) ?_
       refine RS.cons ?_ (RS.nil)
       refine wl_storeTo 1 _ tH rfl rfl rfl rfl rfl rfl rfl rfl rfl rfl (by show 0+m*1+1≤(iC (s.take m)++([Value.int .i64 (y:Nat),Value.int .i64 (y:Nat)]++C)).length;rw[List.length_append,hA];simp<;>omega) h2 ?_
       refine wl_nil (ne_wt ?_)
       refine wt_doneF rfl (by kernel_rfl) ?_
       exact ne_late () ⟨rfl,rfl,rfl,rfl,rfl,rfl,trivial⟩ [0,1] (by decide) rfl
      ·refine wl_storeTo 1 _ tH rfl rfl rfl rfl rfl rfl rfl rfl rfl rfl (by show 0+(m+1)*1+1≤(iC (s.take m)++([Value.int .i64 (y:Nat),Value.int .i64 (x:Nat)]++C)).length;rw[List.length_append,hA];simp<;>omega) h1 ?_
       refine wl_nil (ne_wt ?_)
       refine wt_stepF rfl rfl (by kernel_rfl) ?_
       refine RS.cons ?_ (RS.nil)
       refine wP rfl (wl_nil (ne_wt ?_))
       refine wt_stepF rfl rfl (by kernel_rfl) ?_
       refine RS.cons ?_ (RS.nil)
       refine wl_upd 41 (.int .i64 (m:Nat)) rfl (congrArg (Value.int .i64) (show w64 (((m+1:Nat):Int)-1)=_ by rw[w64_id (by omega) (by omega)];omega)) ?_;(first|refine wI rfl rfl (by omega) (by omega) ?_|refine qI rfl rfl (by omega) (by omega) ?_)
       refine wl_nil (ne_wt ?_)
       refine wt_stepF rfl rfl (by kernel_rfl) ?_
       refine RS.cons ?_ (RS.nil)
       refine wl_storeTo 1 _ tH rfl rfl rfl rfl rfl rfl rfl rfl rfl rfl (by show 0+m*1+1≤(iC (s.take m)++([Value.int .i64 (y:Nat),Value.int .i64 (y:Nat)]++C)).length;rw[List.length_append,hA];simp<;>omega) h2 ?_
       refine wl_nil (ne_wt ?_)
       refine wt_doneF rfl (by kernel_rfl) ?_
       exact ne_late () ⟨rfl,rfl,rfl,rfl,rfl,rfl,trivial⟩ [0,1] (by decide) rfl
     ·refine wP rfl (wl_nil (ne_wt ?_))
      refine wt_step rfl rfl (by((repeat (first|refine Weak.same ?_|refine Weak.off rfl ?_));exact trivial)) ?_
      refine RS.cons ?_ (RS.cons ?_ (RS.nil))
      ·refine wP rfl (wl_nil (ne_wt ?_))
       refine wt_step rfl rfl (by((repeat (first|refine Weak.same ?_|refine Weak.off rfl ?_));exact trivial)) ?_
       refine RS.cons ?_ (RS.nil)
       refine wl_storeTo 1 _ tH rfl rfl rfl rfl rfl rfl rfl rfl rfl rfl (by show 0+(m+1)*1+1≤(iC (s.take m)++([Value.int .i64 (y:Nat),Value.int .i64 (x:Nat)]++C)).length;rw[List.length_append,hA];simp<;>omega) h1 ?_
       refine wl_nil (ne_wt ?_)
       refine wt_stepF rfl rfl (by kernel_rfl) ?_
       refine RS.cons ?_ (RS.nil)
       refine wl_upd 41 (.int .i64 (m:Nat)) rfl (congrArg (Value.int .i64) (show w64 (((m+1:Nat):Int)-1)=_ by rw[w64_id (by omega) (by omega)];omega)) ?_;(first|refine wI rfl rfl (by omega) (by omega) ?_|refine qI rfl rfl (by omega) (by omega) ?_)
       refine wl_nil (ne_wt ?_)
       refine wt_stepF rfl rfl (by kernel_rfl) ?_
       refine RS.cons ?_ (RS.nil)
       refine wl_storeTo 1 _ tH rfl rfl rfl rfl rfl rfl rfl rfl rfl rfl (by show 0+m*1+1≤(iC (s.take m)++([Value.int .i64 (y:Nat),Value.int .i64 (y:Nat)]++C)).length;rw[List.length_append,hA];simp<;>omega) h2 ?_
       refine wl_nil (ne_wt ?_)
       refine wt_doneF rfl (by kernel_rfl) ?_
       exact ne_late () ⟨rfl,rfl,rfl,rfl,rfl,rfl,trivial⟩ [0,1] (by decide) rfl
      ·refine wl_storeTo 1 _ tH rfl rfl rfl rfl rfl rfl rfl rfl rfl rfl (by show 0+(m+1)*1+1≤(iC (s.take m)++([Value.int .i64 (y:Nat),Value.int .i64 (x:Nat)]++C)).length;rw[List.length_append,hA];simp<;>omega) h1 ?_
       refine wl_nil (ne_wt ?_)
       refine wt_stepF rfl rfl (by kernel_rfl) ?_
       refine RS.cons ?_ (RS.nil)
       refine wP rfl (wl_nil (ne_wt ?_))
       refine wt_stepF rfl rfl (by kernel_rfl) ?_
       refine RS.cons ?_ (RS.nil)
       refine wl_upd 41 (.int .i64 (m:Nat)) rfl (congrArg (Value.int .i64) (show w64 (((m+1:Nat):Int)-1)=_ by rw[w64_id (by omega) (by omega)];omega)) ?_;(first|refine wI rfl rfl (by omega) (by omega) ?_|refine qI rfl rfl (by omega) (by omega) ?_)
       refine wl_nil (ne_wt ?_)
       refine wt_stepF rfl rfl (by kernel_rfl) ?_
       refine RS.cons ?_ (RS.nil)
       refine wl_storeTo 1 _ tH rfl rfl rfl rfl rfl rfl rfl rfl rfl rfl (by show 0+m*1+1≤(iC (s.take m)++([Value.int .i64 (y:Nat),Value.int .i64 (y:Nat)]++C)).length;rw[List.length_append,hA];simp<;>omega) h2 ?_
       refine wl_nil (ne_wt ?_)
       refine wt_doneF rfl (by kernel_rfl) ?_
       exact ne_late () ⟨rfl,rfl,rfl,rfl,rfl,rfl,trivial⟩ [0,1] (by decide) rfl
     ·refine wl_storeTo 1 _ tH rfl rfl rfl rfl rfl rfl rfl rfl rfl rfl (by show 0+(m+1)*1+1≤(iC (s.take m)++([Value.int .i64 (y:Nat),Value.int .i64 (x:Nat)]++C)).length;rw[List.length_append,hA];simp<;>omega) h1 ?_
      refine wl_nil (ne_wt ?_)
      refine wt_stepF rfl rfl (by kernel_rfl) ?_
      refine RS.cons ?_ (RS.cons ?_ (RS.nil))
      ·refine wP rfl (wl_nil (ne_wt ?_))
       refine wt_stepF rfl rfl (by kernel_rfl) ?_
       refine RS.cons ?_ (RS.nil)
       refine wP rfl (wl_nil (ne_wt ?_))
       refine wt_stepF rfl rfl (by kernel_rfl) ?_
       refine RS.cons ?_ (RS.nil)
       refine wl_upd 41 (.int .i64 (m:Nat)) rfl (congrArg (Value.int .i64) (show w64 (((m+1:Nat):Int)-1)=_ by rw[w64_id (by omega) (by omega)];omega)) ?_;(first|refine wI rfl rfl (by omega) (by omega) ?_|refine qI rfl rfl (by omega) (by omega) ?_)
       refine wl_nil (ne_wt ?_)
       refine wt_stepF rfl rfl (by kernel_rfl) ?_
       refine RS.cons ?_ (RS.nil)
       refine wl_storeTo 1 _ tH rfl rfl rfl rfl rfl rfl rfl rfl rfl rfl (by show 0+m*1+1≤(iC (s.take m)++([Value.int .i64 (y:Nat),Value.int .i64 (y:Nat)]++C)).length;rw[List.length_append,hA];simp<;>omega) h2 ?_
       refine wl_nil (ne_wt ?_)
       refine wt_doneF rfl (by kernel_rfl) ?_
       exact ne_late () ⟨rfl,rfl,rfl,rfl,rfl,rfl,trivial⟩ [0,1] (by decide) rfl
      ·refine wP rfl (wl_nil (ne_wt ?_))
       refine wt_stepF rfl rfl (by kernel_rfl) ?_
       refine RS.cons ?_ (RS.nil)
       refine wP rfl (wl_nil (ne_wt ?_))
       refine wt_stepF rfl rfl (by kernel_rfl) ?_
       refine RS.cons ?_ (RS.nil)
       refine wl_upd 41 (.int .i64 (m:Nat)) rfl (congrArg (Value.int .i64) (show w64 (((m+1:Nat):Int)-1)=_ by rw[w64_id (by omega) (by omega)];omega)) ?_;(first|refine wI rfl rfl (by omega) (by omega) ?_|refine qI rfl rfl (by omega) (by omega) ?_)
       refine wl_nil (ne_wt ?_)
       refine wt_stepF rfl rfl (by kernel_rfl) ?_
       refine RS.cons ?_ (RS.nil)
       refine wl_storeTo 1 _ tH rfl rfl rfl rfl rfl rfl rfl rfl rfl rfl (by show 0+m*1+1≤(iC (s.take m)++([Value.int .i64 (y:Nat),Value.int .i64 (y:Nat)]++C)).length;rw[List.length_append,hA];simp<;>omega) h2 ?_
       refine wl_nil (ne_wt ?_)
       refine wt_doneF rfl (by kernel_rfl) ?_
       exact ne_late () ⟨rfl,rfl,rfl,rfl,rfl,rfl,trivial⟩ [0,1] (by decide) rfl
    ·refine wl_storeTo 1 _ tH rfl rfl rfl rfl rfl rfl rfl rfl rfl rfl (by show 0+(m+1)*1+1≤(iC (s.take m)++([Value.int .i64 (y:Nat),Value.int .i64 (x:Nat)]++C)).length;rw[List.length_append,hA];simp<;>omega) h1 ?_
     refine wl_nil (ne_wt ?_)
     refine wt_stepF rfl rfl (by kernel_rfl) ?_
     refine RS.cons ?_ (RS.cons ?_ (RS.nil))
     ·refine wP rfl (wl_nil (ne_wt ?_))
      refine wt_stepF rfl rfl (by kernel_rfl) ?_
      refine RS.cons ?_ (RS.nil)
      refine wP rfl (wl_nil (ne_wt ?_))
      refine wt_stepF rfl rfl (by kernel_rfl) ?_
      refine RS.cons ?_ (RS.nil)
      refine wP rfl (wl_nil (ne_wt ?_))
      refine wt_stepF rfl rfl (by kernel_rfl) ?_
      refine RS.cons ?_ (RS.nil)
      refine wl_upd 41 (.int .i64 (m:Nat)) rfl (congrArg (Value.int .i64) (show w64 (((m+1:Nat):Int)-1)=_ by rw[w64_id (by omega) (by omega)];omega)) ?_;(first|refine wI rfl rfl (by omega) (by omega) ?_|refine qI rfl rfl (by omega) (by omega) ?_)
      refine wl_nil (ne_wt ?_)
      refine wt_stepF rfl rfl (by kernel_rfl) ?_
      refine RS.cons ?_ (RS.nil)
      refine wl_storeTo 1 _ tH rfl rfl rfl rfl rfl rfl rfl rfl rfl rfl (by show 0+m*1+1≤(iC (s.take m)++([Value.int .i64 (y:Nat),Value.int .i64 (y:Nat)]++C)).length;rw[List.length_append,hA];simp<;>omega) h2 ?_
      refine wl_nil (ne_wt ?_)
      refine wt_doneF rfl (by kernel_rfl) ?_
      exact ne_late () ⟨rfl,rfl,rfl,rfl,rfl,rfl,trivial⟩ [0,1] (by decide) rfl
     ·refine wP rfl (wl_nil (ne_wt ?_))
      refine wt_stepF rfl rfl (by kernel_rfl) ?_
      refine RS.cons ?_ (RS.cons ?_ (RS.nil))
      ·refine wP rfl (wl_nil (ne_wt ?_))
       refine wt_stepF rfl rfl (by kernel_rfl) ?_
       refine RS.cons ?_ (RS.nil)
       refine wP rfl (wl_nil (ne_wt ?_))
       refine wt_stepF rfl rfl (by kernel_rfl) ?_
       refine RS.cons ?_ (RS.nil)
       refine wl_upd 41 (.int .i64 (m:Nat)) rfl (congrArg (Value.int .i64) (show w64 (((m+1:Nat):Int)-1)=_ by rw[w64_id (by omega) (by omega)];omega)) ?_;(first|refine wI rfl rfl (by omega) (by omega) ?_|refine qI rfl rfl (by omega) (by omega) ?_)
       refine wl_nil (ne_wt ?_)
       refine wt_stepF rfl rfl (by kernel_rfl) ?_
       refine RS.cons ?_ (RS.nil)
       refine wl_storeTo 1 _ tH rfl rfl rfl rfl rfl rfl rfl rfl rfl rfl (by show 0+m*1+1≤(iC (s.take m)++([Value.int .i64 (y:Nat),Value.int .i64 (y:Nat)]++C)).length;rw[List.length_append,hA];simp<;>omega) h2 ?_
       refine wl_nil (ne_wt ?_)
       refine wt_doneF rfl (by kernel_rfl) ?_
       exact ne_late () ⟨rfl,rfl,rfl,rfl,rfl,rfl,trivial⟩ [0,1] (by decide) rfl
      ·refine wP rfl (wl_nil (ne_wt ?_))
       refine wt_stepF rfl rfl (by kernel_rfl) ?_
       refine RS.cons ?_ (RS.nil)
       refine wP rfl (wl_nil (ne_wt ?_))
       refine wt_stepF rfl rfl (by kernel_rfl) ?_
       refine RS.cons ?_ (RS.nil)
       refine wl_upd 41 (.int .i64 (m:Nat)) rfl (congrArg (Value.int .i64) (show w64 (((m+1:Nat):Int)-1)=_ by rw[w64_id (by omega) (by omega)];omega)) ?_;(first|refine wI rfl rfl (by omega) (by omega) ?_|refine qI rfl rfl (by omega) (by omega) ?_)
       refine wl_nil (ne_wt ?_)
       refine wt_stepF rfl rfl (by kernel_rfl) ?_
       refine RS.cons ?_ (RS.nil)
       refine wl_storeTo 1 _ tH rfl rfl rfl rfl rfl rfl rfl rfl rfl rfl (by show 0+m*1+1≤(iC (s.take m)++([Value.int .i64 (y:Nat),Value.int .i64 (y:Nat)]++C)).length;rw[List.length_append,hA];simp<;>omega) h2 ?_
       refine wl_nil (ne_wt ?_)
       refine wt_doneF rfl (by kernel_rfl) ?_
       exact ne_late () ⟨rfl,rfl,rfl,rfl,rfl,rfl,trivial⟩ [0,1] (by decide) rfl
   intro _
   refine zN (zE (zB (wP rfl (wP rfl ?_))))
   refine wl_upd 36 (.int .i64 (m:Nat)) rfl (congrArg (Value.int .i64) (show w64 (((m+1:Nat):Int)-1)=_ by rw[w64_id (by omega) (by omega)];omega)) ?_
   refine wP rfl (wl_nil ?_)
   refine ne_loop m ⟨by show m≤s.length;omega,fun z hz=> ?_⟩ (by show m<m+1;omega) ⟨rfl,rfl,rfl,rfl,rfl,rfl,trivial⟩ [] (by rw[←row2];rfl)
   rw[e2] at hz
   rcases List.mem_cons.1 hz with rfl|hz
   ·exact hc
   ·exact hgt z hz
 refine key.mono ?_
 rintro e W' ⟨x,he,_,hb,hn'⟩
 exact⟨x,he,trivial,near_of hg rfl hb hn'⟩
set_option maxHeartbeats 4000000 in
theorem pdqI_gives (cf:Nat) (capt:List Value) (hE:entersB Tryz.prog cf=true) (c:Nat→Nat→Int) (W:World) (g cap:Nat) (l:List Nat) (junk:List Value) (z:Int) (hn:l.length≤12) (hg:W.heap[g]? =some (.cells (iC l++junk).toArray 3 (0,0)))
  (hf: ∀W',Keep W W' g→ ∀p∈l, ∀q∈l,CallsR Tryz.prog cf ([Value.int .i64 (p:Nat),Value.int .i64 (q:Nat)]++capt).toArray W' (fun _:Unit=> .int .i64 (c p q)) (fun _=>True) (fun _=>[])):
  Calls Tryz.prog 160 #[.slice (some ⟨g,0,none⟩) l.length cap, .int .i64 0, .int .i64 (l.length:Nat), .int .i64 z,fnM cf capt] W fun e W'=> ∃x:Unit,e= .returned ((fun _=> .tuple #[]) x)∧True∧Near W W' g ((fun _=>g) x) ((fun _=> .cells (iC (sortW c l)++junk).toArray 3 (0,0)) x):=by
 have key:Calls Tryz.prog 160 [.slice (some ⟨g,0,none⟩) l.length cap, .int .i64 0, .int .i64 (l.length:Nat), .int .i64 z,fnM cf capt].toArray W fun e W'=> ∃x:Unit,e= .returned ((fun _=> .tuple #[]) x)∧(fun _=>True) x∧Below (noHeap W).heap.size (noHeap W) W'∧NewBx (noHeap W) W' ((fun _=>[grpB (othersL W g),rowI g (sortW c l) junk]) x):=by
  refine calls_enterT (X:=Unit) (val:=fun _=> .tuple #[]) (Φ:=fun _=>True) (nb:=fun _=>[grpB (othersL W g),rowI g (sortW c l) junk]) (Hp.enterT (B:=rowI g l junk) rfl hg) Tryz.func160 rfl rfl rfl ?_
  refine zA (zB (wP rfl (wl_nil (zE (zA (zB (wP rfl (wl_nil (zE (zH ?_))))))))))
  refine wc_loop (X:=Unit) (fun _=>[(0, .slice (some ⟨g,0,none⟩) l.length cap),(1, .int .i64 0),(2, .int .i64 (l.length:Nat)),(3, .int .i64 z),(4,fnM cf capt)]) (fun _=>[grpB (othersL W g),rowI g l junk]) (fun _=>True) (fun _=>0) () trivial ⟨rfl,rfl,rfl,rfl,rfl,trivial⟩ [] rfl ?_
  intro _ _
  refine zH (zA (zB (wP rfl (wP rfl (wP rfl ?_)))))
  refine wl_upd 23 (.int .i64 (l.length:Nat)) rfl (congrArg (Value.int .i64) (show w64 ((l.length:Nat)-0)=_ by rw[w64_id (by omega) (by omega)];omega)) ?_
  refine wP rfl (wl_nil (zE (zA (zA (zB (wP rfl (wP rfl ?_)))))))
  refine wl_upd 25 (.bool true) rfl (congrArg Value.bool (decide_eq_true (by omega))) ?_
  refine wl_nil (zE (zR rfl (zA (zB (wP rfl (wP rfl (wP rfl (wP rfl ?_))))))))
  refine wl_callN (X:=Unit) (val:=fun _=> .tuple #[]) (Φ:=fun _=>True) (capt:=[]) 1 (B:=rowI g l junk) (L1:=[]) (L2:=[]) (b:=g) (ob:= .cells (iC l++junk).toArray 3 (0,0)) (fun _=>rowI g (sortW c l) junk) (g':=fun _=>g) (o':=fun _=> .cells (iC (sortW c l)++junk).toArray 3 (0,0))
   rfl rfl rfl rfl rfl rfl (by kernel_rfl) rfl rfl (fun _ _=>rfl) (fun W1 hp=>insI_gives cf capt hE c W1 g cap l junk (by omega) (hp.own.cell 1 _ rfl (g, .cells (iC l++junk).toArray 3 (0,0)) (List.mem_cons_self ..)).1 (fun W2 hk=>hf W2 ((keep_of hg ⟨_,List.mem_cons_self ..⟩ hp).trans hk))) (fun _ _=> ?_)
  refine wl_nil (zE (zO (zP (zQ (zP (zQ ?_))))))
  refine ne_ret0 (X:=Unit) (val:=fun _=> .tuple #[]) (Φ:=fun _=>True) (nb:=fun _=>[grpB (othersL W g),rowI g (sortW c l) junk]) (fn:=Tryz.f160) tH rfl () rfl trivial fun W1 hp=> ?_
  exact(hp.pick (l:=[grpB (othersL W g),rowI g (sortW c l) junk]) [0,1] (by decide) rfl).own
 refine key.mono ?_
 rintro e W' ⟨x,he,_,hb,hn'⟩
 exact⟨x,he,trivial,near_of hg rfl hb hn'⟩
theorem insI0_gives (cf:Nat) (capt:List Value) (W:World) (p:Option Addr) (cap:Nat):CallsR Tryz.prog 223 #[.slice p 0 cap, .int .i64 0, .int .i64 ((0:Nat):Int),fnM cf capt] W (fun _:Unit=> .tuple #[]) (fun _=>True) (fun _=>[]):=by
 refine calls_enter (args:=[.slice p 0 cap, .int .i64 0, .int .i64 ((0:Nat):Int),fnM cf capt]) Tryz.func223 rfl rfl rfl ?_
 refine zA (zB (wP rfl (wP rfl (wP rfl (wl_nil (zE (zH ?_)))))))
 refine wc_loop (X:=Unit) (fun _=>[(0, .slice p 0 cap),(1, .int .i64 0),(2, .int .i64 ((0:Nat):Int)),(3,fnM cf capt),(8, .int .i64 1)]) (fun _=>[]) (fun _=>True) (fun _=>0) () trivial ⟨rfl,rfl,rfl,rfl,rfl,trivial⟩ [] rfl ?_
 intro _ _
 refine zA (zA (zB (wP rfl (wP rfl (wP rfl ?_)))))
 refine wl_upd 14 (.bool false) rfl rfl ?_
 refine wl_nil (zE (zS rfl (zJ (zK (zK (zL ?_))))))
 exact ne_end0 (X:=Unit) (val:=fun _=> .tuple #[]) (Φ:=fun _=>True) (nb:=fun _=>[]) (fn:=Tryz.f223) tH rfl () rfl trivial fun W _=>NewBx.nil _ _
theorem pdqI0_gives (cf:Nat) (capt:List Value) (W:World) (p:Option Addr) (cap:Nat) (z:Int):CallsR Tryz.prog 160 #[.slice p 0 cap, .int .i64 0, .int .i64 ((0:Nat):Int), .int .i64 z,fnM cf capt] W (fun _:Unit=> .tuple #[]) (fun _=>True) (fun _=>[]):=by
 refine calls_enter (args:=[.slice p 0 cap, .int .i64 0, .int .i64 ((0:Nat):Int), .int .i64 z,fnM cf capt]) Tryz.func160 rfl rfl rfl ?_
 refine zA (zB (wP rfl (wl_nil (zE (zA (zB (wP rfl (wl_nil (zE (zH ?_))))))))))
 refine wc_loop (X:=Unit) (fun _=>[(0, .slice p 0 cap),(1, .int .i64 0),(2, .int .i64 ((0:Nat):Int)),(3, .int .i64 z),(4,fnM cf capt)]) (fun _=>[]) (fun _=>True) (fun _=>0) () trivial ⟨rfl,rfl,rfl,rfl,rfl,trivial⟩ [] rfl ?_
 intro _ _
 refine zH (zA (zB (wP rfl (wP rfl (wP rfl ?_)))))
 refine wl_upd 23 (.int .i64 ((0:Nat):Int)) rfl rfl ?_
 refine wP rfl (wl_nil (zE (zA (zA (zB (wP rfl (wP rfl ?_)))))))
 refine wl_upd 25 (.bool true) rfl rfl ?_
 refine wl_nil (zE (zR rfl (zA (zB (wP rfl (wP rfl (wP rfl (wP rfl ?_))))))))
 refine wl_call1 (capt:=[]) rfl rfl rfl rfl rfl rfl (by kernel_rfl) (fun W _=>insI0_gives cf capt W p cap) ?_
 refine wl_nil (zE (zO (zP (zQ (zP (zQ ?_))))))
 exact ne_ret0 (X:=Unit) (val:=fun _=> .tuple #[]) (Φ:=fun _=>True) (nb:=fun _=>[]) (fn:=Tryz.f160) tH rfl () rfl trivial fun W _=>NewBx.nil _ _
set_option maxHeartbeats 4000000 in
theorem sortI_gives (cf:Nat) (capt:List Value) (hE:entersB Tryz.prog cf=true) (c:Nat→Nat→Int) (W:World) (g cap:Nat) (l:List Nat) (junk:List Value) (hn:l.length≤12) (hg:W.heap[g]? =some (.cells (iC l++junk).toArray 3 (0,0)))
  (hf: ∀W',Keep W W' g→ ∀p∈l, ∀q∈l,CallsR Tryz.prog cf ([Value.int .i64 (p:Nat),Value.int .i64 (q:Nat)]++capt).toArray W' (fun _:Unit=> .int .i64 (c p q)) (fun _=>True) (fun _=>[])):
  Calls Tryz.prog 79 #[.slice (some ⟨g,0,none⟩) l.length cap,fnM cf capt] W fun e W'=> ∃x:Unit,e= .returned ((fun _=> .tuple #[]) x)∧True∧Near W W' g ((fun _=>g) x) ((fun _=> .cells (iC (sortW c l)++junk).toArray 3 (0,0)) x):=by
 have key:Calls Tryz.prog 79 [.slice (some ⟨g,0,none⟩) l.length cap,fnM cf capt].toArray W fun e W'=> ∃x:Unit,e= .returned ((fun _=> .tuple #[]) x)∧(fun _=>True) x∧Below (noHeap W).heap.size (noHeap W) W'∧NewBx (noHeap W) W' ((fun _=>[grpB (othersL W g),rowI g (sortW c l) junk]) x):=by
  refine calls_enterT (X:=Unit) (val:=fun _=> .tuple #[]) (Φ:=fun _=>True) (nb:=fun _=>[grpB (othersL W g),rowI g (sortW c l) junk]) (Hp.enterT (B:=rowI g l junk) rfl hg) Tryz.func79 rfl rfl rfl ?_
  refine zA (zB (wP rfl (wP rfl (wP rfl (wl_nil (zE (zB (wP rfl (wP rfl (wP rfl ?_))))))))))
  refine wl_cvA (k:= .u64) (kt:= .i64) (by kernel_rfl) (by kernel_rfl) rfl rfl rfl rfl ?_
  refine wl_upd 10 (.int .u64 (l.length:Nat)) rfl (congrArg (Value.int .u64) (u64_nat hn)) ?_
  refine wl_call1 (capt:=[]) rfl rfl rfl rfl rfl rfl (by kernel_rfl) (fun W _=>bitLen_gives l.length (by omega) W) ?_
  refine wP rfl ?_
  refine wl_callN (X:=Unit) (val:=fun _=> .tuple #[]) (Φ:=fun _=>True) (capt:=[]) 1 (B:=rowI g l junk) (L1:=[]) (L2:=[]) (b:=g) (ob:= .cells (iC l++junk).toArray 3 (0,0)) (fun _=>rowI g (sortW c l) junk) (g':=fun _=>g) (o':=fun _=> .cells (iC (sortW c l)++junk).toArray 3 (0,0))
   rfl rfl rfl rfl rfl rfl (by kernel_rfl) rfl rfl (fun _ _=>rfl) (fun W1 hp=>pdqI_gives cf capt hE c W1 g cap l junk _ hn (hp.own.cell 1 _ rfl (g, .cells (iC l++junk).toArray 3 (0,0)) (List.mem_cons_self ..)).1 (fun W2 hk=>hf W2 ((keep_of hg ⟨_,List.mem_cons_self ..⟩ hp).trans hk))) (fun _ _=> ?_)
  refine wl_nil ?_
  refine ne_end0 (X:=Unit) (val:=fun _=> .tuple #[]) (Φ:=fun _=>True) (nb:=fun _=>[grpB (othersL W g),rowI g (sortW c l) junk]) (fn:=Tryz.f79) tH rfl () rfl trivial fun W1 hp=> ?_
  exact(hp.pick (l:=[grpB (othersL W g),rowI g (sortW c l) junk]) [0,1] (by decide) rfl).own
 refine key.mono ?_
 rintro e W' ⟨x,he,_,hb,hn'⟩
 exact⟨x,he,trivial,near_of hg rfl hb hn'⟩
-- BOXES 9
-- CODE2
theorem velA_speed {f:FrP} (h:f.OK) (z:Rat):f.velA z=if f.hd<0 then 0-f.speed z else f.speed z:=by
 unfold FrP.velA FrP.speed FrP.vel
 rcases h.hd with e|e<;>rw[e]
 ·rw[if_neg (show¬(1:Int)<0 by decide)]
  split
  ·rfl
  ·show((1:Int):Rat)*f.sp=f.sp
   have:((1:Int):Rat)=1:=rfl
   rw[this,Rat.one_mul]
 ·rw[if_pos (show(-1:Int)<0 by decide)]
  have:((-1:Int):Rat)= -1:=rfl
  rw[this]
  split<;>grind
theorem rsub0_gives (q:Rat) (h:Sz2 0 q) (W:World) (hv:MaxP W) (ht:TabP W):CallsR Tryz.prog 78 #[str [48],str (numS q)] W (fun _:Unit=> .tuple #[str (numS (0-q)), .int .i64 0]) (fun _=>True) (fun _=>[]):=by
 have h:=rsub_gives 0 q h W hv ht
 rwa [numS_zero] at h
theorem szQ0:szQ (0:Rat) 1:=szQ_int (z:=0) (by decide) (by decide)
theorem speed_sz {f:FrP} (h:f.Pl) (z:Rat):szQ (f.speed z) 2:=by
 unfold FrP.speed
 split
 ·exact szQ0.mono (by decide)
 ·exact h.szp
theorem velA_sz {f:FrP} (h:f.Pl) (z:Rat):szQ (f.velA z) 3:=by
 unfold FrP.velA
 split
 ·exact szQ0.mono (by decide)
 ·exact h.vz
set_option maxHeartbeats 4000000 in
theorem ordV_gives (f:FrP) (h:f.Pl) (z:Rat) (hz:szQ z 36) (b:Nat) (W:World) (hrow:RowAt W b 0 [str (numS z)]) (hv:MaxP W) (ht:TabP W):
  CallsR Tryz.prog 76 #[frV f,selfP b] W (fun _:Unit=>str (numS (f.velA z))) (fun _=>True) (fun _=>[]):=by
 have e:=velA_speed h.ok z
 have zs:=sz2 (szQ0) (speed_sz h z) (by decide)
 refine calls_enter (args:=[frV f,selfP b]) Tryz.func76 rfl rfl rfl ?_
 refine zA (zB ?_)
 (refine wl_box rfl rfl rfl rfl ?_;intro)
 refine wP rfl (wl_nil (zE (zA (zB (wB 0 rfl rfl rfl ?_)))))
 refine wl_load rfl rfl rfl rfl (fun W hp=>RowAt.load 0 tH rfl ((fun W1 hp=>hrow.hp hp) W hp) rfl) ?_
 refine wl_call1 rfl rfl rfl rfl rfl rfl (by kernel_rfl) (fun W1 hp=>fSpeed_gives f h.ok z hz W1 (hv.hp hp) (ht.hp hp)) ?_
 iterate 5 refine wP rfl ?_
 refine wl_nil (zE (zA (zA (zB (wP rfl (wB 0 rfl rfl rfl (wP rfl (wl_nil (zE ?_)))))))))
 refine wc_cond rfl (fun hc=> ?_) (fun hc=> ?_)
 ·have hc:f.hd<0:=of_decide_eq_true hc
  rw[if_pos hc] at e
  refine zB (wP rfl ?_)
  refine wl_call1 rfl rfl rfl rfl rfl rfl (by kernel_rfl) (fun W1 hp=>rsub0_gives (f.speed z) zs W1 (hv.hp hp) (ht.hp hp)) ?_
  refine wP rfl (wP rfl (wP rfl (wP rfl (wl_nil (zE (zA (zB (wP rfl (wP rfl (wl_nil (zE (zO ?_))))))))))))
  exact ne_ret1 tH rfl (.tmp rfl) () (by rw[e]) trivial fun W _=>NewBx.nil _ _
 ·have hc: ¬f.hd<0:=of_decide_eq_false hc
  rw[if_neg hc] at e
  refine zI (zE (zA (zB (wP rfl (wP rfl (wl_nil (zE (zO ?_))))))))
  exact ne_ret1 tH rfl (.tmp rfl) () (by rw[e]) trivial fun W _=>NewBx.nil _ _
def or3 (a b c:Int):Int:=if a≠0 then a else if b≠0 then b else c
theorem beq0 {z:Int} (h:z≠0):(!(z==0))=true:=by simp[h]
set_option maxHeartbeats 4000000 in
theorem or_gives (g:Nat) (a b c:Int) (W:World) (hrow:RowAt W g 0 [.int .i64 a, .int .i64 b, .int .i64 c]):
  CallsR Tryz.prog 81 #[.slice (some ⟨g,0,none⟩) 3 3] W (fun _:Unit=> .int .i64 (or3 a b c)) (fun _=>True) (fun _=>[]):=by
 have at_: ∀(i:Nat) (v:Int),[a,b,c][i]? =some v→RowAt W g (0+i*1) [.int .i64 v]:=fun i v hv=>by
  refine⟨hrow.lt,fun m u hu=> ?_⟩
  have hm:m=0:=by have:=(List.getElem?_eq_some_iff.1 hu).1;simpa using this
  subst hm
  have:=hrow.get i u (by
   match i,hv with
   |0,hv=>simp at hv hu⊢;rw[←hu,hv]
   |1,hv=>simp at hv hu⊢;rw[←hu,hv]
   |2,hv=>simp at hv hu⊢;rw[←hu,hv])
  rw[show 0+i*1+0=0+i by omega];exact this
 refine calls_enter (args:=[.slice (some ⟨g,0,none⟩) 3 3]) Tryz.func81 rfl rfl rfl ?_
 refine zA (zB (wP rfl (wl_nil (zE (zA (zB (wP rfl (wl_nil (zE (zA (zA (zB (wP rfl (wP rfl (wP rfl ?_)))))))))))))))
 refine wl_nil (zE (zH ?_))
 refine wc_loop (X:=Nat) (fun i=>[(3, .int .i64 0),(6, .slice (some ⟨g,0,none⟩) 3 3),(7, .int .i64 ((3:Nat):Int)),(8, .int .i64 (i:Nat))]) (fun _=>[]) (fun i=>i≤3∧(0<i→a=0)∧(1<i→b=0)∧(2<i→c=0)) (fun i=>3-i) 0 ⟨by omega,fun h=>absurd h (by omega),fun h=>absurd h (by omega),fun h=>absurd h (by omega)⟩ ⟨rfl,rfl,rfl,rfl,trivial⟩ [] rfl ?_
 rintro i ⟨hi,h0,h1,h2⟩
 refine zA (zB (wP rfl ?_))
 by_cases hlt:i<3
 ·refine wl_upd 9 (.bool true) rfl (congrArg Value.bool (decide_eq_true (by omega))) ?_
  refine wl_nil (zE (zA (zR rfl (zI (zE (zA (zH (zA (zB ?_)))))))))
  obtain⟨v,hv⟩: ∃v,[a,b,c][i]? =some v:=⟨_,List.getElem?_eq_getElem (by simpa using hlt)⟩
  have hr:=at_ i v hv
  refine wI rfl rfl (by omega) (by omega) ?_
  refine wl_load rfl rfl rfl rfl (fun W hp=>RowAt.load 0 tH rfl ((fun W1 hp=>hr.hp hp) W hp) rfl) ?_
  refine wP rfl (wl_nil (zE (zA (zB (wP rfl (wP rfl (wP rfl ?_)))))))
  have hor:(v≠0→or3 a b c=v)∧(v=0→(i=0→a=0)∧(i=1→b=0)∧(i=2→c=0)):=by
   have:i=0∨i=1∨i=2:=by omega
   rcases this with rfl|rfl|rfl
   ·simp at hv;subst hv;exact⟨fun h=>by unfold or3;rw[if_pos h],fun h=>⟨fun _=>h,fun e=>by omega,fun e=>by omega⟩⟩
   ·simp at hv;subst hv;exact⟨fun h=>by unfold or3;rw[if_neg (fun hc=>hc (h0 (by omega))),if_pos h],fun h=>⟨fun e=>by omega,fun _=>h,fun e=>by omega⟩⟩
   ·simp at hv;subst hv;exact⟨fun h=>by unfold or3;rw[if_neg (fun hc=>hc (h0 (by omega))),if_neg (fun hc=>hc (h1 (by omega)))],fun h=>⟨fun e=>by omega,fun e=>by omega,fun _=>h⟩⟩
  by_cases hz:v=0
  ·refine wl_upd 14 (.bool false) rfl (congrArg Value.bool (by rw[hz];rfl)) ?_
   refine wl_nil (zE (zS rfl (zI (zN (zE (zB (wP rfl ?_)))))))
   refine wl_upd 16 (.int .i64 ((i+1:Nat):Int)) rfl (congrArg (Value.int .i64) (w64_succ (by omega))) ?_
   refine wP rfl (wl_nil ?_)
   obtain⟨k0,k1,k2⟩:=hor.2 hz
   exact ne_loop (i+1) ⟨by show i+1≤3;omega,fun h=>by by_cases e:i=0;exact k0 e;exact h0 (by omega),fun h=>by have h:1<i+1:=h;by_cases e:i=1;exact k1 e;exact h1 (by omega),fun h=>by have h:2<i+1:=h;by_cases e:i=2;exact k2 e;exact h2 (by omega)⟩ (by show 3-(i+1)<3-i;omega) ⟨rfl,rfl,rfl,rfl,trivial⟩ [] rfl
  ·refine wl_upd 14 (.bool true) rfl (congrArg Value.bool (beq0 hz)) ?_
   refine wl_nil (zE (zR rfl (zA (zB (wP rfl (wP rfl (wl_nil (zE (zO (zQ (zP (zP (zQ ?_)))))))))))))
   refine zP ?_
   exact ne_ret1 tH rfl (.tmp rfl) () (by rw[hor.1 hz]) trivial fun W _=>NewBx.nil _ _
 ·refine wl_upd 9 (.bool false) rfl (congrArg Value.bool (decide_eq_false (by omega))) ?_
  refine wl_nil (zE (zA (zS rfl (zJ (zK (zK (zL (zE (zA (zB (wP rfl (wP rfl (wl_nil ?_)))))))))))))
  refine zE (zO ?_)
  exact ne_ret1 tH rfl (.tmp rfl) () (by unfold or3;rw[if_neg (fun hc=>hc (h0 (by omega))),if_neg (fun hc=>hc (h1 (by omega))),h2 (by omega)]) trivial fun W _=>NewBx.nil _ _
abbrev velV (b:Nat):Value:= .func (.func 76) #[] #[selfP b]
structure OrdN (F:List FrP) (z:Rat) (b4 b9 b10 b12 gF cF gP cP:Nat) (W:World):Prop where
 zz:RowAt W b4 0 [str (numS z)]
 f:RowAt W b9 0 [.slice (some ⟨gF,0,none⟩) F.length cF]
 p:RowAt W b10 0 [.slice (some ⟨gP,0,none⟩) F.length cP]
 v:RowAt W b12 0 [velV b4]
 rf: ∀m,m<F.length→RowAt W gF (0+m*5) (frV (fr F m)).cells.toList
 rp: ∀m,m<F.length→RowAt W gP (0+m*1) [str (numS ((fr F m).at z))]
 mv:MaxP W
 mt:TabP W
theorem at_sz {f:FrP} (h:f.Pl) {z:Rat} (hz:szQ z 20):szQ (f.at z) 60:=by
 unfold FrP.at
 have h1:=h.ok.posz.mono (show 5≤60 by decide)
 split
 ·exact h1
 ·exact(h.ok.posz.add (h.vz.mul (hz.sub h.szt))).mono (by decide)
set_option maxHeartbeats 16000000 in
theorem ordC_gives (F:List FrP) (hF: ∀f∈F,f.Pl) (hn:F.length≤24) (z:Rat) (hz:szQ z 20) (b4 b9 b10 b12 gF cF gP cP:Nat) (i k:Nat) (hi:i<F.length) (hk:k<F.length) (W:World) (hN:OrdN F z b4 b9 b10 b12 gF cF gP cP W):
  CallsR Tryz.prog 80 #[.int .i64 (i:Nat), .int .i64 (k:Nat),selfP b10,selfP b12,selfP b9] W (fun _:Unit=> .int .i64 (cmpI F z i k)) (fun _=>True) (fun _=>[]):=by
 have pi:=hF _ (fr_mem hi)
 have pk:=hF _ (fr_mem hk)
 refine calls_enter (args:=[.int .i64 (i:Nat), .int .i64 (k:Nat),selfP b10,selfP b12,selfP b9]) Tryz.func80 rfl rfl rfl ?_
 refine zA (zB (wP rfl (wl_nil (zE (zA ?_)))))
 refine zT Tryz.mixed (by kernel_rfl) ?_
 refine wq_load rfl rfl rfl rfl (fun W hp=>RowAt.load 0 tH rfl ((fun W1 hp=>hN.p.hp hp) W hp) rfl) ?_
 refine qP rfl ?_
 refine qI rfl rfl (by omega) (by omega) ?_
 refine wq_load rfl rfl rfl rfl (fun W hp=>RowAt.load 0 tH rfl ((fun W1 hp=>(hN.rp i hi).hp hp) W hp) rfl) ?_
 refine wq_load rfl rfl rfl rfl (fun W hp=>RowAt.load 0 tH rfl ((fun W1 hp=>hN.p.hp hp) W hp) rfl) ?_
 refine qP rfl ?_
 refine qI rfl rfl (by omega) (by omega) ?_
 refine wq_load rfl rfl rfl rfl (fun W hp=>RowAt.load 0 tH rfl ((fun W1 hp=>(hN.rp k hk).hp hp) W hp) rfl) ?_
 refine wq_call1 rfl rfl rfl rfl rfl rfl (by kernel_rfl) (fun W1 hp=>lorder_gives _ _ (sz2 (at_sz pi hz) (at_sz pk hz) (by decide)) W1 (hN.mv.hp hp) (hN.mt.hp hp)) ?_
 refine wq_load rfl rfl rfl rfl (fun W hp=>RowAt.load 0 tH rfl ((fun W1 hp=>hN.v.hp hp) W hp) rfl) ?_
 refine wq_load rfl rfl rfl rfl (fun W hp=>RowAt.load 0 tH rfl ((fun W1 hp=>hN.f.hp hp) W hp) rfl) ?_
 refine qP rfl ?_
 refine qI rfl rfl (by omega) (by omega) ?_
 refine wq_load rfl rfl rfl rfl (fun W hp=>RowAt.load 0 tH rfl ((fun W1 hp=>(hN.rf i hi).hp hp) W hp) rfl) ?_
 refine wq_call1 (capt:=[selfP b4]) rfl rfl rfl rfl rfl rfl (by kernel_rfl) (fun W1 hp=>ordV_gives (fr F i) pi z (hz.mono (by decide)) b4 W1 (hN.zz.hp hp) (hN.mv.hp hp) (hN.mt.hp hp)) ?_
 refine wq_load rfl rfl rfl rfl (fun W hp=>RowAt.load 0 tH rfl ((fun W1 hp=>hN.v.hp hp) W hp) rfl) ?_
 refine wq_load rfl rfl rfl rfl (fun W hp=>RowAt.load 0 tH rfl ((fun W1 hp=>hN.f.hp hp) W hp) rfl) ?_
 refine qP rfl ?_
 refine qI rfl rfl (by omega) (by omega) ?_
 refine wq_load rfl rfl rfl rfl (fun W hp=>RowAt.load 0 tH rfl ((fun W1 hp=>(hN.rf k hk).hp hp) W hp) rfl) ?_
 refine wq_call1 (capt:=[selfP b4]) rfl rfl rfl rfl rfl rfl (by kernel_rfl) (fun W1 hp=>ordV_gives (fr F k) pk z (hz.mono (by decide)) b4 W1 (hN.zz.hp hp) (hN.mv.hp hp) (hN.mt.hp hp)) ?_
 refine wq_call1 rfl rfl rfl rfl rfl rfl (by kernel_rfl) (fun W1 hp=>lorder_gives _ _ (sz2 (velA_sz pi z) (velA_sz pk z) (by decide)) W1 (hN.mv.hp hp) (hN.mt.hp hp)) ?_
 refine qP rfl (qP rfl (qP rfl ?_))
 refine wq_upd 32 (.int .i64 ((i:Int)-(k:Int))) rfl (congrArg (Value.int .i64) (w64_id (by omega) (by omega))) ?_
 refine wq_nil ?_
 refine wl_buildRowZ Tryz.hZ tH rfl rfl rfl rfl rfl rfl rfl rfl rfl rfl rfl fun bS=> ?_
 refine wl_call1 rfl rfl rfl rfl rfl rfl (by kernel_rfl) (fun W1 hp=>or_gives bS _ _ _ W1 (RowAt.of_bx hp 0 rfl rfl)) ?_
 refine wP rfl (wl_nil (zE (zO ?_)))
 exact ne_ret1 tH rfl (.tmp rfl) () rfl trivial fun W _=>NewBx.nil _ _
def uprT (F:List FrP) (ax:Bool) (k:Nat):List Nat:=(List.range k).filter fun i=>(fr F i).ax==ax
theorem uprT_all (F:List FrP) (ax:Bool):uprT F ax F.length=upr F ax:=rfl
theorem uprT_succ (F:List FrP) (ax:Bool) (k:Nat):uprT F ax (k+1)=if ((fr F k).ax==ax)=true then uprT F ax k++[k] else uprT F ax k:=by
 unfold uprT
 rw[List.range_succ,List.filter_append]
 show _++List.filter _ [k]=_
 rw[List.filter_cons,List.filter_nil]
 split
 ·rfl
 ·rw[List.append_nil]
theorem uprT_len (F:List FrP) (ax:Bool) (k:Nat):(uprT F ax k).length≤k:=by
 have:=List.length_filter_le (fun i=>(fr F i).ax==ax) (List.range k)
 rwa [List.length_range] at this
def ordW (F:List FrP) (z:Rat) (ax:Bool):List Nat:=sortW (cmpI F z) (upr F ax)
theorem sortI0_gives (cf:Nat) (capt:List Value) (W:World) (p:Option Addr) (cap:Nat):CallsR Tryz.prog 79 #[.slice p 0 cap,fnM cf capt] W (fun _:Unit=> .tuple #[]) (fun _=>True) (fun _=>[]):=by
 refine calls_enter (args:=[.slice p 0 cap,fnM cf capt]) Tryz.func79 rfl rfl rfl ?_
 refine zA (zB (wP rfl (wP rfl (wP rfl (wl_nil (zE (zB (wP rfl (wP rfl (wP rfl ?_))))))))))
 refine wl_cvA (k:= .u64) (kt:= .i64) (by kernel_rfl) (by kernel_rfl) rfl rfl rfl rfl ?_
 refine wl_upd 10 (.int .u64 ((0:Nat):Int)) rfl rfl ?_
 refine wl_call1 (capt:=[]) rfl rfl rfl rfl rfl rfl (by kernel_rfl) (fun W _=>bitLen_gives 0 (by omega) W) ?_
 refine wP rfl ?_
 refine wl_call1 (capt:=[]) rfl rfl rfl rfl rfl rfl (by kernel_rfl) (fun W _=>pdqI0_gives cf capt W p cap _) ?_
 refine wl_nil ?_
 exact ne_end0 (X:=Unit) (val:=fun _=> .tuple #[]) (Φ:=fun _=>True) (nb:=fun _=>[]) (fn:=Tryz.f79) tH rfl () rfl trivial fun W _=>NewBx.nil _ _
theorem OrdN.keep {F:List FrP} {z:Rat} {b4 b9 b10 b12 gF cF gP cP g:Nat} {W W':World} (h:OrdN F z b4 b9 b10 b12 gF cF gP cP W) (hk:Keep W W' g) (h4:b4≠g) (h9:b9≠g) (h10:b10≠g) (h12:b12≠g) (hF:gF≠g) (hP:gP≠g) (hm:MaxP W') (ht:TabP W'):OrdN F z b4 b9 b10 b12 gF cF gP cP W':=
 ⟨RowAt.keep h.zz hk h4,RowAt.keep h.f hk h9,RowAt.keep h.p hk h10,RowAt.keep h.v hk h12,fun m hm'=>RowAt.keep (h.rf m hm') hk hF,fun m hm'=>RowAt.keep (h.rp m hm') hk hP,hm,ht⟩
set_option maxHeartbeats 32000000 in
theorem lOrder_gives (W:World) (p:Option Addr) (cap:Nat) (rs:List (List Sd)) (h:PlanW W p rs) (h12:tot rs≤12) (z:Rat) (hz:szQ z 20) (ax:Bool):
  CallsR Tryz.prog 32 #[planV p rs.length cap,str (numS z), .bool ax] W (fun V:Vec=> .tuple #[V.val (ordW (allF rs) z ax).length, .int .i64 0]) (fun V=>V.OK 1 (ordW (allF rs) z ax).length (iC (ordW (allF rs) z ax))) (fun V=>[V.bx 3 (iC (ordW (allF rs) z ax))]):=by
 obtain⟨hne,hT24,hT0⟩:=chk_ne h.c
 obtain⟨hrg,_⟩:=chk_parts h.c
 have eF:=allF_len rs
 have eP:=posL_len (allF rs) z
 have hpl: ∀f∈allF rs,f.Pl:=fun f hf=>allF_pl hrg hf
 obtain⟨T,hTe⟩: ∃T,T=tot rs:=⟨_,rfl⟩
 rw[←hTe] at eF hT24 hT0 h12
 rw[eF] at eP
 refine calls_enter (args:=[planV p rs.length cap,str (numS z), .bool ax]) Tryz.func32 rfl rfl rfl ?_
 refine zA (zB ?_)
 (refine wl_box rfl rfl rfl rfl ?_;intro)
 (refine wl_box rfl rfl rfl rfl ?_;intro)
 refine wP rfl (wP rfl (wl_nil ?_))
 rename_i b3 b4
 refine zE (zA (zA (zB (wB 0 rfl rfl rfl (wB 1 rfl rfl rfl ?_)))))
 refine wl_call1 rfl rfl rfl rfl rfl rfl (by kernel_rfl) (fun W1 hp=>lcheck_gives W1 p cap rs (h.hp hp) z hz) ?_
 refine wP rfl (wl_nil (zE (zA (zB (wP rfl (wP rfl (wl_nil (zE (zS rfl (zI (zE (zA (zB ?_)))))))))))))
 refine wB 0 rfl rfl rfl (wB 1 rfl rfl rfl ?_)
 refine wl_call (X:=Vec×Vec) rfl rfl rfl rfl rfl rfl (by kernel_rfl) (fun W1 hp=>positions_gives W1 p cap rs (h.hp hp) z (hz.mono (by decide))) ?_
 rintro⟨F,P⟩ ⟨hF,hP⟩
 have hF:F.OK 5 (allF rs).length (frC (allF rs)):=hF
 have hP:P.OK 1 (posL (allF rs) z).length (nS (posL (allF rs) z)):=hP
 obtain⟨gF,cF,junkF,rfl⟩: ∃(gF cF:Nat) (junkF:List Value),F=⟨some gF,cF,junkF⟩:=by
  obtain⟨pF,cF,jF⟩:=F
  cases pF with
  |none=>have:=hF.nil rfl;omega
  |some g=>exact⟨g,cF,jF,rfl⟩
 obtain⟨gP,cP,junkP,rfl⟩: ∃(gP cP:Nat) (junkP:List Value),P=⟨some gP,cP,junkP⟩:=by
  obtain⟨pP,cP,jP⟩:=P
  cases pP with
  |none=>have:=hP.nil rfl;omega
  |some g=>exact⟨g,cP,jP,rfl⟩
 obtain⟨gF',cF',hFv,hFr⟩:=Vec.frs hF (by omega)
 have hFv:Value.slice (some ⟨gF,0,none⟩) (allF rs).length cF=Value.slice (some ⟨gF',0,none⟩) (allF rs).length cF':=hFv
 obtain⟨rfl,rfl⟩:gF=gF'∧cF=cF':=by injection hFv with a b c;injection a with a;injection a with a;exact⟨a,c⟩
 have hFr: ∀ {W0 W:World} {bxs:List Bx},Hp W0 bxs W→ ∀k,nth bxs k=some (⟨gF,39,frC (allF rs)++junkF,true,none⟩:Bx)→ ∀m,m<(allF rs).length→RowAt W gF (0+m*5) (frV (fr (allF rs) m)).cells.toList:=fun hp k hk m hm=>hFr hp k hk m _ (fr_get hm)
 have hPr: ∀ {W0 W:World} {bxs:List Bx},Hp W0 bxs W→ ∀k,nth bxs k=some (⟨gP,37,nS (posL (allF rs) z)++junkP,true,none⟩:Bx)→ ∀m,m<(allF rs).length→RowAt W gP (0+m*1) [str (numS ((fr (allF rs) m).at z))]:=fun hp k hk m hm=>by
  have hq:=row_pt hp k (A:=nS ((posL (allF rs) z).take m)) (B:=[str (numS ((fr (allF rs) m).at z))]) (C:=nS ((posL (allF rs) z).drop (m+1))++junkP) (off:=0+m*1) hk (by rw[nS_split (l:=posL (allF rs) z) (i:=m) (by rw[posL_len];exact hm),posL_at];simp only[List.append_assoc]) (by rw[nS_len,List.length_take,posL_len];omega)
  exact hq
 dsimp only[Vec.val,Vec.bx]
 rw[eF,eP]
 refine wP rfl (wP rfl (wP rfl (wP rfl ?_)))
 (refine wl_allocZ Tryz.hZ rfl rfl rfl rfl ?_;intro)
 (refine wl_allocZ Tryz.hZ rfl rfl rfl rfl ?_;intro)
 refine wS 4 rfl rfl rfl (wS 5 rfl rfl rfl (wP rfl (wl_nil ?_)))
 rename_i b9 b10
 refine zE (zA (zA (zB (wP rfl (wP rfl (wl_nil (zE (zS rfl (zI (zE (zA (zB (wP rfl ?_)))))))))))))
 refine wl_alloc (z:= .nilFunc) rfl rfl rfl (fun W=>by kernel_rfl) fun b12=> ?_
 refine wS 6 rfl rfl rfl (wl_nil (zE (zA (zB (wP rfl (wl_nil (zE (zA (zA (zB (wB 4 rfl rfl rfl (wP rfl (wP rfl ?_)))))))))))))
 refine wl_nil (zE (zH ?_))
 refine wc_newGone ?_
 refine wc_loop (X:=Nat×Vec) (fun s=>[(2, .bool ax),(9,selfP b9),(10,selfP b10),(12,selfP b12),(13,s.2.val (uprT (allF rs) ax s.1).length),(33, .slice (some ⟨gF,0,none⟩) T cF),(34, .int .i64 (T:Nat)),(35, .int .i64 (s.1:Nat))])
  (fun s=>[bxE b3 24 (slv p rs.length cap),bxE b4 37 (str (numS z)),⟨gF,39,frC (allF rs)++junkF,true,none⟩,⟨gP,37,nS (posL (allF rs) z)++junkP,true,none⟩,bxE b9 29 (.slice (some ⟨gF,0,none⟩) T cF),bxE b10 50 (.slice (some ⟨gP,0,none⟩) T cP),bxE b12 120 (velV b4),s.2.bx 3 (iC (uprT (allF rs) ax s.1))]) (fun s=>s.1≤T∧s.2.OK 1 (uprT (allF rs) ax s.1).length (iC (uprT (allF rs) ax s.1))) (fun s=>T-s.1) (0,Vec.empty) ⟨Nat.zero_le _,Vec.OK.empty 1⟩ ⟨rfl,rfl,rfl,rfl,rfl,rfl,rfl,rfl,trivial⟩ [] rfl ?_
 rintro⟨i,V⟩ ⟨hi,hV⟩
 have hi:i≤T:=hi
 have hV:V.OK 1 (uprT (allF rs) ax i).length (iC (uprT (allF rs) ax i)):=hV
 have hul:=uprT_len (allF rs) ax i
 by_cases hlt:i<T
 ·have hsu:=uprT_succ (allF rs) ax i
  have hul1:=uprT_len (allF rs) ax (i+1)
  refine zA (zB (wP rfl ?_))
  refine wl_upd 36 (.bool true) rfl (congrArg Value.bool (decide_eq_true (by omega))) ?_
  refine wl_nil (zE (zA (zR rfl (zI (zE (zA (zH (zA (zB (wP rfl ?_))))))))))
  refine wI rfl rfl (by omega) (by omega) ?_
  refine wl_load rfl rfl rfl rfl (fun W hp=>RowAt.load 0 tH rfl ((fun W1 hp=>hFr hp 2 rfl i (by omega)) W hp) rfl) ?_
  (refine wl_allocZ Tryz.hZ rfl rfl rfl rfl ?_;intro)
  refine wP rfl (wS 8 rfl rfl rfl (wl_nil ?_))
  rename_i b15
  refine zE (zA (zB (wP rfl ?_)))
  refine wl_loadBx 8 (v:= .bool (fr (allF rs) i).ax) tH rfl rfl rfl rfl rfl rfl rfl rfl ?_
  refine wP rfl ?_
  refine wl_eqB Tryz.underlying4 rfl rfl rfl rfl rfl rfl ?_
  refine wl_nil (zE ?_)
  refine wc_cond rfl (fun hc=> ?_) (fun hc=> ?_)
  ·have hc:((fr (allF rs) i).ax==ax)=true:=hc
   rw[if_pos hc] at hsu
   refine zB (wP rfl (wP rfl ?_))
   refine wl_buildRowZ Tryz.hZ tH rfl rfl rfl rfl rfl rfl rfl rfl rfl rfl rfl fun bS=> ?_
   refine wl_appendTo (V:=V) (len:=(uprT (allF rs) ax i).length) (xs:=iC (uprT (allF rs) ax i)) 7 9 Tryz.vec58 (uprT (allF rs) ax (i+1)).length (iC (uprT (allF rs) ax (i+1))) rfl rfl rfl rfl rfl rfl rfl rfl rfl rfl rfl hV rfl rfl (by rw[hsu,List.length_append];rfl) (by rw[hsu];show _=(uprT (allF rs) ax i++[i]).map _;rw[List.map_append];rfl) (by simp only[maxLen];omega) (by omega) rfl ?_
   intro gV cV jV hV1
   refine wP rfl (wl_nil (zN (zE (zB (wP rfl ?_)))))
   refine wl_upd 48 (.int .i64 ((i+1:Nat):Int)) rfl (congrArg (Value.int .i64) (w64_succ (by omega))) ?_
   refine wP rfl (wl_nil ?_)
   exact ne_loop (i+1,⟨some gV,cV,jV⟩) ⟨hlt,hV1⟩ (by show T-(i+1)<T-i;omega) ⟨rfl,rfl,rfl,rfl,rfl,rfl,rfl,rfl,trivial⟩ _ rfl
  ·have hc:((fr (allF rs) i).ax==ax)=false:=hc
   rw[if_neg (by rw[hc];decide)] at hsu
   refine zI (zN (zE (zB (wP rfl ?_))))
   refine wl_upd 48 (.int .i64 ((i+1:Nat):Int)) rfl (congrArg (Value.int .i64) (w64_succ (by omega))) ?_
   refine wP rfl (wl_nil ?_)
   exact ne_loop (i+1,V) ⟨hlt,by show V.OK 1 (uprT (allF rs) ax (i+1)).length (iC (uprT (allF rs) ax (i+1)));rw[hsu];exact hV⟩ (by show T-(i+1)<T-i;omega) ⟨rfl,rfl,rfl,rfl,by show some (V.val _)=some (V.val (uprT (allF rs) ax (i+1)).length);rw[hsu],rfl,rfl,rfl,trivial⟩ [⟨b15,39,(frV (fr (allF rs) i)).cells.toList,true,none⟩] (by show _=[_,_,_,_,_,_,_,V.bx 3 (iC (uprT (allF rs) ax (i+1))),_];rw[hsu];rfl)
 have e:i=T:=by omega
 subst e
 obtain⟨U,hU⟩: ∃U,U=upr (allF rs) ax:=⟨_,rfl⟩
 have hUe:uprT (allF rs) ax i=U:=by rw[←eF,hU];exact uprT_all _ _
 have hoe:ordW (allF rs) z ax=sortW (cmpI (allF rs) z) U:=by rw[hU];rfl
 rw[hUe] at hV hul
 have hUm: ∀x∈U,x<(allF rs).length:=fun x hx=>(mem_upr.1 (hU▸hx)).1
 have hsl:=sortW_len (cmpI (allF rs) z) U
 refine wc_bx (bxs':=[bxE b3 24 (slv p rs.length cap),bxE b4 37 (str (numS z)),⟨gF,39,frC (allF rs)++junkF,true,none⟩,⟨gP,37,nS (posL (allF rs) z)++junkP,true,none⟩,bxE b9 29 (.slice (some ⟨gF,0,none⟩) i cF),bxE b10 50 (.slice (some ⟨gP,0,none⟩) i cP),bxE b12 120 (velV b4),V.bx 3 (iC U)]) (by rw[hUe]) ?_
 refine zA (zB (wP rfl ?_))
 refine wl_upd 36 (.bool false) rfl (congrArg Value.bool (decide_eq_false (by omega))) ?_
 refine wl_nil (zE (zA (zS rfl (zJ (zK (zK (zL (zE (zA (zB (wP rfl ?_)))))))))))
 refine wl_upd 49 (V.val U.length) rfl (by show V.val (uprT (allF rs) ax i).length=_;rw[hUe]) ?_
 refine wP rfl ?_
 obtain⟨pV,cV,jk⟩:=V
 cases pV with
 |none=>
  have h0:=hV.nil rfl
  have h00:U=[]:=List.length_eq_zero_iff.1 h0
  have ho0:ordW (allF rs) z ax=[]:=by rw[hoe,h00];rfl
  refine wl_call1 (capt:=[]) rfl rfl rfl rfl rfl rfl (by kernel_rfl) (fun W1 _=>sortI0_gives _ _ W1 none 0) ?_
  refine wl_nil (zE (zA (zB (wP rfl (wP rfl (wP rfl (wl_nil (zE (zO ?_)))))))))
  exact ne_ret2 tH rfl (.tmp rfl) (.tmp rfl) Vec.empty rfl (by show Vec.empty.OK 1 (ordW (allF rs) z ax).length _;rw[ho0];exact Vec.OK.empty 1) fun W1 hp=>by
   show NewBx W W1 [Vec.empty.bx 3 (iC (ordW (allF rs) z ax))]
   rw[ho0]
   exact NewBx.of_hp (hp.pick (l:=[Vec.empty.bx 3 (iC [])]) [7] (by decide) rfl)
 |some gV=>
  refine wl_callN (X:=Unit) (val:=fun _=> .tuple #[]) (Φ:=fun _=>True) (capt:=[]) 7 (B:=rowI gV U jk) (L1:=[]) (L2:=[]) (b:=gV) (ob:= .cells (iC U++jk).toArray 3 (0,0)) (fun _=>rowI gV (sortW (cmpI (allF rs) z) U) jk) (g':=fun _=>gV) (o':=fun _=> .cells (iC (sortW (cmpI (allF rs) z) U)++jk).toArray 3 (0,0))
   rfl rfl rfl rfl rfl rfl (by kernel_rfl) rfl rfl (fun _ _=>rfl) (fun W1 hp=> ?_) (fun _ _=> ?_)
  ·have hcell:=hp.own.cell 7 _ rfl (gV, .cells (iC U++jk).toArray 3 (0,0)) (List.mem_cons_self ..)
   have apart: ∀k B,([bxE b3 24 (slv p rs.length cap),bxE b4 37 (str (numS z)),⟨gF,39,frC (allF rs)++junkF,true,none⟩,⟨gP,37,nS (posL (allF rs) z)++junkP,true,none⟩,bxE b9 29 (.slice (some ⟨gF,0,none⟩) i cF),bxE b10 50 (.slice (some ⟨gP,0,none⟩) i cP),bxE b12 120 (velV b4),rowI gV U jk]:List Bx)[k]? =some B→k≠7→ ∀q∈B.blk,q.1≠gV:=fun k B hk hne q hq=>hp.own.apart k 7 B (rowI gV U jk) hk rfl hne q hq (gV, .cells (iC U++jk).toArray 3 (0,0)) (List.mem_cons_self ..)
   have hN:OrdN (allF rs) z b4 b9 b10 b12 gF cF gP cP W1:=⟨RowAt.of_bx hp 1 rfl rfl,by rw[eF];exact RowAt.of_bx hp 4 rfl rfl,by rw[eF];exact RowAt.of_bx hp 5 rfl rfl,RowAt.of_bx hp 6 rfl rfl,fun m hm=>hFr hp 2 rfl m hm,fun m hm=>hPr hp 3 rfl m hm,h.v.hp hp,h.t.hp hp⟩
   refine sortI_gives 80 [selfP b10,selfP b12,selfP b9] (by kernel_rfl) (cmpI (allF rs) z) W1 gV cV U jk (by omega) hcell.1 fun W' hK x hx y hy=> ?_
   have hbel:=hK.below hp.below hcell.2
   exact ordC_gives (allF rs) hpl (by omega) z hz b4 b9 b10 b12 gF cF gP cP x y (hUm x hx) (hUm y hy) W' (hN.keep hK (apart 1 _ rfl (by decide) _ (List.mem_cons_self ..)) (apart 4 _ rfl (by decide) _ (List.mem_cons_self ..)) (apart 5 _ rfl (by decide) _ (List.mem_cons_self ..)) (apart 6 _ rfl (by decide) _ (List.mem_cons_self ..)) (apart 2 _ rfl (by decide) _ (List.mem_cons_self ..)) (apart 3 _ rfl (by decide) _ (List.mem_cons_self ..)) (h.v.below hbel) (h.t.below hbel))
  refine wl_nil (zE (zA (zB (wP rfl (wP rfl (wP rfl (wl_nil (zE (zO ?_)))))))))
  have hOK:(⟨some gV,cV,jk⟩:Vec).OK 1 (ordW (allF rs) z ax).length (iC (ordW (allF rs) z ax)):=by
   rw[hoe,hsl]
   refine⟨by rw[List.length_map,hsl,Nat.mul_one],fun hc=>(by cases hc),fun hc=> ?_⟩
   obtain⟨k1,k2,k3⟩:=hV.cap hc
   refine⟨k1,k2, ?_⟩
   rw[List.length_map] at k3⊢
   rw[hsl]
   exact k3
  exact ne_ret2 tH rfl (.tmp rfl) (.tmp rfl) ⟨some gV,cV,jk⟩ (by show Value.tuple #[.slice (some ⟨gV,0,none⟩) (uprT (allF rs) ax i).length cV, .int .i64 0]= .tuple #[.slice (some ⟨gV,0,none⟩) (ordW (allF rs) z ax).length cV, .int .i64 0];rw[hUe,hoe,hsl]) hOK fun W1 hp=>by
   show NewBx W W1 [rowI gV (ordW (allF rs) z ax) jk]
   rw[hoe]
   exact NewBx.of_hp (hp.pick (l:=[rowI gV (sortW (cmpI (allF rs) z) U) jk]) [7] (by decide) rfl)
-- BOXES 10
-- CODE2
section
variable {r:Option Nat} {n:Nat} {P:Program} {W0:World} {N:Nat} {D:List Deferred} {ops:List Oper} {Q:Exit→Act→World→Prop} {l:List Oper} {env:Env} {bxs:List Bx}
theorem wl_newGrp (h:WL r n P N D ops Q l env (Hp W0 (bxs++[grpB []]))):WL r n P N D ops Q l env (Hp W0 bxs):= .mk fun a W ha hd hp=>h.out a W ha hd hp.newGrp
end
def alwB (f g:FrP):Bool:=decide (f.pos=g.pos)&&(decide (f.sp=g.sp)&&(decide (f.sp=0)||(decide (f.st=g.st)&&decide (f.hd=g.hd))))
theorem alwB_iff {f g:FrP}:alwB f g=true↔alw f g:=by simp[alwB,alw]
set_option maxHeartbeats 8000000 in
theorem always_gives (f g:FrP) (W:World):CallsR Tryz.prog 84 #[frV f,frV g] W (fun _:Unit=> .bool (alwB f g)) (fun _=>True) (fun _=>[]):=by
 refine calls_enter (args:=[frV f,frV g]) Tryz.func84 rfl rfl rfl ?_
 refine zA (zB ?_)
 (refine wl_box rfl rfl rfl rfl ?_;intro)
 (refine wl_box rfl rfl rfl rfl ?_;intro)
 refine wP rfl (wl_nil (zE (zA (zB (wP rfl (wB 0 rfl rfl rfl (wP rfl (wB 1 rfl rfl rfl (wP rfl ?_)))))))))
 by_cases c1:f.pos=g.pos
 rotate_left
 ·have e:alwB f g=false:=by unfold alwB;rw[decide_eq_false c1];rfl
  refine wl_upd 9 (.bool false) rfl (congrArg Value.bool (beq_eq_false_iff_ne.2 c1)) ?_
  refine wP rfl ?_
  iterate 5 refine wl_skip rfl rfl ?_
  refine wP rfl (wP rfl ?_)
  iterate 17 refine wl_skip rfl rfl ?_
  refine wP rfl (wP rfl (wl_nil (zE (zO ?_))))
  exact ne_ret1 tH rfl (.tmp rfl) () (by rw[e]) trivial fun W _=>NewBx.nil _ _
 refine wl_upd 9 (.bool true) rfl (congrArg Value.bool (beq_iff_eq.2 c1)) ?_
 refine wP rfl (wP rfl (wB 0 rfl rfl rfl (wP rfl (wB 1 rfl rfl rfl (wP rfl ?_)))))
 by_cases c2:f.sp=g.sp
 rotate_left
 ·have e:alwB f g=false:=by unfold alwB;rw[decide_eq_false c2,Bool.false_and,Bool.and_false]
  refine wl_upd 15 (.bool false) rfl (congrArg Value.bool ((strEqB _ _).trans (decide_eq_false fun h=>c2 (numS_inj.1 h)))) ?_
  refine wP rfl (wP rfl ?_)
  iterate 17 refine wl_skip rfl rfl ?_
  refine wP rfl (wP rfl (wl_nil (zE (zO ?_))))
  exact ne_ret1 tH rfl (.tmp rfl) () (by rw[e]) trivial fun W _=>NewBx.nil _ _
 refine wl_upd 15 (.bool true) rfl (congrArg Value.bool ((strEqB _ _).trans (decide_eq_true (by rw[c2])))) ?_
 refine wP rfl (wP rfl (wP rfl (wB 0 rfl rfl rfl (wP rfl ?_))))
 by_cases c3:f.sp=0
 ·have e:alwB f g=true:=alwB_iff.2 ⟨c1,c2, .inl c3⟩
  refine wl_upd 20 (.bool true) rfl (congrArg Value.bool ((strEqB _ _).trans ((numS_eq0 _).trans (decide_eq_true c3)))) ?_
  refine wP rfl ?_
  iterate 12 refine wl_skip rfl rfl ?_
  refine wP rfl (wP rfl (wP rfl (wl_nil (zE (zO ?_)))))
  exact ne_ret1 tH rfl (.tmp rfl) () (by rw[e]) trivial fun W _=>NewBx.nil _ _
 refine wl_upd 20 (.bool false) rfl (congrArg Value.bool ((strEqB _ _).trans ((numS_eq0 _).trans (decide_eq_false c3)))) ?_
 refine wP rfl (wP rfl (wB 0 rfl rfl rfl (wP rfl (wB 1 rfl rfl rfl (wP rfl ?_)))))
 by_cases c4:f.st=g.st
 rotate_left
 ·have e:alwB f g=false:=by unfold alwB;rw[decide_eq_false c3,decide_eq_false c4];simp
  refine wl_upd 26 (.bool false) rfl (congrArg Value.bool ((strEqB _ _).trans (decide_eq_false fun h=>c4 (numS_inj.1 h)))) ?_
  refine wP rfl ?_
  iterate 5 refine wl_skip rfl rfl ?_
  refine wP rfl (wP rfl (wP rfl (wP rfl (wl_nil (zE (zO ?_))))))
  exact ne_ret1 tH rfl (.tmp rfl) () (by rw[e]) trivial fun W _=>NewBx.nil _ _
 refine wl_upd 26 (.bool true) rfl (congrArg Value.bool ((strEqB _ _).trans (decide_eq_true (by rw[c4])))) ?_
 refine wP rfl (wP rfl (wB 0 rfl rfl rfl (wP rfl (wB 1 rfl rfl rfl (wP rfl ?_)))))
 by_cases c5:f.hd=g.hd
 ·have e:alwB f g=true:=alwB_iff.2 ⟨c1,c2, .inr ⟨c4,c5⟩⟩
  refine wl_upd 32 (.bool true) rfl (congrArg Value.bool (beq_iff_eq.2 c5)) ?_
  refine wP rfl (wP rfl (wP rfl (wP rfl (wl_nil (zE (zO ?_))))))
  exact ne_ret1 tH rfl (.tmp rfl) () (by rw[e]) trivial fun W _=>NewBx.nil _ _
 ·have e:alwB f g=false:=by unfold alwB;rw[decide_eq_false c3,decide_eq_false c5];simp
  refine wl_upd 32 (.bool false) rfl (congrArg Value.bool (beq_eq_false_iff_ne.2 c5)) ?_
  refine wP rfl (wP rfl (wP rfl (wP rfl (wl_nil (zE (zO ?_))))))
  exact ne_ret1 tH rfl (.tmp rfl) () (by rw[e]) trivial fun W _=>NewBx.nil _ _
abbrev PrMk:Type:=List (Nat×(Nat×Nat))
abbrev prC (q:Nat×Nat):List Value:=[.int .i64 (q.1:Nat), .int .i64 (q.2:Nat)]
def prRow (mk:PrMk):List Value:=mk.map fun p=> .slice (some ⟨p.1,0,none⟩) 2 2
def prL (mk:PrMk):List (Nat×Obj):=mk.reverse.map fun p=>(p.1, .cells (prC p.2).toArray 3 (0,0))
def prB (mk:PrMk):Bx:=grpB (prL mk)
theorem prRow_len (mk:PrMk):(prRow mk).length=mk.length:=List.length_map _
theorem prRow_snoc (mk:PrMk) (b:Nat) (q:Nat×Nat):prRow (mk++[(b,q)])=prRow mk++[.slice (some ⟨b,0,none⟩) 2 2]:=by unfold prRow;rw[List.map_append];rfl
theorem prB_snoc (mk:PrMk) (b:Nat) (q:Nat×Nat):(prB (mk++[(b,q)])).blk=(⟨b,3,prC q,true,none⟩:Bx).blk++(prB mk).blk:=by
 show prL (mk++[(b,q)])=_++prL mk
 unfold prL
 rw[List.reverse_append];rfl
def PairsP (W:World) (p:Option Addr) (L:List (Nat×Nat)):Prop:=L=[]∨ ∃g off,p=some ⟨g,off,none⟩∧ ∀i (hi:i<L.length), ∃b,RowAt W g (off+i*1) [.slice (some ⟨b,0,none⟩) 2 2]∧RowAt W b 0 (prC L[i])
theorem PairsP.at_ {W:World} {p:Option Addr} {L:List (Nat×Nat)} (h:PairsP W p L) {i:Nat} (hi:i<L.length): ∃g off,p=some ⟨g,off,none⟩∧ ∀i (hi:i<L.length), ∃b,RowAt W g (off+i*1) [.slice (some ⟨b,0,none⟩) 2 2]∧RowAt W b 0 (prC L[i]):=by
 rcases h with rfl|h
 ·exact absurd hi (Nat.not_lt_zero _)
 ·exact h
theorem PairsP.hp {W0 W:World} {bxs:List Bx} {p:Option Addr} {L:List (Nat×Nat)} (h:PairsP W0 p L) (hp:Hp W0 bxs W):PairsP W p L:=by
 rcases h with h|⟨g,off,e,h⟩
 ·exact .inl h
 ·refine .inr ⟨g,off,e,fun i hi=> ?_⟩
  obtain⟨b,h1,h2⟩:=h i hi
  exact⟨b,h1.hp hp,h2.hp hp⟩
theorem pairs_mem {V:Vec} {mk:PrMk} {L:List (Nat×Nat)} (hL:mk.map (·.2)=L) (hV:V.OK 1 mk.length (prRow mk)): ∃p cap,V.val mk.length= .slice p L.length cap∧
  ∀ {W0 W:World} {bxs:List Bx},Hp W0 bxs W→ ∀k i,nth bxs k=some (V.bx 58 (prRow mk))→nth bxs i=some (prB mk)→PairsP W p L:=by
 have hl:L.length=mk.length:=by rw[←hL,List.length_map]
 obtain⟨p,cap,junk⟩:=V
 cases p with
 |none=>
  have h0:=hV.nil rfl
  refine⟨none,0,by rw[hl,h0];rfl,fun _ _ _ _ _=> .inl (List.length_eq_zero_iff.1 (by omega))⟩
 |some g=>
  refine⟨some ⟨g,0,none⟩,cap,by rw[hl];rfl,fun {W0 W bxs} hp k i hk hi=> .inr ⟨g,0,rfl,fun j hj=> ?_⟩⟩
  have hjm:j<mk.length:=by omega
  have e2:L[j]=mk[j].2:=by simp only[←hL,List.getElem_map]
  refine⟨mk[j].1,row_pt hp k (A:=prRow (mk.take j)) (C:=prRow (mk.drop (j+1))++junk) hk ?_ (by rw[prRow_len,List.length_take];omega), ?_⟩
  ·conv=>lhs;rw[←List.take_append_drop j mk,List.drop_eq_getElem_cons hjm]
   unfold prRow
   rw[List.map_append,List.map_cons,List.append_assoc];rfl
  ·rw[e2]
   refine rowGrp (ty:=3) hp i hi (l:=prL mk) ?_
   exact List.mem_map.2 ⟨mk[j],List.mem_reverse.2 (List.getElem_mem hjm),rfl⟩
def prOk (F:List FrP) (z:Rat) (q:Nat×Nat):Bool:=decide ((fr F q.1).at z=(fr F q.2).at z)&& !alwB (fr F q.1) (fr F q.2)
def prW (F:List FrP) (z:Rat):List (Nat×Nat):=(prs F).filter (prOk F z)
def prWT (F:List FrP) (z:Rat) (j:Nat):List (Nat×Nat):=((prs F).take j).filter (prOk F z)
theorem prWT_all (F:List FrP) (z:Rat):prWT F z (prs F).length=prW F z:=by unfold prWT prW;rw[List.take_length]
theorem prWT_succ {F:List FrP} {z:Rat} {j:Nat} (hj:j<(prs F).length):prWT F z (j+1)=if prOk F z ((prs F).getD j (0,0))=true then prWT F z j++[(prs F).getD j (0,0)] else prWT F z j:=by
 unfold prWT
 rw[List.getD_eq_getElem?_getD,List.take_add_one,List.getElem?_eq_getElem hj,List.filter_append]
 show _++List.filter _ [_]=_
 rw[List.filter_cons,List.filter_nil]
 show _++_=if prOk F z (prs F)[j]=true then _++[(prs F)[j]] else _
 split
 ·rfl
 ·rw[List.append_nil]
theorem prWT_len (F:List FrP) (z:Rat) (j:Nat):(prWT F z j).length≤F.length*F.length:=by
 have h1:=List.length_filter_le (prOk F z) ((prs F).take j)
 have h2:=prs_len F
 rw[List.length_take] at h1
 unfold prWT
 omega
set_option maxHeartbeats 32000000 in
theorem lPairs_gives (W:World) (p:Option Addr) (cap:Nat) (rs:List (List Sd)) (h:PlanW W p rs) (z:Rat) (hz:szQ z 20):
  CallsR Tryz.prog 33 #[planV p rs.length cap,str (numS z)] W (fun x:Vec×PrMk=> .tuple #[x.1.val x.2.length, .int .i64 0]) (fun x=>x.2.map (·.2)=prW (allF rs) z∧x.1.OK 1 x.2.length (prRow x.2))
   (fun x=>[x.1.bx 58 (prRow x.2),prB x.2]):=by
 obtain⟨hne,hT24,hT0⟩:=chk_ne h.c
 obtain⟨hrg,_⟩:=chk_parts h.c
 have eF:=allF_len rs
 have eP:=posL_len (allF rs) z
 obtain⟨T,hTe⟩: ∃T,T=tot rs:=⟨_,rfl⟩
 rw[←hTe] at eF hT24 hT0
 rw[eF] at eP
 have hwl: ∀j,(prWT (allF rs) z j).length≤576:=fun j=>by
  have h1:=prWT_len (allF rs) z j
  rw[eF] at h1
  have:=Nat.mul_le_mul hT24 hT24
  omega
 refine calls_enter (args:=[planV p rs.length cap,str (numS z)]) Tryz.func33 rfl rfl rfl ?_
 refine zA (zB ?_)
 (refine wl_box rfl rfl rfl rfl ?_;intro)
 refine wP rfl (wP rfl (wl_nil ?_))
 rename_i b2
 refine zE (zA (zA (zB (wB 0 rfl rfl rfl (wP rfl ?_)))))
 refine wl_call1 rfl rfl rfl rfl rfl rfl (by kernel_rfl) (fun W1 hp=>lcheck_gives W1 p cap rs (h.hp hp) z hz) ?_
 refine wP rfl (wl_nil (zE (zA (zB (wP rfl (wP rfl (wl_nil (zE (zS rfl (zI (zE (zA (zB ?_)))))))))))))
 refine wB 0 rfl rfl rfl (wP rfl ?_)
 refine wl_call (X:=Vec×Vec) rfl rfl rfl rfl rfl rfl (by kernel_rfl) (fun W1 hp=>positions_gives W1 p cap rs (h.hp hp) z (hz.mono (by decide))) ?_
 rintro⟨F,P⟩ ⟨hF,hP⟩
 have hF:F.OK 5 (allF rs).length (frC (allF rs)):=hF
 have hP:P.OK 1 (posL (allF rs) z).length (nS (posL (allF rs) z)):=hP
 obtain⟨gF,cF,hFv,hFr⟩:=Vec.frs hF (by omega)
 have hFr: ∀ {W0 W:World} {bxs:List Bx},Hp W0 bxs W→ ∀k,nth bxs k=some (F.bx 39 (frC (allF rs)))→ ∀m,m<T→RowAt W gF (0+m*5) (frV (fr (allF rs) m)).cells.toList:=fun hp k hk m hm=>hFr hp k hk m _ (fr_get (by omega))
 obtain⟨pP,cP,hPv,hPr⟩:=Vec.num hP
 obtain⟨gP,hpe,hPq⟩:=hPr (by omega)
 subst hpe
 have hPr: ∀ {W0 W:World} {bxs:List Bx},Hp W0 bxs W→ ∀k,nth bxs k=some (P.bx 37 (nS (posL (allF rs) z)))→ ∀m,m<T→RowAt W gP (0+m*1) [str (numS ((fr (allF rs) m).at z))]:=fun hp k hk m hm=>posL_at (F:=allF rs) (z:=z) (i:=m) (by omega)▸hPq hp k hk m (by omega)
 dsimp only
 rw[hFv,hPv,eF,eP]
 refine wP rfl (wP rfl (wP rfl (wP rfl ?_)))
 (refine wl_allocZ Tryz.hZ rfl rfl rfl rfl ?_;intro)
 (refine wl_allocZ Tryz.hZ rfl rfl rfl rfl ?_;intro)
 refine wS 3 rfl rfl rfl (wS 4 rfl rfl rfl (wP rfl (wl_nil ?_)))
 rename_i b7 b8
 refine zE (zA (zA (zB (wP rfl (wP rfl (wl_nil (zE (zS rfl (zI (zE (zA (zB ?_))))))))))))
 (refine wl_allocZ Tryz.hZ rfl rfl rfl rfl ?_;intro)
 refine wl_nil ?_
 rename_i b10
 refine zE (zA (zA (zB ?_)))
 refine wl_newGone ?_
 refine wl_newGrp ?_
 refine wB 3 rfl rfl rfl ?_
 refine wl_call (X:=Nat) rfl rfl rfl rfl rfl rfl (by kernel_rfl) (fun W1 _=>pairs_gives W1 _) ?_
 intro bp _
 refine wl_nil (zE (zH ?_))
 refine wc_rangeO (X:=Nat×Vec×PrMk) (fun x=>[bxE b2 24 (slv p rs.length cap),F.bx 39 (frC (allF rs)),P.bx 37 (nS (posL (allF rs) z)),bxE b7 29 (.slice (some ⟨gF,0,none⟩) T cF),bxE b8 50 (.slice (some ⟨gP,0,none⟩) T cP),bxE b10 66 (x.2.1.val x.2.2.length),x.2.1.bx 58 (prRow x.2.2),prB x.2.2,bxE bp 29 (.slice (some ⟨gF,0,none⟩) T cF)])
  (fun j x=>x.1=j∧x.2.2.map (·.2)=prWT (allF rs) z x.1∧x.2.1.OK 1 x.2.2.length (prRow x.2.2)) (fun _ _=>False) (0,Vec.empty,[]) rfl (by kernel_rfl) (pairs_iter (allF rs) bp gF cF (by omega)) (fun _=>rfl)
  ⟨rfl,rfl,Vec.OK.empty 1⟩ [] rfl (fun k x W1 _ hp=>⟨by rw[eF];exact RowAt.of_bx hp 8 rfl rfl,fun m hm=>hFr hp 1 rfl m (by omega)⟩) ?_ ?_ (fun _ _ _ _ _ h=>h.elim)
 ·rintro j' ⟨j,V,mk⟩ d l rec L hj ⟨e1,hmk,hV⟩ hrec
  obtain rfl:j=j':=e1
  have hmk:mk.map (·.2)=prWT (allF rs) z j:=hmk
  have hV:V.OK 1 mk.length (prRow mk):=hV
  obtain⟨q,hq⟩: ∃q,q=(prs (allF rs)).getD j (0,0):=⟨_,rfl⟩
  have hqm:q∈prs (allF rs):=by rw[hq,List.getD_eq_getElem?_getD,List.getElem?_eq_getElem hj];exact List.getElem_mem hj
  obtain⟨q1,q2,q3⟩:=mem_prs.1 hqm
  have henc:encP (allF rs) j=[.int .i64 (q.1:Nat), .int .i64 (q.2:Nat)]:=by rw[hq]
  rw[henc]
  have hsu:=prWT_succ (z:=z) hj
  rw[←hq] at hsu
  have hml:mk.length≤576:=by
   have:=congrArg List.length hmk
   rw[List.length_map] at this
   have:=hwl j
   omega
  refine zA (zB (wP rfl (wl_nil (zE (zB (wP rfl (wl_nil ?_)))))))
  refine ne_begin 11 hrec rfl ?_
  refine wc_block (zA ?_)
  refine zT Tryz.mixed (by kernel_rfl) ?_
  refine qB 5 rfl rfl rfl (qP rfl ?_)
  refine qI rfl rfl (by omega) (by omega) ?_
  refine wq_load rfl rfl rfl rfl (fun W hp=>RowAt.load 0 tH rfl ((fun W1 hp=>hPr hp 3 rfl q.1 (by omega)) W hp) rfl) ?_
  refine qB 5 rfl rfl rfl (qP rfl ?_)
  refine qI rfl rfl (by omega) (by omega) ?_
  refine wq_load rfl rfl rfl rfl (fun W hp=>RowAt.load 0 tH rfl ((fun W1 hp=>hPr hp 3 rfl q.2 (by omega)) W hp) rfl) ?_
  refine qP rfl ?_
  by_cases c1:(fr (allF rs) q.1).at z=(fr (allF rs) q.2).at z
  rotate_left
  ·have e:prOk (allF rs) z q=false:=by unfold prOk;rw[decide_eq_false c1];rfl
   rw[e] at hsu
   have hsu:prWT (allF rs) z (j+1)=prWT (allF rs) z j:=hsu
   refine wq_upd 41 (.bool false) rfl (congrArg Value.bool ((strEqB _ _).trans (decide_eq_false fun h=>c1 (numS_inj.1 h)))) ?_
   refine qP rfl ?_
   iterate 10 refine wq_skip rfl rfl ?_
   refine qP rfl (wq_nil (wl_nil (zE (zS rfl (zI (zN ?_))))))
   exact ne_round 11 (j+1,V,mk) hrec rfl ⟨rfl,hmk.trans hsu.symm,hV⟩ [] rfl
  refine wq_upd 41 (.bool true) rfl (congrArg Value.bool ((strEqB _ _).trans (decide_eq_true (by rw[c1])))) ?_
  refine qP rfl (qB 4 rfl rfl rfl (qP rfl ?_))
  refine qI rfl rfl (by omega) (by omega) ?_
  refine wq_load rfl rfl rfl rfl (fun W hp=>RowAt.load 0 tH rfl ((fun W1 hp=>hFr hp 2 rfl q.1 (by omega)) W hp) rfl) ?_
  refine qB 4 rfl rfl rfl (qP rfl ?_)
  refine qI rfl rfl (by omega) (by omega) ?_
  refine wq_load rfl rfl rfl rfl (fun W hp=>RowAt.load 0 tH rfl ((fun W1 hp=>hFr hp 2 rfl q.2 (by omega)) W hp) rfl) ?_
  refine wq_call1 rfl rfl rfl rfl rfl rfl (by kernel_rfl) (fun W1 _=>always_gives (fr (allF rs) q.1) (fr (allF rs) q.2) W1) ?_
  have e:prOk (allF rs) z q= !alwB (fr (allF rs) q.1) (fr (allF rs) q.2):=by unfold prOk;rw[decide_eq_true c1];rfl
  refine qP rfl (qP rfl (wq_nil (wl_nil (zE ?_))))
  refine wc_cond rfl (fun hc=> ?_) (fun hc=> ?_)
  ·have hc:(!alwB (fr (allF rs) q.1) (fr (allF rs) q.2))=true:=hc
   rw[e,if_pos hc] at hsu
   refine zB (wB 6 rfl rfl rfl (wP rfl (wP rfl ?_)))
   refine wl_buildRowZ Tryz.hZ tH rfl rfl rfl rfl rfl rfl rfl rfl rfl rfl rfl fun bA=> ?_
   refine wl_buildRowZ Tryz.hZ tH rfl rfl rfl rfl rfl rfl rfl rfl rfl rfl rfl fun bB=> ?_
   refine wl_appendTo (V:=V) (len:=mk.length) (xs:=prRow mk) 7 13 Tryz.vec66 (mk.length+1) (prRow (mk++[(bA,q)])) rfl rfl rfl rfl rfl rfl rfl rfl rfl rfl rfl hV rfl rfl rfl (by rw[prRow_snoc];rfl) (by simp only[maxLen];omega) (by omega) rfl ?_
   intro gV cV jV hV1
   refine wS 6 rfl rfl rfl (wl_nil (zN ?_))
   refine ne_join 8 12 (prB (mk++[(bA,q)])) rfl rfl rfl (prB_snoc mk bA q) ?_
   have hl1:(mk++[(bA,q)]).length=mk.length+1:=by rw[List.length_append];rfl
   exact ne_round 11 (j+1,⟨some gV,cV,jV⟩,mk++[(bA,q)]) hrec rfl ⟨rfl,by show(mk++[(bA,q)]).map _=prWT (allF rs) z (j+1);rw[hsu,List.map_append,hmk];rfl,by show(⟨some gV,cV,jV⟩:Vec).OK 1 (mk++[(bA,q)]).length _;rw[hl1];exact hV1⟩ [gone,_] (by show _=[_,_,_,_,_,_,bxE b10 66 (.slice (some ⟨gV,0,none⟩) (mk++[(bA,q)]).length cV),_,_,_,_,_,_,_];rw[hl1];rfl)
  ·have hc:(!alwB (fr (allF rs) q.1) (fr (allF rs) q.2))=false:=hc
   rw[e,if_neg (by rw[hc];decide)] at hsu
   refine zI (zN ?_)
   exact ne_round 11 (j+1,V,mk) hrec rfl ⟨rfl,hmk.trans hsu.symm,hV⟩ [] rfl
 ·rintro⟨j,V,mk⟩ d l rec ⟨e1,hmk,hV⟩
  obtain rfl:j=(prs (allF rs)).length:=e1
  have hmk:mk.map (·.2)=prWT (allF rs) z (prs (allF rs)).length:=hmk
  rw[prWT_all] at hmk
  have hV:V.OK 1 mk.length (prRow mk):=hV
  refine zN (zE (zA (zB (wB 5 rfl rfl rfl (wP rfl (wP rfl (wl_nil (zE (zO ?_)))))))))
  refine ne_mark 9 rfl ?_
  exact ne_ret2 tH rfl (.tmp rfl) (.tmp rfl) (V,mk) rfl ⟨hmk,hV⟩ fun W1 hp=>NewBx.of_hp (hp.pick (l:=[V.bx 58 (prRow mk),prB mk]) [6,7] (by decide) rfl)
-- BOXES 6
-- CODE2
def IntsR (W:World) (p:Option Addr) (l:List Nat):Prop:=l=[]∨ ∃b off,p=some ⟨b,off,none⟩∧ ∀k (_:k<l.length),RowAt W b (off+k*1) [.int .i64 (l[k]:Nat)]
theorem IntsR.row {W:World} {p:Option Addr} {l:List Nat} (h:IntsR W p l) {i:Nat} (hi:i<l.length): ∃b off,p=some ⟨b,off,none⟩∧ ∀k (_:k<l.length),RowAt W b (off+k*1) [.int .i64 (l[k]:Nat)]:=by
 rcases h with rfl|h
 ·exact absurd hi (Nat.not_lt_zero _)
 ·exact h
theorem ints_row {W:World} {b:Nat} {l:List Nat} {junk:List Value} (h:RowAt W b 0 (iC l++junk)):IntsR W (some ⟨b,0,none⟩) l:= .inr ⟨b,0,rfl,fun k hk=>⟨h.lt,fun m u hu=>by
 have hm:m=0:=by have:=(List.getElem?_eq_some_iff.1 hu).1;simpa using this
 subst hm
 have:=h.get k u (by
  rw[List.getElem?_append_left (by rw[List.length_map];exact hk),List.getElem?_map,List.getElem?_eq_getElem hk]
  exact hu)
 rw[Nat.mul_one,Nat.add_zero];exact this⟩⟩
theorem ints_mem {V:Vec} {l:List Nat} (hV:V.OK 1 l.length (iC l)): ∃p cap,V.val l.length= .slice p l.length cap∧
  ∀ {W0 W:World} {bxs:List Bx},Hp W0 bxs W→ ∀k,nth bxs k=some (V.bx 3 (iC l))→IntsR W p l:=by
 obtain⟨p,cap,junk⟩:=V
 cases p with
 |none=>
  have h0:=hV.nil rfl
  exact⟨none,0,by rw[h0];rfl,fun _ _ _=> .inl (List.length_eq_zero_iff.1 h0)⟩
 |some g=>exact⟨some ⟨g,0,none⟩,cap,rfl,fun {W0 W bxs} hp k hk=>ints_row (RowAt.of_bx hp k hk rfl)⟩
set_option maxHeartbeats 8000000 in
theorem iEqual_gives (W:World) (p q:Option Addr) (cap cap2:Nat) (xs ys:List Nat) (hA:IntsR W p xs) (hB:IntsR W q ys) (hn:xs.length<4611686018427387904) (hm:ys.length<4611686018427387904):
  CallsR Tryz.prog 34 #[.slice p xs.length cap, .slice q ys.length cap2] W (fun _:Unit=> .bool (decide (xs=ys))) (fun _=>True) (fun _=>[]):=by
 refine calls_enter (args:=[.slice p xs.length cap, .slice q ys.length cap2]) Tryz.func34 rfl rfl rfl ?_
 refine zA (zB (wP rfl (wl_nil (zE (zA (zA (zB ?_)))))))
 iterate 5 refine wP rfl ?_
 by_cases hl:xs.length=ys.length
 ·refine wl_upd 10 (.bool false) rfl (congrArg Value.bool (by rw[hl];simp)) ?_
  refine wl_nil (zE (zS rfl (zI (zE (zA (zA (zB (wP rfl (wP rfl (wP rfl (wl_nil (ne_then ?_))))))))))))
  refine wc_cutS (X:=Unit) (fun _=>[(4, .bool false)]) (fun _=>[]) (fun _=>xs=ys) ?_ ?_
  ·refine wc_block ?_
   refine wc_loop (X:=Nat) (fun i=>[(0, .slice p xs.length cap),(1, .slice q ys.length cap2),(4, .bool false),(12, .int .i64 (xs.length:Nat)),(13, .int .i64 (i:Nat))]) (fun _=>[]) (fun i=>i≤xs.length∧xs.take i=ys.take i) (fun i=>xs.length-i) 0 ⟨Nat.zero_le _,rfl⟩ ⟨rfl,rfl,rfl,rfl,rfl,trivial⟩ [] rfl ?_
   rintro i ⟨hi,he⟩
   refine zA (zB (wP rfl ?_))
   by_cases hlt:i<xs.length
   ·refine wl_upd 14 (.bool true) rfl (congrArg Value.bool (decide_eq_true (by omega))) ?_
    refine wl_nil (zE (zA (zR rfl (zI (zE (zA (zH (zA (zB ?_)))))))))
    obtain⟨pb,po,rfl,hr1⟩:=hA.row hlt
    obtain⟨qb,qo,rfl,hr2⟩:=hB.row (show i<ys.length by omega)
    refine wP rfl (wP rfl (wl_nil (zE (zA ?_))))
    refine zT Tryz.mixed (by kernel_rfl) ?_
    refine qP rfl (qP rfl ?_)
    refine qI rfl rfl (by omega) (by omega) ?_
    refine wq_load rfl rfl rfl rfl (fun W hp=>RowAt.load 0 tH rfl ((fun W hp=>(hr1 i hlt).hp hp) W hp) rfl) ?_
    refine qP rfl (qP rfl ?_)
    refine qI rfl rfl (by omega) (by omega) ?_
    refine wq_load rfl rfl rfl rfl (fun W hp=>RowAt.load 0 tH rfl ((fun W hp=>(hr2 i (by omega)).hp hp) W hp) rfl) ?_
    refine qP rfl ?_
    by_cases hx:xs[i]=ys[i]
    ·refine wq_upd 24 (.bool false) rfl (congrArg Value.bool (by rw[hx];simp)) ?_
     refine wq_nil (wl_nil (zE (zS rfl (zI (zN (zE (zB (wP rfl ?_))))))))
     refine wl_upd 25 (.int .i64 ((i+1:Nat):Int)) rfl (congrArg (Value.int .i64) (w64_succ (by omega))) ?_
     refine wP rfl (wl_nil ?_)
     exact ne_loop (i+1) ⟨hlt,by rw[List.take_add_one,List.take_add_one,he,List.getElem?_eq_getElem hlt,List.getElem?_eq_getElem (by omega),hx]⟩ (by show xs.length-(i+1)<xs.length-i;omega) ⟨rfl,rfl,rfl,rfl,rfl,trivial⟩ [] rfl
    ·refine wq_upd 24 (.bool true) rfl (congrArg Value.bool (bne_iff_ne.2 (by omega))) ?_
     refine wq_nil (wl_nil (zE (zR rfl (zA (zB (wP rfl (wl_nil (zE (zO (zQ (zP (zP (zQ ?_)))))))))))))
     refine zP ?_
     exact ne_ret1 tH rfl (.tmp rfl) () (by rw[decide_eq_false fun e=>hx (by subst e;rfl)]) trivial fun W _=>NewBx.nil _ _
   ·refine wl_upd 14 (.bool false) rfl (congrArg Value.bool (decide_eq_false (by omega))) ?_
    refine wl_nil (zE (zA (zS rfl (zJ (zK (zK (zL ?_)))))))
    exact ne_cut () (by rw[List.take_of_length_le (by omega),List.take_of_length_le (by omega)] at he;exact he) ⟨rfl,trivial⟩ [] rfl
  ·intro _ he
   have he:xs=ys:=he
   refine zA (zB (wP rfl (wl_nil (zE (zO ?_)))))
   exact ne_ret1 tH rfl (.tmp rfl) () (by rw[decide_eq_true he]) trivial fun W _=>NewBx.nil _ _
 ·refine wl_upd 10 (.bool true) rfl (congrArg Value.bool (by rw[bne_iff_ne];omega)) ?_
  refine wl_nil (zE (zR rfl (zA (zB (wP rfl (wl_nil (zE (zO (zP ?_)))))))))
  exact ne_ret1 tH rfl (.tmp rfl) () (by rw[decide_eq_false fun e=>hl (by rw[e])]) trivial fun W _=>NewBx.nil _ _
def sq1 (x y:Int):Sd:=⟨x,y,1,1,false,0,0⟩
def sqG:Sd:=⟨0,0,0,0,true,0,0⟩
def sqL (g:Bool):List Sd:=[if g then sqG else sq1 0 0,sq1 10 0,sq1 10 10,sq1 0 10]
theorem sq1_gives (x y:Int) (W:World):CallsR Tryz.prog 135 #[.int .i64 x, .int .i64 y] W (fun _:Unit=>(sq1 x y).val) (fun _=>True) (fun _=>[]):=by
 refine calls_enter (args:=[.int .i64 x, .int .i64 y]) Tryz.func135 rfl rfl rfl ?_
 refine zA (zB ?_)
 (refine wl_allocZ Tryz.hZ rfl rfl rfl rfl ?_;intro)
 refine wl_nil (zE (zA (zB (wP rfl (wP rfl ?_)))))
 refine wl_buildZ Tryz.hZ tH rfl rfl rfl rfl rfl rfl rfl rfl ?_
 refine wS 0 rfl rfl rfl (wl_nil (zE (zO ?_)))
 exact ne_ret1 tH rfl (.cell 0 rfl rfl rfl rfl rfl) () rfl trivial fun W _=>NewBx.nil _ _
set_option maxHeartbeats 8000000 in
theorem square_gives (g:Bool) (W:World):CallsR Tryz.prog 60 #[.bool g] W (fun x:Nat×Nat=>planV (some ⟨x.2,0,none⟩) 1 1) (fun _=>True)
  (fun x=>[⟨x.1,42,cellsOf (sqL g),true,none⟩,bxE x.2 32 (slv (some ⟨x.1,0,none⟩) 4 4)]):=by
 refine calls_enter (args:=[.bool g]) Tryz.func60 rfl rfl rfl ?_
 refine zA (zB ?_)
 (refine wl_allocZ Tryz.hZ rfl rfl rfl rfl ?_;intro)
 refine wl_nil (zE (zA (zB (wP rfl (wl_nil (zE (zA (zB (wP rfl ?_)))))))))
 refine wl_call1 (capt:=[]) rfl rfl rfl rfl rfl rfl (by kernel_rfl) (fun W _=>sq1_gives 0 0 W) ?_
 refine wP rfl ?_
 refine wl_call1 (capt:=[]) rfl rfl rfl rfl rfl rfl (by kernel_rfl) (fun W _=>sq1_gives 10 0 W) ?_
 refine wP rfl ?_
 refine wl_call1 (capt:=[]) rfl rfl rfl rfl rfl rfl (by kernel_rfl) (fun W _=>sq1_gives 10 10 W) ?_
 refine wP rfl ?_
 refine wl_call1 (capt:=[]) rfl rfl rfl rfl rfl rfl (by kernel_rfl) (fun W _=>sq1_gives 0 10 W) ?_
 refine wl_buildRowZ Tryz.hZ tH rfl rfl rfl rfl rfl rfl rfl rfl rfl rfl rfl fun bS=> ?_
 refine wP rfl (wl_nil (zE (zA (zA (zB (wP rfl (wl_nil ?_)))))))
 cases g with
 |false=>
  refine zE (zS rfl (zI (zE (zA (zB (wP rfl ?_))))))
  refine wl_buildRowZ Tryz.hZ tH rfl rfl rfl rfl rfl rfl rfl rfl rfl rfl rfl fun bR=> ?_
  refine wl_buildZ Tryz.hZ tH rfl rfl rfl rfl rfl rfl rfl rfl ?_
  refine wS 0 rfl rfl rfl (wl_nil (zE (zO ?_)))
  exact ne_ret1 tH rfl (.cell 0 rfl rfl rfl rfl rfl) (bS,bR) rfl trivial fun W hp=>NewBx.of_hp (hp.pick (l:=[⟨bS,42,cellsOf (sqL false),true,none⟩,bxE bR 32 (slv (some ⟨bS,0,none⟩) 4 4)]) [1,2] (by decide) rfl)
 |true=>
  refine zE (zR rfl (zB (wP rfl ?_)))
  refine wl_buildZ Tryz.hZ tH rfl rfl rfl rfl rfl rfl rfl rfl ?_
  refine wI rfl rfl (by omega) (by omega) ?_
  refine wS 1 rfl rfl rfl (wl_nil (zE (zA (zB (wP rfl ?_)))))
  refine wl_buildRowZ Tryz.hZ tH rfl rfl rfl rfl rfl rfl rfl rfl rfl rfl rfl fun bR=> ?_
  refine wl_buildZ Tryz.hZ tH rfl rfl rfl rfl rfl rfl rfl rfl ?_
  refine wS 0 rfl rfl rfl (wl_nil (zE (zO ?_)))
  exact ne_ret1 tH rfl (.cell 0 rfl rfl rfl rfl rfl) (bS,bR) rfl trivial fun W hp=>NewBx.of_hp (hp.pick (l:=[⟨bS,42,cellsOf (sqL true),true,none⟩,bxE bR 32 (slv (some ⟨bS,0,none⟩) 4 4)]) [1,2] (by decide) rfl)
theorem square_rings {g:Bool} {bS bR:Nat} {W0 W:World} {bxs:List Bx} (hp:Hp W0 bxs W) (k i:Nat) (hk:nth bxs k=some ⟨bS,42,cellsOf (sqL g),true,none⟩) (hi:nth bxs i=some (bxE bR 32 (slv (some ⟨bS,0,none⟩) 4 4))):RingsP W (some ⟨bR,0,none⟩) [sqL g]:=by
 refine .inr ⟨bR,0,rfl,⟨fun j l hl=> ?_⟩⟩
 have hj:j=0:=by have:=(List.getElem?_eq_some_iff.1 hl).1;simpa using this
 subst hj
 have hl:sqL g=l:=by simpa using hl
 subst hl
 have hrow:=RowAt.of_bx hp k hk rfl
 exact⟨some ⟨bS,0,none⟩,4,RowAt.of_bx hp i hi rfl, .inr ⟨bS,0,rfl,RingAt.of_cells hrow.lt fun j u hj=>hrow.get j u hj⟩⟩
theorem sq_chk (g:Bool):chk [sqL g]=0:=by cases g<;>decide+kernel
theorem sq_lv0:lvls [sqL false]=[q2 0 1,q2 5 1]:=by decide+kernel
theorem sq_lv1:lvls [sqL true]=[q2 0 1,q2 5 1,q2 10 1]:=by decide+kernel
theorem sq_ord:ordW (allF [sqL true]) (q2 5 1) true=[1,3]:=by decide+kernel
theorem sq_prs:prW (allF [sqL false]) (q2 5 1)=[(0,2),(1,3)]:=by decide+kernel
end Go.Proofs.YtlagebbefnnnnaaGreatDoor
namespace Go.Proofs.YtlagebbefnnnnaaGreatDoor
open Go Go.RowKit Go.Am
set_option maxRecDepth 10000
-- BOXES 1
theorem refChk_gives (W:World) (p:Option Addr) (cap:Nat) (rs:List (List Sd)) (hn:rs.length<4611686018427387904) (hT:tot rs<1099511627776) (hR:RingsP W p rs):
  CallsR Tryz.prog 12 #[planV p rs.length cap] W (fun _:Unit=> .int .i64 (chk rs)) (fun _=>True) (fun _=>[]):=
 (checkR_gives W p cap rs hn hT hR).cast (by rw[chkR_eq])
set_option maxHeartbeats 4000000 in
theorem sidesR_ok (W:World) (p:Option Addr) (cap:Nat) (rs:List (List Sd)) (hn:rs.length<4611686018427387904) (hR:RingsP W p rs) (hc:chk rs=0):
  CallsR Tryz.prog 68 #[planV p rs.length cap] W (fun V:Vec=> .tuple #[V.val rs.flatten.length, .int .i64 0]) (fun V=>V.OK 7 rs.flatten.length (cellsOf rs.flatten)) (fun V=>[V.bx 42 (cellsOf rs.flatten)]):=by
 obtain⟨hne,hT,_⟩:=chk_ne hc
 refine calls_enter (args:=[planV p rs.length cap]) Tryz.func68 rfl rfl rfl ?_
 refine zA (zB ?_)
 (refine wl_box rfl rfl rfl rfl ?_;intro)
 refine wP rfl (wP rfl (wl_nil ?_))
 rename_i b1
 refine zE (zA (zA (zB (wB 0 rfl rfl rfl ?_))))
 refine wl_call1 rfl rfl rfl rfl rfl rfl (by kernel_rfl) (fun W hp=>(refChk_gives W p cap rs hn (by omega) (hR.hp hp)).cast (by rw[hc])) ?_
 refine wP rfl (wl_nil (zE (zS rfl (zI (zE (zA (zB (wP rfl (wl_nil (zE (zA (zA (zB ?_)))))))))))))
 refine wP rfl (wl_nil (zE (zH ?_)))
 refine wc_newGone ?_
 refine wc_loop (X:=Nat×Vec) (fun x=>[(1, .pointer (some ⟨b1,0,none⟩)),(4,x.2.val (tot (rs.take x.1))),(5, .int .i64 (x.1:Nat))]) (fun x=>[⟨b1,24,[slv p rs.length cap],true,none⟩,x.2.bx 42 (cellsOf (rs.take x.1).flatten)])
  (fun x=>x.1≤rs.length∧x.2.OK 7 (tot (rs.take x.1)) (cellsOf (rs.take x.1).flatten)) (fun x=>rs.length-x.1) (0,Vec.empty) ⟨Nat.zero_le _,Vec.OK.empty 7⟩ ⟨rfl,rfl,rfl,trivial⟩ [] rfl ?_
 rintro⟨k,V⟩ ⟨hk,hV⟩
 refine zA (zA (zB (wP rfl (wP rfl (wB 0 rfl rfl rfl (wP rfl (wP rfl (wl_nil (zE ?_)))))))))
 refine wc_cond rfl (fun h=> ?_) (fun h=> ?_)
 ·have hk:k<rs.length:=by simp at h;omega
  clear h
  obtain⟨b,off,rfl,hrow⟩:=hR.row hk
  obtain⟨q,cap2,hq1,hq2⟩:=hrow k hk
  refine zI (zE (zA (zH (zB (wP rfl (wP rfl (wB 0 rfl rfl rfl (wP rfl ?_))))))))
  refine wI rfl rfl (by omega) (by omega) ?_
  refine wl_load rfl rfl rfl rfl (fun W hp=>RowAt.load 0 tH rfl ((fun W hp=>hq1.hp hp) W hp) rfl) ?_
  obtain⟨b2,off2,rfl,hRk⟩: ∃b off,q=some ⟨b,off,none⟩∧RingAt W b off (rg rs k):=by
   rcases hq2 with h|h
   ·exact absurd h (hne _ (List.mem_of_getElem? (rg_get hk)))
   ·exact h
  have h1:=tot_take_succ hk
  have h2:=tot_take_le rs (k+1)
  refine wl_append (len:=tot (rs.take k)) 1 Tryz.vec32 rfl rfl rfl rfl rfl rfl rfl rfl rfl hV (cellsOf_length (rg rs k)) (fun W hp j u hj=> ?_) (cellsOf_one _) (by simp only[maxLen];omega) (by omega) ?_
  ·have hR':RingP W (some ⟨b2,off2,none⟩) (rg rs k):=RingP.hp (.inr ⟨b2,off2,rfl,hRk⟩) hp
   rcases hR' with h|⟨b3,off3,e,hR'⟩
   ·exact absurd h (hne _ (List.mem_of_getElem? (rg_get hk)))
   ·cases e
    rw[Addr.add_none]
    exact hR'.cells j u hj
  intro V' hV' _
  have e3:cellsOf (rs.take k).flatten++cellsOf (rg rs k)=cellsOf (rs.take (k+1)).flatten:=by rw[take_flat hk,cellsOf_append]
  rw[e3, ←h1] at hV'
  rw[e3, ←h1]
  refine wP rfl (wl_nil (zN (zE (zB (wP rfl (wP rfl (wP rfl (wl_nil ?_))))))))
  exact ne_loop (k+1,V') ⟨hk,hV'⟩ (by show rs.length-(k+1)<rs.length-k;omega) ⟨rfl,rfl,congrArg (fun z=>some (Value.int .i64 z)) (wrap_id (x:=(k:Int)+1) (by omega) (by omega)),trivial⟩ [] rfl
 ·have e:k=rs.length:=by simp at h;omega
  subst e
  rw[List.take_length] at hV
  rw[List.take_length]
  refine zJ (zK (zK (zL (zE (zA (zB (wP rfl (wP rfl (wP rfl (wl_nil (zE (zO ?_))))))))))))
  exact ne_ret2 tH rfl (.tmp rfl) (.tmp rfl) V (by rw[flat_len]) (by rw[flat_len];exact hV) fun W hp=>NewBx.of_hp1 hp 1 rfl
end Go.Proofs.YtlagebbefnnnnaaGreatDoor
