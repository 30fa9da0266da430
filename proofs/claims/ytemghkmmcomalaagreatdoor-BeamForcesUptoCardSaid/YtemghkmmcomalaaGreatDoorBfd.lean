/-
  Lemmas that the theorem beamForces_upto_card needs (part 4 of 6).
-/
import Derived.Test.YtemghkmmcomalaaGreatDoorBfc
import Derived.Shelf.Small.Bits
set_option maxHeartbeats 64000000
namespace Go.Proofs.YtemghkmmcomalaaGreatDoor
section
open Go Go.RowKit Go.Am Go.Lib
set_option maxRecDepth 10000
-- BOXES 3
abbrev nS (l:List Rat):List Value:=l.map fun q=>str (Ac q)
def N3 (cf:Nat):Prop:=Bz Tryz.prog cf=true∧ ∀(p q:Rat) (W:World),Sz2 p q→Br W→AB W→Ad Tryz.prog cf #[str (Ac p),str (Ac q)] W (fun _:Unit=> .int .i64 (G6 p q)) (fun _=>True) (fun _=>[])
structure E8 (W W':World) (g:Nat):Prop where
 os:W'.os=W.os
 tape:W'.tape=W.tape
 output:W'.output=W.output
 size:W.heap.size≤W'.heap.size
 at_: ∀x,x≠g→x<W.heap.size→W'.heap[x]? =W.heap[x]?
theorem Hk {W W':World} {g:Nat} {B:Bx} {o:Obj} (hg:W.heap[g]? =some o) (hB: ∃o',(g,o')∈B.blk) (hp:Hp (Bg W) [Ba (Av W g),B] W'):E8 W W' g:=by
 have c0: ∀p∈Av W g,W'.heap[p.1]? =some p.2:=fun p hq=>(hp.own.cell 0 _ rfl p hq).1
 have old: ∀x,x≠g→x<W.heap.size→W'.heap[x]? =W.heap[x]? :=fun x hx hlt=>by
  have h1:W.heap[x]? =some W.heap[x]:=Array.getElem?_eq_getElem hlt
  rw[h1]
  exact c0 (x,W.heap[x]) (CH.2 ⟨hx,h1⟩)
 refine⟨hp.below.os,hp.below.tape,hp.below.output, ?_,old⟩
 have hlt:=(Array.getElem?_eq_some_iff.1 hg).1
 by_cases e:W.heap.size-1=g
 ·obtain⟨o',ho⟩:=hB
  have:=(Array.getElem?_eq_some_iff.1 (hp.own.cell 1 B rfl _ ho).1).1
  have h2:g<W'.heap.size:=this
  omega
 ·have h1:=old (W.heap.size-1) e (by omega)
  rw[Array.getElem?_eq_getElem (show W.heap.size-1<W.heap.size by omega)] at h1
  have:=(Array.getElem?_eq_some_iff.1 h1).1
  omega
theorem E8.trans {W W1 W2:World} {g:Nat} (h:E8 W W1 g) (h':E8 W1 W2 g):E8 W W2 g:=
 ⟨h'.os.trans h.os,h'.tape.trans h.tape,h'.output.trans h.output,Nat.le_trans h.size h'.size,fun x hx hlt=>(h'.at_ x hx (Nat.lt_of_lt_of_le hlt h.size)).trans (h.at_ x hx hlt)⟩
theorem E8.below {W0 W W':World} {g:Nat} (hk:E8 W W' g) (hb:Below W0.heap.size W0 W) (hg:W0.heap.size≤g):Below W0.heap.size W0 W':=
 ⟨hk.os.trans hb.os,hk.tape.trans hb.tape,hk.output.trans hb.output,Nat.le_trans hb.size hk.size,fun i hi=>(hk.at_ i (by omega) (Nat.lt_of_lt_of_le hi hb.size)).trans (hb.block i hi)⟩
theorem Ia {W0 W:World} {bxs:List Bx} (hp:Hp W0 bxs W) (k:Nat) {g:Nat} {e:TypeId} {xs A B C:List Value} {off:Nat} (hk:nth bxs k=some ⟨g,e,xs,true,none⟩) (hxs:xs=A++(B++C)) (hoff:off=A.length):Ao W g off B:=by
 have h:=Ao.of_bx hp k hk rfl
 refine⟨h.lt,fun m u hu=> ?_⟩
 have:=h.get (A.length+m) u (by
  show xs[A.length+m]? =some u
  rw[hxs,List.getElem?_append_right (by omega),Nat.add_sub_cancel_left,List.getElem?_append_left (List.getElem?_eq_some_iff.1 hu).1]
  exact hu)
 rw[Nat.zero_add, ←hoff] at this
 exact this
theorem TM {r:Option Nat} {n:Nat} {P:Program} {W0:World} {N:Nat} {D:List Deferred} {c:Code} {Q:Exit→Act→World→Prop} {env:Env} {bxs bxs':List Bx} (e:bxs=bxs') (h:WC r n P N D c Q env (Hp W0 bxs')):WC r n P N D c Q env (Hp W0 bxs):=e▸h
abbrev De (g:Nat) (l:List Rat) (junk:List Value):Bx:=⟨g,22,nS l++junk,true,none⟩
theorem Ox (l:List Rat):AW (l.take 1)++l.drop 1=l:=by
 cases l with
 |nil=>rfl
 |cons x l=>rfl
theorem Pa (cf:Nat) (hcf:N3 cf) (W:World) (g cap:Nat) (l:List Rat) (junk:List Value) (hn:l.length<4611686018427387904) (hg:W.heap[g]? =some (.cells (nS l++junk).toArray 22 (0,0)))
  (hf: ∀W',E8 W W' g→Br W'∧AB W') (hz: ∀p∈l, ∀q∈l,Sz2 p q):
  Calls Tryz.prog 208 #[.slice (some ⟨g,0,none⟩) l.length cap, .int .i64 0, .int .i64 (l.length:Nat), .func (.func cf) #[] #[]] W fun e W'=> ∃x:Unit,e= .returned ((fun _=> .tuple #[]) x)∧True∧II W W' g ((fun _=>g) x) ((fun _=> .cells (nS (AW l)++junk).toArray 22 (0,0)) x):=by
 have key:Calls Tryz.prog 208 [.slice (some ⟨g,0,none⟩) l.length cap, .int .i64 0, .int .i64 (l.length:Nat), .func (.func cf) #[] #[]].toArray W fun e W'=> ∃x:Unit,e= .returned ((fun _=> .tuple #[]) x)∧(fun _=>True) x∧Below (Bg W).heap.size (Bg W) W'∧A0 (Bg W) W' ((fun _=>[Ba (Av W g),De g (AW l) junk]) x):=by
  refine Bm (X:=Unit) (val:=fun _=> .tuple #[]) (Φ:=fun _=>True) (nb:=fun _=>[Ba (Av W g),De g (AW l) junk]) (Hp.enterT (B:=De g l junk) I hg) Tryz.func208 I I I ?_
  refine zA (zB (wP I (wP I (wP I (Aa (zE (zH ?_)))))))
  refine Aw (X:=Nat) (fun i=>[(0, .slice (some ⟨g,0,none⟩) l.length cap),(1, .int .i64 0),(2, .int .i64 (l.length:Nat)),(3, .func (.func cf) #[] #[]),(8, .int .i64 (i:Nat))]) (fun i=>[Ba (Av W g),De g (AW (l.take i)++l.drop i) junk])
   (fun i=>1≤i∧(i≤l.length∨i=1)) (fun i=>l.length+1-i) 1 ⟨Nat.le_refl _, .inr rfl⟩ ⟨rfl,rfl,rfl,rfl,rfl,trivial⟩ [] (by rw[Ox];rfl) ?_
  rintro i ⟨hi1,hi2⟩
  refine zA (zA (zB (wP I (wP I (wP I ?_)))))
  by_cases hlt:i<l.length
  rotate_left
  ·refine wU 14 false I (dF (by omega)) (Aa (zE (zS I (zJ (zK (zK (zL ?_)))))))
   have e:AW (l.take i)++l.drop i=AW l:=by rw[List.take_of_length_le (by omega),List.drop_of_length_le (by omega),List.append_nil]
   refine Da (X:=Unit) (val:=fun _=> .tuple #[]) (Φ:=fun _=>True) (nb:=fun _=>[Ba (Av W g),De g (AW l) junk]) (fn:=Tryz.f208) tH I () I O fun W1 hp=> ?_
   rw[e] at hp
   exact(hp.pick (l:=[Ba (Av W g),De g (AW l) junk]) [0,1] (by decide) I).own
  refine wU 14 true I (dT (by omega)) (Aa (zE (zR I (zI (zE (zA (zH (zA (zB (wP I (wP I (Aa (zE ?_)))))))))))))
  refine zH ?_
  obtain⟨s,hs⟩: ∃s,s=AW (l.take i):=⟨_,rfl⟩
  obtain⟨x,hx⟩: ∃x,x=l[i]:=⟨_,rfl⟩
  obtain⟨rr,hr⟩: ∃rr,rr=l.drop (i+1):=⟨_,rfl⟩
  have hsl:s.length=i:=by rw[hs,Gu,List.length_take];omega
  have hsort:s.Pairwise (· ≤ ·):=hs▸Mk _
  have hdrop:l.drop i=x::rr:=by rw[hx,hr];exact List.drop_eq_getElem_cons hlt
  have hrl:rr.length=l.length-(i+1):=by rw[hr,List.length_drop]
  have hxl:x∈l:=hx▸List.getElem_mem hlt
  have hsm: ∀y∈s,y∈l:=fun y hy=>by rw[hs] at hy;exact List.mem_of_mem_take (EU.1 hy)
  have hnext: ∀j,j≤s.length→(∀y∈s.drop j,x<y)→(∀(h:0<j), ¬x<s[j-1]!)→s.take j++x::s.drop j++rr=AW (l.take (i+1))++l.drop (i+1):=fun j h1 h2 h3=>by
   rw[O0 l hlt, ←hs, ←hx, ←hr,Rr hsort h1 h2 fun h=>by have:=h3 h;rwa [getElem!_pos s (j-1) (by omega)] at this]
  refine Aw (X:=Nat) (fun j=>[(0, .slice (some ⟨g,0,none⟩) l.length cap),(1, .int .i64 0),(2, .int .i64 (l.length:Nat)),(3, .func (.func cf) #[] #[]),(8, .int .i64 (i:Nat)),(9, .int .i64 (j:Nat))]) (fun j=>[Ba (Av W g),De g (s.take j++x::s.drop j++rr) junk])
   (fun j=>j≤s.length∧ ∀y∈s.drop j,x<y) (fun j=>j) i ⟨by omega,by rw[←hsl,List.drop_length];exact fun y hy=>absurd hy List.not_mem_nil⟩ ⟨rfl,rfl,rfl,rfl,rfl,rfl,trivial⟩ [] (by rw[←hs,hdrop, ←hsl,List.take_length,List.drop_length,List.append_assoc];rfl) ?_
  rintro j ⟨hj,hgt⟩
  have hj:j≤s.length:=hj
  have hgt: ∀y∈s.drop j,x<y:=hgt
  refine zA (zA (zU (qP I (qP I (qP I ?_)))))
  cases j with
  |zero=>
   refine GX 20 (.bool false) I I ?_
   refine qP I ?_
   iterate 12 refine PF I I ?_
   refine qP I (AM (Aa (zE (zS I (zJ (zK (zK (zL (zN (zE (zB (wP I (wP I ?_)))))))))))))
   refine wV 16 ((i+1:Nat):Int) I (An (by omega)) (wP I (Aa ?_))
   refine Ak (i+1) ⟨by show 1≤i+1;omega, .inl hlt⟩ (by show l.length+1-(i+1)<l.length+1-i;omega) ⟨I,I,I,I,I,O⟩ [] ?_
   rw[hnext 0 hj hgt fun h=>absurd h (by decide)];rfl
  |succ m=>
   have hm:m<s.length:=hj
   obtain⟨y,hy⟩: ∃y,y=s[m]:=⟨_,rfl⟩
   have hyl:y∈l:=hsm y (hy▸List.getElem_mem hm)
   have e1:s.take (m+1)=s.take m++[y]:=by rw[List.take_add_one,List.getElem?_eq_getElem hm,hy];rfl
   have e2:s.drop m=y::s.drop (m+1):=by rw[hy];exact List.drop_eq_getElem_cons hm
   have e3:s[m+1-1]! =y:=by rw[Nat.add_sub_cancel,getElem!_pos s m hm,hy]
   have hA:(nS (s.take m)).length=m:=by rw[List.length_map,List.length_take];omega
   obtain⟨C,hC⟩: ∃C,C=nS (s.drop (m+1)++rr)++junk:=⟨_,rfl⟩
   have row1:nS (s.take (m+1)++x::s.drop (m+1)++rr)++junk=nS (s.take m)++([str (Ac y),str (Ac x)]++C):=by rw[e1,hC];simp[nS]
   have row2:nS (s.take m++x::s.drop m++rr)++junk=nS (s.take m)++([str (Ac x),str (Ac y)]++C):=by rw[e2,hC];simp[nS]
   refine qU 20 true I (dT (by omega)) (qP I (qP I (qP I (qP I ?_))))
   refine qJ ?_
   refine qL 0 I I (fun W1 hp=>show Ao W1 g (0+(m+1)*1) [str (Ac x)] from Ia hp 1 (A:=nS (s.take m)++[str (Ac y)]) (C:=C) I (by rw[row1];simp) (by rw[List.length_append,hA];simp)) I (qP I (qP I (qP I (qV 29 (m:Nat) I (show w64 (((m+1:Nat):Int)-1)=_ by rw[Aj (by omega) (by omega)];omega) ?_))))
   refine qJ ?_
   refine qL 0 I I (fun W1 hp=>show Ao W1 g (0+m*1) [str (Ac y)] from Ia hp 1 (A:=nS (s.take m)) (C:=[str (Ac x)]++C) I (by rw[row1];simp) (by rw[hA];simp)) I ?_
   refine MP (capt:=[]) I I I I I I hcf.1 (fun W1 hp=>(by
    obtain⟨hv,ht⟩:=hf W1 (Hk hg ⟨_,List.mem_cons_self ..⟩ hp)
    exact hcf.2 x y W1 (hz x hxl y hyl) hv ht)) ?_
   refine qP I (qU 33 (decide (x<y)) I (C3 x y) (qP I (AM (Aa (zE ?_)))))
   refine Ai I (fun h=> ?_) (fun h=> ?_)
   rotate_left
   ·have hc: ¬x<y:=of_decide_eq_false h
    refine zJ (zK (zK (zL (zN (zE (zB (wP I (wP I (wV 16 ((i+1:Nat):Int) I (An (by omega)) (wP I (Aa ?_)))))))))))
    refine Ak (i+1) ⟨by show 1≤i+1;omega, .inl hlt⟩ (by show l.length+1-(i+1)<l.length+1-i;omega) ⟨I,I,I,I,I,O⟩ [] ?_
    rw[hnext (m+1) hj hgt fun _=>by rw[e3];exact hc];rfl
   have hc:x<y:=of_decide_eq_true h
   clear h
   refine TM (bxs':=[Ba (Av W g),⟨g,22,nS (s.take m)++([str (Ac y),str (Ac x)]++C),true,none⟩]) (by rw[←row1]) ?_
   refine zI (zE (Ax (EN ?_)))
   repeat refine Ax ?_
   refine BA (X:=Unit) [true,true,false,false,false,true,true,true,true,true,true,true,true,true,true,false,false,false] (fun _=>[(0, .slice (some ⟨g,0,none⟩) l.length cap),(1, .int .i64 0),(2, .int .i64 (l.length:Nat)),(3, .func (.func cf) #[] #[]),(8, .int .i64 (i:Nat)),(9, .int .i64 ((m+1:Nat):Int))]) (fun _=>[Ba (Av W g),⟨g,22,nS (s.take m)++([str (Ac x),str (Ac y)]++C),true,none⟩])
    6 [Ba (Av W g),⟨g,22,nS (s.take m)++([str (Ac y),str (Ac x)]++C),true,none⟩] Tryz.mixed (by kernel_rfl) ?_ ?_
   ·refine qP I (qP I (qP I (qP I (qP I (qV 44 (m:Nat) I (show w64 (((m+1:Nat):Int)-1)=_ by rw[Aj (by omega) (by omega)];omega) ?_)))))
    refine qJ ?_
    refine qL 0 I I (fun W1 hp=>show Ao W1 g (0+m*1) [str (Ac y)] from Ia hp 1 (A:=nS (s.take m)) (C:=[str (Ac x)]++C) I (by simp) (by rw[hA];simp)) I (qP I (qP I ?_))
    refine qJ ?_
    refine qL 0 I I (fun W1 hp=>show Ao W1 g (0+(m+1)*1) [str (Ac x)] from Ia hp 1 (A:=nS (s.take m)++[str (Ac y)]) (C:=C) I (by simp) (by rw[List.length_append,hA];simp)) I ?_
    refine qJ ?_
    refine Dr ?_
    have h1:BD (nS (s.take m)++([str (Ac y),str (Ac x)]++C)) (0+(m+1)*1) (str (Ac y)).cells.toList=nS (s.take m)++([str (Ac y),str (Ac y)]++C):=by
     rw[show 0+(m+1)*1=(nS (s.take m)).length+1 by rw[hA];omega,Fy];rfl
    have h2:BD (nS (s.take m)++([str (Ac y),str (Ac y)]++C)) (0+m*1) (str (Ac x)).cells.toList=nS (s.take m)++([str (Ac x),str (Ac y)]++C):=by
     rw[show 0+m*1=(nS (s.take m)).length+0 by rw[hA];omega,Fy];rfl
    refine wX ?_
    refine RS.cons ?_ (RS.cons ?_ (RS.cons ?_ (RS.nil)))
    ·refine wP I (Aa (At (wX ?_)))
     refine RS.cons ?_ (RS.cons ?_ (RS.nil))
     ·refine wP I (Aa (At (wX ?_)))
      refine RS.cons ?_ (RS.cons ?_ (RS.nil))
      ·refine wP I (Aa (At (wX (wZ ?_))))
       refine A5 1 _ tH I I I I I I I I I I (by show 0+(m+1)*1+1≤(nS (s.take m)++([str (Ac y),str (Ac x)]++C)).length;rw[List.length_append,hA];simp<;>omega) h1 ?_
       refine Aa (At (wY (wZ ?_)))
       refine wV 41 (m:Nat) I (show w64 (((m+1:Nat):Int)-1)=_ by rw[Aj (by omega) (by omega)];omega) ?_;(first|refine wJ ?_|refine qJ ?_)
       refine Aa (At (wY (wZ ?_)))
       refine A5 1 _ tH I I I I I I I I I I (by show 0+m*1+1≤(nS (s.take m)++([str (Ac y),str (Ac y)]++C)).length;rw[List.length_append,hA];simp<;>omega) h2 ?_
       refine Aa (At ?_)
       refine AO I (by kernel_rfl) ?_
       exact AI () ⟨I,I,I,I,I,I,O⟩ [0,1] (by decide) I
      ·refine A5 1 _ tH I I I I I I I I I I (by show 0+(m+1)*1+1≤(nS (s.take m)++([str (Ac y),str (Ac x)]++C)).length;rw[List.length_append,hA];simp<;>omega) h1 ?_
       refine Aa (At (wY (wZ (wP I (Aa (At (wY (wZ ?_))))))))
       refine wV 41 (m:Nat) I (show w64 (((m+1:Nat):Int)-1)=_ by rw[Aj (by omega) (by omega)];omega) ?_;(first|refine wJ ?_|refine qJ ?_)
       refine Aa (At (wY (wZ ?_)))
       refine A5 1 _ tH I I I I I I I I I I (by show 0+m*1+1≤(nS (s.take m)++([str (Ac y),str (Ac y)]++C)).length;rw[List.length_append,hA];simp<;>omega) h2 ?_
       refine Aa (At ?_)
       refine AO I (by kernel_rfl) ?_
       exact AI () ⟨I,I,I,I,I,I,O⟩ [0,1] (by decide) I
     ·refine A5 1 _ tH I I I I I I I I I I (by show 0+(m+1)*1+1≤(nS (s.take m)++([str (Ac y),str (Ac x)]++C)).length;rw[List.length_append,hA];simp<;>omega) h1 ?_
      refine Aa (At (wY (wZ (wP I (Aa (At (wY (wZ (wP I (Aa (At (wY (wZ ?_)))))))))))))
      refine wV 41 (m:Nat) I (show w64 (((m+1:Nat):Int)-1)=_ by rw[Aj (by omega) (by omega)];omega) ?_;(first|refine wJ ?_|refine qJ ?_)
      refine Aa (At (wY (wZ ?_)))
      refine A5 1 _ tH I I I I I I I I I I (by show 0+m*1+1≤(nS (s.take m)++([str (Ac y),str (Ac y)]++C)).length;rw[List.length_append,hA];simp<;>omega) h2 ?_
      refine Aa (At ?_)
      refine AO I (by kernel_rfl) ?_
      exact AI () ⟨I,I,I,I,I,I,O⟩ [0,1] (by decide) I
    ·refine wP I (Aa (At (wX ?_)))
     refine RS.cons ?_ (RS.cons ?_ (RS.cons ?_ (RS.nil)))
     ·refine wP I (Aa (At (wX ?_)))
      refine RS.cons ?_ (RS.cons ?_ (RS.nil))
      ·refine wP I (Aa (At (wX (wZ ?_))))
       refine A5 1 _ tH I I I I I I I I I I (by show 0+(m+1)*1+1≤(nS (s.take m)++([str (Ac y),str (Ac x)]++C)).length;rw[List.length_append,hA];simp<;>omega) h1 ?_
       refine Aa (At (wY (wZ ?_)))
       refine wV 41 (m:Nat) I (show w64 (((m+1:Nat):Int)-1)=_ by rw[Aj (by omega) (by omega)];omega) ?_;(first|refine wJ ?_|refine qJ ?_)
       refine Aa (At (wY (wZ ?_)))
       refine A5 1 _ tH I I I I I I I I I I (by show 0+m*1+1≤(nS (s.take m)++([str (Ac y),str (Ac y)]++C)).length;rw[List.length_append,hA];simp<;>omega) h2 ?_
       refine Aa (At ?_)
       refine AO I (by kernel_rfl) ?_
       exact AI () ⟨I,I,I,I,I,I,O⟩ [0,1] (by decide) I
      ·refine A5 1 _ tH I I I I I I I I I I (by show 0+(m+1)*1+1≤(nS (s.take m)++([str (Ac y),str (Ac x)]++C)).length;rw[List.length_append,hA];simp<;>omega) h1 ?_
       refine Aa (At (wY (wZ (wP I (Aa (At (wY (wZ ?_))))))))
       refine wV 41 (m:Nat) I (show w64 (((m+1:Nat):Int)-1)=_ by rw[Aj (by omega) (by omega)];omega) ?_;(first|refine wJ ?_|refine qJ ?_)
       refine Aa (At (wY (wZ ?_)))
       refine A5 1 _ tH I I I I I I I I I I (by show 0+m*1+1≤(nS (s.take m)++([str (Ac y),str (Ac y)]++C)).length;rw[List.length_append,hA];simp<;>omega) h2 ?_
       refine Aa (At ?_)
       refine AO I (by kernel_rfl) ?_
       exact AI () ⟨I,I,I,I,I,I,O⟩ [0,1] (by decide) I
     ·refine wP I (Aa (At (wX ?_)))
      refine RS.cons ?_ (RS.cons ?_ (RS.nil))
      ·refine wP I (Aa (At (wX (wZ ?_))))
       refine A5 1 _ tH I I I I I I I I I I (by show 0+(m+1)*1+1≤(nS (s.take m)++([str (Ac y),str (Ac x)]++C)).length;rw[List.length_append,hA];simp<;>omega) h1 ?_
       refine Aa (At (wY (wZ ?_)))
       refine wV 41 (m:Nat) I (show w64 (((m+1:Nat):Int)-1)=_ by rw[Aj (by omega) (by omega)];omega) ?_;(first|refine wJ ?_|refine qJ ?_)
       refine Aa (At (wY (wZ ?_)))
       refine A5 1 _ tH I I I I I I I I I I (by show 0+m*1+1≤(nS (s.take m)++([str (Ac y),str (Ac y)]++C)).length;rw[List.length_append,hA];simp<;>omega) h2 ?_
       refine Aa (At ?_)
       refine AO I (by kernel_rfl) ?_
       exact AI () ⟨I,I,I,I,I,I,O⟩ [0,1] (by decide) I
      ·refine A5 1 _ tH I I I I I I I I I I (by show 0+(m+1)*1+1≤(nS (s.take m)++([str (Ac y),str (Ac x)]++C)).length;rw[List.length_append,hA];simp<;>omega) h1 ?_
       refine Aa (At (wY (wZ (wP I (Aa (At (wY (wZ ?_))))))))
       refine wV 41 (m:Nat) I (show w64 (((m+1:Nat):Int)-1)=_ by rw[Aj (by omega) (by omega)];omega) ?_;(first|refine wJ ?_|refine qJ ?_)
       refine Aa (At (wY (wZ ?_)))
       refine A5 1 _ tH I I I I I I I I I I (by show 0+m*1+1≤(nS (s.take m)++([str (Ac y),str (Ac y)]++C)).length;rw[List.length_append,hA];simp<;>omega) h2 ?_
       refine Aa (At ?_)
       refine AO I (by kernel_rfl) ?_
       exact AI () ⟨I,I,I,I,I,I,O⟩ [0,1] (by decide) I
     ·refine A5 1 _ tH I I I I I I I I I I (by show 0+(m+1)*1+1≤(nS (s.take m)++([str (Ac y),str (Ac x)]++C)).length;rw[List.length_append,hA];simp<;>omega) h1 ?_
      refine Aa (At (wY ?_))
      refine RS.cons ?_ (RS.cons ?_ (RS.nil))
      ·refine wP I (Aa (At (wY (wZ (wP I (Aa (At (wY (wZ ?_)))))))))
       refine wV 41 (m:Nat) I (show w64 (((m+1:Nat):Int)-1)=_ by rw[Aj (by omega) (by omega)];omega) ?_;(first|refine wJ ?_|refine qJ ?_)
       refine Aa (At (wY (wZ ?_)))
       refine A5 1 _ tH I I I I I I I I I I (by show 0+m*1+1≤(nS (s.take m)++([str (Ac y),str (Ac y)]++C)).length;rw[List.length_append,hA];simp<;>omega) h2 ?_
       refine Aa (At ?_)
       refine AO I (by kernel_rfl) ?_
       exact AI () ⟨I,I,I,I,I,I,O⟩ [0,1] (by decide) I
      ·refine wP I (Aa (At (wY (wZ (wP I (Aa (At (wY (wZ ?_)))))))))
       refine wV 41 (m:Nat) I (show w64 (((m+1:Nat):Int)-1)=_ by rw[Aj (by omega) (by omega)];omega) ?_;(first|refine wJ ?_|refine qJ ?_)
       refine Aa (At (wY (wZ ?_)))
       refine A5 1 _ tH I I I I I I I I I I (by show 0+m*1+1≤(nS (s.take m)++([str (Ac y),str (Ac y)]++C)).length;rw[List.length_append,hA];simp<;>omega) h2 ?_
       refine Aa (At ?_)
       refine AO I (by kernel_rfl) ?_
       exact AI () ⟨I,I,I,I,I,I,O⟩ [0,1] (by decide) I
    ·refine A5 1 _ tH I I I I I I I I I I (by show 0+(m+1)*1+1≤(nS (s.take m)++([str (Ac y),str (Ac x)]++C)).length;rw[List.length_append,hA];simp<;>omega) h1 ?_
     refine Aa (At (wY ?_))
     refine RS.cons ?_ (RS.cons ?_ (RS.nil))
     ·refine wP I (Aa (At (wY (wZ (wP I (Aa (At (wY (wZ (wP I (Aa (At (wY ?_)))))))))))))
      refine wZ ?_
      refine wV 41 (m:Nat) I (show w64 (((m+1:Nat):Int)-1)=_ by rw[Aj (by omega) (by omega)];omega) ?_;(first|refine wJ ?_|refine qJ ?_)
      refine Aa (At (wY (wZ ?_)))
      refine A5 1 _ tH I I I I I I I I I I (by show 0+m*1+1≤(nS (s.take m)++([str (Ac y),str (Ac y)]++C)).length;rw[List.length_append,hA];simp<;>omega) h2 ?_
      refine Aa (At ?_)
      refine AO I (by kernel_rfl) ?_
      exact AI () ⟨I,I,I,I,I,I,O⟩ [0,1] (by decide) I
     ·refine wP I (Aa (At (wY ?_)))
      refine RS.cons ?_ (RS.cons ?_ (RS.nil))
      ·refine wP I (Aa (At (wY (wZ (wP I (Aa (At (wY (wZ ?_)))))))))
       refine wV 41 (m:Nat) I (show w64 (((m+1:Nat):Int)-1)=_ by rw[Aj (by omega) (by omega)];omega) ?_;(first|refine wJ ?_|refine qJ ?_)
       refine Aa (At (wY (wZ ?_)))
       refine A5 1 _ tH I I I I I I I I I I (by show 0+m*1+1≤(nS (s.take m)++([str (Ac y),str (Ac y)]++C)).length;rw[List.length_append,hA];simp<;>omega) h2 ?_
       refine Aa (At ?_)
       refine AO I (by kernel_rfl) ?_
       exact AI () ⟨I,I,I,I,I,I,O⟩ [0,1] (by decide) I
      ·refine wP I (Aa (At (wY (wZ (wP I (Aa (At (wY (wZ ?_)))))))))
       refine wV 41 (m:Nat) I (show w64 (((m+1:Nat):Int)-1)=_ by rw[Aj (by omega) (by omega)];omega) ?_;(first|refine wJ ?_|refine qJ ?_)
       refine Aa (At (wY (wZ ?_)))
       refine A5 1 _ tH I I I I I I I I I I (by show 0+m*1+1≤(nS (s.take m)++([str (Ac y),str (Ac y)]++C)).length;rw[List.length_append,hA];simp<;>omega) h2 ?_
       refine Aa (At ?_)
       refine AO I (by kernel_rfl) ?_
       exact AI () ⟨I,I,I,I,I,I,O⟩ [0,1] (by decide) I
   intro _
   refine zN (zE (zB (wP I (wP I (wV 36 (m:Nat) I (show w64 (((m+1:Nat):Int)-1)=_ by rw[Aj (by omega) (by omega)];omega) (wP I (Aa ?_)))))))
   refine Ak m ⟨by show m≤s.length;omega,fun z hz=> ?_⟩ (by show m<m+1;omega) ⟨I,I,I,I,I,I,O⟩ [] (by rw[←row2];rfl)
   rw[e2] at hz
   rcases List.mem_cons.1 hz with rfl|hz
   ·exact hc
   ·exact hgt z hz
 refine key.mono ?_
 rintro e W' ⟨x,he,_,hb,hn'⟩
 exact⟨x,he,O,Fz hg I hb hn'⟩
theorem OP (cf:Nat) (hcf:N3 cf) (W:World) (g cap:Nat) (l:List Rat) (junk:List Value) (z:Int) (hn:l.length≤12) (hg:W.heap[g]? =some (.cells (nS l++junk).toArray 22 (0,0)))
  (hf: ∀W',E8 W W' g→Br W'∧AB W') (hz: ∀p∈l, ∀q∈l,Sz2 p q):
  Calls Tryz.prog 160 #[.slice (some ⟨g,0,none⟩) l.length cap, .int .i64 0, .int .i64 (l.length:Nat), .int .i64 z, .func (.func cf) #[] #[]] W fun e W'=> ∃x:Unit,e= .returned ((fun _=> .tuple #[]) x)∧True∧II W W' g ((fun _=>g) x) ((fun _=> .cells (nS (AW l)++junk).toArray 22 (0,0)) x):=by
 have key:Calls Tryz.prog 160 [.slice (some ⟨g,0,none⟩) l.length cap, .int .i64 0, .int .i64 (l.length:Nat), .int .i64 z, .func (.func cf) #[] #[]].toArray W fun e W'=> ∃x:Unit,e= .returned ((fun _=> .tuple #[]) x)∧(fun _=>True) x∧Below (Bg W).heap.size (Bg W) W'∧A0 (Bg W) W' ((fun _=>[Ba (Av W g),De g (AW l) junk]) x):=by
  refine Bm (X:=Unit) (val:=fun _=> .tuple #[]) (Φ:=fun _=>True) (nb:=fun _=>[Ba (Av W g),De g (AW l) junk]) (Hp.enterT (B:=De g l junk) I hg) Tryz.func160 I I I ?_
  refine zA (zB (wP I (Aa (zE (zA (zB (wP I (Aa (zE (zH ?_))))))))))
  refine Aw (X:=Unit) (fun _=>[(0, .slice (some ⟨g,0,none⟩) l.length cap),(1, .int .i64 0),(2, .int .i64 (l.length:Nat)),(3, .int .i64 z),(4, .func (.func cf) #[] #[])]) (fun _=>[Ba (Av W g),De g l junk]) (fun _=>True) (fun _=>0) () O ⟨I,I,I,I,I,O⟩ [] I ?_
  intro _ _
  refine zH (zA (zB (wP I (wP I (wP I (wV 23 (l.length:Nat) I (show w64 ((l.length:Nat)-0)=_ by rw[Aj (by omega) (by omega)];omega) (wP I (Aa (zE (zA (zA (zB (wP I (wP I ?_))))))))))))))
  refine wU 25 true I (dT (by omega)) (Aa (zE (zR I (zA (zB (wP I (wP I (wP I (wP I ?_)))))))))
  refine AT (X:=Unit) (val:=fun _=> .tuple #[]) (Φ:=fun _=>True) (capt:=[]) 1 (B:=De g l junk) (L1:=[]) (L2:=[]) (b:=g) (ob:= .cells (nS l++junk).toArray 22 (0,0)) (fun _=>De g (AW l) junk) (g':=fun _=>g) (o':=fun _=> .cells (nS (AW l)++junk).toArray 22 (0,0))
   rfl rfl rfl rfl rfl rfl (by kernel_rfl) rfl rfl (fun _ _=>rfl) (fun W1 hp=>Pa cf hcf W1 g cap l junk (by omega) (hp.own.cell 1 _ rfl (g, .cells (nS l++junk).toArray 22 (0,0)) (List.mem_cons_self ..)).1 (fun W2 hk=>hf W2 ((Hk hg ⟨_,List.mem_cons_self ..⟩ hp).trans hk)) hz) (fun _ _=> ?_)
  refine Aa (zE (zO (zP (zQ (zP (zQ ?_))))))
  refine Pb (X:=Unit) (val:=fun _=> .tuple #[]) (Φ:=fun _=>True) (nb:=fun _=>[Ba (Av W g),De g (AW l) junk]) (fn:=Tryz.f160) tH I () I O fun W1 hp=> ?_
  exact(hp.pick (l:=[Ba (Av W g),De g (AW l) junk]) [0,1] (by decide) I).own
 refine key.mono ?_
 rintro e W' ⟨x,he,_,hb,hn'⟩
 exact⟨x,he,O,Fz hg I hb hn'⟩
theorem O7 (cf:Nat) (W:World) (p:Option Addr) (cap:Nat):Ad Tryz.prog 208 #[.slice p 0 cap, .int .i64 0, .int .i64 ((0:Nat):Int), .func (.func cf) #[] #[]] W (fun _:Unit=> .tuple #[]) (fun _=>True) (fun _=>[]):=by
 refine Ab (args:=[.slice p 0 cap, .int .i64 0, .int .i64 ((0:Nat):Int), .func (.func cf) #[] #[]]) Tryz.func208 I I I ?_
 refine zA (zB (wP I (wP I (wP I (Aa (zE (zH ?_)))))))
 refine Aw (X:=Unit) (fun _=>[(0, .slice p 0 cap),(1, .int .i64 0),(2, .int .i64 ((0:Nat):Int)),(3, .func (.func cf) #[] #[]),(8, .int .i64 1)]) (fun _=>[]) (fun _=>True) (fun _=>0) () O ⟨I,I,I,I,I,O⟩ [] I ?_
 intro _ _
 refine zA (zA (zB (wP I (wP I (wP I ?_)))))
 refine Ag 14 (.bool false) I I ?_
 exact Aa (zE (zS I (zJ (zK (zK (zL (Da (X:=Unit) (val:=fun _=> .tuple #[]) (Φ:=fun _=>True) (nb:=fun _=>[]) (fn:=Tryz.f208) tH I () I O fun W _=>A0.nil _ _)))))))
theorem Oc (cf:Nat) (W:World) (p:Option Addr) (cap:Nat) (z:Int):Ad Tryz.prog 160 #[.slice p 0 cap, .int .i64 0, .int .i64 ((0:Nat):Int), .int .i64 z, .func (.func cf) #[] #[]] W (fun _:Unit=> .tuple #[]) (fun _=>True) (fun _=>[]):=by
 refine Ab (args:=[.slice p 0 cap, .int .i64 0, .int .i64 ((0:Nat):Int), .int .i64 z, .func (.func cf) #[] #[]]) Tryz.func160 I I I ?_
 refine zA (zB (wP I (Aa (zE (zA (zB (wP I (Aa (zE (zH ?_))))))))))
 refine Aw (X:=Unit) (fun _=>[(0, .slice p 0 cap),(1, .int .i64 0),(2, .int .i64 ((0:Nat):Int)),(3, .int .i64 z),(4, .func (.func cf) #[] #[])]) (fun _=>[]) (fun _=>True) (fun _=>0) () O ⟨I,I,I,I,I,O⟩ [] I ?_
 intro _ _
 refine zH (zA (zB (wP I (wP I (wP I ?_)))))
 refine Ag 23 (.int .i64 ((0:Nat):Int)) I I ?_
 refine wP I (Aa (zE (zA (zA (zB (wP I (wP I ?_)))))))
 refine Ag 25 (.bool true) I I ?_
 refine Aa (zE (zR I (zA (zB (wP I (wP I (wP I (wP I ?_))))))))
 refine BY (capt:=[]) I I I I I I (by kernel_rfl) (fun W _=>O7 cf W p cap) ?_
 exact Aa (zE (zO (zP (zQ (zP (zQ (Pb (X:=Unit) (val:=fun _=> .tuple #[]) (Φ:=fun _=>True) (nb:=fun _=>[]) (fn:=Tryz.f160) tH I () I O fun W _=>A0.nil _ _)))))))
theorem Hg (x:Nat) (h:x≤18446744073709551615) (W:World):Ad Tryz.prog 161 #[.int .u64 (x:Nat)] W (fun _:Unit=> .int .i64 (Lib.bitLen x)) (fun _=>True) (fun _=>[]):=by
 refine Ad.of1 ((Go.Proofs.Any.bits_Len (P:=Tryz.prog) (ρ:=Tryz.lays125_ren) Tryz.lays125 (x:Int) W (by omega) (by omega)).mono ?_)
 rintro e w' ⟨rfl,rfl⟩
 exact⟨I,Below.refl _ _⟩
theorem SL {n:Nat} (h:n≤12):IntKind.u64.wrap (n:Nat)=(n:Int):=by
 simp only[IntKind.wrap,IntKind.signed,IntKind.bits]
 simp
 omega
theorem Me (cf:Nat) (hcf:N3 cf) (W:World) (g cap:Nat) (l:List Rat) (junk:List Value) (hn:l.length≤12) (hg:W.heap[g]? =some (.cells (nS l++junk).toArray 22 (0,0)))
  (hf: ∀W',E8 W W' g→Br W'∧AB W') (hz: ∀p∈l, ∀q∈l,Sz2 p q):
  Calls Tryz.prog 87 #[.slice (some ⟨g,0,none⟩) l.length cap, .func (.func cf) #[] #[]] W fun e W'=> ∃x:Unit,e= .returned ((fun _=> .tuple #[]) x)∧True∧II W W' g ((fun _=>g) x) ((fun _=> .cells (nS (AW l)++junk).toArray 22 (0,0)) x):=by
 have key:Calls Tryz.prog 87 [.slice (some ⟨g,0,none⟩) l.length cap, .func (.func cf) #[] #[]].toArray W fun e W'=> ∃x:Unit,e= .returned ((fun _=> .tuple #[]) x)∧(fun _=>True) x∧Below (Bg W).heap.size (Bg W) W'∧A0 (Bg W) W' ((fun _=>[Ba (Av W g),De g (AW l) junk]) x):=by
  refine Bm (X:=Unit) (val:=fun _=> .tuple #[]) (Φ:=fun _=>True) (nb:=fun _=>[Ba (Av W g),De g (AW l) junk]) (Hp.enterT (B:=De g l junk) I hg) Tryz.func87 I I I ?_
  refine zA (zB (wP I (wP I (wP I (Aa (zE (zB (wP I (wP I (wP I ?_))))))))))
  refine GJ (k:= .u64) (kt:= .i64) (by kernel_rfl) (by kernel_rfl) I I I I ?_
  refine Ag 10 (.int .u64 (l.length:Nat)) I (congrArg (Value.int .u64) (SL hn)) ?_
  refine BY (capt:=[]) I I I I I I (by kernel_rfl) (fun W _=>Hg l.length (by omega) W) ?_
  refine wP I ?_
  refine AT (X:=Unit) (val:=fun _=> .tuple #[]) (Φ:=fun _=>True) (capt:=[]) 1 (B:=De g l junk) (L1:=[]) (L2:=[]) (b:=g) (ob:= .cells (nS l++junk).toArray 22 (0,0)) (fun _=>De g (AW l) junk) (g':=fun _=>g) (o':=fun _=> .cells (nS (AW l)++junk).toArray 22 (0,0))
   rfl rfl rfl rfl rfl rfl (by kernel_rfl) rfl rfl (fun _ _=>rfl) (fun W1 hp=>OP cf hcf W1 g cap l junk _ hn (hp.own.cell 1 _ rfl (g, .cells (nS l++junk).toArray 22 (0,0)) (List.mem_cons_self ..)).1 (fun W2 hk=>hf W2 ((Hk hg ⟨_,List.mem_cons_self ..⟩ hp).trans hk)) hz) (fun _ _=> ?_)
  refine Aa ?_
  refine Da (X:=Unit) (val:=fun _=> .tuple #[]) (Φ:=fun _=>True) (nb:=fun _=>[Ba (Av W g),De g (AW l) junk]) (fn:=Tryz.f87) tH I () I O fun W1 hp=> ?_
  exact(hp.pick (l:=[Ba (Av W g),De g (AW l) junk]) [0,1] (by decide) I).own
 refine key.mono ?_
 rintro e W' ⟨x,he,_,hb,hn'⟩
 exact⟨x,he,O,Fz hg I hb hn'⟩
end
section
structure BmP where
 len:Rat
 l:Rat
 r:Rat
 fs:List (Rat×Rat)
 ss:List (Rat×Rat×Rat)
def F1 (x:Rat) (s:Rat×Rat×Rat):Option (Rat×Rat):=if s.1<(if x<s.2.1 then x else s.2.1) then some ((s.1+(if x<s.2.1 then x else s.2.1))/2,s.2.2*((if x<s.2.1 then x else s.2.1)-s.1)) else none
def BmP.pts (b:BmP) (x:Rat):List (Rat×Rat):=b.fs.filter (fun f=>decide (f.1≤x))++b.ss.filterMap (F1 x)
def FZ:List (Rat×Rat)→Rat
 |[]=>0
 |p::l=>p.2+FZ l
def L6:List (Rat×Rat)→Rat
 |[]=>0
 |p::l=>p.2*p.1+L6 l
def BmP.total (b:BmP):Rat:=FZ (b.pts b.len)
def BmP.turn (b:BmP):Rat:=L6 (b.pts b.len)-b.l*FZ (b.pts b.len)
def BmP.right (b:BmP):Rat:=b.turn/(b.r-b.l)
def BmP.left (b:BmP):Rat:=b.total-b.right
def BmP.shear (b:BmP) (x:Rat):Rat:=(if b.l≤x then b.left else 0)+(if b.r≤x then b.right else 0)-FZ (b.pts x)
def BmP.moment (b:BmP) (x:Rat):Rat:=(if b.l<x then b.left*(x-b.l) else 0)+(if b.r<x then b.right*(x-b.r) else 0)-(x*FZ (b.pts x)-L6 (b.pts x))
structure BmP.Lies (b:BmP):Prop where
 len:0<b.len
 l0:0≤b.l
 lr:b.l<b.r
 r1:b.r≤b.len
 f0: ∀f∈b.fs,0≤f.1
 f1: ∀f∈b.fs,f.1≤b.len
 s0: ∀s∈b.ss,0≤s.1
 s1: ∀s∈b.ss,s.1<s.2.1
 s2: ∀s∈b.ss,s.2.1≤b.len
end
section
def InD (D M:Nat) (q:Rat):Prop:= ∃z:Int,q=(z:Rat)/(D:Rat)∧z.natAbs≤M
theorem BQ {D:Nat} (h:0<D):(D:Rat)≠0:=by
 intro e
 have:((D:Int):Rat)=((0:Int):Rat):=e
 have:=Rat.intCast_inj.1 this
 omega
theorem InD.sz {D M k:Nat} {q:Rat} (h:InD D M q) (hD:0<D) (hM:M<10^k) (hk:D<10^k):szQ q k:=by
 obtain⟨z,rfl,hz⟩:=h
 have e:nrm z (D:Int)=(z:Rat)/(D:Rat):=by
  rw[Ey z (by omega),Rat.divInt_eq_div];rfl
 rw[←e]
 exact HB z (by omega) (by omega) (by rw[Int.natAbs_natCast];exact hk)
theorem InD.mono {D M M':Nat} {q:Rat} (h:InD D M q) (hM:M≤M'):InD D M' q:=by
 obtain⟨z,e,hz⟩:=h
 exact⟨z,e,Nat.le_trans hz hM⟩
theorem InD.up {D M:Nat} {q:Rat} (h:InD D M q) (hD:0<D) (c:Nat) (hc:0<c):InD (D*c) (M*c) q:=by
 obtain⟨z,rfl,hz⟩:=h
 refine⟨z*c, ?_, ?_⟩
 ·have h1:=BQ hD
  have h2:=BQ hc
  have e1:((z*(c:Int):Int):Rat)=(z:Rat)*(c:Rat):=by rw[Rat.intCast_mul];rfl
  have e2:((D*c:Nat):Rat)=(D:Rat)*(c:Rat):=Rat.natCast_mul D c
  rw[e1,e2]
  grind
 ·rw[Int.natAbs_mul,Int.natAbs_natCast];exact Nat.mul_le_mul_right _ hz
theorem InD.add {D M M':Nat} {p q:Rat} (h:InD D M p) (h':InD D M' q):InD D (M+M') (p+q):=by
 obtain⟨z,rfl,hz⟩:=h
 obtain⟨y,rfl,hy⟩:=h'
 refine⟨z+y, ?_,by omega⟩
 rw[Rat.intCast_add];grind
theorem InD.sub {D M M':Nat} {p q:Rat} (h:InD D M p) (h':InD D M' q):InD D (M+M') (p-q):=by
 obtain⟨z,rfl,hz⟩:=h
 obtain⟨y,rfl,hy⟩:=h'
 refine⟨z-y, ?_,by omega⟩
 rw[Rat.intCast_sub];grind
theorem InD.mul {D D' M M':Nat} {p q:Rat} (h:InD D M p) (h':InD D' M' q) (hD:0<D) (hD':0<D'):InD (D*D') (M*M') (p*q):=by
 obtain⟨z,rfl,hz⟩:=h
 obtain⟨y,rfl,hy⟩:=h'
 refine⟨z*y, ?_, ?_⟩
 ·have h1:=BQ hD
  have h2:=BQ hD'
  have e2:((D*D':Nat):Rat)=(D:Rat)*(D':Rat):=Rat.natCast_mul D D'
  rw[Rat.intCast_mul,e2]
  grind
 ·rw[Int.natAbs_mul];exact Nat.mul_le_mul hz hy
theorem InD.div {D D' M c:Nat} {p:Rat} {y:Int} (h:InD D M p) (hD:0<D) (hD':0<D') (hy:y≠0) (hc:y.natAbs=c):InD (D*c) (M*D') (p/((y:Rat)/(D':Rat))):=by
 obtain⟨z,rfl,hz⟩:=h
 have h1:=BQ hD
 have h2:=BQ hD'
 have hc0:0<c:=by omega
 have h3:=BQ hc0
 have h4:(y:Rat)≠0:=fun e=>hy (Rat.intCast_inj.1 (show(y:Rat)=((0:Int):Rat) from e))
 have e2:((D*c:Nat):Rat)=(D:Rat)*(c:Rat):=Rat.natCast_mul D c
 rcases(show y=(c:Int)∨y= -(c:Int) by omega) with e|e
 ·refine⟨z*(D':Int), ?_, ?_⟩
  ·have e3:(y:Rat)=(c:Rat):=by rw[e];rfl
   have e4:((z*(D':Int):Int):Rat)=(z:Rat)*(D':Rat):=by rw[Rat.intCast_mul];rfl
   rw[e2,e3,e4];grind
  ·rw[Int.natAbs_mul,Int.natAbs_natCast];exact Nat.mul_le_mul_right _ hz
 ·refine⟨-(z*(D':Int)), ?_, ?_⟩
  ·have e3:(y:Rat)= -(c:Rat):=by rw[e,Rat.intCast_neg];rfl
   have e4:((-(z*(D':Int)):Int):Rat)= -((z:Rat)*(D':Rat)):=by rw[Rat.intCast_neg,Rat.intCast_mul];rfl
   rw[e2,e3,e4];grind
  ·rw[Int.natAbs_neg,Int.natAbs_mul,Int.natAbs_natCast];exact Nat.mul_le_mul_right _ hz
theorem InD.zero (D:Nat):InD D 0 0:=⟨0,by show(0:Rat)=(0:Rat)/(D:Rat);rw[Rat.div_def,Rat.zero_mul],by decide⟩
theorem InD.half (z:Int) {M:Nat} (h:z.natAbs≤M):InD 2 M (nrm z 2):=⟨z,by rw[Ey z (by decide),Rat.divInt_eq_div];rfl,h⟩
end
section
theorem Pq (z:Int):nrm z 2=(z:Rat)/2:=by rw[Ey z (by decide),Rat.divInt_eq_div];rfl
structure BmP.Hf (b:BmP):Prop where
 len:InD 2 50 b.len
 l:InD 2 50 b.l
 r:InD 2 50 b.r
 f1: ∀f∈b.fs,InD 2 50 f.1
 f2: ∀f∈b.fs,InD 2 128 f.2
 s1: ∀s∈b.ss,InD 2 50 s.1
 s2: ∀s∈b.ss,InD 2 50 s.2.1
 s3: ∀s∈b.ss,InD 2 128 s.2.2
 fn:b.fs.length≤10
 sn:b.ss.length≤8
theorem Ik {b:BmP} (h:b.Hf) {x:Rat} {D:Nat} (hD:0<D) (hx:InD (2*D) (100*D) x):(∀p∈b.pts x,InD (4*D) (400*D) p.1∧InD (4*D) (100000*D) p.2)∧(b.pts x).length≤18:=by
 constructor
 ·intro p hp
  unfold BmP.pts at hp
  rcases List.mem_append.1 hp with hp|hp
  ·have hp:=(List.mem_filter.1 hp).1
   have a:=(h.f1 p hp).up (by decide) (2*D) (by omega)
   have c:=(h.f2 p hp).up (by decide) (2*D) (by omega)
   rw[show 2*(2*D)=4*D by omega] at a c
   exact⟨a.mono (by omega),c.mono (by omega)⟩
  ·obtain⟨s,hs,e⟩:=List.mem_filterMap.1 hp
   have a1:=(h.s1 s hs).up (by decide) D hD
   have a2:=(h.s2 s hs).up (by decide) D hD
   have a3:=h.s3 s hs
   unfold F1 at e
   obtain⟨t,ht⟩: ∃t,t=(if x<s.2.1 then x else s.2.1):=⟨_,rfl⟩
   have tz:InD (2*D) (100*D) t:=by
    rw[ht];split
    ·exact hx
    ·exact a2.mono (by omega)
   rw[←ht] at e
   split at e
   ·cases e
    have m:=(a1.add tz).mul (InD.half 1 (show(1:Int).natAbs≤1 by decide)) (by omega) (by decide)
    have w:=a3.mul (tz.sub a1) (by decide) (by omega)
    have e1:(s.1+t)*nrm 1 2=(s.1+t)/2:=by
     rw[Pq,show((1:Int):Rat)=1 from rfl];grind
    rw[e1,show 2*D*2=4*D by omega] at m
    rw[show 2*(2*D)=4*D by omega] at w
    exact⟨m.mono (by omega),w.mono (by omega)⟩
   ·cases e
 ·have h1:=List.length_filter_le (fun f:Rat×Rat=>decide (f.1≤x)) b.fs
  have h2:=List.length_filterMap_le (F1 x) b.ss
  have h3:=h.fn
  have h4:=h.sn
  unfold BmP.pts
  rw[List.length_append];omega
end
section
def AC (t:Rat×Rat→Rat) (s0:Rat) (l:List (Rat×Rat)):Rat:=l.foldl (fun s p=>s+t p) s0
theorem BU (t:Rat×Rat→Rat) (s0:Rat) (l:List (Rat×Rat)) (p:Rat×Rat):AC t s0 (l++[p])=AC t s0 l+t p:=by
 unfold AC;rw[List.foldl_append];rfl
theorem EJ (t:Rat×Rat→Rat) (s0:Rat) (l:List (Rat×Rat)) (p:Rat×Rat):AC t s0 (p::l)=AC t (s0+t p) l:=rfl
theorem DO {t:Rat×Rat→Rat} {D M M0:Nat}: ∀(l:List (Rat×Rat)) {s0:Rat},InD D M0 s0→(∀p∈l,InD D M (t p))→InD D (M0+l.length*M) (AC t s0 l)
 |[],s0,h0,_=>by
  show InD D (M0+0*M) s0
  rw[Nat.zero_mul];exact h0
 |p::l,s0,h0,h=>by
  rw[EJ]
  have h1:=DO l (h0.add (h p (List.mem_cons_self ..))) (fun q hq=>h q (List.mem_cons_of_mem _ hq))
  have e:M0+M+l.length*M=M0+(p::l).length*M:=by rw[List.length_cons,Nat.succ_mul];omega
  rwa [e] at h1
theorem Dz {t:Rat×Rat→Rat} {D M M0:Nat} {l l1 l2:List (Rat×Rat)} {s0:Rat} (e:l=l1++l2) (h0:InD D M0 s0) (h: ∀p∈l,InD D M (t p)):InD D (M0+l.length*M) (AC t s0 l1):=by
 subst e
 refine(DO l1 h0 fun p hp=>h p (List.mem_append_left _ hp)).mono ?_
 rw[List.length_append]
 exact Nat.add_le_add_left (Nat.mul_le_mul_right _ (by omega)) _
def tW (p:Rat×Rat):Rat:=p.2
def tT (l:Rat) (p:Rat×Rat):Rat:=p.2*(p.1-l)
def tS (p:Rat×Rat):Rat:= -p.2
def tM (x:Rat) (p:Rat×Rat):Rat:= -(p.2*(x-p.1))
theorem TB (l:List (Rat×Rat)) (s:Rat):AC tW s l=s+FZ l:=by
 induction l generalizing s with
 |nil=>show s=s+0;grind
 |cons p l ih=>rw[EJ,ih];show s+p.2+FZ l=s+(p.2+FZ l);grind
theorem TG (c:Rat) (l:List (Rat×Rat)) (s:Rat):AC (tT c) s l=s+(L6 l-c*FZ l):=by
 induction l generalizing s with
 |nil=>show s=s+(0-c*0);grind
 |cons p l ih=>rw[EJ,ih];show s+p.2*(p.1-c)+(L6 l-c*FZ l)=s+((p.2*p.1+L6 l)-c*(p.2+FZ l));grind
theorem TE (l:List (Rat×Rat)) (s:Rat):AC tS s l=s-FZ l:=by
 induction l generalizing s with
 |nil=>show s=s-0;grind
 |cons p l ih=>rw[EJ,ih];show s+ -p.2-FZ l=s-(p.2+FZ l);grind
theorem TD (x:Rat) (l:List (Rat×Rat)) (s:Rat):AC (tM x) s l=s-(x*FZ l-L6 l):=by
 induction l generalizing s with
 |nil=>show s=s-(x*0-0);grind
 |cons p l ih=>rw[EJ,ih];show s+ -(p.2*(x-p.1))-(x*FZ l-L6 l)=s-(x*(p.2+FZ l)-(p.2*p.1+L6 l));grind
theorem G3 (b:BmP):b.total=AC tW 0 (b.pts b.len):=by rw[TB];unfold BmP.total;grind
theorem HJ (b:BmP):b.turn=AC (tT b.l) 0 (b.pts b.len):=by rw[TG];unfold BmP.turn;grind
theorem G2 (b:BmP) (x:Rat):b.shear x=AC tS ((if b.l≤x then b.left else 0)+(if b.r≤x then b.right else 0)) (b.pts x):=by rw[TE];rfl
theorem GP (b:BmP) (x:Rat):b.moment x=AC (tM x) ((if b.l<x then b.left*(x-b.l) else 0)+(if b.r<x then b.right*(x-b.r) else 0)) (b.pts x):=by rw[TD];rfl
theorem O1 {q:Rat} (h:InD 2 50 q):InD (2*1) (100*1) q:=h.mono (by decide)
theorem MO {b:BmP} (h:b.Hf):InD 4 (18*100000) b.total:=by
 obtain⟨h1,h2⟩:=Ik h (D:=1) (by decide) (O1 h.len)
 rw[G3]
 refine(DO (M:=100000) (b.pts b.len) (InD.zero 4) fun p hp=>(h1 p hp).2).mono ?_
 omega
theorem PN {b:BmP} (h:b.Hf):InD 16 (18*100000000) b.turn∧ ∀l1 l2,b.pts b.len=l1++l2→InD 16 (18*100000000) (AC (tT b.l) 0 l1):=by
 obtain⟨h1,h2⟩:=Ik h (D:=1) (by decide) (O1 h.len)
 have ht: ∀p∈b.pts b.len,InD 16 100000000 (tT b.l p):=fun p hp=>by
  have a:=h1 p hp
  have c:=h.l.up (by decide) 2 (by decide)
  exact(a.2.mul (a.1.sub c) (by decide) (by decide)).mono (by decide)
 constructor
 ·rw[HJ]
  exact(DO (M:=100000000) (b.pts b.len) (InD.zero 16) ht).mono (by omega)
 ·intro l1 l2 e
  exact(Dz e (InD.zero 16) ht).mono (by omega)
structure BmP.Span (b:BmP) (c:Nat):Prop where
 pos:0<c
 le:c≤50
 eq:b.r-b.l=((c:Int):Rat)/((2:Nat):Rat)
theorem FW {b:BmP} (h:b.Hf) {c:Nat} (hc:b.Span c):InD (16*c) (36*100000000) b.right:=by
 have:=(PN h).1.div (D':=2) (y:=(c:Int)) (by decide) (by decide) (by have:=hc.pos;omega) (Int.natAbs_natCast c)
 rw[←hc.eq] at this
 exact this.mono (by decide)
theorem M3 {b:BmP} (h:b.Hf) {c:Nat} (hc:b.Span c):InD (16*c) (100*100000000) b.left:=by
 have h1:=(MO h).up (by decide) (4*c) (by have:=hc.pos;omega)
 rw[show 4*(4*c)=16*c by omega] at h1
 have hle:=hc.le
 exact(h1.sub (FW h hc)).mono (by omega)
end
section
def BmP.sup (b:BmP) (x:Rat):Rat:=(if b.l≤x then b.left else 0)+(if b.r≤x then b.right else 0)
def BmP.supM (b:BmP) (x:Rat):Rat:=(if b.l<x then b.left*(x-b.l) else 0)+(if b.r<x then b.right*(x-b.r) else 0)
theorem DE {a b:Nat} (ha:0<a) (hb:0<b):0<a*b:=Nat.mul_pos ha hb
theorem Tj {b:BmP} (h:b.Hf) {c:Nat} (hc:b.Span c) (x:Rat):InD (16*c) 10000000000 (if b.l≤x then b.left else 0)∧InD (16*c) 13600000000 (b.sup x):=by
 have h1:=(M3 h hc).mono (M':=10000000000) (by decide)
 have h2:=(FW h hc).mono (M':=3600000000) (by decide)
 have a:InD (16*c) 10000000000 (if b.l≤x then b.left else 0):=by
  split
  ·exact h1
  ·exact(InD.zero _).mono (Nat.zero_le _)
 refine⟨a, ?_⟩
 unfold BmP.sup
 refine a.add (M':=3600000000) ?_
 split
 ·exact h2
 ·exact(InD.zero _).mono (Nat.zero_le _)
theorem Kv {b:BmP} (h:b.Hf) {c:Nat} (hc:b.Span c) {x:Rat} {D:Nat} (hD:0<D) (hx:InD (2*D) (100*D) x) {l1 l2:List (Rat×Rat)} (e:b.pts x=l1++l2):
  InD (16*c*D) (20000000000*D) (AC tS (b.sup x) l1):=by
 obtain⟨h1,h2⟩:=Ik h hD hx
 have hp:=hc.pos
 have hle:=hc.le
 have hs:=((Tj h hc x).2).up (by omega) D hD
 have ht: ∀p∈b.pts x,InD (16*c*D) (20000000*D) (tS p):=fun p hp'=>by
  have a:=((h1 p hp').2).up (by omega) (4*c) (by omega)
  have a2:=(InD.zero (4*D*(4*c))).sub a
  have e1:4*D*(4*c)=16*c*D:=by
   rw[Nat.mul_mul_mul_comm,Nat.mul_comm D c, ←Nat.mul_assoc]
  rw[e1] at a2
  have e2:(0:Rat)-p.2=tS p:=by unfold tS;grind
  rw[e2] at a2
  refine a2.mono ?_
  rw[Nat.zero_add,Nat.mul_right_comm]
  refine Nat.mul_le_mul_right _ ?_
  omega
 refine(Dz e hs ht).mono ?_
 have:(b.pts x).length*(20000000*D)≤18*(20000000*D):=Nat.mul_le_mul_right _ h2
 omega
theorem SM {b:BmP} (h:b.Hf) {c:Nat} (hc:b.Span c) {x:Rat} {D:Nat} (hD:0<D) (hx:InD (2*D) (100*D) x):
  InD (16*c*(2*D)) (1500000000000*D) (b.left*(x-b.l))∧InD (16*c*(2*D)) (1500000000000*D) (b.right*(x-b.r))∧InD (16*c*(2*D)) (3000000000000*D) (b.supM x)∧InD (16*c*(2*D)) (3000000000000*D) (if b.l<x then b.left*(x-b.l) else 0):=by
 have hp:=hc.pos
 have h1:=(M3 h hc).mono (M':=10000000000) (by decide)
 have h2:=(FW h hc).mono (M':=10000000000) (by decide)
 have xl:=hx.sub (h.l.up (by decide) D hD)
 have xr:=hx.sub (h.r.up (by decide) D hD)
 have a:=(h1.mul xl (by omega) (by omega)).mono (M':=1500000000000*D) (by omega)
 have c2:=(h2.mul xr (by omega) (by omega)).mono (M':=1500000000000*D) (by omega)
 have a':InD (16*c*(2*D)) (1500000000000*D) (if b.l<x then b.left*(x-b.l) else 0):=by
  split
  ·exact a
  ·exact(InD.zero _).mono (Nat.zero_le _)
 have c':InD (16*c*(2*D)) (1500000000000*D) (if b.r<x then b.right*(x-b.r) else 0):=by
  split
  ·exact c2
  ·exact(InD.zero _).mono (Nat.zero_le _)
 refine⟨a,c2, ?_,a'.mono (by omega)⟩
 unfold BmP.supM
 exact(a'.add c').mono (by omega)
theorem Lx {b:BmP} (h:b.Hf) {c:Nat} (hc:b.Span c) {x:Rat} {D:Nat} (hD:0<D) (hx:InD (2*D) (100*D) x) {l1 l2:List (Rat×Rat)} (e:b.pts x=l1++l2):
  InD (16*c*(2*D)*D) (5000000000000*(D*D)) (AC (tM x) (b.supM x) l1):=by
 obtain⟨h1,h2⟩:=Ik h hD hx
 have hp:=hc.pos
 have hle:=hc.le
 have hs:=((SM h hc hD hx).2.2.1).up (DE (by omega) (by omega)) D hD
 have ht: ∀p∈b.pts x,InD (16*c*(2*D)*D) (6000000000*(D*D)) (tM x p):=fun p hp'=>by
  obtain⟨p1,p2⟩:=h1 p hp'
  have x4:=hx.up (by omega) 2 (by decide)
  rw[show 2*D*2=4*D by omega] at x4
  have m:=p2.mul (x4.sub p1) (by omega) (by omega)
  have m2:=(InD.zero _).sub (m.up (DE (by omega) (by omega)) (2*c) (by omega))
  have e1:4*D*(4*D)*(2*c)=16*c*(2*D)*D:=by
   rw[show 4*D*(4*D)*(2*c)=32*(c*(D*D)) by
    rw[Nat.mul_mul_mul_comm 4 D 4 D,Nat.mul_mul_mul_comm (4*4) (D*D) 2 c,Nat.mul_comm (D*D) c]]
   rw[Nat.mul_mul_mul_comm 16 c 2 D,Nat.mul_assoc (16*2) (c*D) D,Nat.mul_assoc c D D]
  rw[e1] at m2
  have e2:(0:Rat)-p.2*(x-p.1)=tM x p:=by unfold tM;grind
  rw[e2] at m2
  refine m2.mono ?_
  rw[Nat.zero_add]
  have e3:100000*D*(100*D*2+400*D)=60000000*(D*D):=by
   rw[show 100*D*2+400*D=600*D by omega,Nat.mul_mul_mul_comm]
  rw[e3]
  calc 60000000*(D*D)*(2*c)≤60000000*(D*D)*100:=Nat.mul_le_mul_left _ (by omega)
   _=6000000000*(D*D):=by omega
 refine(Dz e hs ht).mono ?_
 have q:(b.pts x).length*(6000000000*(D*D))≤18*(6000000000*(D*D)):=Nat.mul_le_mul_right _ h2
 rw[Nat.mul_assoc 3000000000000 D D]
 omega
end
section
set_option maxRecDepth 10000
structure TR (s:Rat×Rat×Rat):Prop where
 a:Sz2 s.1 s.2.1
 b:Sz2 (s.1+s.2.1) 2
 c:Sz2 s.2.1 s.1
 d:Sz2 s.2.2 (s.2.1-s.1)
def Dd (x:Rat) (s:Rat×Rat×Rat):Rat:=if x<s.2.1 then x else s.2.1
structure Lu (b:BmP) (x:Rat):Prop where
 f: ∀f∈b.fs,Sz2 f.1 x
 s: ∀s∈b.ss,Sz2 s.2.1 x
 m: ∀s∈b.ss,TR (s.1,Dd x s,s.2.2)
 c: ∀s∈b.ss,Sz2 s.1 (Dd x s)
theorem Kp (x:Rat) (s:Rat×Rat×Rat):F1 x s=if s.1<Dd x s then some ((s.1+Dd x s)/2,s.2.2*(Dd x s-s.1)) else none:=rfl
structure RcZ (b:BmP):Prop where
 z:Lu b b.len
 lf:b.fs.length≤1000
 ls:b.ss.length≤1000
 w: ∀l1 pt l2,b.pts b.len=l1++pt::l2→Sz2 (AC tW 0 l1) pt.2
 t: ∀l1 pt l2,b.pts b.len=l1++pt::l2→Sz2 pt.1 b.l∧Sz2 pt.2 (pt.1-b.l)∧Sz2 (AC (tT b.l) 0 l1) (pt.2*(pt.1-b.l))
 d1:Sz2 b.r b.l
 d2:Sz2 b.turn (b.r-b.l)
 nz:(b.r-b.l).num≠0
 s:Sz2 b.total b.right
def BmP.supS (b:BmP) (x:Rat):Nat→Rat
 |0=>0
 |1=>if b.l≤x then b.left else 0
 |_=>b.sup x
def BmP.supT (b:BmP) (x:Rat):Nat→Rat
 |0=>0
 |1=>if b.l<x then b.left*(x-b.l) else 0
 |_=>b.supM x
structure ShZ (b:BmP) (x:Rat):Prop where
 rc:RcZ b
 z:Lu b x
 c1:Sz2 b.l x
 c2:Sz2 b.r x
 a1:Sz2 0 b.left
 a2:Sz2 (if b.l≤x then b.left else 0) b.right
 t: ∀l1 pt l2,b.pts x=l1++pt::l2→Sz2 (AC tS (b.sup x) l1) pt.2
structure MoZ (b:BmP) (x:Rat):Prop where
 rc:RcZ b
 z:Lu b x
 c1:Sz2 b.l x
 c2:Sz2 b.r x
 s1:Sz2 x b.l
 s2:Sz2 x b.r
 m1:Sz2 b.left (x-b.l)
 m2:Sz2 b.right (x-b.r)
 a1:Sz2 0 (b.left*(x-b.l))
 a2:Sz2 (if b.l<x then b.left*(x-b.l) else 0) (b.right*(x-b.r))
 t: ∀l1 pt l2,b.pts x=l1++pt::l2→Sz2 x pt.1∧Sz2 pt.2 (x-pt.1)∧Sz2 (AC (tM x) (b.supM x) l1) (pt.2*(x-pt.1))
structure BnQ (q:Rat):Prop where
 n:q.num.natAbs<10^12
 d:q.den≤12
theorem BnQ.sz {q:Rat} (h:BnQ q):szQ q 12:=⟨h.n,Nat.lt_of_le_of_lt h.d (by decide)⟩
theorem BnQ.z2 {p q:Rat} (h:BnQ p) (h':BnQ q):Sz2 p q:=sz2 h.sz h'.sz (by decide)
theorem bn0:BnQ 0:=⟨by decide,by decide⟩
structure BmC (b:BmP):Prop where
 lies:b.Lies
 len:BnQ b.len
 l:BnQ b.l
 r:BnQ b.r
 f: ∀f∈b.fs,BnQ f.1∧BnQ f.2
 s: ∀s∈b.ss,BnQ s.1∧BnQ s.2.1∧BnQ s.2.2
 lf:b.fs.length≤64
 ls:b.ss.length≤64
structure PlQ (b:BmP) (x:Rat):Prop where
 z:szQ x 56
 h0:0≤x
 h1:x≤b.len
theorem InD.z40 {D M:Nat} {q:Rat} (h:InD D M q) (hD:0<D) (h1:D<10^40) (h2:M<10^40):szQ q 40:=h.sz hD h2 h1
theorem InD.bn {D M:Nat} {q:Rat} (h:InD D M q) (hD:0<D) (h1:D≤12) (h2:M<10^12):BnQ q:=by
 obtain⟨z,rfl,hz⟩:=h
 have e:nrm z (D:Int)=(z:Rat)/(D:Rat):=by
  rw[Ey z (by omega),Rat.divInt_eq_div];rfl
 rw[←e]
 have h0:((D:Nat):Int).natAbs≠0:=by omega
 unfold nrm
 rw[if_neg (by omega),mkRat,dif_neg h0,Rat.normalize_eq]
 constructor
 ·show(z/_).natAbs<_
  exact Nat.lt_of_le_of_lt (Nat.le_trans (Int.natAbs_ediv_le_natAbs ..) hz) h2
 ·exact Nat.le_trans (Nat.div_le_self ..) (by omega)
theorem Te:szQ (2:Rat) 1:=⟨by decide,by decide⟩
theorem Rl {b:BmP} (h:b.Hf):szQ b.len 40∧szQ b.l 40∧szQ b.r 40∧(∀f∈b.fs,szQ f.1 40∧szQ f.2 40)∧(∀s∈b.ss,szQ s.1 40∧szQ s.2.1 40∧szQ s.2.2 40):=by
 refine⟨h.len.z40 (by decide) (by decide) (by decide),h.l.z40 (by decide) (by decide) (by decide),h.r.z40 (by decide) (by decide) (by decide),fun f hf=>⟨(h.f1 f hf).z40 (by decide) (by decide) (by decide),(h.f2 f hf).z40 (by decide) (by decide) (by decide)⟩,fun s hs=>⟨(h.s1 s hs).z40 (by decide) (by decide) (by decide),(h.s2 s hs).z40 (by decide) (by decide) (by decide),(h.s3 s hs).z40 (by decide) (by decide) (by decide)⟩⟩
theorem Kg {b:BmP} (h:b.Hf) {x:Rat} (hx:szQ x 40):Lu b x:=by
 obtain⟨_,_,_,hf,hs⟩:=Rl h
 have hc: ∀s∈b.ss,szQ (Dd x s) 40:=fun s hm=>by
  unfold Dd;split
  ·exact hx
  ·exact(hs s hm).2.1
 refine⟨fun f hm=>sz2 (hf f hm).1 hx (by decide),fun s hm=>sz2 (hs s hm).2.1 hx (by decide),fun s hm=> ?_,fun s hm=>sz2 (hs s hm).1 (hc s hm) (by decide)⟩
 have a:=(hs s hm).1
 have c:=hc s hm
 exact⟨sz2 a c (by decide),sz2 (a.add c) Te (by decide),sz2 c a (by decide),sz2 (hs s hm).2.2 (c.sub a) (by decide)⟩
theorem SI {b:BmP} (h:b.Hf):InD (2*1) (100*1) b.len:=O1 h.len
theorem OC {b:BmP} (h:b.Hf) (hL:b.Lies) {c:Nat} (hc:b.Span c):RcZ b:=by
 obtain⟨zlen,zl,zr,hf,hs⟩:=Rl h
 obtain⟨hp,hn⟩:=Ik h (D:=1) (by decide) (SI h)
 have hc1:=hc.pos
 have hc2:=hc.le
 have hlf:=h.fn
 have hls:=h.sn
 have p1: ∀p∈b.pts b.len,szQ p.1 40∧szQ p.2 40:=fun p hm=>⟨(hp p hm).1.z40 (by decide) (by decide) (by decide),(hp p hm).2.z40 (by decide) (by decide) (by decide)⟩
 have tu:=PN h
 have zt:szQ b.total 40:=(MO h).z40 (by decide) (by decide) (by decide)
 have zr2:szQ b.right 40:=(FW h hc).z40 (by omega) (Nat.lt_of_le_of_lt (show 16*c≤800 by omega) (by decide)) (by decide)
 have hmem: ∀ {l1 pt l2},b.pts b.len=l1++pt::l2→pt∈b.pts b.len:=fun e=>by rw[e];exact List.mem_append_right _ (List.mem_cons_self ..)
 refine⟨Kg h zlen,by omega,by omega,fun l1 pt l2 e=> ?_,fun l1 pt l2 e=> ?_,sz2 zr zl (by decide),sz2 (tu.1.z40 (by decide) (by decide) (by decide)) (zr.sub zl) (by decide),Mv (by have:=hL.lr;grind),sz2 zt zr2 (by decide)⟩
 ·have ha:InD 4 (18*100000) (AC tW 0 l1):=(Dz (M:=100000) e (InD.zero 4) fun p hm=>(hp p hm).2).mono (by omega)
  exact sz2 (ha.z40 (by decide) (by decide) (by decide)) (p1 pt (hmem e)).2 (by decide)
 ·obtain⟨z1,z2⟩:=p1 pt (hmem e)
  have zd:=z1.sub zl
  exact⟨sz2 z1 zl (by decide),sz2 z2 zd (by decide),sz2 ((tu.2 l1 _ e).z40 (by decide) (by decide) (by decide)) (z2.mul zd) (by decide)⟩
abbrev IF:Nat:=1000000
theorem TL {c D:Nat} (hc:c≤50) (hD:D≤IF):16*c*D≤800*IF:=Nat.mul_le_mul (by omega) hD
theorem TK {c D:Nat} (hc:c≤50) (hD:D≤IF):16*c*(2*D)≤800*(2*IF):=Nat.mul_le_mul (by omega) (Nat.mul_le_mul_left _ hD)
theorem QI {x:Rat} {D:Nat} (h0:0<D) (hD:D≤IF) (hx:InD (2*D) (100*D) x):szQ x 40:=
 hx.z40 (by omega) (Nat.lt_of_le_of_lt (Nat.mul_le_mul_left 2 hD) (by decide)) (Nat.lt_of_le_of_lt (Nat.mul_le_mul_left 100 hD) (by decide))
theorem P0 {b:BmP} (h:b.Hf) {x:Rat} {D:Nat} (h0:0<D) (hD:D≤IF) (hx:InD (2*D) (100*D) x): ∀p∈b.pts x,szQ p.1 40∧szQ p.2 40:=fun p hm=>by
 obtain⟨hp,_⟩:=Ik h h0 hx
 have a:4*D<10^40:=Nat.lt_of_le_of_lt (Nat.mul_le_mul_left 4 hD) (by decide)
 exact⟨(hp p hm).1.z40 (by omega) a (Nat.lt_of_le_of_lt (Nat.mul_le_mul_left 400 hD) (by decide)),(hp p hm).2.z40 (by omega) a (Nat.lt_of_le_of_lt (Nat.mul_le_mul_left 100000 hD) (by decide))⟩
theorem Nk {b:BmP} (h:b.Hf) {c:Nat} (hc:b.Span c):szQ b.left 40∧szQ b.right 40:=by
 have hc1:=hc.pos
 have hc2:=hc.le
 have a:16*c<10^40:=Nat.lt_of_le_of_lt (show 16*c≤800 by omega) (by decide)
 exact⟨(M3 h hc).z40 (by omega) a (by decide),(FW h hc).z40 (by omega) a (by decide)⟩
theorem NP:szQ (0:Rat) 1:=⟨by decide,by decide⟩
theorem Tk {b:BmP} (h:b.Hf) (hL:b.Lies) {c:Nat} (hc:b.Span c) {x:Rat} {D:Nat} (h0:0<D) (hD:D≤IF) (hx:InD (2*D) (100*D) x):ShZ b x:=by
 obtain⟨zlen,zl,zr,_,_⟩:=Rl h
 obtain⟨e1,e2⟩:=Nk h hc
 have zx:=QI h0 hD hx
 have hc1:=hc.pos
 have hc2:=hc.le
 have a2:szQ (if b.l≤x then b.left else 0) 40:=by
  split
  ·exact e1
  ·exact NP.mono (by decide)
 refine⟨OC h hL hc,Kg h zx,sz2 zl zx (by decide),sz2 zr zx (by decide),sz2 NP e1 (by decide),sz2 a2 e2 (by decide),fun l1 pt l2 e=> ?_⟩
 have zs:szQ (AC tS (b.sup x) l1) 40:=(Kv h hc h0 hx e).z40 (DE (by omega) h0) (Nat.lt_of_le_of_lt (TL hc2 hD) (by decide)) (Nat.lt_of_le_of_lt (Nat.mul_le_mul_left _ hD) (by decide))
 exact sz2 zs (P0 h h0 hD hx pt (by rw[e];exact List.mem_append_right _ (List.mem_cons_self ..))).2 (by decide)
theorem T4 {b:BmP} (h:b.Hf) (hL:b.Lies) {c:Nat} (hc:b.Span c) {x:Rat} {D:Nat} (h0:0<D) (hD:D≤IF) (hx:InD (2*D) (100*D) x):MoZ b x:=by
 obtain⟨zlen,zl,zr,_,_⟩:=Rl h
 obtain⟨e1,e2⟩:=Nk h hc
 have zx:=QI h0 hD hx
 have hc1:=hc.pos
 have hc2:=hc.le
 have m1:=e1.mul (zx.sub zl)
 have m2:=e2.mul (zx.sub zr)
 have a2:szQ (if b.l<x then b.left*(x-b.l) else 0) (40+(40+40+1)):=by
  split
  ·exact m1
  ·exact NP.mono (by decide)
 refine⟨OC h hL hc,Kg h zx,sz2 zl zx (by decide),sz2 zr zx (by decide),sz2 zx zl (by decide),sz2 zx zr (by decide),sz2 e1 (zx.sub zl) (by decide),sz2 e2 (zx.sub zr) (by decide),sz2 NP m1 (by decide),sz2 a2 m2 (by decide),fun l1 pt l2 e=> ?_⟩
 obtain⟨z1,z2⟩:=P0 h h0 hD hx pt (by rw[e];exact List.mem_append_right _ (List.mem_cons_self ..))
 have zs:szQ (AC (tM x) (b.supM x) l1) 40:=(Lx h hc h0 hx e).z40 (DE (DE (by omega) (by omega)) h0) (Nat.lt_of_le_of_lt (Nat.mul_le_mul (TK hc2 hD) hD) (by decide)) (Nat.lt_of_le_of_lt (Nat.mul_le_mul_left _ (Nat.mul_le_mul hD hD)) (by decide))
 exact⟨sz2 zx z1 (by decide),sz2 z2 (zx.sub z1) (by decide),sz2 zs (z2.mul (zx.sub z1)) (by decide)⟩
theorem Qe {b:BmP} (h:b.Hf) (hL:b.Lies):BmC b:=by
 have hlf:=h.fn
 have hls:=h.sn
 exact⟨hL,h.len.bn (by decide) (by decide) (by decide),h.l.bn (by decide) (by decide) (by decide),h.r.bn (by decide) (by decide) (by decide),
  fun f hf=>⟨(h.f1 f hf).bn (by decide) (by decide) (by decide),(h.f2 f hf).bn (by decide) (by decide) (by decide)⟩,
  fun s hs=>⟨(h.s1 s hs).bn (by decide) (by decide) (by decide),(h.s2 s hs).bn (by decide) (by decide) (by decide),(h.s3 s hs).bn (by decide) (by decide) (by decide)⟩,by omega,by omega⟩
end
section
open Go Go.RowKit Go.Am Go.Lib
set_option maxRecDepth 10000
-- BOXES 4
abbrev ptW (p:Rat×Rat):Value:= .agg #[str (Ac p.1),str (Ac p.2)]
abbrev spV (s:Rat×Rat×Rat):Value:= .agg #[str (Ac s.1),str (Ac s.2.1),str (Ac s.2.2)]
abbrev BC (c:Nat) (s:Rat):Bx:=⟨c,22,[str (Ac s)],true,none⟩
abbrev CW (s:Rat):Obj:= .cells [str (Ac s)].toArray 22 (0,0)
theorem TO:Ac 2=[50]:=(congrArg Ac (show(2:Rat)=q2 2 1 by decide+kernel)).trans ns2
theorem Ao.keep {W W':World} {b off g:Nat} {c:List Value} (h:Ao W b off c) (hne:b≠g) (hk:E8 W W' g):Ao W' b off c:=by
 refine⟨Nat.lt_of_lt_of_le h.lt hk.size,fun j u hu=> ?_⟩
 have h2:=h.get j u hu
 have e:=hk.at_ b hne h.lt
 unfold World.cell? at h2⊢
 simp only at h2⊢
 rw[e]
 exact h2
theorem M7 (s:Rat×Rat×Rat) (h:TR s) (W:World) (hv:Br W) (ht:AB W):
  Ad Tryz.prog 162 #[spV s] W (fun _:Unit=>ptW ((s.1+s.2.1)/2,s.2.2*(s.2.1-s.1))) (fun _=>True) (fun _=>[]):=by
 refine Ab (args:=[spV s]) Tryz.func162 I I I ?_
 refine zA (zB ?_)
 (refine Az rfl rfl rfl rfl ?_;intro)
 (refine Ae Tryz.hZ rfl rfl rfl rfl ?_;intro)
 refine Aa (zE (zA (zU (qP I (qB 0 I I I (qP I (qB 0 I I I (qC I I (fun W hp=>Cg s.1 s.2.1 h.a W (hv.hp hp) (ht.hp hp)) (qC I I (fun W hp=>(by have:=GW (s.1+s.2.1) 2 h.b (by decide) W (hv.hp hp) (ht.hp hp);rwa [TO] at this)) (qP I (qB 0 I I I (qP I (qB 0 I I I ?_)))))))))))))
 refine qP I (qB 0 I I I (qC I I (fun W hp=>Ci s.2.1 s.1 h.c W (hv.hp hp) (ht.hp hp)) (qC I I (fun W hp=>Eg s.2.2 (s.2.1-s.1) h.d W (hv.hp hp) (ht.hp hp)) ?_)))
 refine QA Tryz.hZ tH I I I I I I I I ?_
 exact AM (wS 1 I I I (Aa (zE (zO (AE tH I (.cell 1 I I I I I) () I O fun W _=>A0.nil _ _)))))
abbrev Kt (ef:Nat) (args:List Value) (c:Nat) (W:World) (s':Rat):Prop:=
 Calls Tryz.prog ef args.toArray W fun e W'=> ∃x:Unit,e= .returned ((fun _=> .tuple #[]) x)∧(fun _:Unit=>True) x∧II W W' c ((fun _=>c) x) ((fun _=>CW s') x)
theorem Gc {ef:Nat} {args:List Value} {c:Nat} {W:World} {s s':Rat} (hc:W.heap[c]? =some (CW s))
  (h:Calls Tryz.prog ef args.toArray W fun e W'=> ∃x:Unit,e= .returned ((fun _=> .tuple #[]) x)∧(fun _:Unit=>True) x∧Below (Bg W).heap.size (Bg W) W'∧A0 (Bg W) W' ((fun _=>[Ba (Av W c),BC c s']) x)):Kt ef args c W s':=by
 refine h.mono ?_
 rintro e W' ⟨x,he,_,hb,hn⟩
 exact⟨x,he,O,Fz hc I hb hn⟩
theorem EM {W W':World} {c:Nat} {s0 s:Rat} {bxs:List Bx} (hc:W.heap[c]? =some (CW s0)) (hp:Hp (Bg W) (Ba (Av W c)::BC c s::bxs) W'):E8 W W' c:=
 Hk hc ⟨_,List.mem_cons_self ..⟩ (hp.pick (l:=[Ba (Av W c),BC c s]) [0,1] (by decide) rfl)
theorem LD (c:Nat) (s:Rat) (p:Rat×Rat) (W:World) (hz:Sz2 s p.2) (hc:W.heap[c]? =some (CW s)) (hf: ∀W',E8 W W' c→Br W'∧AB W'):
  Kt 111 [ptW p,Al c] c W (s+tW p):=by
 refine Gc hc ?_
 refine Bm (X:=Unit) (val:=fun _=> .tuple #[]) (Φ:=fun _=>True) (nb:=fun _=>[Ba (Av W c),BC c (s+tW p)]) (Hp.enterT (B:=BC c s) I hc) Tryz.func111 I I I ?_
 refine zA (zB ?_)
 (refine Az rfl rfl rfl rfl ?_;intro)
 refine Aa (zE (zB (wB 1 I I I (wP I (wB 2 I I I ?_)))))
 refine wC I I (fun W1 hp=>(by
   obtain⟨hv,ht⟩:=hf W1 (EM hc hp)
   exact Cg s p.2 hz W1 hv ht)) ?_
 exact wS 1 I I I (Aa (Da (X:=Unit) (val:=fun _=> .tuple #[]) (Φ:=fun _=>True) (nb:=fun _=>[Ba (Av W c),BC c (s+tW p)]) (fn:=Tryz.f111) tH I () I O fun W1 hp=>(hp.pick (l:=[Ba (Av W c),BC c (s+tW p)]) [0,1] (by decide) I).own))
theorem Mo (c:Nat) (s:Rat) (p:Rat×Rat) (W:World) (hz:Sz2 s p.2) (hc:W.heap[c]? =some (CW s)) (hf: ∀W',E8 W W' c→Br W'∧AB W'):
  Kt 107 [ptW p,Al c] c W (s+tS p):=by
 have e:s+tS p=s-p.2:=by unfold tS;grind
 rw[e]
 refine Gc hc ?_
 refine Bm (X:=Unit) (val:=fun _=> .tuple #[]) (Φ:=fun _=>True) (nb:=fun _=>[Ba (Av W c),BC c (s-p.2)]) (Hp.enterT (B:=BC c s) I hc) Tryz.func107 I I I ?_
 refine zA (zB ?_)
 (refine Az rfl rfl rfl rfl ?_;intro)
 refine Aa (zE (zB (wB 1 I I I (wP I (wB 2 I I I ?_)))))
 refine wC I I (fun W1 hp=>(by
   obtain⟨hv,ht⟩:=hf W1 (EM hc hp)
   exact Ci s p.2 hz W1 hv ht)) ?_
 exact wS 1 I I I (Aa (Da (X:=Unit) (val:=fun _=> .tuple #[]) (Φ:=fun _=>True) (nb:=fun _=>[Ba (Av W c),BC c (s-p.2)]) (fn:=Tryz.f107) tH I () I O fun W1 hp=>(hp.pick (l:=[Ba (Av W c),BC c (s-p.2)]) [0,1] (by decide) I).own))
theorem If (c bb:Nat) (x l:Rat) (cs:List Value) (s:Rat) (p:Rat×Rat) (W:World) (h1:Sz2 p.1 l) (h2:Sz2 p.2 (p.1-l)) (h3:Sz2 s (p.2*(p.1-l))) (hc:W.heap[c]? =some (CW s)) (hf: ∀W',E8 W W' c→Ao W' bb 0 (str (Ac x)::str (Ac l)::cs)∧Br W'∧AB W'):
  Kt 89 [ptW p,Al c,Al bb] c W (s+tT l p):=by
 refine Gc hc ?_
 refine Bm (X:=Unit) (val:=fun _=> .tuple #[]) (Φ:=fun _=>True) (nb:=fun _=>[Ba (Av W c),BC c (s+tT l p)]) (Hp.enterT (B:=BC c s) I hc) Tryz.func89 I I I ?_
 refine zA (zB ?_)
 (refine Az rfl rfl rfl rfl ?_;intro)
 refine Aa (zE (zU (qB 1 I I I (qP I (qB 2 I I I (qP I (qB 2 I I I (qP I (qL 1 I I (fun W1 hp=>(hf W1 (EM hc hp)).1) I ?_)))))))))
 refine qC I I (fun W1 hp=>(by
   obtain⟨_,hv,ht⟩:=hf W1 (EM hc hp)
   exact Ci p.1 l h1 W1 hv ht)) ?_
 refine qC I I (fun W1 hp=>(by
   obtain⟨_,hv,ht⟩:=hf W1 (EM hc hp)
   exact Eg p.2 (p.1-l) h2 W1 hv ht)) ?_
 refine qC I I (fun W1 hp=>(by
   obtain⟨_,hv,ht⟩:=hf W1 (EM hc hp)
   exact Cg s (p.2*(p.1-l)) h3 W1 hv ht)) ?_
 exact AM (wS 1 I I I (Aa (Da (X:=Unit) (val:=fun _=> .tuple #[]) (Φ:=fun _=>True) (nb:=fun _=>[Ba (Av W c),BC c (s+tT l p)]) (fn:=Tryz.f89) tH I () I O fun W1 hp=>(hp.pick (l:=[Ba (Av W c),BC c (s+tT l p)]) [0,1] (by decide) I).own)))
theorem KG (c ba:Nat) (x:Rat) (s:Rat) (p:Rat×Rat) (W:World) (h1:Sz2 x p.1) (h2:Sz2 p.2 (x-p.1)) (h3:Sz2 s (p.2*(x-p.1))) (hc:W.heap[c]? =some (CW s)) (hf: ∀W',E8 W W' c→Ao W' ba 0 [str (Ac x)]∧Br W'∧AB W'):
  Kt 110 [ptW p,Al c,Al ba] c W (s+tM x p):=by
 have e:s+tM x p=s-p.2*(x-p.1):=by unfold tM;grind
 rw[e]
 refine Gc hc ?_
 refine Bm (X:=Unit) (val:=fun _=> .tuple #[]) (Φ:=fun _=>True) (nb:=fun _=>[Ba (Av W c),BC c (s-p.2*(x-p.1))]) (Hp.enterT (B:=BC c s) I hc) Tryz.func110 I I I ?_
 refine zA (zB ?_)
 (refine Az rfl rfl rfl rfl ?_;intro)
 refine Aa (zE (zU (qB 1 I I I (qP I (qB 2 I I I (qL 0 I I (fun W1 hp=>(hf W1 (EM hc hp)).1) I (qP I (qB 2 I I I ?_))))))))
 refine qC I I (fun W1 hp=>(by
   obtain⟨_,hv,ht⟩:=hf W1 (EM hc hp)
   exact Ci x p.1 h1 W1 hv ht)) ?_
 refine qC I I (fun W1 hp=>(by
   obtain⟨_,hv,ht⟩:=hf W1 (EM hc hp)
   exact Eg p.2 (x-p.1) h2 W1 hv ht)) ?_
 refine qC I I (fun W1 hp=>(by
   obtain⟨_,hv,ht⟩:=hf W1 (EM hc hp)
   exact Ci s (p.2*(x-p.1)) h3 W1 hv ht)) ?_
 exact AM (wS 1 I I I (Aa (Da (X:=Unit) (val:=fun _=> .tuple #[]) (Φ:=fun _=>True) (nb:=fun _=>[Ba (Av W c),BC c (s-p.2*(x-p.1))]) (fn:=Tryz.f110) tH I () I O fun W1 hp=>(hp.pick (l:=[Ba (Av W c),BC c (s-p.2*(x-p.1))]) [0,1] (by decide) I).own)))
structure QU (ef:Nat) (capt:List Value) (F:World→Prop) (t:Rat×Rat→Rat) (Ok:Rat→Rat×Rat→Prop) (c:Nat):Prop where
 ent:Bz Tryz.prog ef=true
 run: ∀(s:Rat) (p:Rat×Rat) (W:World),Ok s p→W.heap[c]? =some (CW s)→(∀W',E8 W W' c→F W')→Kt ef (ptW p::capt) c W (s+t p)
theorem Od (c:Nat):QU 111 [Al c] (fun W=>Br W∧AB W) tW (fun s p=>Sz2 s p.2) c:=⟨by kernel_rfl,fun s p W h hc hf=>LD c s p W h hc hf⟩
theorem NY (c:Nat):QU 107 [Al c] (fun W=>Br W∧AB W) tS (fun s p=>Sz2 s p.2) c:=⟨by kernel_rfl,fun s p W h hc hf=>Mo c s p W h hc hf⟩
theorem Qa (c bb:Nat) (x l:Rat) (cs:List Value):QU 89 [Al c,Al bb] (fun W=>Ao W bb 0 (str (Ac x)::str (Ac l)::cs)∧Br W∧AB W) (tT l) (fun s p=>Sz2 p.1 l∧Sz2 p.2 (p.1-l)∧Sz2 s (p.2*(p.1-l))) c:=⟨by kernel_rfl,fun s p W h hc hf=>If c bb x l cs s p W h.1 h.2.1 h.2.2 hc hf⟩
theorem Nj (c ba:Nat) (x:Rat):QU 110 [Al c,Al ba] (fun W=>Ao W ba 0 [str (Ac x)]∧Br W∧AB W) (tM x) (fun s p=>Sz2 x p.1∧Sz2 p.2 (x-p.1)∧Sz2 s (p.2*(x-p.1))) c:=⟨by kernel_rfl,fun s p W h hc hf=>KG c ba x s p W h.1 h.2.1 h.2.2 hc hf⟩
-- BOXES 4
def Qf (W:World) (p:Option Addr) (l:List (Rat×Rat)):Prop:=l=[]∨ ∃b off,p=some ⟨b,off,none⟩∧ ∀i (hi:i<l.length),Ao W b (off+i*2) [str (Ac l[i].1),str (Ac l[i].2)]
def Qu (W:World) (p:Option Addr) (l:List (Rat×Rat×Rat)):Prop:=l=[]∨ ∃b off,p=some ⟨b,off,none⟩∧ ∀i (hi:i<l.length),Ao W b (off+i*3) [str (Ac l[i].1),str (Ac l[i].2.1),str (Ac l[i].2.2)]
theorem Qf.below {W W':World} {p:Option Addr} {l:List (Rat×Rat)} {n:Nat} (h:Qf W p l) (hn:W.heap.size≤n) (hb:Below n W W'):Qf W' p l:=by
 rcases h with h|⟨b,off,h1,h2⟩
 ·exact .inl h
 ·exact .inr ⟨b,off,h1,fun i hi=>(h2 i hi).below hn hb⟩
theorem Qu.below {W W':World} {p:Option Addr} {l:List (Rat×Rat×Rat)} {n:Nat} (h:Qu W p l) (hn:W.heap.size≤n) (hb:Below n W W'):Qu W' p l:=by
 rcases h with h|⟨b,off,h1,h2⟩
 ·exact .inl h
 ·exact .inr ⟨b,off,h1,fun i hi=>(h2 i hi).below hn hb⟩
abbrev bmV (b:BmP) (p:Option Addr) (m:Nat) (q:Option Addr) (n:Nat):Value:= .agg #[str (Ac b.len),str (Ac b.l),str (Ac b.r), .slice p b.fs.length m, .slice q b.ss.length n]
structure BmM (W:World) (b:BmP) (p q:Option Addr):Prop where
 f:Qf W p b.fs
 s:Qu W q b.ss
 v:Br W
 t:AB W
theorem BmM.below {W W':World} {b:BmP} {p q:Option Addr} (h:BmM W b p q) (hb:Below W.heap.size W W'):BmM W' b p q:=
 ⟨h.f.below (Nat.le_refl _) hb,h.s.below (Nat.le_refl _) hb,h.v.below hb,h.t.below hb⟩
theorem BmM.hp {W0 W:World} {bxs:List Bx} {b:BmP} {p q:Option Addr} (h:BmM W0 b p q) (hp:Hp W0 bxs W):BmM W b p q:=h.below hp.below
def Be (b:BmP) (x:Rat) (i:Nat):List (Rat×Rat):=(b.fs.take i).filter (fun f=>decide (f.1≤x))
def CD (b:BmP) (x:Rat) (j:Nat):List (Rat×Rat):=(b.ss.take j).filterMap (F1 x)
theorem EY {b:BmP} {x:Rat} {i:Nat} (hi:i<b.fs.length):Be b x (i+1)=Be b x i++(if b.fs[i].1≤x then[b.fs[i]] else[]):=by
 unfold Be
 rw[List.take_add_one,List.getElem?_eq_getElem hi,List.filter_append]
 congr 1
 by_cases h:b.fs[i].1≤x
 ·rw[if_pos h];simp[h]
 ·rw[if_neg h];simp[h]
theorem EH {b:BmP} {x:Rat} {i:Nat} (hi:i<b.ss.length):CD b x (i+1)=CD b x i++(F1 x b.ss[i]).toList:=by
 unfold CD
 rw[List.take_add_one,List.getElem?_eq_getElem hi,List.filterMap_append]
 congr 1
theorem FS (b:BmP) (x:Rat):Be b x b.fs.length++CD b x b.ss.length=b.pts x:=by
 unfold Be CD BmP.pts
 rw[List.take_length,List.take_length]
theorem Eb {b:BmP} {x:Rat} {i:Nat} (hi:i<b.fs.length) (h:b.fs[i].1≤x):b.pts x=Be b x i++b.fs[i]::((b.fs.drop (i+1)).filter (fun f=>decide (f.1≤x))++b.ss.filterMap (F1 x)):=by
 have e:b.fs.filter (fun f=>decide (f.1≤x))=Be b x i++b.fs[i]::(b.fs.drop (i+1)).filter (fun f=>decide (f.1≤x)):=by
  conv=>lhs;rw[←List.take_append_drop i b.fs,List.drop_eq_getElem_cons hi,List.filter_append]
  congr 1
  rw[List.filter_cons_of_pos (by simpa using h)]
 unfold BmP.pts
 rw[e,List.append_assoc]
 rfl
theorem Eh {b:BmP} {x:Rat} {j:Nat} {pt:Rat×Rat} (hj:j<b.ss.length) (h:F1 x b.ss[j]=some pt):b.pts x=(Be b x b.fs.length++CD b x j)++pt::(b.ss.drop (j+1)).filterMap (F1 x):=by
 have e:b.ss.filterMap (F1 x)=CD b x j++pt::(b.ss.drop (j+1)).filterMap (F1 x):=by
  conv=>lhs;rw[←List.take_append_drop j b.ss,List.drop_eq_getElem_cons hj,List.filterMap_append]
  congr 1
  rw[List.filterMap_cons_some h]
 unfold BmP.pts
 rw[e, ←List.append_assoc]
 unfold Be
 rw[List.take_length]
theorem Fk {ef:Nat} {capt:List Value} {F:World→Prop} {t:Rat×Rat→Rat} {Ok:Rat→Rat×Rat→Prop} {c:Nat} (he:QU ef capt F t Ok c) (b:BmP) (x:Rat) (p q:Option Addr) (m n:Nat) (s0:Rat) (W:World)
  (hc:W.heap[c]? =some (CW s0)) (hf: ∀W',E8 W W' c→F W'∧BmM W' b p q) (hz:Lu b x) (hlf:b.fs.length≤1000) (hls:b.ss.length≤1000) (hok: ∀l1 pt l2,b.pts x=l1++pt::l2→Ok (AC t s0 l1) pt):
  Kt 88 [bmV b p m q n,str (Ac x), .func (.func ef) #[] capt.toArray] c W (AC t s0 (b.pts x)):=by
 refine Gc hc ?_
 refine Bm (X:=Unit) (val:=fun _=> .tuple #[]) (Φ:=fun _=>True) (nb:=fun _=>[Ba (Av W c),BC c (AC t s0 (b.pts x))]) (Hp.enterT (B:=BC c s0) I hc) Tryz.func88 I I I ?_
 refine zA (zB ?_)
 (refine Az rfl rfl rfl rfl ?_;intro)
 refine Aa ?_
 rename_i b3
 refine zE (zA (zA (zB (wP I (wB 2 I I I (wP I (wP I (Aa (zE (zH ?_))))))))))
 have hM: ∀ {s:Rat} {bxs:List Bx} {W1:World},Hp (Bg W) (Ba (Av W c)::BC c s::bxs) W1→BmM W1 b p q:=fun hp=>(hf _ (EM hc hp)).2
 refine Aw (X:=Nat) (fun i=>[(1,str (Ac x)),(2, .func (.func ef) #[] capt.toArray),(3,Al b3),(11, .slice p b.fs.length m),(12, .int .i64 (b.fs.length:Nat)),(13, .int .i64 (i:Nat))]) (fun i=>[Ba (Av W c),BC c (AC t s0 (Be b x i)),⟨b3,26,(bmV b p m q n).cells.toList,true,none⟩])
  (fun i=>i≤b.fs.length) (fun i=>b.fs.length-i) 0 (Nat.zero_le _) ⟨rfl,rfl,rfl,rfl,rfl,rfl,trivial⟩ [] rfl ?_
 intro i hi
 have hi:i≤b.fs.length:=hi
 refine zA (zB (wP I ?_))
 by_cases hlt:i<b.fs.length
 ·refine wU 14 true I (dT (by omega)) (Aa (zE (zA (zR I (zI (zE (zA (zH (zA (zB ?_))))))))))
  obtain⟨s,hs⟩: ∃s,s=AC t s0 (Be b x i):=⟨_,rfl⟩
  obtain⟨f,hfe⟩: ∃f,f=b.fs[i]:=⟨_,rfl⟩
  have hfm:f∈b.fs:=hfe▸List.getElem_mem hlt
  obtain⟨g,off,hpe,hrow⟩: ∃g off,p=some ⟨g,off,none⟩∧ ∀W1,BmM W1 b p q→Ao W1 g (off+i*2) [str (Ac f.1),str (Ac f.2)]:=by
   rcases(hf W ⟨rfl,rfl,rfl,Nat.le_refl _,fun _ _ _=>rfl⟩).2.f with h|⟨g,off,e,_⟩
   ·rw[h] at hlt;exact absurd hlt (Nat.not_lt_zero _)
   ·refine⟨g,off,e,fun W1 h1=> ?_⟩
    rcases h1.f with h|⟨g',off',e',h2⟩
    ·rw[h] at hlt;exact absurd hlt (Nat.not_lt_zero _)
    ·rw[e] at e'
     cases e'
     rw[hfe]
     exact h2 i hlt
  rw[←hs]
  subst hpe
  refine wJ ?_
  refine wL 0 I I (fun W1 hp=>hrow W1 (hM hp)) I ?_
  (refine Ae Tryz.hZ rfl rfl rfl rfl ?_;intro)
  refine wS 3 I I I (Aa (zE (zA (zB (wP I (wB 3 I I I (wP I (wC I I (fun W1 hp=>A7 f.1 x (hz.f f hfm) W1 (hM hp).v (hM hp).t) (wP I (wU 21 (decide (f.1≤x)) I (D2 f.1 x) (Aa (zE ?_))))))))))))
  refine Ai I (fun h=> ?_) (fun h=> ?_)
  ·have hle:f.1≤x:=of_decide_eq_true h
   clear h
   have hsp:=Eb hlt (by rw[←hfe];exact hle)
   rw[←hfe] at hsp
   have hO:=hok _ _ _ hsp
   rw[←hs] at hO
   refine zB (wP I (wP I (wB 3 I I I (wP I (wB 3 I I I ?_)))))
   refine Au Tryz.hZ tH I I I I I I I I ?_
   refine AT (X:=Unit) (val:=fun _=> .tuple #[]) (Φ:=fun _=>True) (capt:=capt) 1 (B:=BC c s) (L1:=[]) (L2:=[]) (b:=c) (ob:=CW s) (fun _=>BC c (s+t f)) (g':=fun _=>c) (o':=fun _=>CW (s+t f))
    rfl rfl rfl rfl rfl rfl he.ent rfl rfl (fun _ _=>rfl) (fun W1 hp=>he.run s f W1 hO (hp.own.cell 1 _ rfl (c,CW s) (List.mem_cons_self ..)).1 (fun W2 hk=>(hf W2 ((EM hc hp).trans hk)).1)) (fun _ _=> ?_)
   exact Aa (zN (zE (zB (wP I (wV 29 ((i+1:Nat):Int) I (An (by omega)) (wP I (Aa (Ak (i+1) hlt (by show b.fs.length-(i+1)<b.fs.length-i;omega) ⟨I,I,I,I,I,I,O⟩ [_] (by rw[EY hlt, ←hfe,if_pos hle,BU, ←hs];rfl)))))))))
  ·have hle: ¬f.1≤x:=of_decide_eq_false h
   clear h
   exact zI (zN (zE (zB (wP I (wV 29 ((i+1:Nat):Int) I (An (by omega)) (wP I (Aa (Ak (i+1) hlt (by show b.fs.length-(i+1)<b.fs.length-i;omega) ⟨I,I,I,I,I,I,O⟩ [_] (by rw[EY hlt, ←hfe,if_neg hle,List.append_nil, ←hs];rfl)))))))))
 have e:i=b.fs.length:=by omega
 subst e
 refine wU 14 false I (dF (by omega)) (Aa (zE (zA (zS I (zJ (zK (zK (zL (zE (zA (zB (wP I (wB 2 I I I ?_)))))))))))))
 refine wP I (wP I (Aa (zE (zH ?_))))
 refine Aw (X:=Nat) (fun i=>[(1,str (Ac x)),(2, .func (.func ef) #[] capt.toArray),(31, .slice q b.ss.length n),(32, .int .i64 (b.ss.length:Nat)),(33, .int .i64 (i:Nat))]) (fun i=>[Ba (Av W c),BC c (AC t s0 (Be b x b.fs.length++CD b x i)),⟨b3,26,(bmV b p m q n).cells.toList,true,none⟩])
  (fun i=>i≤b.ss.length) (fun i=>b.ss.length-i) 0 (Nat.zero_le _) ⟨rfl,rfl,rfl,rfl,rfl,trivial⟩ [] (by show _=[Ba (Av W c),BC c (AC t s0 (Be b x b.fs.length++[])),(⟨b3,26,(bmV b p m q n).cells.toList,true,none⟩:Bx)]++[];rw[List.append_nil (Be b x b.fs.length)];rfl) ?_
 intro i hi
 have hi:i≤b.ss.length:=hi
 refine zA (zB (wP I ?_))
 by_cases hlt:i<b.ss.length
 ·refine wU 34 true I (dT (by omega)) (Aa (zE (zA (zR I (zI (zE (zA (zH (zA (zB ?_))))))))))
  obtain⟨s,hs⟩: ∃s,s=AC t s0 (Be b x b.fs.length++CD b x i):=⟨_,rfl⟩
  obtain⟨f,hfe⟩: ∃f,f=b.ss[i]:=⟨_,rfl⟩
  have hfm:f∈b.ss:=hfe▸List.getElem_mem hlt
  obtain⟨g,off,hpe,hrow⟩: ∃g off,q=some ⟨g,off,none⟩∧ ∀W1,BmM W1 b p q→Ao W1 g (off+i*3) [str (Ac f.1),str (Ac f.2.1),str (Ac f.2.2)]:=by
   rcases(hf W ⟨rfl,rfl,rfl,Nat.le_refl _,fun _ _ _=>rfl⟩).2.s with h|⟨g,off,e,_⟩
   ·rw[h] at hlt;exact absurd hlt (Nat.not_lt_zero _)
   ·refine⟨g,off,e,fun W1 h1=> ?_⟩
    rcases h1.s with h|⟨g',off',e',h2⟩
    ·rw[h] at hlt;exact absurd hlt (Nat.not_lt_zero _)
    ·rw[e] at e'
     cases e'
     rw[hfe]
     exact h2 i hlt
  obtain⟨tt,htt⟩: ∃tt,tt=Dd x f:=⟨_,rfl⟩
  rw[←hs]
  subst hpe
  refine wJ ?_
  refine wL 0 I I (fun W1 hp=>hrow W1 (hM hp)) I ?_
  (refine Ae Tryz.hZ rfl rfl rfl rfl ?_;intro)
  refine wS 3 I I I (Aa ?_)
  rename_i b9
  refine zE (zA (zA (zB (wP I (wB 3 I I I (wP I (wC I I (fun W1 hp=>A7 f.2.1 x (hz.s f hfm) W1 (hM hp).v (hM hp).t) (wP I (wU 41 (decide (x<f.2.1)) I (EP f.2.1 x) (Aa (A4 ?_)))))))))))
  try refine Ax ?_
  refine A3 (X:=Unit) (fun _=>[(1,str (Ac x)),(2, .func (.func ef) #[] capt.toArray),(9,Al b9),(31, .slice (some ⟨g,off,none⟩) b.ss.length n),(32, .int .i64 (b.ss.length:Nat)),(33, .int .i64 (i:Nat))]) (fun _=>[Ba (Av W c),BC c s,⟨b3,26,(bmV b p m (some ⟨g,off,none⟩) n).cells.toList,true,none⟩,⟨b9,59,(spV (f.1,tt,f.2.2)).cells.toList,true,none⟩]) (fun _=>True) ?_ ?_
  ·refine Ai I (fun h=> ?_) (fun h=> ?_)
   ·have hle:x<f.2.1:=of_decide_eq_true h
    exact zB (wP I (wP I (wS 3 I I I (Aa (Ah () O ⟨I,I,I,I,I,I,O⟩ [] (by rw[htt,show Dd x f=x from if_pos hle];rfl))))))
   ·have hle: ¬x<f.2.1:=of_decide_eq_false h
    exact zI (Ah () O ⟨I,I,I,I,I,I,O⟩ [] (by rw[htt,show Dd x f=f.2.1 from if_neg hle];rfl))
  intro _ _
  refine zA (zB (wP I (wB 3 I I I (wP I (wB 3 I I I (wC I I (fun W1 hp=>A7 f.1 tt (htt▸hz.c f hfm) W1 (hM hp).v (hM hp).t) (wP I (wU 49 (decide (f.1<tt)) I (C3 f.1 tt) (Aa (zE ?_))))))))))
  have hsf:=Kp x f
  rw[←htt] at hsf
  refine Ai I (fun h=> ?_) (fun h=> ?_)
  ·have hle:f.1<tt:=of_decide_eq_true h
   clear h
   rw[if_pos hle] at hsf
   obtain⟨pt,hpt⟩: ∃pt:Rat×Rat,pt=((f.1+tt)/2,f.2.2*(tt-f.1)):=⟨_,rfl⟩
   rw[←hpt] at hsf
   have hsp:=Eh (b:=b) (x:=x) hlt (by rw[←hfe];exact hsf)
   have hO:=hok _ _ _ hsp
   rw[←hs] at hO
   refine zB (wP I (wB 3 I I I (wC I I (fun W1 hp=>(M7 (f.1,tt,f.2.2) (htt▸hz.m f hfm) W1 (hM hp).v (hM hp).t).cast (show _=ptW pt by rw[hpt])) ?_)))
   refine AT (X:=Unit) (val:=fun _=> .tuple #[]) (Φ:=fun _=>True) (capt:=capt) 1 (B:=BC c s) (L1:=[]) (L2:=[]) (b:=c) (ob:=CW s) (fun _=>BC c (s+t pt)) (g':=fun _=>c) (o':=fun _=>CW (s+t pt))
    rfl rfl rfl rfl rfl rfl he.ent rfl rfl (fun _ _=>rfl) (fun W1 hp=>he.run s pt W1 hO (hp.own.cell 1 _ rfl (c,CW s) (List.mem_cons_self ..)).1 (fun W2 hk=>(hf W2 ((EM hc hp).trans hk)).1)) (fun _ _=> ?_)
   exact Aa (zN (zE (zB (wP I (wV 54 ((i+1:Nat):Int) I (An (by omega)) (wP I (Aa (Ak (i+1) hlt (by show b.ss.length-(i+1)<b.ss.length-i;omega) ⟨I,I,I,I,I,O⟩ [_] (by rw[EH hlt, ←hfe,hsf, ←List.append_assoc,show(some pt).toList=[pt] from I,BU, ←hs];rfl)))))))))
  ·have hle: ¬f.1<tt:=of_decide_eq_false h
   clear h
   rw[if_neg hle] at hsf
   exact zI (zN (zE (zB (wP I (wV 54 ((i+1:Nat):Int) I (An (by omega)) (wP I (Aa (Ak (i+1) hlt (by show b.ss.length-(i+1)<b.ss.length-i;omega) ⟨I,I,I,I,I,O⟩ [_] (by rw[EH hlt, ←hfe,hsf,show(none:Option (Rat×Rat)).toList=[] from I,List.append_nil, ←hs];rfl)))))))))
 have e:i=b.ss.length:=by omega
 subst e
 refine wU 34 false I (dF (by omega)) (Aa (zE (zA (zS I (zJ (zK (zK (zL ?_))))))))
 refine Da (X:=Unit) (val:=fun _=> .tuple #[]) (Φ:=fun _=>True) (nb:=fun _=>[Ba (Av W c),BC c (AC t s0 (b.pts x))]) (fn:=Tryz.f88) tH I () I O fun W1 hp=> ?_
 rw[FS] at hp
 exact(hp.pick (l:=[Ba (Av W c),BC c (AC t s0 (b.pts x))]) [0,1] (by decide) I).own
-- BOXES 3
-- CODE2
theorem R9 (b:UInt8):decide (((b.toNat:Nat):Int)<48)=decide (b.toNat<48):=decide_eq_decide.2 (by omega)
theorem RX (b:UInt8):decide (((b.toNat:Nat):Int)>57)=decide (57<b.toNat):=decide_eq_decide.2 (by omega)
def dgB (s:List UInt8):Bool:=decide (s=decDigits (A9 s))
theorem Fx {s:List UInt8}:dgB s=true↔KS s:=by unfold dgB;rw[decide_eq_true_iff];exact MC.symm
theorem Oh {s:List UInt8} (h: ¬KS s):dgB s=false:=by
 cases e:dgB s
 ·rfl
 ·exact absurd (Fx.1 e) h
theorem Gm (s:List UInt8) (hs:s.length<4611686018427387904):AZ Tryz.prog 119 [str s] (.bool (dgB s)):=by
 intro W
 refine Ab Tryz.func119 I I I ?_
 refine zA (zB (wP I (Aa (A4 (Ax (Ax ?_))))))
 refine A3 (X:=Unit) (fun _=>[(0,str s),(16, .bool (decide (s=[]∨(1<s.length∧s[0]? =some 48))))]) (fun _=>[]) (fun _=>True) ?_ ?_
 ·refine zB (wP I (wP I ?_))
  refine Ag 5 (.int .i64 (s.length:Nat)) I (congrArg (fun n:Nat=>Value.int .i64 (n:Int)) (As s)) ?_
  refine wP I ?_
  by_cases h0:s=[]
  ·refine wU 6 true I (by rw[h0];rfl) (wP I ?_)
   iterate 8 refine Af I I ?_
   exact wP I (Aa (Ah () O ⟨I,by rw[dT (Or.inl h0)];rfl,O⟩ [] I))
  ·have hpos:0<s.length:=List.length_pos_iff.2 h0
   refine wU 6 false I (by rw[beq_eq_false_iff_ne];omega) (wP I (wP I (wP I ?_)))
   refine Ag 9 (.int .i64 (s.length:Nat)) I (congrArg (fun n:Nat=>Value.int .i64 (n:Int)) (As s)) ?_
   refine wP I ?_
   by_cases h1:1<s.length
   ·refine wU 10 true I (dT (by omega)) ?_
    obtain⟨b,hb⟩: ∃b,s[0]? =some b:=⟨s[0],List.getElem?_eq_getElem hpos⟩
    refine wP I (wP I ?_)
    refine AJ 0 tH I I I I I I I I hb ?_
    refine wP I (wU 14 (decide (b=48)) I (CR b 48) (wP I (wP I (Aa ?_))))
    refine Ah () O ⟨I, ?_,O⟩ [] I
    have e:decide (s=[]∨(1<s.length∧s[0]? =some 48))=decide (b=48):=by
     rw[decide_eq_decide,hb]
     constructor
     ·rintro(h|⟨_,h⟩)
      ·exact absurd h h0
      ·exact Option.some.inj h
     ·intro h;exact .inr ⟨h1,by rw[h]⟩
    rw[e];rfl
   ·refine wU 10 false I (dF (by omega)) (wP I ?_)
    iterate 3 refine Af I I ?_
    exact wP I (wP I (Aa (Ah () O ⟨I,by rw[show decide (s=[]∨1<s.length∧s[0]? =some 48)=false from dF (fun h=>h.elim h0 (fun h=>h1 h.1))];rfl,O⟩ [] I)))
 intro _ _
 refine Ai I (fun hc=> ?_) (fun hc=> ?_)
 ·have hc:=of_decide_eq_true hc
  refine zA (zB (wP I (Aa (zE (zO (zP ?_))))))
  refine wR1 I I ?_
  rw[Oh fun h=> ?_]
  rcases hc with hc|⟨h1,h2⟩
  ·exact h.ne hc
  ·exact h.lead h1 h2
 have hc:=of_decide_eq_false hc
 have hne:s≠[]:=fun h=>hc (.inl h)
 have hlead:1<s.length→s[0]? ≠some 48:=fun h1 h2=>hc (.inr ⟨h1,h2⟩)
 refine zI (zE (zA (zA (zB (wP I (Aa (zE (zH ?_))))))))
 refine Aw (X:=Nat) (fun i=>[(0,str s),(3, .int .i64 (i:Nat))]) (fun _=>[]) (fun i=>i≤s.length∧ ∀b∈s.take i,CP b=true) (fun i=>s.length-i) 0 ⟨Nat.zero_le _,fun b hb=>by simp at hb⟩ ⟨I,I,O⟩ [] I ?_
 rintro i ⟨hi,hdg⟩
 have hi:i≤s.length:=hi
 have hdg: ∀b∈s.take i,CP b=true:=hdg
 refine zA (zA (zB (wP I (wP I (wP I ?_)))))
 refine Ag 19 (.int .i64 (s.length:Nat)) I (congrArg (fun n:Nat=>Value.int .i64 (n:Int)) (As s)) ?_
 refine wP I ?_
 by_cases hlt:i<s.length
 ·refine wU 20 true I (dT (by omega)) (Aa (zE (zR I (zI (zE (zA (zH (zA (zB ?_)))))))))
  obtain⟨b,hb⟩: ∃b,s[i]? =some b:=⟨s[i],List.getElem?_eq_getElem hlt⟩
  have hbm:b∈s:=List.mem_of_getElem? hb
  refine wP I (wP I ?_)
  refine AJ i tH I I I I I I I I hb ?_
  refine wP I ?_
  by_cases h48:b.toNat<48
  ·refine wU 26 true I ((R9 b).trans (dT h48)) (wP I ?_)
   iterate 4 refine Af I I ?_
   refine wP I (Aa (zE (zR I (zA (zB (wP I (Aa (zE (zO (zQ (zP (zP (zQ ?_)))))))))))))
   refine zP ?_
   refine wR1 I I ?_
   rw[Oh fun h=>by have:=BV.1 (h.all b hbm);omega]
  ·refine wU 26 false I ((R9 b).trans (dF h48)) (wP I (wP I (wP I ?_)))
   refine AJ i tH I I I I I I I I hb ?_
   refine wP I ?_
   by_cases h57:57<b.toNat
   ·refine wU 31 true I ((RX b).trans (dT h57)) (wP I (Aa (zE (zR I (zA (zB (wP I (Aa (zE (zO (zQ (zP (zP ?_)))))))))))))
    refine zQ (zP ?_)
    refine wR1 I I ?_
    rw[Oh fun h=>by have:=BV.1 (h.all b hbm);omega]
   ·refine wU 31 false I ((RX b).trans (dF h57)) (wP I (Aa (zE (zS I (zI (zN (zE (zB (wP I (wP I (wV 22 ((i+1:Nat):Int) I (An (by omega)) (wP I (Aa ?_)))))))))))))
    refine Ak (i+1) ⟨hlt,fun c hc=> ?_⟩ (by show s.length-(i+1)<s.length-i;omega) ⟨I,I,O⟩ [] I
    rw[List.take_add_one,hb,List.mem_append] at hc
    rcases hc with hc|hc
    ·exact hdg c hc
    ·obtain rfl:c=b:=by simpa using hc
     exact BV.2 ⟨by omega,by omega⟩
 ·refine wU 20 false I (dF (by omega)) (Aa (zE (zS I (zJ (zK (zK (zL (zE (zA (zB (wP I (Aa (zE ?_)))))))))))))
  refine zO ?_
  refine wR1 I I ?_
  rw[List.take_of_length_le (by omega)] at hdg
  rw[Fx.2 ⟨hne,hdg,hlead⟩]
theorem Ix (a b:Nat) (ha:a<9223372036854775808) (hb:b<9223372036854775808):AZ Tryz.prog 120 [.int .i64 (a:Nat), .int .i64 (b:Nat)] (.int .i64 (Nat.gcd a b:Nat)):=by
 intro W
 refine Ab Tryz.func120 I I I ?_
 refine zA (zB (wP I (Aa (zE (zA (zH ?_))))))
 refine Aw (X:=Nat×Nat) (fun x=>[(0, .int .i64 (x.1:Nat)),(1, .int .i64 (x.2:Nat))]) (fun _=>[]) (fun x=>x.1<9223372036854775808∧x.2<9223372036854775808∧Nat.gcd x.1 x.2=Nat.gcd a b) (fun x=>x.2) (a,b) ⟨ha,hb,I⟩ ⟨I,I,O⟩ [] I ?_
 rintro⟨x,y⟩ ⟨hx,hy,hg⟩
 have hx:x<9223372036854775808:=hx
 have hy:y<9223372036854775808:=hy
 have hg:Nat.gcd x y=Nat.gcd a b:=hg
 refine zA (zA (zB (wP I (wP I (Aa (zE ?_))))))
 by_cases h0:y=0
 ·refine AK 6 (.bool false) I (congrArg Value.bool (by rw[bne_eq_false_iff_eq];omega)) ?_
  exact zS I (zJ (zK (zK (zL (zE (zA (zB (wP I (wP I (Aa (zE (zO (wR1 I I (by rw[←hg,h0,Nat.gcd_zero_right]))))))))))))))
 ·refine AK 6 (.bool true) I (congrArg Value.bool (by rw[bne_iff_ne];omega)) ?_
  refine zR I (zI (zE (zH (zU (qP I (qP I (qP I ?_)))))))
  refine Gj I I I I I (by omega) ?_
  refine qP I (qP I (AM (Aa (zN ?_))))
  have hr:x%y<y:=Nat.mod_lt _ (by omega)
  exact Ak (y,x%y) ⟨hy,Nat.lt_trans hr hy,by show Nat.gcd y (x%y)=_;rw[Nat.gcd_comm, ←Nat.gcd_rec,Nat.gcd_comm];exact hg⟩ hr ⟨I,I,O⟩ [] I
theorem B6 (s:List UInt8) (hs:s.length≤18) (hd: ∀b∈s,CP b=true):AZ Tryz.prog 121 [str s] (.int .i64 (A9 s:Nat)):=by
 intro W
 have hlt: ∀i,A9 (s.take i)<1000000000000000000:=fun i=>by
  have h1:=Er (s.take i).length (s:=s.take i) rfl fun b hb=>hd b (List.mem_of_mem_take hb)
  have h2:(s.take i).length≤18:=by rw[List.length_take];omega
  exact Nat.lt_of_lt_of_le h1 (Nat.pow_le_pow_right (by decide) h2)
 refine Ab Tryz.func121 I I I ?_
 refine zA (zB (wP I (Aa (zE (zA (zB (wP I (Aa (zE (zA (zA (zB (wP I ?_)))))))))))))
 refine Aa (zE (zH ?_))
 refine Aw (X:=Nat) (fun i=>[(0,str s),(3, .int .i64 (A9 (s.take i):Nat)),(4, .int .i64 (i:Nat))]) (fun _=>[]) (fun i=>i≤s.length) (fun i=>s.length-i) 0 (Nat.zero_le _) ⟨I,I,I,O⟩ [] I ?_
 intro i hi
 have hi:i≤s.length:=hi
 refine zA (zA (zB (wP I (wP I (wP I ?_)))))
 refine Ag 7 (.int .i64 (s.length:Nat)) I (congrArg (fun n:Nat=>Value.int .i64 (n:Int)) (As s)) ?_
 refine wP I ?_
 by_cases h:i<s.length
 ·refine wU 8 true I (dT (by omega)) (Aa (zE (zR I (zI (zE (zA (zH (zB ?_))))))))
  obtain⟨b,hb⟩: ∃b,s[i]? =some b:=⟨s[i],List.getElem?_eq_getElem h⟩
  have hdb:=BV.1 (hd b (List.mem_of_getElem? hb))
  have e1:A9 (s.take (i+1))=10*A9 (s.take i)+(b.toNat-48):=by
   rw[List.take_add_one,hb];exact Cr _ _
  have l1:=hlt i
  have l2:=hlt (i+1)
  refine wP I (wP I (wV 12 ((10*A9 (s.take i):Nat):Int) I (show w64 (10*(A9 (s.take i):Nat))=_ by rw[Aj (by omega) (by omega)];omega) (wP I (wP I ?_))))
  refine AJ i tH I I I I I I I I hb ?_
  refine wP I ?_
  refine Ag 16 (.int .u8 ((b.toNat-48:Nat):Int)) I (congrArg (Value.int .u8) (show IntKind.u8.wrap ((b.toNat:Nat)-48)=_ by
   simp only[IntKind.wrap,IntKind.signed,IntKind.bits];simp;omega)) ?_
  refine GJ Tryz.underlying5 Tryz.underlying3 I I I I ?_
  exact wV 17 ((b.toNat-48:Nat):Int) I (Bl (by omega)) (wP I (wV 18 ((A9 (s.take (i+1)):Nat):Int) I (show w64 (((10*A9 (s.take i):Nat):Int)+((b.toNat-48:Nat):Int))=_ by rw[Aj (by omega) (by omega),e1];omega) (wP I (Aa (zN (zE (zB (wP I (wP I (wV 10 ((i+1:Nat):Int) I (An (by omega)) (wP I (Aa (Ak (i+1) h (by show s.length-(i+1)<s.length-i;omega) ⟨I,I,I,O⟩ [] I)))))))))))))
 ·refine wU 8 false I (dF (by omega)) (Aa (zE (zS I (zJ (zK (zK (zL (zE (zA (zB (wP I (wP I (Aa ?_)))))))))))))
  exact zE (zO (wR1 I I (by rw[List.take_of_length_le (by omega)])))
-- BOXES 3
-- CODE2
section
variable {r:Option Nat} {n:Nat} {P:Program} {N:Nat} {D:List Deferred} {ops:List Oper} {Q:Exit→Act→World→Prop} {o:Oper} {rest:List Oper} {env:Env} {A:World→Prop} {A2:World→Prop} {R:Act→World→Prop}
theorem Sb {T:Tbl} {i:TI} {ρ:Operand→Value} {a:List UInt8} {t:TypeId} {x y:Operand} {k:IntKind} (l:Nat) (hT:Go.Am.okB P T=true) (ho:o.op= .slice t x none (some y) none) (ht:BF T t=some i) (hk:i.kind=1)
  (hx:ρ x=str a) (hy:ρ y= .int k l) (h1:l≤a.length) (W:World):(execOp ρ o).run P W= .ok (.value (str (a.take l))) W:=by
 have hu:=EL (Bq hT ht) hk
 have hsz:(⟨a.toArray⟩:ByteArray).size=a.length:=by show a.toArray.size=_;simp
 have e:(⟨a.toArray⟩:ByteArray).extract 0 l=⟨(a.take l).toArray⟩:=by
  apply ByteArray.ext
  rw[ByteArray.data_extract]
  apply Array.toList_inj.1
  simp[List.extract_eq_take_drop]
 simp[execOp,ho,Instr.sliceAt,Instr.slice,Instr.sliceBounds,Instr.sliceBound,hx,hy,asIntOf,run_underlying hu,hsz,h1,e]
theorem Sn (l:Nat) {T:Tbl} {i:TI} {a:List UInt8} {d:Nat} {t:TypeId} {x y:Operand} {k:IntKind} {z:Int} (hT:Go.Am.okB P T=true) (hg:Ay ops N env o=some true) (hd:o.dst=some d) (ho:o.op= .slice t x none (some y) none) (ht:BF T t=some i) (hk:i.kind=1)
  (hx:evO N env x=some (str a)) (hy:evO N env y=some (.int k z)) (hz:z=l) (h1:l≤a.length)
  (hn:WQ P N D ops A2 R rest ((d,str (a.take l))::env) A):WQ P N D ops A2 R (o::rest) env A:=
 EA hg hd (fun c e=>by rw[ho] at e;cases e) (fun ρ W hρ _=>Sb l hT ho ht hk (hρ _ _ hx) (by rw[←hz];exact hρ _ _ hy) h1 W) hn
end
section
variable {n:Nat} {P:Program} {W0:World} {N:Nat} {env:Env} {bxs:List Bx}
theorem PK {fn:Func} {T:Tbl} {r1 r2 r3 r4:ResultVar} {v1 v2 v3 v4:Value} {X:Type} {val:X→Value} {Φ:X→Prop} {nb:X→List Bx} (hT:Go.Am.okB P T=true) (hr:fn.results= #[r1,r2,r3,r4])
  (h1:Res P T env bxs N r1 v1) (h2:Res P T env bxs N r2 v2) (h3:Res P T env bxs N r3 v3) (h4:Res P T env bxs N r4 v4)
  (x:X) (hv: .tuple #[v1,v2,v3,v4]=val x) (hx:Φ x) (hnb: ∀W,Hp W0 bxs W→A0 W0 W (nb x)):NE N [] (G5 P fn W0 val Φ nb) .ret env (Hp W0 bxs):=
 K2 (rvs:=[r1,r2,r3,r4]) (vs:=[v1,v2,v3,v4]) hT hr rfl (fun i h _=>by
  match i,h with
  |0,_=>exact h1
  |1,_=>exact h2
  |2,_=>exact h3
  |3,_=>exact h4
  |i+4,h=>exact absurd h (by show¬i+4<4;omega)) x (by simpa using hv) hx hnb
end
def MD (a:List UInt8):Value:= .tuple #[.bool (hasPrefix a [45]),str (cut (trimPrefix a [45]) [47]).1,str (cut (trimPrefix a [45]) [47]).2.1, .bool (cut (trimPrefix a [45]) [47]).2.2]
theorem Ez (a:List UInt8) (ha:a.length<4611686018427387904):AZ Tryz.prog 118 [str a] (MD a):=by
 intro W
 refine Ab Tryz.func118 I I I ?_
 refine zA (zB (wP I (wP I (wP I (wP I (Aa (zE (zA (zB (wP I (wP I (Aa (A4 ?_)))))))))))))
 refine Ax ?_
 refine A3 (X:=Unit) (fun _=>[(6,str a),(7, .bool (hasPrefix a [45]))]) (fun _=>[]) (fun _=>True) ?_ ?_
 ·refine zB (wP I (wP I ?_))
  refine Ag 11 (.int .i64 (a.length:Nat)) I (congrArg (fun n:Nat=>Value.int .i64 (n:Int)) (As a)) ?_
  refine wP I ?_
  cases ea:a with
  |nil=>
   refine Ag 12 (.bool false) I I ?_
   refine wP I ?_
   iterate 3 refine Af I I ?_
   exact wP I (wP I (Aa (Ah () O ⟨I,I,O⟩ [] I)))
  |cons b t=>
   refine wU 12 true I (dT (by show(((b::t).length:Nat):Int)>0;rw[List.length_cons];omega)) (wP I (wP I ?_))
   refine AJ 0 tH I I I I I I I I (show(b::t)[0]? =some b from I) ?_
   exact wP I (wU 16 (hasPrefix (b::t) [45]) I ((CR b 45).trans (by rw[AY];exact decide_eq_decide.2 (by simp))) (wP I (wP I (Aa (Ah () O ⟨I,I,O⟩ [] I)))))
 intro _ _
 refine zA (zA (zB (wP I (Aa (A4 ?_)))))
 try refine Ax ?_
 obtain⟨b,hb⟩: ∃b,b=trimPrefix a [45]:=⟨_,rfl⟩
 have hbl:b.length≤a.length:=by rw[hb,AD];split<;>simp
 refine A3 (X:=Unit) (fun _=>[(6,str b),(7, .bool (hasPrefix a [45]))]) (fun _=>[]) (fun _=>True) ?_ ?_
 ·refine Ai I (fun hm=> ?_) (fun hm=> ?_)
  ·have hm:a[0]? =some 45:=by rw[AY] at hm;exact of_decide_eq_true hm
   have h1:1≤a.length:=(List.getElem?_eq_some_iff.1 hm).1
   refine zB (wP I ?_)
   refine DI 1 tH I I I I I I I I h1 ?_
   exact wP I (Aa (Ah () O ⟨by rw[hb,AD,if_pos hm];rfl,I,O⟩ [] I))
  ·have hm: ¬a[0]? =some 45:=by rw[AY] at hm;exact of_decide_eq_false hm
   exact zI (Ah () O ⟨by rw[hb,AD,if_neg hm];rfl,I,O⟩ [] I)
 intro _ _
 refine zA (zA (zB (wP I (Aa (zE (zH ?_))))))
 refine Aw (X:=Nat) (fun i=>[(6,str b),(7, .bool (hasPrefix a [45])),(8, .int .i64 (i:Nat))]) (fun _=>[]) (fun i=>i≤b.length∧47∉b.take i) (fun i=>b.length-i) 0 ⟨Nat.zero_le _,by simp⟩ ⟨I,I,I,O⟩ [] I ?_
 rintro i ⟨hi,hno⟩
 have hi:i≤b.length:=hi
 have hno:47∉b.take i:=hno
 refine zA (zA (zB (wP I (wP I (wP I ?_)))))
 refine Ag 23 (.int .i64 (b.length:Nat)) I (congrArg (fun n:Nat=>Value.int .i64 (n:Int)) (As b)) ?_
 refine wP I ?_
 by_cases hlt:i<b.length
 ·refine wU 24 true I (dT (by omega)) (Aa (zE (zR I (zI (zE (zA (zH (zA (zB ?_)))))))))
  obtain⟨c,hc⟩: ∃c,b[i]? =some c:=⟨b[i],List.getElem?_eq_getElem hlt⟩
  refine wP I (wP I ?_)
  refine AJ i tH I I I I I I I I hc ?_
  refine wP I (wU 30 (decide (c=47)) I (CR c 47) (Aa (zE ?_)))
  refine Ai I (fun h47=> ?_) (fun h47=> ?_)
  ·have h47:c=47:=of_decide_eq_true h47
   have eb:b=b.take i++47::b.drop (i+1):=by
    conv=>lhs;rw[←List.take_append_drop i b]
    rw[List.drop_eq_getElem_cons hlt]
    have:b[i]=47:=by rw[List.getElem?_eq_getElem hlt] at hc;rw[Option.some.inj hc];exact h47
    rw[this]
   have ec:=EC (b.drop (i+1)) hno
   rw[←eb,hb] at ec
   refine zA (zU (qP I (qP I (qP I ?_))))
   refine Sn i tH I I I I I I I I (by omega) ?_
   refine qP I (qP I (qP I (qV 37 ((i+1:Nat):Int) I (An (by omega)) ?_)))
   refine LS (i+1) tH I I I I I I I I (by omega) ?_
   exact qP I (qP I (qP I (qP I (AM (Aa (zE (zO (zQ (zP (zP (zQ (zP (PK tH I (.tmp I) (.tmp I) (.tmp I) (.tmp I) () (by rw[MD,ec,hb]) O fun W _=>A0.nil _ _)))))))))))))
  ·have h47: ¬c=47:=of_decide_eq_false h47
   refine zI (zN (zE (zB (wP I (wP I (wV 26 ((i+1:Nat):Int) I (An (by omega)) (wP I (Aa ?_))))))))
   refine Ak (i+1) ⟨hlt,fun h=> ?_⟩ (by show b.length-(i+1)<b.length-i;omega) ⟨I,I,I,O⟩ [] I
   rw[List.take_add_one,hc,List.mem_append] at h
   rcases h with h|h
   ·exact hno h
   ·exact h47 (by simpa using h:(47:UInt8)=c).symm
 ·refine wU 24 false I (dF (by omega)) (Aa (zE (zS I (zJ (zK (zK (zL (zE (zA (zB ?_))))))))))
  rw[List.take_of_length_le (by omega)] at hno
  have ec:=D3 hno
  rw[hb] at ec
  iterate 6 refine wP I ?_
  exact Aa (zE (zO (PK tH I (.tmp I) (.tmp I) (.tmp I) (.tmp I) () (by rw[MD,ec,hb]) O fun W _=>A0.nil _ _)))
theorem Pz {z:Int} {d:Nat} (_hd:1≤d):hasPrefix (CS z d) [45]=decide (z<0)∧cut (trimPrefix (CS z d) [45]) [47]=(decDigits z.natAbs,if d=1 then[] else decDigits d,decide (d≠1)):=by
 have hn47:(47:UInt8)∉decDigits z.natAbs:=fun h=>by have:=DL _ _ h;exact absurd this.1 (by decide)
 have hp: ∀r,hasPrefix (itoa z++r) [45]=decide (z<0):=fun r=>by
  rw[AY]
  unfold itoa
  split
  ·rename_i h;rw[dT h];rfl
  ·rename_i h
   rw[dF h]
   obtain⟨b,t,hb,h3,_⟩:=Cd z.toNat
   rw[hb]
   refine dF fun e=> ?_
   have e:b=45:=by simpa using e
   rw[e] at h3;exact absurd h3 (by decide)
 have ht: ∀r,trimPrefix (itoa z++r) [45]=decDigits z.natAbs++r:=fun r=>by
  have h1:=hp r
  rw[AD]
  rw[AY] at h1
  by_cases hz:z<0
  ·rw[dT hz] at h1
   rw[if_pos (of_decide_eq_true h1)]
   unfold itoa
   rw[if_pos hz];rfl
  ·rw[dF hz] at h1
   rw[if_neg (of_decide_eq_false h1)]
   unfold itoa
   rw[if_neg hz,show z.toNat=z.natAbs by omega]
 unfold CS
 by_cases h1:d=1
 ·rw[if_pos h1]
  have e1:=hp []
  have e2:=ht []
  rw[List.append_nil] at e1 e2
  rw[List.append_nil] at e2
  exact⟨e1,by rw[e2,D3 hn47,if_pos h1,h1];rfl⟩
 ·rw[if_neg h1]
  exact⟨hp _,by rw[ht,EC _ hn47,if_neg h1,dT (show d≠1 from h1)]⟩
theorem L9 (q:Rat):MD (Ac q)= .tuple #[.bool (decide (q.num<0)),str (decDigits q.num.natAbs),str (if q.den=1 then[] else decDigits q.den), .bool (decide (q.den≠1))]:=by
 obtain⟨h1,h2⟩:=Pz (z:=q.num) q.den_pos
 unfold MD Ac
 rw[h1,h2]
def D5 (q:Rat):Bool:=decide ((decDigits q.num.natAbs).length≤9)&&(decide (q.den=1)||decide ((decDigits q.den).length≤9))
theorem Kx {n:Nat} (h:(decDigits n).length≤9):n<1000000000:=Nat.lt_of_lt_of_le (Dc n) (Nat.pow_le_pow_right (by decide) h)
theorem Ij {q:Rat} (h:D5 q=true):q.num.natAbs<1000000000∧q.den<1000000000:=by
 unfold D5 at h
 simp only[Bool.and_eq_true,Bool.or_eq_true,decide_eq_true_eq] at h
 refine⟨Kx h.1, ?_⟩
 rcases h.2 with e|e
 ·rw[e];decide
 ·exact Kx e
theorem OG (q:Rat) (hl:(Ac q).length<4611686018427387904):AZ Tryz.prog 97 [str (Ac q)] (if D5 q=true then .tuple #[.int .i64 q.num, .int .i64 (q.den:Nat), .bool true] else .tuple #[.int .i64 0, .int .i64 0, .bool false]):=by
 intro W
 obtain⟨n,hn⟩: ∃n,n=decDigits q.num.natAbs:=⟨_,rfl⟩
 obtain⟨e,he⟩: ∃e,e=(if q.den=1 then[] else decDigits q.den):=⟨_,rfl⟩
 have hsp:Ad Tryz.prog 118 #[str (Ac q)] W (fun _:Unit=> .tuple #[.bool (decide (q.num<0)),str n,str e, .bool (decide (q.den≠1))]) (fun _=>True) (fun _=>[]):=(Ez (Ac q) hl W).cast (by rw[L9,hn,he])
 have hsh:D5 q=(decide (n.length≤9)&&decide (e.length≤9)):=by
  unfold D5
  rw[hn,he]
  by_cases h1:q.den=1
  ·rw[if_pos h1,dT h1];rfl
  ·rw[if_neg h1,dF h1,Bool.false_or]
 have hnd: ∀b∈n,CP b=true:=by rw[hn];exact(DZ _).all
 refine Ab Tryz.func97 I I I ?_
 refine zA (zB (wP I (wP I (wP I (Aa (zE (zA (zB (wP I (wC I I (fun W1 hp=>(Ez (Ac q) hl W1).cast (v':= .tuple #[.bool (decide (q.num<0)),str n,str e, .bool (decide (q.den≠1))]) (by rw[L9,hn,he])) ?_))))))))))
 iterate 9 refine wP I ?_
 refine Aa ?_
 by_cases hs:D5 q=true
 ·rw[if_pos hs]
  have hs2:=hs
  rw[hsh,Bool.and_eq_true,decide_eq_true_eq,decide_eq_true_eq] at hs2
  obtain⟨hs2,hs3⟩:=hs2
  obtain⟨l1,l2⟩:=Ij hs
  refine zE (zA (zA (zB (wP I (wP I ?_)))))
  refine Ag 19 (.int .i64 (n.length:Nat)) I (congrArg (fun n:Nat=>Value.int .i64 (n:Int)) (As n)) ?_
  refine wP I (wU 20 false I (dF (by omega)) (wP I (wP I (wP I ?_))))
  refine Ag 23 (.int .i64 (e.length:Nat)) I (congrArg (fun n:Nat=>Value.int .i64 (n:Int)) (As e)) ?_
  refine wP I (wU 24 false I (dF (by omega)) (wP I (Aa (zE (zS I (zI (zE (zA (zB (wP I (wC I I (fun W1 hp=>(B6 n (by omega) hnd W1).cast (v':= .int .i64 (q.num.natAbs:Nat)) (by rw[hn,Bs])) (wP I (wP I ?_)))))))))))))
  refine Aa (zE (zA (zA (zB (wP I (Aa (A4 ?_)))))))
  try refine Ax ?_
  refine A3 (X:=Unit) (fun _=>[(5, .bool (decide (q.num<0))),(9, .int .i64 (q.num.natAbs:Nat)),(10, .int .i64 (q.den:Nat))]) (fun _=>[]) (fun _=>True) ?_ ?_
  ·refine Ai I (fun h1=> ?_) (fun h1=> ?_)
   ·have h1:q.den≠1:=of_decide_eq_true h1
    have e1:e=decDigits q.den:=by rw[he,if_neg h1]
    exact zB (wP I (wC I I (fun W1 hp=>(B6 e (by omega) (by rw[e1];exact(DZ _).all) W1).cast (v':= .int .i64 (q.den:Nat)) (by rw[e1,Bs])) (wP I (Aa (Ah () O ⟨I,I,I,O⟩ [] I)))))
   ·have h1:q.den=1:=Decidable.byContradiction fun h=>absurd h1 (by rw[dT h];decide)
    exact zI (Ah () O ⟨I,I,by rw[h1];rfl,O⟩ [] I)
  intro _ _
  refine zA (zA (zB (wP I (Aa (A4 ?_)))))
  try refine Ax ?_
  refine A3 (X:=Unit) (fun _=>[(9, .int .i64 q.num),(10, .int .i64 (q.den:Nat))]) (fun _=>[]) (fun _=>True) ?_ ?_
  ·refine Ai I (fun h1=> ?_) (fun h1=> ?_)
   ·have h1:q.num<0:=of_decide_eq_true h1
    exact zB (wP I (wP I (wV 33 q.num I (by show w64 (0-((q.num.natAbs:Nat):Int))=_;rw[Aj (by omega) (by omega)];omega) (wP I (Aa (Ah () O ⟨I,I,O⟩ [] I))))))
   ·have h1: ¬q.num<0:=of_decide_eq_false h1
    exact zI (Ah () O ⟨congrArg (fun z=>some (Value.int .i64 z)) (by omega),I,O⟩ [] I)
  intro _ _
  refine zA (zB ?_)
  iterate 5 refine wP I ?_
  exact Aa (zE (zO (wR3 I I I)))
 ·rw[if_neg hs]
  have hs2: ¬(n.length≤9∧e.length≤9):=fun h=>hs (by rw[hsh,dT h.1,dT h.2];rfl)
  refine A4 (Ax (Ax ?_))
  refine A3 (X:=Unit) (fun _=>[(25, .bool true)]) (fun _=>[]) (fun _=>True) ?_ ?_
  ·refine zB (wP I (wP I ?_))
   refine Ag 19 (.int .i64 (n.length:Nat)) I (congrArg (fun n:Nat=>Value.int .i64 (n:Int)) (As n)) ?_
   refine wP I ?_
   by_cases h1:n.length≤9
   ·refine wU 20 false I (dF (by omega)) (wP I (wP I (wP I ?_)))
    refine Ag 23 (.int .i64 (e.length:Nat)) I (congrArg (fun n:Nat=>Value.int .i64 (n:Int)) (As e)) ?_
    exact wP I (wU 24 true I (dT (by omega)) (wP I (Aa (Ah () O ⟨I,O⟩ [] I))))
   ·refine wU 20 true I (dT (by omega)) (wP I ?_)
    iterate 3 refine Af I I ?_
    exact wP I (Aa (Ah () O ⟨I,O⟩ [] I))
  intro _ _
  exact zR I (zA (zB (wP I (wP I (wP I (Aa (zE (zO (zP (wR3 I I I))))))))))
theorem I8 (q:Rat) (hl:(Ac q).length≤1000):AZ Tryz.prog 99 [str (Ac q)] (.tuple #[str (itoa q.num),str (decDigits q.den)]):=by
 intro W
 have hlen:(decDigits q.num.natAbs).length≤1000:=by
  have:=PR (a:=Ac q) (Dy q.num q.den_pos)
  omega
 refine Ab Tryz.func99 I I I ?_
 refine zA (zB (wP I (wP I (Aa (zE (zA (zB (wP I (wC I I (fun W1 hp=>(Ez (Ac q) (by omega) W1).cast (L9 q)) ?_)))))))))
 iterate 9 refine wP I ?_
 refine Aa (zE (zA (zA (zB (wP I (Aa (A4 ?_)))))))
 try refine Ax ?_
 refine A3 (X:=Unit) (fun _=>[(5,str (itoa q.num)),(6,str (if q.den=1 then[] else decDigits q.den)),(7, .bool (decide (q.den≠1)))]) (fun _=>[]) (fun _=>True) ?_ ?_
 ·refine Ai I (fun h1=> ?_) (fun h1=> ?_)
  ·have h1:q.num<0:=of_decide_eq_true h1
   refine zB (wP I ?_)
   refine By I I I I I (a:=[45]) (b:=decDigits q.num.natAbs) (by decide) (by omega) ?_
   exact wP I (Aa (Ah () O ⟨by unfold itoa;rw[if_pos h1];rfl,I,I,O⟩ [] I))
  ·have h1: ¬q.num<0:=of_decide_eq_false h1
   exact zI (Ah () O ⟨by unfold itoa;rw[if_neg h1,show q.num.toNat=q.num.natAbs by omega];rfl,I,I,O⟩ [] I)
 intro _ _
 refine zA (zA (zB (wP I (wP I (Aa (A4 ?_))))))
 try refine Ax ?_
 refine A3 (X:=Unit) (fun _=>[(5,str (itoa q.num)),(6,str (decDigits q.den))]) (fun _=>[]) (fun _=>True) ?_ ?_
 ·refine Ai I (fun h1=> ?_) (fun h1=> ?_)
  ·have h1:q.den=1:=Decidable.byContradiction fun h=>absurd h1 (by rw[dT h];decide)
   exact zB (wP I (Aa (Ah () O ⟨I,by rw[h1,DU];rfl,O⟩ [] I)))
  ·have h1:q.den≠1:=Decidable.byContradiction fun h=>absurd h1 (by rw[dF h];decide)
   exact zI (Ah () O ⟨I,by rw[if_neg h1];rfl,O⟩ [] I)
 intro _ _
 exact zA (zB (wP I (wP I (wP I (wP I (Aa (zE (zO (wR2 I I I)))))))))
-- BOXES 4
-- CODE2
abbrev br:Nat:=1000000
theorem br2:2≤br:=by decide
theorem CL {g cap:Nat} {junk:List Value} {l:List Nat} (h:(⟨some g,cap,junk⟩:Vec).OK 1 l.length (nI l)) (hl: ∀x∈l,x<br):
  ∃junk',(⟨some g,cap,junk'⟩:Vec).OK 1 (lbs br (lv br l)).length (nI (lbs br (lv br l)))∧nI l++junk=nI (lbs br (lv br l))++junk':=by
 obtain⟨h1,h2,h3⟩:=h.cap (by simp)
 have e:=Ju br2 hl
 have hlen:=(Bt br2).2 (DV br2 hl)
 have e2:nI l=nI (lbs br (lv br l))++nI (l.drop (lbs br (lv br l)).length):=by
  conv=>lhs;rw[←List.take_append_drop (lbs br (lv br l)).length l]
  rw[GO, ←e]
 have h3':(nI l).length+junk.length=cap*1:=h3
 have h2':cap≤maxLen:=h2
 refine⟨nI (l.drop (lbs br (lv br l)).length)++junk,⟨Dm _,(fun h=>by cases h),fun _=>⟨by show _≤cap;rw[Bk] at h3';omega,h2', ?_⟩⟩, ?_⟩
 ·show(nI (lbs br (lv br l))).length+(nI (l.drop (lbs br (lv br l)).length)++junk).length=cap*1
  rw[List.length_append,Bk,Bk,List.length_drop]
  rw[Bk] at h3';omega
 ·rw[←List.append_assoc, ←e2]
theorem Cm (W:World) (p:Option Addr) (cap n:Nat) (l:List Nat) (i x:Nat) (h:Ar W p l) (hn:l.length=n) (hi:i<4611686018427387904) (hx:lim l i=x):Ad Tryz.prog 226 #[slv p n cap, .int .i64 (i:Nat)] W (fun _:Unit=> .int .i64 (x:Nat)) (fun _=>True) (fun _=>[]):=by
 subst hn hx
 refine Ab (args:=[slv p l.length cap, .int .i64 (i:Nat)]) Tryz.func226 I I I ?_
 refine zA (zB (wP I (Aa (zE (zA (zA (zB (wP I (wP I (wP I (wP I (Aa (zE ?_)))))))))))))
 refine Ai I (fun hc=> ?_) (fun hc=> ?_)
 ·have hl:i<l.length:=by simp at hc;omega
  obtain⟨b,off,rfl,hrow⟩:=h.row hl
  refine zA (zB (wP I (wP I ?_)))
  refine wJ ?_
  exact wL 0 I I (fun W hp=>(hrow i hl).hp hp) I (wP I (Aa (zE (zO (zP (wR1 I I I))))))
 ·have hl:l.length≤i:=by simp at hc;omega
  exact zI (zE (zA (zB (wP I (Aa (zE (zO (wR1 I I (by rw[ML hl];rfl)))))))))
theorem Ca (W:World) (p:Option Addr) (cap:Nat) (l:List Nat) (h:Ar W p l) (hl: ∀x∈l,x<br) (hc:l.length≤cap) (hn:l.length<4611686018427387904):
  Ad Tryz.prog 224 #[slv p l.length cap] W (fun _:Unit=>slv p (lbs br (lv br l)).length cap) (fun _=>True) (fun _=>[]):=by
 refine Ab (args:=[slv p l.length cap]) Tryz.func224 I I I ?_
 refine zA (zB (wP I (Aa (zE (zA (zB (wP I (wP I (wP I (Aa (zE (zA (zH ?_)))))))))))))
 refine Aw (X:=Nat) (fun k=>[(0,slv p l.length cap),(3, .int .i64 (k:Nat))]) (fun _=>[]) (fun k=>k≤l.length∧ ∀i,k≤i→i<l.length→l[i]? =some 0) (fun k=>k) l.length ⟨Nat.le_refl _,fun i h1 h2=>by omega⟩ ⟨I,I,O⟩ [] I ?_
 rintro k ⟨hk,hz⟩
 have hk:k≤l.length:=hk
 have hend:(k=0∨l[k-1]? ≠some 0)→(lbs br (lv br l)).length=k:=fun h0=>by
  rw[←N6 br2 hk hl hz h0,List.length_take];omega
 by_cases h0:k=0
 ·subst h0
  refine zA (zA (zB (wP I (wP I ?_))))
  refine Ag 7 (.bool false) I I ?_
  refine wP I ?_
  iterate 6 refine Af I I ?_
  refine wP I (Aa (zE (zS I (zJ (zK (zK (zL (zE (zA (zB (wP I (wP I ?_))))))))))))
  refine Ec 0 tH I I I I I I I I (by omega) ?_
  exact wP I (Aa (zE (zO (wR1 I I (by rw[hend (.inl I)])))))
 ·refine zA (zA (zB (wP I (wP I (wU 7 true I (by simp;omega) ?_)))))
  obtain⟨b,off,rfl,hrow⟩:=h.row (show k-1<l.length by omega)
  refine wP I (wP I (wP I (wP I (wV 11 ((k-1:Nat):Int) I (by show w64 ((k:Int)-1)=_;rw[Aj (by omega) (by omega)];omega) ?_))))
  refine wJ ?_
  refine wL 0 I I (fun W hp=>(hrow (k-1) (by omega)).hp hp) I (wP I (wP I (Aa (zE ?_))))
  have e1:((lim l (k-1):Int)==0)=decide (l[k-1]? =some 0):=by
   rw[Cy (show k-1<l.length by omega),Nm]
   simp
  refine Ai I (fun hc=> ?_) (fun hc=> ?_)
  ·have hz0:l[k-1]? =some 0:=by simpa[e1] using hc
   refine zI (zE (zH (zB (wP I (wP I (wV 17 ((k-1:Nat):Int) I (by show w64 ((k:Int)-1)=_;rw[Aj (by omega) (by omega)];omega) (wP I (Aa (zN ?_)))))))))
   refine Ak (k-1) ⟨by show k-1≤_;omega,fun i h1 h2=> ?_⟩ (by show k-1<k;omega) ⟨I,I,O⟩ [] I
   by_cases hi:i=k-1
   ·rw[hi];exact hz0
   ·exact hz i (by have h1:k-1≤i:=h1;omega) h2
  ·have hz0:l[k-1]? ≠some 0:=by simpa[e1] using hc
   refine zJ (zK (zK (zL (zE (zA (zB (wP I (wP I ?_))))))))
   refine Ec k tH I I I I I I I I (by omega) ?_
   exact wP I (Aa (zE (zO (wR1 I I (by rw[hend (.inr hz0)])))))
theorem JA {a b:Nat} (h:(lbs br a).length<(lbs br b).length):a<b:=by
 rcases Nat.lt_or_ge a b with h1|h1
 ·exact h1
 ·have:=(Bt br2 (n:=b)).2 (Nat.lt_of_le_of_lt h1 (A6 br2 a))
  omega
theorem Tu {B:Nat} (_hB:2≤B) {a b:Nat} {k:Nat} (h:a/B^(k+1)=b/B^(k+1)):(a/B^k<b/B^k↔a/B^k%B<b/B^k%B)∧(a/B^k=b/B^k↔a/B^k%B=b/B^k%B):=by
 have h1:=Nat.mod_add_div (a/B^k) B
 have h2:=Nat.mod_add_div (b/B^k) B
 rw[Nat.div_div_eq_div_mul,show B^k*B=B^(k+1) from(Nat.pow_succ ..).symm] at h1 h2
 rw[h] at h1
 constructor<;>constructor<;>intro<;>omega
theorem Le {a b c:Nat} (h:a/c<b/c):a<b:=by
 rcases Nat.lt_or_ge a b with h1|h1
 ·exact h1
 ·exact absurd (Nat.div_le_div_right (c:=c) h1) (by omega)
def JJ (a b:Nat):Int:=if a<b then -1 else if b<a then 1 else 0
theorem I7 (W:World) (p q:Option Addr) (cap cap2:Nat) (a b:Nat) (hA:Ar W p (lbs br a)) (hB:Ar W q (lbs br b)) (hna:(lbs br a).length≤1000000) (_hnb:(lbs br b).length≤1000000):
  Ad Tryz.prog 229 #[slv p (lbs br a).length cap,slv q (lbs br b).length cap2] W (fun _:Unit=> .int .i64 (JJ a b)) (fun _=>True) (fun _=>[]):=by
 have hal:=A6 br2 a
 have hbl:=A6 br2 b
 refine Ab (args:=[slv p (lbs br a).length cap,slv q (lbs br b).length cap2]) Tryz.func229 I I I ?_
 refine zA (zB (wP I (Aa (zE (zA (zA (zB ?_)))))))
 iterate 5 refine wP I ?_
 by_cases hl:(lbs br a).length=(lbs br b).length
 rotate_left
 ·refine wU 10 true I (bne_iff_ne.2 (by omega)) (Aa (zE (zR I (zA (zA (zB ?_))))))
  iterate 5 refine wP I ?_
  by_cases h:(lbs br a).length<(lbs br b).length
  ·have hlt:=JA h
   exact wU 15 true I (dT (by omega)) (Aa (zE (zR I (zA (zB (wP I (Aa (zE (zO (zP (zP (wR1 I I (by unfold JJ;rw[if_pos hlt])))))))))))))
  ·have hlt:=JA (a:=b) (b:=a) (by omega)
   exact wU 15 false I (dF (by omega)) (Aa (zE (zS I (zI (zE (zA (zB (wP I (Aa (zE (zO (zP (wR1 I I (by unfold JJ;rw[if_neg (by omega),if_pos hlt]))))))))))))))
 obtain⟨K,hK⟩: ∃K,(lbs br b).length=K:=⟨_,rfl⟩
 rw[hl,hK] at hal
 rw[hK] at hbl hl
 rw[hl,hK]
 refine wU 10 false I (by simp) (Aa (zE (zS I (zI (zE (zA (zA (zB (wP I (wP I (wP I (wV 18 ((K:Int)-1) I (Aj (by omega) (by omega)) (wP I ?_)))))))))))))
 refine Aa (zE (zH ?_))
 refine Aw (X:=Nat) (fun k=>[(0,slv p K cap),(1,slv q K cap2),(5, .int .i64 ((k:Nat)-1:Int))]) (fun _=>[]) (fun k=>k≤K∧a/br^k=b/br^k) (fun k=>k) K ⟨Nat.le_refl _,by rw[Nat.div_eq_of_lt hal,Nat.div_eq_of_lt hbl]⟩ ⟨I,I,I,O⟩ [] I ?_
 rintro k ⟨hk,hq⟩
 have hk:k≤K:=hk
 refine zA (zA (zB (wP I (wP I ?_))))
 cases k with
 |zero=>
  have e:a=b:=by have hq:a/br^0=b/br^0:=hq;simpa using hq
  refine wU 20 false I (dF (by show¬(((0:Nat):Int)-1≥0);omega)) (Aa (zE (zS I (zJ (zK (zK (zL (zE (zA (zB (wP I (Aa (zE ?_)))))))))))))
  exact zO (wR1 I I (by unfold JJ;rw[e,if_neg (Nat.lt_irrefl _),if_neg (Nat.lt_irrefl _)]))
 |succ k=>
  have hq:a/br^(k+1)=b/br^(k+1):=hq
  obtain⟨h1,h2⟩:=Tu br2 hq
  obtain⟨b1,o1,rfl,r1⟩:=hA.row (show k<(lbs br a).length by omega)
  obtain⟨b2,o2,rfl,r2⟩:=hB.row (show k<(lbs br b).length by omega)
  have r1:=r1 k (by omega)
  have r2:=r2 k (by omega)
  obtain⟨x,hx⟩: ∃x,lim (lbs br a) k=x:=⟨_,rfl⟩
  obtain⟨y,hy⟩: ∃y,lim (lbs br b) k=y:=⟨_,rfl⟩
  rw[hx] at r1
  rw[hy] at r2
  rw[AP br2] at hx hy
  rw[hx,hy] at h1 h2
  have hxb:x<br:=by rw[←hx];exact Nat.mod_lt _ (by decide)
  have hyb:y<br:=by rw[←hy];exact Nat.mod_lt _ (by decide)
  have hxb:x<1000000:=hxb
  have hyb:y<1000000:=hyb
  refine wU 20 true I (dT (by show(((k+1:Nat):Int)-1≥0);omega)) (Aa (zE (zR I (zI (zE (zA (zH (zA (zA (zU (qP I (qP I (qV 24 (k:Nat) I (by show((k+1:Nat):Int)-1=_;omega) ?_)))))))))))))
  refine qJ ?_
  refine qL 0 I I (fun W hp=>r1.hp hp) I (qP I (qP I (qV 28 (k:Nat) I (by show((k+1:Nat):Int)-1=_;omega) ?_)))
  refine qJ ?_
  refine qL 0 I I (fun W hp=>r2.hp hp) I (qP I ?_)
  by_cases hlt:x<y
  ·have:=Le (h1.2 hlt)
   refine qU 31 true I (dT (by omega)) (AM (Aa (zE (zR I (zA (zB (wP I (Aa (zE (zO (zP (zQ (zP (zP ?_))))))))))))))
   exact zQ (zP (wR1 I I (by unfold JJ;rw[if_pos this])))
  refine qU 31 false I (dF (by omega)) (AM (Aa (zE (zS I (zI (zE (zA (zU (qP I (qP I (qV 33 (k:Nat) I (by show((k+1:Nat):Int)-1=_;omega) ?_)))))))))))
  refine qJ ?_
  refine qL 0 I I (fun W hp=>r1.hp hp) I (qP I (qP I (qV 37 (k:Nat) I (by show((k+1:Nat):Int)-1=_;omega) ?_)))
  refine qJ ?_
  refine qL 0 I I (fun W hp=>r2.hp hp) I (qP I ?_)
  by_cases hgt:y<x
  ·have h3: ¬a/br^k<b/br^k:=fun h=>hlt (h1.1 h)
   have h4: ¬a/br^k=b/br^k:=fun h=>by have:=h2.1 h;omega
   have:=Le (a:=b) (b:=a) (c:=br^k) (by omega)
   refine qU 40 true I (dT (by show((x:Nat):Int)>(y:Nat);omega)) (AM (Aa (zE (zR I (zA (zB (wP I (Aa (zE (zO (zQ (zP (zP ?_)))))))))))))
   exact zQ (zP (wR1 I I (by unfold JJ;rw[if_neg (by omega),if_pos this])))
  refine qU 40 false I (dF (by show¬((x:Nat):Int)>(y:Nat);omega)) (AM (Aa (zE (zS I (zI (zN (zE (zB (wP I (wV 21 (k:Nat) I (by show((k+1:Nat):Int)-1=_;omega) (wP I (wV 22 ((k:Nat)-1:Int) I (Aj (by omega) (by omega)) (wP I ?_)))))))))))))
  exact Aa (Ak k ⟨by show k≤K;omega,h2.2 (by omega)⟩ (by show k<k+1;omega) ⟨I,I,I,O⟩ [] I)
def E4 (a b:List Nat):Nat→List Nat×Nat
 |0=>([],0)
 |i+1=>((E4 a b i).1++[(lim a i+lim b i+(E4 a b i).2)%br],(lim a i+lim b i+(E4 a b i).2)/br)
theorem K8 (a b:List Nat): ∀i,(E4 a b i).1.length=i
 |0=>rfl
 |i+1=>by show(_++[_]).length=_;rw[List.length_append,K8 a b i];rfl
theorem P8 {a b:List Nat} (ha: ∀x∈a,x<br) (hb: ∀x∈b,x<br): ∀i,(∀x∈(E4 a b i).1,x<br)∧(E4 a b i).2≤1
 |0=>⟨fun x h=>(by cases h),Nat.zero_le _⟩
 |i+1=>by
  obtain⟨h1,h2⟩:=P8 ha hb i
  have l1:lim a i<1000000:=AN br2 ha i
  have l2:lim b i<1000000:=AN br2 hb i
  refine⟨fun x hx=> ?_, ?_⟩
  ·rcases List.mem_append.1 hx with hx|hx
   ·exact h1 x hx
   ·obtain rfl:=List.mem_singleton.1 hx;exact Nat.mod_lt _ (by decide)
  ·show _/1000000≤1;omega
theorem Jg (a b:Nat): ∀i,lv br (E4 (lbs br a) (lbs br b) i).1+br^i*(E4 (lbs br a) (lbs br b) i).2=a%br^i+b%br^i
 |0=>by show 0+br^0*0=_;rw[Nat.pow_zero,Nat.mod_one,Nat.mod_one]
 |i+1=>La (K8 _ _ i) (Jg a b i) (by rw[AP br2,AP br2])
theorem Nt (W:World) (p q:Option Addr) (cap cap2:Nat) (a b:Nat) (hA:Ar W p (lbs br a)) (hB:Ar W q (lbs br b)) (hna:(lbs br a).length≤1000000) (hnb:(lbs br b).length≤1000000):
  Ad Tryz.prog 256 #[slv p (lbs br a).length cap,slv q (lbs br b).length cap2] W (fun x:NV=>Bb x (lbs br (a+b)).length) (fun x=>B9 x (lbs br (a+b))) (fun x=>[Bn x (lbs br (a+b))]):=by
 have hla:=AS br2 a
 have hlb:=AS br2 b
 have hal:=A6 br2 a
 have hbl:=A6 br2 b
 obtain⟨na,hna'⟩: ∃n,(lbs br a).length=n:=⟨_,rfl⟩
 obtain⟨nb,hnb'⟩: ∃n,(lbs br b).length=n:=⟨_,rfl⟩
 rw[hna'] at hna hal
 rw[hnb'] at hnb hbl
 obtain⟨M,hM⟩: ∃M,M=max na nb:=⟨_,rfl⟩
 have ham:a<br^M:=Nat.lt_of_lt_of_le hal (Nat.pow_le_pow_right (by decide) (by omega))
 have hbm:b<br^M:=Nat.lt_of_lt_of_le hbl (Nat.pow_le_pow_right (by decide) (by omega))
 refine Ab (args:=[slv p (lbs br a).length cap,slv q (lbs br b).length cap2]) Tryz.func256 I I I ?_
 rw[hna',hnb']
 refine zA (zB (wP I (Aa (zE (zA (zB ?_))))))
 refine E5 tH I I I I I ?_
 intro g
 refine wP I (Aa (zE (zA (zB (wP I (Aa (zE (zA (zA (zB (wP I (Aa (zE ?_)))))))))))))
 refine zH ?_
 refine Aw (X:=Nat×NV) (fun x=>[(0,slv p na cap),(1,slv q nb cap2),(5,Bb x.2 x.1),(6, .int .i64 ((E4 (lbs br a) (lbs br b) x.1).2:Nat)),(7, .int .i64 (x.1:Nat))]) (fun x=>[Bn x.2 (E4 (lbs br a) (lbs br b) x.1).1])
  (fun x=>x.1≤M+1∧B9 x.2 (E4 (lbs br a) (lbs br b) x.1).1∧(x.1=M+1→(E4 (lbs br a) (lbs br b) (M+1)).2=0)) (fun x=>M+1-x.1) (0,g,0,[]) ⟨Nat.zero_le _,⟨rfl,(fun h=>by cases h),fun _=>⟨Nat.le_refl _,Nat.zero_le _,rfl⟩⟩,fun h=>by have h:0=M+1:=h;omega⟩ ⟨rfl,rfl,rfl,rfl,rfl,trivial⟩ [] rfl ?_
 rintro⟨i,x⟩ ⟨hi,hx,hend⟩
 have hi:i≤M+1:=hi
 have hx:B9 x (E4 (lbs br a) (lbs br b) i).1:=hx
 have hlen:=K8 (lbs br a) (lbs br b) i
 obtain⟨hob,hc1⟩:=P8 hla hlb i
 have hval:=Jg a b i
 obtain⟨out,hout⟩: ∃out,(E4 (lbs br a) (lbs br b) i).1=out:=⟨_,rfl⟩
 obtain⟨c,hc⟩: ∃c,(E4 (lbs br a) (lbs br b) i).2=c:=⟨_,rfl⟩
 rw[hout] at hx hlen hob hval
 rw[hc] at hc1 hval
 have eout:Bn x (E4 (lbs br a) (lbs br b) i).1=Bn x out:=by rw[hout]
 simp only[hc,hout]
 refine Ax (Ax ?_)
 refine A3 (X:=Unit) (fun _=>[(0,slv p na cap),(1,slv q nb cap2),(5,Bb x i),(6, .int .i64 (c:Nat)),(7, .int .i64 (i:Nat)),(23, .bool (decide (i<na∨i<nb∨0<c)))]) (fun _=>[Bn x out]) (fun _=>True) ?_ ?_
 ·refine zB (wP I (wP I (wP I (wP I ?_))))
  by_cases h1:i<na
  ·refine wU 13 true I (dT (by omega)) (wP I ?_)
   iterate 4 refine Af I I ?_
   refine wP I (wP I ?_)
   iterate 2 refine Af I I ?_
   exact wP I (Aa (Ah () O ⟨I,I,I,I,I,by rw[dT (Or.inl h1)];rfl,O⟩ [] I))
  refine wU 13 false I (dF (by omega)) ?_
  iterate 5 refine wP I ?_
  by_cases h2:i<nb
  ·refine wU 18 true I (dT (by omega)) (wP I (wP I ?_))
   iterate 2 refine Af I I ?_
   exact wP I (Aa (Ah () O ⟨I,I,I,I,I,by rw[dT (Or.inr (Or.inl h2))];rfl,O⟩ [] I))
  exact wU 18 false I (dF (by omega)) (wP I (wP I (wP I (wP I (wU 22 (decide (i<na∨i<nb∨0<c)) I (decide_eq_decide.2 (by omega)) (wP I (Aa (Ah () O ⟨I,I,I,I,I,I,O⟩ [] I))))))))
 intro _ _
 refine Ai I (fun hcd=> ?_) (fun hcd=> ?_)
 ·have hcd:i<na∨i<nb∨0<c:=of_decide_eq_true hcd
  have hiM:i≤M:=by
   rcases Nat.lt_or_ge M i with h|h
   ·have h1:i=M+1:=by omega
    have h2:=hend h1
    rw[←h1,hc] at h2
    omega
   ·exact h
  obtain⟨u,hu⟩: ∃u,lim (lbs br a) i=u:=⟨_,rfl⟩
  obtain⟨v,hv⟩: ∃v,lim (lbs br b) i=v:=⟨_,rfl⟩
  have hub:u<1000000:=by rw[←hu];exact AN br2 hla i
  have hvb:v<1000000:=by rw[←hv];exact AN br2 hlb i
  have e1:(E4 (lbs br a) (lbs br b) (i+1)).1=out++[(u+v+c)%br]:=by show _++[_]=_;rw[hout,hu,hv,hc]
  have e2:(E4 (lbs br a) (lbs br b) (i+1)).2=(u+v+c)/br:=by show _/_=_;rw[hu,hv,hc]
  refine zI (zE (zA (zH (zA (zB (wP I (wP I (wC I I (fun W' hp=>Cm W' p cap na (lbs br a) i u (hA.hp hp) hna' (by omega) hu) (wP I (wP I (wC I I (fun W' hp=>Cm W' q cap2 nb (lbs br b) i v (hB.hp hp) hnb' (by omega) hv) (wP I (wP I (wP I ?_))))))))))))))
  refine wV 34 ((u+v+c:Nat):Int) I (by show w64 (w64 ((u:Int)+v)+c)=_;rw[AA (by omega),AA (by omega)]) (wP I (Aa (zE (zA (zB (wP I (wP I ?_)))))))
  refine Fh I I I I I (by decide) ?_
  refine Ap Tryz.hZ tH I I I I I I I I I I I fun bN=> ?_
  refine Cc (V:=nvV x) (len:=i) (xs:=nI out) 0 1 Tryz.vec170 (i+1) (nI (out++[(u+v+c)%br])) I I I I I I I I I I I (by rw[←hlen];exact hx) I I I (by rw[GO];rfl) (by simp only[maxLen];omega) (by omega) I ?_
  intro g1 c1 j1 hV1
  refine wP I (Aa (zE (zB (wP I ?_))))
  refine CG I I I I I (by decide) ?_
  refine wV 41 (((u+v+c)/br:Nat):Int) I (Bl (show(u+v+c)/1000000<9223372036854775808 by omega)) (wP I (Aa (zN (zE (zB (wP I (wP I (wV 25 ((i+1:Nat):Int) I (An (by omega)) (wP I (Aa ?_))))))))))
  refine Ak (i+1,g1,c1,j1) ⟨by show i+1≤M+1;omega, ?_,fun h=> ?_⟩ (by show M+1-(i+1)<M+1-i;omega) ⟨I,I,I,by rw[e2];rfl,I,O⟩ _ (by show _=[Bn _ (E4 _ _ (i+1)).1]++_;rw[e1];rfl)
  ·show B9 _ (E4 (lbs br a) (lbs br b) (i+1)).1
   rw[e1]
   show Vec.OK _ 1 (out++[_]).length _
   rw[List.length_append,hlen]
   exact hV1
  ·have h:i+1=M+1:=h
   have h9:=Jg a b (M+1)
   have hp1:br^(M+1)=br^M*br:=Nat.pow_succ ..
   have hp2:br^M*2≤br^M*br:=Nat.mul_le_mul_left _ br2
   rw[Nat.mod_eq_of_lt (by omega),Nat.mod_eq_of_lt (by omega)] at h9
   rcases Nat.eq_zero_or_pos (E4 (lbs br a) (lbs br b) (M+1)).2 with h0|h0
   ·exact h0
   ·have:=Nat.mul_le_mul_left (br^(M+1)) h0
    omega
 ·have hcd: ¬(i<na∨i<nb∨0<c):=of_decide_eq_false hcd
  have ev:lv br out=a+b:=by
   have hc0:c=0:=by omega
   rw[hc0,Nat.mul_zero,Nat.add_zero] at hval
   have h3:br^M≤br^i:=Nat.pow_le_pow_right (by decide) (by omega)
   rw[Nat.mod_eq_of_lt (by omega),Nat.mod_eq_of_lt (by omega)] at hval
   exact hval
  obtain⟨j2,hj1,hj2⟩:=CL hx hob
  rw[ev] at hj1 hj2
  refine zJ (zK (zK (zL (zE (zA (zB (wP I ?_)))))))
  refine Ag 42 (slv (some ⟨x.1,0,none⟩) out.length x.2.1) I (by rw[hlen]) ?_
  exact wC I I (fun W' hp=>Ca W' (some ⟨x.1,0,none⟩) x.2.1 out (Ar.of_bx hp 0 I) hob (by have:=(hx.cap (by simp)).1;exact this) (by omega)) (wP I (Aa (zE (zO (AE tH I (.tmp I) ((x.1,x.2.1,j2):NV) (by rw[ev]) hj1 fun W hp=>A0.of_hp1 hp 0 (by show some (⟨x.1,3,nI out++x.2.2,true,none⟩:Bx)=some ⟨x.1,3,nI (lbs br (a+b))++j2,true,none⟩;rw[hj2]))))))
-- BOXES 4
-- CODE2
def Gg (x y c:Nat):Nat×Nat:=if y+c≤x then(x-y-c,0) else(x+br-y-c,1)
theorem PO {x y c:Nat} (hx:x<br) (hy:y<br) (hc:c≤1):(Gg x y c).1<br∧(Gg x y c).2≤1∧(Gg x y c).1+y+c=x+br*(Gg x y c).2:=by
 have hx:x<1000000:=hx
 have hy:y<1000000:=hy
 unfold Gg
 split
 ·exact⟨by show x-y-c<1000000;omega,Nat.zero_le _,by show x-y-c+y+c=x+1000000*0;omega⟩
 ·exact⟨by show x+1000000-y-c<1000000;omega,Nat.le_refl _,by show x+1000000-y-c+y+c=x+1000000*1;omega⟩
def FF (a b:List Nat):Nat→List Nat×Nat
 |0=>([],0)
 |i+1=>((FF a b i).1++[(Gg (lim a i) (lim b i) (FF a b i).2).1],(Gg (lim a i) (lim b i) (FF a b i).2).2)
theorem JY (a b:List Nat): ∀i,(FF a b i).1.length=i
 |0=>rfl
 |i+1=>by show(_++[_]).length=_;rw[List.length_append,JY a b i];rfl
theorem L8 {a b:List Nat} (ha: ∀x∈a,x<br) (hb: ∀x∈b,x<br): ∀i,(∀x∈(FF a b i).1,x<br)∧(FF a b i).2≤1
 |0=>⟨fun x h=>(by cases h),Nat.zero_le _⟩
 |i+1=>by
  obtain⟨h1,h2⟩:=L8 ha hb i
  obtain⟨h3,h4,_⟩:=PO (AN br2 ha i) (AN br2 hb i) h2
  refine⟨fun x hx=> ?_,h4⟩
  rcases List.mem_append.1 hx with hx|hx
  ·exact h1 x hx
  ·obtain rfl:=List.mem_singleton.1 hx;exact h3
theorem MB (a b:Nat): ∀i,lv br (FF (lbs br a) (lbs br b) i).1+b%br^i=a%br^i+br^i*(FF (lbs br a) (lbs br b) i).2
 |0=>by show 0+_=_+br^0*0;rw[Nat.pow_zero,Nat.mod_one,Nat.mod_one]
 |i+1=>by
  have hc:=(L8 (AS br2 a) (AS br2 b) i).2
  exact J7 (JY _ _ i) (MB a b i) (by rw[←AP br2 b i, ←AP br2 a i];exact(PO (AN br2 (AS br2 a) i) (AN br2 (AS br2 b) i) hc).2.2)
theorem DG (W:World) (p q:Option Addr) (cap cap2:Nat) (a b:Nat) (hba:b≤a) (hA:Ar W p (lbs br a)) (hB:Ar W q (lbs br b)) (hna:(lbs br a).length≤1000000):
  Ad Tryz.prog 227 #[slv p (lbs br a).length cap,slv q (lbs br b).length cap2] W (fun x:NV=>Bb x (lbs br (a-b)).length) (fun x=>B9 x (lbs br (a-b))) (fun x=>[Bn x (lbs br (a-b))]):=by
 have hla:=AS br2 a
 have hlb:=AS br2 b
 have hal:=A6 br2 a
 obtain⟨na,hna'⟩: ∃n,(lbs br a).length=n:=⟨_,rfl⟩
 obtain⟨nb,hnb'⟩: ∃n,(lbs br b).length=n:=⟨_,rfl⟩
 rw[hna'] at hna hal
 refine Ab (args:=[slv p (lbs br a).length cap,slv q (lbs br b).length cap2]) Tryz.func227 I I I ?_
 rw[hna',hnb']
 refine zA (zB (wP I (Aa (zE (zA (zB ?_))))))
 refine E5 tH I I I I I ?_
 intro g
 refine wP I (Aa (zE (zA (zB (wP I (Aa (zE (zA (zA (zB (wP I (Aa (zE ?_)))))))))))))
 refine zH ?_
 refine Aw (X:=Nat×NV) (fun x=>[(0,slv p na cap),(1,slv q nb cap2),(5,Bb x.2 x.1),(6, .int .i64 ((FF (lbs br a) (lbs br b) x.1).2:Nat)),(7, .int .i64 (x.1:Nat))]) (fun x=>[Bn x.2 (FF (lbs br a) (lbs br b) x.1).1])
  (fun x=>x.1≤na∧B9 x.2 (FF (lbs br a) (lbs br b) x.1).1) (fun x=>na-x.1) (0,g,0,[]) ⟨Nat.zero_le _,⟨rfl,(fun h=>by cases h),fun _=>⟨Nat.le_refl _,Nat.zero_le _,rfl⟩⟩⟩ ⟨rfl,rfl,rfl,rfl,rfl,trivial⟩ [] rfl ?_
 rintro⟨i,x⟩ ⟨hi,hx⟩
 have hi:i≤na:=hi
 have hx:B9 x (FF (lbs br a) (lbs br b) i).1:=hx
 have hlen:=JY (lbs br a) (lbs br b) i
 obtain⟨hob,hc1⟩:=L8 hla hlb i
 have hval:=MB a b i
 obtain⟨out,hout⟩: ∃out,(FF (lbs br a) (lbs br b) i).1=out:=⟨_,rfl⟩
 obtain⟨c,hc⟩: ∃c,(FF (lbs br a) (lbs br b) i).2=c:=⟨_,rfl⟩
 rw[hout] at hx hlen hob hval
 rw[hc] at hc1 hval
 simp only[hc,hout]
 refine zA (zA (zB (wP I (wP I (wP I (wP I ?_))))))
 by_cases h1:i<na
 ·refine wU 13 true I (dT (by omega)) (Aa (zE (zR I (zI (zE (zA (zH (zA (zU ?_)))))))))
  obtain⟨u,hu⟩: ∃u,lim (lbs br a) i=u:=⟨_,rfl⟩
  obtain⟨v,hv⟩: ∃v,lim (lbs br b) i=v:=⟨_,rfl⟩
  have hub:u<1000000:=by rw[←hu];exact AN br2 hla i
  have hvb:v<1000000:=by rw[←hv];exact AN br2 hlb i
  obtain⟨b1,o1,rfl,r1⟩:=hA.row (show i<(lbs br a).length by omega)
  have r1:=r1 i (by omega)
  rw[hu] at r1
  have e1:(FF (lbs br a) (lbs br b) (i+1)).1=out++[(Gg u v c).1]:=by show _++[_]=_;rw[hout,hu,hv,hc]
  have e2:(FF (lbs br a) (lbs br b) (i+1)).2=(Gg u v c).2:=by show(Gg _ _ _).2=_;rw[hu,hv,hc]
  refine qP I (qP I ?_)
  refine qJ ?_
  refine qL 0 I I (fun W hp=>r1.hp hp) I (qP I (qP I (qC I I (fun W' hp=>Cm W' q cap2 nb (lbs br b) i v (hB.hp hp) hnb' (by omega) hv) (qP I (qP I (qP I (qV 25 ((u:Int)-v-c) I (by show w64 (w64 ((u:Int)-v)-c)=_;rw[Aj (x:=(u:Int)-v) (by omega) (by omega),Aj (by omega) (by omega)]) (qP I (AM (Aa (zE (zA (zB ?_)))))))))))))
  refine wP I (Aa (A4 (Ax (Ax (zB (wP I (wP I ?_)))))))
  refine Ag 27 (.bool (decide ((u:Int)-v-c<0))) I I ?_
  refine Aa (A4 ?_)
  try refine Ax ?_
  refine A3 (X:=Unit) (fun _=>[(0,slv (some ⟨b1,o1,none⟩) na cap),(1,slv q nb cap2),(5,Bb x i),(6, .int .i64 ((Gg u v c).2:Nat)),(7, .int .i64 (i:Nat)),(8, .int .i64 ((Gg u v c).1:Nat))]) (fun _=>[Bn x out]) (fun _=>True) ?_ ?_
  ·refine Ai I (fun hn=> ?_) (fun hn=> ?_)
   ·have hn:(u:Int)-v-c<0:=of_decide_eq_true hn
    have em:Gg u v c=(u+br-v-c,1):=by unfold Gg;rw[if_neg (by omega)]
    exact zA (zB (wP I (wP I (wV 29 ((u+br-v-c:Nat):Int) I (by show w64 (((u:Int)-v-c)+((1000000:Nat):Int))=_;rw[Aj (by omega) (by omega)];show _=((u+1000000-v-c:Nat):Int);omega) (wP I (Aa (zE (zB (wP I (Aa (Ah () O ⟨I,I,I,by rw[em];rfl,I,by rw[em];rfl,O⟩ [] I)))))))))))
   ·have hn: ¬(u:Int)-v-c<0:=of_decide_eq_false hn
    have em:Gg u v c=(u-v-c,0):=by unfold Gg;rw[if_pos (by omega)]
    exact zI (Ah () O ⟨I,I,I,by rw[em];rfl,I,by rw[em];exact congrArg (fun z=>some (Value.int .i64 z)) (by show(u:Int)-v-c=((u-v-c:Nat):Int);omega),O⟩ [] I)
  intro _ _
  refine zB (wP I (wP I ?_))
  refine Ap Tryz.hZ tH I I I I I I I I I I I fun bN=> ?_
  refine Cc (V:=nvV x) (len:=i) (xs:=nI out) 0 1 Tryz.vec170 (i+1) (nI (out++[(Gg u v c).1])) I I I I I I I I I I I (by rw[←hlen];exact hx) I I I (by rw[GO];rfl) (by simp only[maxLen];omega) (by omega) I ?_
  intro g1 c1 j1 hV1
  refine wP I (Aa (zN (zE (zB (wP I (wP I (wV 15 ((i+1:Nat):Int) I (An (by omega)) (wP I (Aa ?_)))))))))
  refine Ak (i+1,g1,c1,j1) ⟨h1, ?_⟩ (by show na-(i+1)<na-i;omega) ⟨I,I,I,by rw[e2];rfl,I,O⟩ _ (by show _=[Bn _ (FF _ _ (i+1)).1]++_;rw[e1];rfl)
  show B9 _ (FF (lbs br a) (lbs br b) (i+1)).1
  rw[e1]
  show Vec.OK _ 1 (out++[_]).length _
  rw[List.length_append,hlen]
  exact hV1
 ·have e:i=na:=by omega
  subst e
  have ev:lv br out=a-b:=Ln br2 hlen hob hval hal hba
  obtain⟨j2,hj1,hj2⟩:=CL hx hob
  rw[ev] at hj1 hj2
  refine wU 13 false I (dF (by omega)) (Aa (zE (zS I (zJ (zK (zK (zL (zE (zA (zB (wP I ?_)))))))))))
  refine Ag 34 (slv (some ⟨x.1,0,none⟩) out.length x.2.1) I (by rw[hlen]) ?_
  exact wC I I (fun W' hp=>Ca W' (some ⟨x.1,0,none⟩) x.2.1 out (Ar.of_bx hp 0 I) hob (by have:=(hx.cap (by simp)).1;exact this) (by omega)) (wP I (Aa (zE (zO (AE tH I (.tmp I) ((x.1,x.2.1,j2):NV) (by rw[ev]) hj1 fun W hp=>A0.of_hp1 hp 0 (by show some (⟨x.1,3,nI out++x.2.2,true,none⟩:Bx)=some ⟨x.1,3,nI (lbs br (a-b))++j2,true,none⟩;rw[hj2]))))))
-- BOXES 4
-- CODE2
theorem Ru {x y:Nat} (hx:x<br) (hy:y<br):x*y≤999998000001:=(Nat.mul_le_mul (Nat.le_of_lt_succ hx) (Nat.le_of_lt_succ hy):x*y≤999999*999999)
theorem G8 (W:World) (p q:Option Addr) (cap cap2:Nat) (a:Nat) (lb:List Nat) (hlb: ∀x∈lb,x<br) (hA:Ar W p (lbs br a)) (hB:Ar W q lb) (hna:(lbs br a).length≤1000000) (hnb:lb.length≤1000000):
  Ad Tryz.prog 228 #[slv p (lbs br a).length cap,slv q lb.length cap2] W (fun x:NV=>Bb x (lbs br (a*lv br lb)).length) (fun x=>B9 x (lbs br (a*lv br lb))) (fun x=>[Bn x (lbs br (a*lv br lb))]):=by
 have hla:=AS br2 a
 have hal:=A6 br2 a
 have hbl:=DV br2 hlb
 obtain⟨b,hbv⟩: ∃b,lv br lb=b:=⟨_,rfl⟩
 rw[hbv] at hbl⊢
 obtain⟨na,hna'⟩: ∃n,(lbs br a).length=n:=⟨_,rfl⟩
 obtain⟨nb,hnb'⟩: ∃n,lb.length=n:=⟨_,rfl⟩
 obtain⟨M,hM⟩: ∃M,M=na+nb+1:=⟨_,rfl⟩
 rw[hna'] at hna hal
 rw[hnb'] at hnb hbl
 refine Ab (args:=[slv p (lbs br a).length cap,slv q lb.length cap2]) Tryz.func228 I I I ?_
 rw[hna',hnb']
 refine zA (zB (wP I (Aa (zE (zA (zB ?_))))))
 iterate 6 refine wP I ?_
 refine wV 15 (M:Nat) I (by show w64 (w64 ((na:Int)+nb)+1)=_;rw[AA (by omega),An (by omega),hM]) ?_
 refine B4 Tryz.vec170 M I I I I I I I (by simp only[maxLen];omega) (by omega) ?_
 intro g
 have ez:Ck (Value.cells (.int .i64 0)).toList M=nI (List.replicate M 0)++[]:=by rw[List.append_nil];exact DQ M
 rw[ez]
 refine wP I (Aa (zE (zA (zA (zB (wP I (Aa (zE (zH ?_)))))))))
 refine Aw (X:=Nat×List Nat) (fun x=>[(0,slv p na cap),(1,slv q nb cap2),(5,slv (some ⟨g,0,none⟩) M M),(6, .int .i64 (x.1:Nat))]) (fun x=>[⟨g,3,nI x.2++[],true,none⟩])
  (fun x=>x.1≤na∧x.2.length=M∧(∀y∈x.2,y<br)∧lv br x.2=a%br^x.1*b) (fun x=>na-x.1) (0,List.replicate M 0) ⟨Nat.zero_le _,List.length_replicate,fun y hy=>by rw[List.eq_of_mem_replicate hy];decide,by rw[Dx];show 0=a%br^0*b;rw[Nat.pow_zero,Nat.mod_one,Nat.zero_mul]⟩ ⟨rfl,rfl,rfl,rfl,trivial⟩ [] rfl ?_
 rintro⟨i,out⟩ ⟨hi,hlen,hob,hov⟩
 have hi:i≤na:=hi
 have hlen:out.length=M:=hlen
 refine zA (zA (zB (wP I (wP I (wP I (wP I ?_))))))
 by_cases hi':i<na
 ·refine wU 20 true I (dT (by omega)) (Aa (zE (zR I (zI (zE (zA (zH (zA (zB ?_)))))))))
  obtain⟨pb,po,rfl,hrow⟩:=hA.row (show i<(lbs br a).length by omega)
  obtain⟨x,hx⟩: ∃x,lim (lbs br a) i=x:=⟨_,rfl⟩
  have hrx: ∀W' bx,Hp W bx W'→Ao W' pb (po+i*1) [.int .i64 (x:Nat)]:=fun W' bx hp=>by
   have:=(hrow i (by omega)).hp hp
   rwa [hx] at this
  have hxb:x<br:=by rw[←hx];exact AN br2 hla i
  have hxe:x=a/br^i%br:=by rw[←hx];exact AP br2 a i
  refine wP I (Aa (zE (zA (zB (wP I (Aa (zE (zH ?_))))))))
  refine Aw (X:=Nat×List Nat×Nat) (fun x'=>[(0,slv (some ⟨pb,po,none⟩) na cap),(1,slv q nb cap2),(5,slv (some ⟨g,0,none⟩) M M),(6, .int .i64 (i:Nat)),(7, .int .i64 (x'.2.2:Nat)),(8, .int .i64 (x'.1:Nat))]) (fun x'=>[⟨g,3,nI x'.2.1++[],true,none⟩])
   (fun x'=>x'.1≤nb+1∧x'.2.1.length=M∧(∀y∈x'.2.1,y<br)∧x'.2.2<br∧lv br x'.2.1+br^(i+x'.1)*x'.2.2=lv br out+br^i*(x*(b%br^x'.1))) (fun x'=>nb+1-x'.1) (0,out,0) ⟨Nat.zero_le _,hlen,hob,show 0<br by decide,by show lv br out+br^(i+0)*0=lv br out+br^i*(x*(b%br^0));rw[Nat.pow_zero,Nat.mod_one];simp⟩ ⟨rfl,rfl,rfl,rfl,rfl,rfl,trivial⟩ [] rfl ?_
  rintro⟨k,u,c⟩ ⟨hk,hul,hub,hcb,huv⟩
  have hk:k≤nb+1:=hk
  have hul:u.length=M:=hul
  have hcb:c<1000000:=hcb
  have huv:lv br u+br^(i+k)*c=lv br out+br^i*(x*(b%br^k)):=huv
  have hlast:k=nb+1→c=0:=fun e=>by
   subst e
   exact(Lw br2 huv hbl hxb (by rw[hov];exact ID br2 hbl)).2
  refine Ax (Ax ?_)
  refine A3 (X:=Unit) (fun _=>[(0,slv (some ⟨pb,po,none⟩) na cap),(1,slv q nb cap2),(5,slv (some ⟨g,0,none⟩) M M),(6, .int .i64 (i:Nat)),(7, .int .i64 (c:Nat)),(8, .int .i64 (k:Nat)),(30, .bool (decide (k<nb∨0<c)))]) (fun _=>[⟨g,3,nI u++[],true,none⟩]) (fun _=>True) ?_ ?_
  ·refine zB (wP I (wP I (wP I (wP I ?_))))
   by_cases h1:k<nb
   ·refine wU 26 true I (dT (by omega)) (wP I ?_)
    iterate 2 refine Af I I ?_
    exact wP I (Aa (Ah () O ⟨I,I,I,I,I,I,by rw[dT (Or.inl h1)];rfl,O⟩ [] I))
   ·exact wU 26 false I (dF (by omega)) (wP I (wP I (wP I (wU 29 (decide (k<nb∨0<c)) I (decide_eq_decide.2 (by show((c:Nat):Int)>0↔(k<nb∨0<c);omega)) (wP I (Aa (Ah () O ⟨I,I,I,I,I,I,I,O⟩ [] I)))))))
  intro _ _
  refine Ai I (fun hc=> ?_) (fun hc=> ?_)
  ·have hc:k<nb∨0<c:=of_decide_eq_true hc
   have hk':k<nb+1:=by
    rcases Nat.lt_or_ge k (nb+1) with h|h
    ·exact h
    ·have:=hlast (by omega);omega
   have hik:i+k<u.length:=by rw[hul];omega
   obtain⟨o,ho⟩: ∃o,lim u (i+k)=o:=⟨_,rfl⟩
   obtain⟨y,hy⟩: ∃y,lim lb k=y:=⟨_,rfl⟩
   have hob':o<br:=by rw[←ho];exact AN br2 hub _
   have hyb:y<br:=by rw[←hy];exact AN br2 hlb _
   have hou:u[i+k]? =some o:=by rw[Cy hik,ho]
   obtain⟨n,hn⟩: ∃n,n=o+x*y+c:=⟨_,rfl⟩
   have hnb2:=Iz hxb hyb hob' hcb hn
   have hn63:n<1000000000000:=hnb2.2
   have hxy:=Ru hxb hyb
   have hyy:=hy
   rw[BK br2 k hlb,hbv] at hyy
   have hstep:=GQ (n:=n) hou huv (by rw[hn,hyy])
   have hrx':=hrx
   refine zI (zE (zA (zH (zA (zU (qP I (qP I (qP I (qP I (qV 36 ((i+k:Nat):Int) I (AA (by omega)) ?_))))))))))
   refine qJ ?_
   refine qL 0 I I (fun W' hp=>Ao.of_intsX hp 0 I hik ho) I (qP I (qP I ?_))
   refine qJ ?_
   refine qL 0 I I (fun W' hp=>hrx W' _ hp) I (qP I (qP I (qC I I (fun W' hp=>Cm W' q cap2 nb lb k y (hB.hp hp) hnb' (by omega) hy) (qP I (qP I (qP I (qP I (qV 49 (n:Nat) I (by show w64 (w64 ((o:Int)+w64 ((x:Int)*y))+c)=_;rw[BB (by omega),AA (by omega),AA (by omega),hn]) (qP I (AM (Aa (zE (zA ?_)))))))))))))
   refine zB (wP I (wP I (wP I (wP I (wV 53 ((i+k:Nat):Int) I (AA (by omega)) (wP I ?_))))))
   refine Fh I I I I I (by decide) ?_
   refine wJ ?_
   refine A5 0 (nI (u.set (i+k) (n%br))++[]) tH I I I I I I I I I I (by show 0+(i+k)*1+1≤(nI u++[]).length;rw[List.append_nil,Bk];omega) (BP hik (n%br)) ?_
   refine Aa (zE (zB (wP I ?_)))
   refine CG I I I I I (by decide) ?_
   exact wV 58 ((n/br:Nat):Int) I (Bl (show n/1000000<9223372036854775808 by omega)) (wP I (Aa (zN (zE (zB (wP I (wP I (wV 32 ((k+1:Nat):Int) I (An (by omega)) (wP I (Aa (Ak (k+1,u.set (i+k) (n%br),n/br) ⟨hk',by rw[List.length_set];exact hul,Cf hub (Nat.mod_lt _ (by decide)),hnb2.1,hstep⟩ (by show nb+1-(k+1)<nb+1-k;omega) ⟨I,I,I,I,I,I,O⟩ [] I)))))))))))
  ·have hc: ¬(k<nb∨0<c):=of_decide_eq_false hc
   have hc0:c=0:=by omega
   have h1:lv br u=lv br out+br^i*(x*b):=by
    rw[hc0,Nat.mul_zero,Nat.add_zero] at huv
    have h3:br^nb≤br^k:=Nat.pow_le_pow_right (by decide) (by omega)
    rw[Nat.mod_eq_of_lt (show b<br^k by omega)] at huv
    exact huv
   have h2:=KA (a:=a) (b:=b) (i:=i) hov
   rw[←hxe, ←h1] at h2
   exact zJ (zK (zK (zL (zN (zE (zB (wP I (wP I (wV 22 ((i+1:Nat):Int) I (An (by omega)) (wP I (Aa (Ak (i+1,u) ⟨hi',hul,hub,h2⟩ (by show na-(i+1)<na-i;omega) ⟨I,I,I,I,O⟩ [] I))))))))))))
 ·have hi':i=na:=by omega
  subst hi'
  rw[Nat.mod_eq_of_lt hal] at hov
  refine wU 20 false I (dF (by omega)) (Aa (zE (zS I (zJ (zK (zK (zL (zE (zA (zB ?_))))))))))
  have hV0:(⟨some g,M,[]⟩:Vec).OK 1 out.length (nI out):=⟨Dm _,(fun h=>by cases h),fun _=>⟨by show _≤M;omega,by show M≤maxLen;simp only[maxLen];omega,by show(nI out).length+0=M*1;rw[Bk];omega⟩⟩
  obtain⟨j',hV2,he⟩:=CL hV0 hob
  refine wP I ?_
  refine Ag 59 (slv (some ⟨g,0,none⟩) out.length M) I (by rw[hlen]) ?_
  refine wC I I (fun W hp=>Ca W _ M _ (Ar.of_bx hp 0 I) hob (by omega) (by omega)) (wP I (Aa (zE (zO ?_))))
  rw[hov] at hV2 he
  exact AE tH I (.tmp I) ((g,M,j'):NV) (by rw[hov]) hV2 fun W hp=>A0.of_hp1 hp 0 (by show some (⟨g,3,nI out++[],true,none⟩:Bx)=some ⟨g,3,nI (lbs br (a*b))++j',true,none⟩;rw[he])
theorem Hi (W:World) (p q:Option Addr) (cap cap2:Nat) (a b:Nat) (hA:Ar W p (lbs br a)) (hB:Ar W q (lbs br b)) (hna:(lbs br a).length≤1000000) (hnb:(lbs br b).length≤1000000):
  Ad Tryz.prog 228 #[slv p (lbs br a).length cap,slv q (lbs br b).length cap2] W (fun x:NV=>Bb x (lbs br (a*b)).length) (fun x=>B9 x (lbs br (a*b))) (fun x=>[Bn x (lbs br (a*b))]):=by
 have h:=G8 W p q cap cap2 a (lbs br b) (AS br2 b) hA hB hna hnb
 rwa [Io br2] at h
-- BOXES 2
-- CODE2
def FC (z:Int):List UInt8:=if z<0 then[45] else[]
theorem B3 (z:Int):itoa z=FC z++decDigits z.natAbs:=by
 unfold itoa FC
 split
 ·rfl
 ·rw[show z.toNat=z.natAbs by omega];rfl
theorem IR (z:Int):(FC z).length≤1:=by unfold FC;split<;>decide
theorem Du (z:Int): ∃c,(itoa z)[0]? =some c∧decide (c=45)=decide (z<0):=by
 have h:=Is z
 rw[AY] at h
 cases e:itoa z with
 |nil=>
  rw[B3] at e
  exact absurd (List.append_eq_nil_iff.1 e).2 (EV _)
 |cons c t=>
  rw[e] at h
  exact⟨c,I,by rw[←h];exact decide_eq_decide.2 (by simp)⟩
theorem RA {n:Nat} (h:(decDigits n)[0]? =some 48):n=0:=by
 rcases Nat.eq_zero_or_pos n with h0|h0
 ·exact h0
 ·obtain⟨b,r,h1,h2⟩:=IP n (by omega)
  rw[h1] at h
  have h:b=48:=by simpa using h
  rw[h] at h2;exact absurd rfl h2
theorem F3 (z:Int) (hl:(decDigits z.natAbs).length≤300):AZ Tryz.prog 222 [str (itoa z)] (.int .i64 0):=by
 intro W
 obtain⟨s,hs⟩: ∃s,s=itoa z:=⟨_,rfl⟩
 obtain⟨dd,hdd⟩: ∃dd,dd=decDigits z.natAbs:=⟨_,rfl⟩
 obtain⟨f,hf⟩: ∃f,f=(FC z).length:=⟨_,rfl⟩
 have hss:s=FC z++dd:=by rw[hs,hdd];exact B3 z
 have hf1:f≤1:=hf▸IR z
 have hsl:s.length=f+dd.length:=by rw[hss,List.length_append,hf]
 have hd0:0<dd.length:=by rw[hdd];exact List.length_pos_iff.2 (EV _)
 have hget: ∀i,f≤i→s[i]? =dd[i-f]? :=fun i hi=>by rw[hss,List.getElem?_append_right (by omega),hf]
 obtain⟨c0,hc0,hc45⟩:=Du z
 rw[←hs] at hc0⊢
 rw[←hdd] at hl
 have hdg: ∀b∈dd,CP b=true:=by rw[hdd];exact(DZ _).all
 refine Ab Tryz.func222 I I I ?_
 refine zA (zB (wP I (Aa (zE (zA (zB (wP I (Aa (zE (zA (zA (zB (wP I (wP I ?_))))))))))))))
 refine Ag 6 (.int .i64 (s.length:Nat)) I (congrArg (fun n:Nat=>Value.int .i64 (n:Int)) (As s)) ?_
 refine wP I (wU 7 true I (dT (by omega)) (wP I (wP I ?_)))
 refine AJ 0 tH I I I I I I I I hc0 ?_
 refine wP I (wU 11 (decide (z<0)) I ((CR c0 45).trans hc45) (wP I (Aa (A4 ?_))))
 try refine Ax ?_
 refine A3 (X:=Unit) (fun _=>[(0,str s),(3, .int .i64 (f:Nat))]) (fun _=>[]) (fun _=>True) ?_ ?_
 ·refine Ai I (fun h=> ?_) (fun h=> ?_)
  ·have h:z<0:=of_decide_eq_true h
   exact zB (wP I (Aa (Ah () O ⟨I,by rw[hf];unfold FC;rw[if_pos h];rfl,O⟩ [] I)))
  ·have h: ¬z<0:=of_decide_eq_false h
   exact zI (Ah () O ⟨I,by rw[hf];unfold FC;rw[if_neg h];rfl,O⟩ [] I)
 intro _ _
 refine Ax (Ax ?_)
 refine A3 (X:=Unit) (fun _=>[(0,str s),(3, .int .i64 (f:Nat)),(27, .bool false)]) (fun _=>[]) (fun _=>True) ?_ ?_
 ·refine zB (wP I (wP I (wP I ?_)))
  refine Ag 15 (.int .i64 (s.length:Nat)) I (congrArg (fun n:Nat=>Value.int .i64 (n:Int)) (As s)) ?_
  refine wP I (wU 16 false I (by rw[beq_eq_false_iff_ne];omega) ?_)
  obtain⟨b,hb⟩: ∃b,dd[0]? =some b:=⟨dd[0],List.getElem?_eq_getElem hd0⟩
  have hsb:s[f]? =some b:=by rw[hget f (Nat.le_refl _),Nat.sub_self];exact hb
  refine wP I (wP I (wP I ?_))
  refine AJ f tH I I I I I I I I hsb ?_
  refine wP I ?_
  by_cases h48:b=48
  ·rw[h48,hdd] at hb
   have h0:=RA hb
   have hz:z=0:=by omega
   have hs1:s.length=1:=by rw[hs,hz,BI];rfl
   refine wU 21 true I ((CR b 48).trans (dT h48)) (wP I (wP I (wP I ?_)))
   refine Ag 24 (.int .i64 (s.length:Nat)) I (congrArg (fun n:Nat=>Value.int .i64 (n:Int)) (As s)) ?_
   exact wP I (wU 25 false I (dF (by omega)) (wP I (wP I (Aa (Ah () O ⟨I,I,I,O⟩ [] I)))))
  ·refine wU 21 false I ((CR b 48).trans (dF h48)) (wP I ?_)
   iterate 3 refine Af I I ?_
   exact wP I (wP I (Aa (Ah () O ⟨I,I,I,O⟩ [] I)))
 intro _ _
 refine zS I (zI (zE (zA (zA (zB (wP I (wP I (Aa (zE (zH ?_))))))))))
 refine Aw (X:=Nat) (fun i=>[(0,str s),(3, .int .i64 (f:Nat)),(4, .int .i64 (i:Nat))]) (fun _=>[]) (fun i=>i≤s.length∧f≤i) (fun i=>s.length-i) f ⟨by omega,Nat.le_refl _⟩ ⟨I,I,I,O⟩ [] I ?_
 rintro i ⟨hi,hfi⟩
 have hi:i≤s.length:=hi
 have hfi:f≤i:=hfi
 refine zA (zA (zB (wP I (wP I (wP I ?_)))))
 refine Ag 31 (.int .i64 (s.length:Nat)) I (congrArg (fun n:Nat=>Value.int .i64 (n:Int)) (As s)) ?_
 refine wP I ?_
 by_cases hlt:i<s.length
 ·refine wU 32 true I (dT (by omega)) (Aa (zE (zR I (zI (zE (zA (zH (zA (zB ?_)))))))))
  obtain⟨b,hb⟩: ∃b,dd[i-f]? =some b:=⟨dd[i-f]'(by omega),List.getElem?_eq_getElem (by omega)⟩
  have hsb:s[i]? =some b:=by rw[hget i hfi];exact hb
  have hbd:=BV.1 (hdg b (List.mem_of_getElem? hb))
  refine wP I (wP I ?_)
  refine AJ i tH I I I I I I I I hsb ?_
  refine wP I (wU 38 false I ((R9 b).trans (dF (by omega))) (wP I (wP I (wP I ?_))))
  refine AJ i tH I I I I I I I I hsb ?_
  refine wP I (wU 43 false I ((RX b).trans (dF (by omega))) (wP I (Aa (zE (zS I (zI (zN (zE (zB (wP I (wP I (wV 34 ((i+1:Nat):Int) I (An (by omega)) (wP I ?_)))))))))))))
  exact Aa (Ak (i+1) ⟨hlt,by show f≤i+1;omega⟩ (by show s.length-(i+1)<s.length-i;omega) ⟨I,I,I,O⟩ [] I)
 ·refine wU 32 false I (dF (by omega)) (Aa (zE (zS I (zJ (zK (zK (zL (zE (zA (zA (zB (wP I (wP I ?_)))))))))))))
  refine Ag 46 (.int .i64 (s.length:Nat)) I (congrArg (fun n:Nat=>Value.int .i64 (n:Int)) (As s)) ?_
  refine wP I (wP I (wV 48 (dd.length:Nat) I (by show w64 ((s.length:Int)-f)=_;rw[Aj (by omega) (by omega)];omega) (wP I (wU 49 false I (dF (by omega)) (Aa (zE (zS I (zI (zE (zA (zB (wP I (Aa ?_)))))))))))))
  exact zE (zO (wR1 I I I))
theorem D4 (a b:Int) (ha:(decDigits a.natAbs).length≤300) (hb:(decDigits b.natAbs).length≤300):AZ Tryz.prog 169 [str (itoa a),str (itoa b)] (.int .i64 0):=by
 intro W
 refine Ab Tryz.func169 I I I ?_
 refine zA (zB (wP I (Aa (zE (zA (zA (zB (wP I (wC I I (fun W _=>F3 a ha W) (wP I (Aa (zE (zA ?_)))))))))))))
 refine zB (wP I (wP I (Aa (zE (zS I (zI (zE (zA (zB (wP I (wC I I (fun W _=>F3 b hb W) (wP I (Aa ?_)))))))))))))
 exact zE (zO (wR1 I I I))
def smI (z:Int):Bool:=decide ((itoa z).length≤17)
theorem Ih {z:Int} (h:smI z=true):z.natAbs<100000000000000000:=by
 have h:(itoa z).length≤17:=of_decide_eq_true h
 rw[B3,List.length_append] at h
 exact Nat.lt_of_lt_of_le (Dc _) (show _≤10^17 from Nat.pow_le_pow_right (by decide) (by omega))
theorem HL (z:Int) (hl:(itoa z).length<4611686018427387904):AZ Tryz.prog 223 [str (itoa z)] (.tuple #[.int .i64 (if smI z=true then z else 0), .bool (smI z)]):=by
 intro W
 obtain⟨s,hs⟩: ∃s,s=itoa z:=⟨_,rfl⟩
 obtain⟨dd,hdd⟩: ∃dd,dd=decDigits z.natAbs:=⟨_,rfl⟩
 obtain⟨f,hf⟩: ∃f,f=(FC z).length:=⟨_,rfl⟩
 have hss:s=FC z++dd:=by rw[hs,hdd];exact B3 z
 have hf1:f≤1:=hf▸IR z
 have hsl:s.length=f+dd.length:=by rw[hss,List.length_append,hf]
 have hd0:0<dd.length:=by rw[hdd];exact List.length_pos_iff.2 (EV _)
 have hget: ∀i,f≤i→s[i]? =dd[i-f]? :=fun i hi=>by rw[hss,List.getElem?_append_right (by omega),hf]
 have hneg: ∀i,i<f→s[i]? =some 45:=fun i hi=>by
  have h0:i=0:=by omega
  subst h0
  rw[hss]
  unfold FC at hf⊢
  split
  ·rfl
  ·rename_i h;rw[if_neg h] at hf;simp at hf;omega
 obtain⟨c0,hc0,hc45⟩:=Du z
 have hsm:smI z=decide (s.length≤17):=by rw[hs];rfl
 rw[←hs] at hc0 hl⊢
 have hdg: ∀b∈dd,CP b=true:=by rw[hdd];exact(DZ _).all
 refine Ab Tryz.func223 I I I ?_
 refine zA (zB (wP I (wP I (Aa (zE (zA (zA (zB (wP I (wP I ?_))))))))))
 refine Ag 7 (.int .i64 (s.length:Nat)) I (congrArg (fun n:Nat=>Value.int .i64 (n:Int)) (As s)) ?_
 refine wP I ?_
 by_cases h17:s.length≤17
 rotate_left
 ·exact wU 8 true I (dT (by show((s.length:Nat):Int)>17;omega)) (Aa (zE (zR I (zA (zB (wP I (wP I (Aa (zE (zO (zP (wR2 I I (by rw[hsm,dF h17];rfl)))))))))))))
 have hlt: ∀i,A9 (dd.take i)<100000000000000000:=fun i=>by
  have h1:=Er (dd.take i).length (s:=dd.take i) rfl fun b hb=>hdg b (List.mem_of_mem_take hb)
  have h2:(dd.take i).length≤17:=by rw[List.length_take];omega
  exact Nat.lt_of_lt_of_le h1 (show _≤10^17 from Nat.pow_le_pow_right (by decide) h2)
 refine wU 8 false I (dF (by show¬((s.length:Nat):Int)>17;omega)) (Aa (zE (zS I (zI (zE (zA (zB (wP I (Aa (zE (zA (zA (zB ?_)))))))))))))
 refine wP I (Aa (zE (zH ?_)))
 refine Aw (X:=Nat) (fun i=>[(0,str s),(4, .int .i64 (A9 (dd.take (i-f)):Nat)),(5, .int .i64 (i:Nat))]) (fun _=>[]) (fun i=>i≤s.length) (fun i=>s.length-i) 0 (Nat.zero_le _) ⟨I,by show some _=some (Value.int .i64 (A9 (dd.take (0-f)):Nat));rw[Nat.zero_sub,List.take_zero];rfl,I,O⟩ [] I ?_
 intro i hi
 have hi:i≤s.length:=hi
 refine zA (zA (zB (wP I (wP I (wP I ?_)))))
 refine Ag 11 (.int .i64 (s.length:Nat)) I (congrArg (fun n:Nat=>Value.int .i64 (n:Int)) (As s)) ?_
 refine wP I ?_
 by_cases hlt':i<s.length
 ·refine wU 12 true I (dT (by omega)) (Aa (zE (zR I (zI (zE ?_)))))
  try refine Ax ?_
  refine A3 (X:=Unit) (fun _=>[(0,str s),(4, .int .i64 (A9 (dd.take (i+1-f)):Nat)),(5, .int .i64 (i:Nat))]) (fun _=>[]) (fun _=>True) ?_ ?_
  ·refine zH (zA (zB (wP I (wP I ?_))))
   by_cases hif:i<f
   ·refine AJ i tH I I I I I I I I (hneg i hif) ?_
    exact wP I (Aa (zE (zS I (zI (zN (Ah () O ⟨I,by rw[show i+1-f=0 by omega,show i-f=0 by omega];rfl,I,O⟩ [] I))))))
   obtain⟨b,hb⟩: ∃b,dd[i-f]? =some b:=⟨dd[i-f]'(by omega),List.getElem?_eq_getElem (by omega)⟩
   have hsb:s[i]? =some b:=by rw[hget i (by omega)];exact hb
   have hbd:=BV.1 (hdg b (List.mem_of_getElem? hb))
   have e1:A9 (dd.take (i+1-f))=10*A9 (dd.take (i-f))+(b.toNat-48):=by
    rw[show i+1-f=i-f+1 by omega,List.take_add_one,hb];exact Cr _ _
   have l1:=hlt (i-f)
   have l2:=hlt (i+1-f)
   refine AJ i tH I I I I I I I I hsb ?_
   refine wP I ?_
   refine Ag 18 (.bool true) I (congrArg Value.bool (by
    show(!((((b.toNat:Nat):Int))==(45:Int)))=true
    rw[Bool.not_eq_true',beq_eq_false_iff_ne];omega)) ?_
   refine Aa (zE (zR I (zB (wP I (wP I (wV 20 ((10*A9 (dd.take (i-f)):Nat):Int) I (show w64 (10*(A9 (dd.take (i-f)):Nat))=_ by rw[Aj (by omega) (by omega)];omega) (wP I (wP I ?_))))))))
   refine AJ i tH I I I I I I I I hsb ?_
   refine wP I ?_
   refine Ag 24 (.int .u8 ((b.toNat-48:Nat):Int)) I (congrArg (Value.int .u8) (by show IntKind.u8.wrap (((b.toNat:Nat):Int)-48)=_;rw[show((b.toNat:Nat):Int)-48=((b.toNat-48:Nat):Int) by omega,MU (by omega) (by omega)])) ?_
   refine GJ Tryz.underlying5 Tryz.underlying3 I I I I ?_
   exact wV 25 ((b.toNat-48:Nat):Int) I (Bl (by omega)) (wP I (wV 26 ((A9 (dd.take (i+1-f)):Nat):Int) I (show w64 (((10*A9 (dd.take (i-f)):Nat):Int)+((b.toNat-48:Nat):Int))=_ by rw[Aj (by omega) (by omega),e1];omega) (wP I (Aa (zN (Ah () O ⟨I,I,I,O⟩ [] I))))))
  intro _ _
  exact zB (wP I (wP I (wV 14 ((i+1:Nat):Int) I (An (by omega)) (wP I (Aa (Ak (i+1) hlt' (by show s.length-(i+1)<s.length-i;omega) ⟨I,I,I,O⟩ [] I))))))
 ·refine wU 12 false I (dF (by omega)) (Aa (zE (zS I (zJ (zK (zK (zL (zE (zA (zA (zB ?_)))))))))))
  have hv:A9 (dd.take (i-f))=z.natAbs:=by rw[List.take_of_length_le (by omega),hdd,Bs]
  have hzl:z.natAbs<100000000000000000:=by rw[←hv];exact hlt _
  refine wP I ?_
  refine AJ 0 tH I I I I I I I I hc0 ?_
  refine wP I (wU 29 (decide (z<0)) I ((CR c0 45).trans hc45) (Aa (A4 ?_)))
  try refine Ax ?_
  refine A3 (X:=Unit) (fun _=>[(4, .int .i64 z)]) (fun _=>[]) (fun _=>True) ?_ ?_
  ·refine Ai I (fun h=> ?_) (fun h=> ?_)
   ·have h:z<0:=of_decide_eq_true h
    exact zB (wP I (wP I (wV 31 z I (by rw[hv];show w64 (0-((z.natAbs:Nat):Int))=_;rw[Aj (by omega) (by omega)];omega) (wP I (Aa (Ah () O ⟨I,O⟩ [] I))))))
   ·have h: ¬z<0:=of_decide_eq_false h
    exact zI (Ah () O ⟨congrArg (fun z=>some (Value.int .i64 z)) (by rw[hv];omega),O⟩ [] I)
  intro _ _
  exact zA (zB (wP I (wP I (wP I (Aa (zE (zO (wR2 I I (by rw[hsm,dT h17,if_pos I])))))))))
theorem JC (a b:Int) (ha:(itoa a).length<4611686018427387904) (hb:(itoa b).length<4611686018427387904):AZ Tryz.prog 170 [str (itoa a),str (itoa b)] (.tuple #[.int .i64 (if smI a=true then a else 0), .int .i64 (if smI a=true then(if smI b=true then b else 0) else 0), .bool (smI a&&smI b)]):=by
 intro W
 refine Ab Tryz.func170 I I I ?_
 refine zA (zB (wP I (wP I (wP I (Aa (zE (zA (zB (wP I (wC I I (fun W _=>HL a ha W) ?_))))))))))
 iterate 5 refine wP I ?_
 refine Aa ?_
 cases hsa:smI a with
 |false=>
  refine zE (zA (zA (zB (wP I (wP I (Aa (zE (zR I (zA (zB (wP I (wP I (wP I ?_)))))))))))))
  exact Aa (zE (zO (zP (wR3 I I I))))
 |true=>
  refine zE (zA (zA (zB (wP I (wP I (Aa (zE (zS I (zI (zE (zA (zB (wP I ?_)))))))))))))
  refine wC I I (fun W _=>HL b hb W) ?_
  iterate 5 refine wP I ?_
  refine Aa (zE (zA (zB ?_)))
  iterate 6 refine wP I ?_
  exact Aa (zE (zO (wR3 I I I)))
-- BOXES 1
-- CODE2
def byV (l:List UInt8):List Value:=l.map fun b=> .int .u8 (b.toNat:Int)
def zrV (k:Nat):List Value:=Ck [.int .u8 0] k
theorem Hz (k:Nat):(zrV k).length=k:=by unfold zrV;rw[E1];simp
theorem Rd (k:Nat):zrV (k+1)=zrV k++[.int .u8 0]:=by
 induction k with
 |zero=>rfl
 |succ k ih=>
  have e: ∀j,zrV (j+1)=[.int .u8 0]++zrV j:=fun j=>rfl
  rw[e,ih, ←List.append_assoc, ←e,ih]
theorem Pj {k:Nat} {c:UInt8} {suf:List UInt8}:BD (zrV (k+1)++byV suf) (0+k*1) [.int .u8 (c.toNat:Int)]=zrV k++byV (c::suf):=by
 rw[Rd,show 0+k*1=(zrV k).length+0 by rw[Hz];omega,List.append_assoc,Fy]
 rfl
theorem Pm {k:Nat} {l:List UInt8} {j:Nat} (hj:j<l.length):(zrV k++byV l)[k+j]? =some (.int .u8 (l[j].toNat:Int)):=by
 rw[List.getElem?_append_right (by rw[Hz];omega),Hz,Nat.add_sub_cancel_left]
 unfold byV
 rw[List.getElem?_map,List.getElem?_eq_getElem hj];rfl
theorem Rf (u:Nat):IntKind.u8.wrap ((48+u%10:Nat):Int)=((UInt8.ofNat (48+u%10)).toNat:Int):=by
 rw[MU (by omega) (by omega),Cw (Nat.mod_lt _ (by omega))]
-- BOXES 4
-- CODE2
theorem Lv (a:List UInt8): ∀(n:Nat) (b:List UInt8),b.length=n→A9 (a++b)=A9 a*10^n+A9 b
 |0,b,h=>by
  rw[List.length_eq_zero_iff.1 h,List.append_nil,Nat.pow_zero,Nat.mul_one];rfl
 |n+1,b,h=>by
  obtain⟨c,d,rfl⟩: ∃c d,b=c++[d]:=⟨b.dropLast,b.getLast (fun e=>by rw[e] at h;cases h),(List.dropLast_concat_getLast _).symm⟩
  have hc:c.length=n:=by rw[List.length_append] at h;exact Nat.succ.inj h
  rw[←List.append_assoc,Cr,Lv a n c hc,Cr,Nat.pow_succ]
  grind
theorem Nr (a b:List UInt8):A9 (a++b)=A9 a*10^b.length+A9 b:=Lv a b.length b rfl
theorem QP {m lo e:Nat} (_h1:lo≤e) (h2:e≤(decDigits m).length):A9 (((decDigits m).take e).drop lo)=m/10^((decDigits m).length-e)%10^(e-lo):=by
 obtain⟨dd,hdd⟩: ∃dd,dd=decDigits m:=⟨_,rfl⟩
 have hdg: ∀b∈dd,CP b=true:=by rw[hdd];exact(DZ m).all
 have hv:A9 dd=m:=by rw[hdd];exact Bs m
 rw[←hdd] at h2⊢
 have a1:=Nr (dd.take e) (dd.drop e)
 rw[List.take_append_drop,hv,List.length_drop] at a1
 have b1:=Er (dd.drop e).length (s:=dd.drop e) rfl fun b hb=>hdg b (List.mem_of_mem_drop hb)
 rw[List.length_drop] at b1
 have c1:m/10^(dd.length-e)=A9 (dd.take e):=by
  rw[a1,Nat.mul_comm,Nat.mul_add_div (Nat.pow_pos (by decide)),Nat.div_eq_of_lt b1,Nat.add_zero]
 rw[c1]
 have a2:=Nr ((dd.take e).take lo) ((dd.take e).drop lo)
 have b2:=Er ((dd.take e).drop lo).length (s:=(dd.take e).drop lo) rfl fun b hb=>hdg b (List.mem_of_mem_take (List.mem_of_mem_drop hb))
 rw[List.take_append_drop] at a2
 have hl:((dd.take e).drop lo).length=e-lo:=by rw[List.length_drop,List.length_take,Nat.min_eq_left h2]
 rw[hl] at a2 b2
 rw[a2,Nat.mul_comm,Nat.mul_add_mod,Nat.mod_eq_of_lt b2]
def rdL (m:Nat) (j:Nat):List Nat:=(List.range j).map fun i=>m/br^i%br
theorem NO (m j:Nat):rdL m (j+1)=rdL m j++[m/br^j%br]:=by unfold rdL;rw[List.range_succ,List.map_append];rfl
theorem IX (m j:Nat):(rdL m j).length=j:=by unfold rdL;rw[List.length_map,List.length_range]
theorem Rh (m j:Nat): ∀x∈rdL m j,x<br:=fun x hx=>by
 obtain⟨i,_,rfl⟩:=List.mem_map.1 hx
 exact Nat.mod_lt _ (by decide)
theorem PG (m:Nat): ∀j,lv br (rdL m j)=m%br^j
 |0=>by show 0=_;rw[Nat.pow_zero,Nat.mod_one]
 |j+1=>by rw[NO,Mz (IX m j),PG m j, ←CT]
theorem Ic (j:Nat):br^j=10^(6*j):=by rw[Nat.pow_mul]
theorem R6 {m k:Nat} (h:m<10^(6*k)):(lbs br m).length≤k:=(Bt br2).2 (by rw[Ic];exact h)
theorem Ts {m e k:Nat} (h:(decDigits m).length≤e) (he:e=6*k):(lbs br m).length≤k:=by
 subst he
 exact R6 (Nat.lt_of_lt_of_le (Dc m) (Nat.pow_le_pow_right (by decide) h))
theorem Cn {m:Nat} (h:(decDigits m).length≤606):(lbs br m).length≤101:=Ts h rfl
abbrev Sp (z:Int) (x:NV):Value:= .agg #[.bool (decide (z<0)),Bb x (lbs br z.natAbs).length]
theorem Sr (y:Int):(if y>0 then y else 0)=max 0 y:=by omega
theorem Bo (z:Int) (hl:(decDigits z.natAbs).length≤1000) (W:World):
  Ad Tryz.prog 171 #[str (itoa z)] W (fun x:NV=>Sp z x) (fun x=>B9 x (lbs br z.natAbs)) (fun x=>[Bn x (lbs br z.natAbs)]):=by
 obtain⟨m,hm⟩: ∃m,m=z.natAbs:=⟨_,rfl⟩
 obtain⟨c0,hc0,hc45⟩:=Du z
 have hzl:=B3 z
 refine Ab (args:=[str (itoa z)]) Tryz.func171 I I I ?_
 refine zA (zB ?_)
 (refine Ae Tryz.hZ rfl rfl rfl rfl ?_;intro)
 refine Aa ?_
 rename_i b2
 refine zE (zA (zB ?_))
 refine Au Tryz.hZ tH I I I I I I I I ?_
 (refine Ae Tryz.hZ rfl rfl rfl rfl ?_;intro)
 refine wS 1 I I I (Aa ?_)
 rename_i b3
 refine zE (zA (zA (zB (wP I ?_))))
 refine AJ 0 tH I I I I I I I I hc0 ?_
 refine wP I (wU 10 (decide (z<0)) I ((CR c0 45).trans hc45) (Aa (A4 ?_)))
 try refine Ax ?_
 refine A3 (X:=Unit) (fun _=>[(0,str (decDigits m)),(2,Al b2),(3,Al b3)]) (fun _=>[⟨b2,187,[.bool false, .slice none 0 0],true,none⟩,⟨b3,187,[.bool (decide (z<0)), .slice none 0 0],true,none⟩]) (fun _=>True) ?_ ?_
 ·refine Ai I (fun h=> ?_) (fun h=> ?_)
  ·have h:z<0:=of_decide_eq_true h
   have e:itoa z=45::decDigits m:=by rw[hzl,hm];unfold FC;rw[if_pos h];rfl
   refine zA (zB (wP I (wS 1 I I I (Aa (zE (zB (wP I ?_)))))))
   refine DI 1 tH I I I I I I I I (by rw[e,List.length_cons];omega) ?_
   exact wP I (Aa (Ah () O ⟨by rw[e];rfl,I,I,O⟩ [] (by rw[dT h];rfl)))
  ·have h: ¬z<0:=of_decide_eq_false h
   have e:itoa z=decDigits m:=by rw[hzl,hm];unfold FC;rw[if_neg h];rfl
   exact zI (Ah () O ⟨by rw[e];rfl,I,I,O⟩ [] (by rw[dF h];rfl))
 intro _ _
 rw[←hm] at hl⊢
 obtain⟨dd,hdd⟩: ∃dd,dd=decDigits m:=⟨_,rfl⟩
 have hdg: ∀b∈dd,CP b=true:=by rw[hdd];exact(DZ m).all
 have hd0:0<dd.length:=by rw[hdd];exact List.length_pos_iff.2 (EV _)
 have hmid: ∀lo e,lo≤e→e≤dd.length→A9 ((dd.take e).drop lo)=m/10^(dd.length-e)%10^(e-lo):=fun lo e h1 h2=>by
  rw[hdd] at h2⊢;exact QP h1 h2
 have hmlt:m<10^dd.length:=by rw[hdd];exact Dc m
 rw[←hdd] at hl⊢
 refine zA (zA (zB (wP I (wP I ?_))))
 refine Ag 15 (.int .i64 (dd.length:Nat)) I (congrArg (fun n:Nat=>Value.int .i64 (n:Int)) (As dd)) ?_
 refine wP I (Aa (zE (zH ?_)))
 refine J8 ?_
 refine Aw (X:=Nat×Vec) (fun x=>[(0,str dd),(2,Al b2),(3,Al b3),(4, .int .i64 ((dd.length:Int)-6*(x.1:Nat)))])
  (fun x=>[⟨b2,187,[.bool false, .slice none 0 0],true,none⟩,⟨b3,187,[.bool (decide (z<0)),x.2.val x.1],true,none⟩,x.2.bx 3 (nI (rdL m x.1))])
  (fun x=>x.2.OK 1 x.1 (nI (rdL m x.1))∧6*x.1<dd.length+6) (fun x=>dd.length+6-6*x.1) (0,Vec.empty) ⟨Vec.OK.empty 1,by show 6*0<_;omega⟩ ⟨rfl,rfl,rfl,congrArg (fun z=>some (Value.int .i64 z)) (by show((dd.length:Nat):Int)=(dd.length:Int)-6*((0:Nat):Int);omega),trivial⟩ [] rfl ?_
 rintro⟨j,V⟩ ⟨hV,hj⟩
 have hV:V.OK 1 j (nI (rdL m j)):=hV
 have hj:6*j<dd.length+6:=hj
 refine zA (zA (zB (wP I (wP I ?_))))
 by_cases hlt:6*j<dd.length
 ·refine wU 17 true I (dT (by show(dd.length:Int)-6*(j:Nat)>0;omega)) (Aa (zE (zR I (zI (zE (zA (zH (zA (zB ?_)))))))))
  obtain⟨e,he⟩: ∃e,e=dd.length-6*j:=⟨_,rfl⟩
  have hev:(dd.length:Int)-6*(j:Nat)=(e:Nat):=by omega
  obtain⟨lo,hlo⟩: ∃lo,lo=e-6:=⟨_,rfl⟩
  have hlim:A9 ((dd.take e).drop lo)=m/br^j%br:=by
   rw[hmid lo e (by omega) (by omega),Ic,show dd.length-e=6*j by omega]
   by_cases h6:6≤e
   ·rw[show e-lo=6 by omega]
   ·have hl0:lo=0:=by omega
    have h1:m/10^(6*j)<10^e:=by
     apply Nat.div_lt_of_lt_mul
     rw[←Nat.pow_add,show 6*j+e=dd.length by omega];exact hmlt
    have h2:(10:Nat)^e≤10^6:=Nat.pow_le_pow_right (by decide) (by omega)
    rw[hl0,Nat.sub_zero,Nat.mod_eq_of_lt h1,Nat.mod_eq_of_lt (show m/10^(6*j)<br by show _<10^6;omega)]
  refine wP I (Aa (zE (zA (zA (zB (wP I (wP I (wV 21 ((e:Int)-6) I (by show w64 ((dd.length:Int)-6*(j:Nat)-6)=_;rw[hev,Aj (by omega) (by omega)]) (wP I (wV 22 (lo:Nat) I (by show(if (e:Int)-6>0 then(e:Int)-6 else 0)=_;rw[Sr];omega) (wP I (Aa (zE ?_)))))))))))))
  refine zH ?_
  refine Aw (X:=Nat) (fun i=>[(0,str dd),(2,Al b2),(3,Al b3),(4, .int .i64 (e:Nat)),(5, .int .i64 (A9 ((dd.take i).drop lo):Nat)),(6, .int .i64 (i:Nat))])
   (fun _=>[⟨b2,187,[.bool false, .slice none 0 0],true,none⟩,⟨b3,187,[.bool (decide (z<0)),V.val j],true,none⟩,V.bx 3 (nI (rdL m j))])
   (fun i=>lo≤i∧i≤e) (fun i=>e-i) lo ⟨Nat.le_refl _,by omega⟩ ⟨rfl,rfl,rfl,(by rw[hev];rfl),by show some _=some (Value.int .i64 (A9 ((dd.take lo).drop lo):Nat));rw[List.drop_of_length_le (by rw[List.length_take];omega)];rfl,rfl,trivial⟩ [] rfl ?_
  rintro i ⟨hi1,hi2⟩
  have hi1:lo≤i:=hi1
  have hi2:i≤e:=hi2
  refine zA (zA (zB (wP I (wP I (wP I ?_)))))
  by_cases hie:i<e
  ·refine wU 25 true I (dT (by omega)) (Aa (zE (zR I (zI (zE (zA (zH (zB ?_))))))))
   obtain⟨b,hb⟩: ∃b,dd[i]? =some b:=⟨dd[i]'(by omega),List.getElem?_eq_getElem (by omega)⟩
   have hbd:=BV.1 (hdg b (List.mem_of_getElem? hb))
   have e1:A9 ((dd.take (i+1)).drop lo)=10*A9 ((dd.take i).drop lo)+(b.toNat-48):=by
    rw[List.take_add_one,hb,List.drop_append_of_le_length (by rw[List.length_take];omega)]
    exact Cr _ _
   have hbnd: ∀k,k≤e→A9 ((dd.take k).drop lo)<1000000:=fun k hk=>by
    have h1:=Er ((dd.take k).drop lo).length (s:=(dd.take k).drop lo) rfl fun b hb=>hdg b (List.mem_of_mem_take (List.mem_of_mem_drop hb))
    have h2:((dd.take k).drop lo).length≤6:=by rw[List.length_drop,List.length_take];omega
    exact Nat.lt_of_lt_of_le h1 (show _≤10^6 from Nat.pow_le_pow_right (by decide) h2)
   have l1:=hbnd i hi2
   have l2:=hbnd (i+1) hie
   refine wP I (wP I (wV 29 ((10*A9 ((dd.take i).drop lo):Nat):Int) I (show w64 (10*(A9 ((dd.take i).drop lo):Nat))=_ by rw[Aj (by omega) (by omega)];omega) (wP I (wP I ?_))))
   refine AJ i tH I I I I I I I I hb ?_
   refine wP I ?_
   refine Ag 33 (.int .u8 ((b.toNat-48:Nat):Int)) I (congrArg (Value.int .u8) (by show IntKind.u8.wrap (((b.toNat:Nat):Int)-48)=_;rw[show((b.toNat:Nat):Int)-48=((b.toNat-48:Nat):Int) by omega,MU (by omega) (by omega)])) ?_
   refine GJ Tryz.underlying5 Tryz.underlying3 I I I I ?_
   exact wV 34 ((b.toNat-48:Nat):Int) I (Bl (by omega)) (wP I (wV 35 ((A9 ((dd.take (i+1)).drop lo):Nat):Int) I (show w64 (((10*A9 ((dd.take i).drop lo):Nat):Int)+((b.toNat-48:Nat):Int))=_ by rw[Aj (by omega) (by omega),e1];omega) (wP I (Aa (zN (zE (zB (wP I (wP I (wV 27 ((i+1:Nat):Int) I (An (by omega)) (wP I (Aa (Ak (i+1) ⟨by show lo≤i+1;omega,hie⟩ (by show e-(i+1)<e-i;omega) ⟨I,I,I,I,I,I,O⟩ [] I)))))))))))))
  ·have hie:i=e:=by omega
   subst hie
   refine wU 25 false I (dF (by omega)) (Aa (zE (zS I (zJ (zK (zK (zL (zE (zB ?_)))))))))
   rw[hlim]
   refine wP I (wB 1 I I I (wP I ?_))
   refine Ap Tryz.hZ tH I I I I I I I I I I I fun bN=> ?_
   refine Cc (V:=V) (len:=j) (xs:=nI (rdL m j)) 2 3 Tryz.vec170 (j+1) (nI (rdL m (j+1))) I I I I I I I I I I I hV I I I (by rw[NO,GO];rfl) (by simp only[maxLen];omega) (by omega) I ?_
   intro g1 c1 j1 hV1
   exact wP I (wS 1 I I I (Aa (zN (zE (zB (wP I (wP I (wV 19 ((dd.length:Int)-6*((j+1:Nat):Int)) I (by show w64 (((i:Nat):Int)-6)=_;rw[Aj (by omega) (by omega)];omega) (wP I (Aa (Ak (j+1,⟨some g1,c1,j1⟩) ⟨hV1,by show 6*(j+1)<_;omega⟩ (by show dd.length+6-6*(j+1)<dd.length+6-6*j;omega) ⟨I,I,I,I,O⟩ _ I)))))))))))
 ·refine wU 17 false I (dF (by show¬(dd.length:Int)-6*(j:Nat)>0;omega)) (Aa (zE (zS I (zJ (zK (zK (zL (zE (zA (zB ?_))))))))))
  obtain⟨pV,cV,jV⟩:=V
  cases pV with
  |none=>have:=hV.nil rfl;omega
  |some g=>
  have hval:lv br (rdL m j)=m:=by
   rw[PG,Ic]
   exact Nat.mod_eq_of_lt (Nat.lt_of_lt_of_le hmlt (Nat.pow_le_pow_right (by decide) (by omega)))
  have hV2:(⟨some g,cV,jV⟩:Vec).OK 1 (rdL m j).length (nI (rdL m j)):=by rw[IX];exact hV
  obtain⟨j2,hj1,hj2⟩:=CL hV2 (Rh m j)
  rw[hval] at hj1 hj2
  refine wP I (wB 1 I I I ?_)
  refine Ag 43 (slv (some ⟨g,0,none⟩) (rdL m j).length cV) I (by rw[IX];rfl) ?_
  refine wC I I (fun W' hp=>(Ca W' (some ⟨g,0,none⟩) cV (rdL m j) (Ar.of_bx hp 2 I) (Rh m j) (by have:=(hV2.cap (by simp)).1;exact this) (by rw[IX];omega)).cast (v':=slv (some ⟨g,0,none⟩) (lbs br m).length cV) (by rw[hval])) (wP I (wS 1 I I I (Aa (zE (zA (zB (wB 1 I I I (wS 0 I I I (Aa (zE (zO ?_)))))))))))
  subst hm
  exact AE tH I (.cell 0 I I I I I) ((g,cV,j2):NV) I hj1 fun W hp=>A0.of_hp1 hp 2 (by
   show some (⟨g,3,nI (rdL z.natAbs j)++jV,true,none⟩:Bx)=some (⟨g,3,nI (lbs br z.natAbs)++j2,true,none⟩:Bx)
   rw[hj2])
def E9 (m:Nat):Nat→List UInt8
 |0=>[]
 |d+1=>UInt8.ofNat (48+m/10^d%10)::E9 m d
theorem H7 (m:Nat): ∀d,(E9 m d).length=d
 |0=>rfl
 |d+1=>by show(E9 m d).length+1=_;rw[H7 m d]
theorem MW (m:Nat): ∀(d i:Nat),i<d→(E9 m d)[d-1-i]? =some (UInt8.ofNat (48+m/10^i%10))
 |0,_,h=>absurd h (Nat.not_lt_zero _)
 |d+1,i,h=>by
  by_cases e:i=d
  ·subst e
   rw[show i+1-1-i=0 by omega];rfl
  ·rw[show d+1-1-i=(d-1-i)+1 by omega]
   show(_::E9 m d)[_+1]? =_
   rw[List.getElem?_cons_succ]
   exact MW m d i (by omega)
theorem SJ {m d:Nat} (h:(decDigits m).length≤d):E9 m d=List.replicate (d-(decDigits m).length) 48++decDigits m:=by
 apply List.ext_getElem?
 intro t
 by_cases ht:t<d
 ·have h1:=MW m d (d-1-t) (by omega)
  rw[show d-1-(d-1-t)=t by omega] at h1
  rw[h1]
  by_cases h2:t<d-(decDigits m).length
  ·rw[List.getElem?_append_left (by rw[List.length_replicate];exact h2),List.getElem?_replicate_of_lt h2]
   have h3:m/10^(d-1-t)=0:=Nat.div_eq_of_lt (Nat.lt_of_lt_of_le (Dc m) (Nat.pow_le_pow_right (by decide) (by omega)))
   rw[h3];rfl
  ·rw[List.getElem?_append_right (by rw[List.length_replicate];omega),List.length_replicate]
   have h3:=Rp (n:=m) (i:=d-1-t) (by omega)
   rw[←h3]
   congr 1;omega
 ·rw[List.getElem?_eq_none (by rw[H7];omega),List.getElem?_eq_none (by rw[List.length_append,List.length_replicate];omega)]
theorem QY {m i k:Nat} (hk:k<6):m/br^i%br/10^k%10=m/10^(6*i+k)%10:=by
 rw[Nat.pow_add, ←Ic, ←Nat.div_div_eq_div_mul]
 generalize m/br^i=x
 have h:k=0∨k=1∨k=2∨k=3∨k=4∨k=5:=by omega
 show x%1000000/10^k%10=x/10^k%10
 rcases h with rfl|rfl|rfl|rfl|rfl|rfl<;>simp only[Nat.reducePow,Nat.div_one]<;>omega
theorem Fp (z:Int) (hl:(decDigits z.natAbs).length≤606) (W:World) (p:Option Addr) (cap:Nat) (hA:Ar W p (lbs br z.natAbs)):
  Ad Tryz.prog 173 #[.agg #[.bool (decide (z<0)),slv p (lbs br z.natAbs).length cap]] W (fun _:Unit=>str (itoa z)) (fun _=>True) (fun _=>[]):=by
 obtain⟨m,hm⟩: ∃m,z.natAbs=m:=⟨_,rfl⟩
 rw[hm] at hl hA⊢
 obtain⟨L,hL⟩: ∃L,(lbs br m).length=L:=⟨_,rfl⟩
 have hL101:L≤101:=by rw[←hL];exact Cn hl
 have hml:m<br^L:=by rw[←hL];exact A6 br2 m
 refine Ab (args:=[.agg #[.bool (decide (z<0)),slv p (lbs br m).length cap]]) Tryz.func173 I I I ?_
 rw[hL]
 refine zA (zB ?_)
 (refine Az rfl rfl rfl rfl ?_;intro)
 refine wP I (Aa ?_)
 rename_i b1
 refine zE (zA (zA (zB (wP I (wB 0 I I I (wP I (wP I ?_)))))))
 by_cases hm0:m=0
 ·have hL0:L=0:=by rw[←hL,hm0,AF];rfl
  have hz:z=0:=by omega
  exact wU 10 true I (by rw[beq_iff_eq,hL0];rfl) (Aa (zE (zR I (zA (zB (wP I (Aa (zE (zO (zP (wR1 I I (by rw[hz,BI]))))))))))))
 have hL0:L≠0:=fun e=>hm0 ((Ct br2).1 (List.length_eq_zero_iff.1 (hL.trans e)))
 refine wU 10 false I (by rw[beq_eq_false_iff_ne];omega) (Aa (zE (zS I (zI (zE (zA (zB ?_)))))))
 obtain⟨K,hK⟩: ∃K,K=6*L:=⟨_,rfl⟩
 refine wP I (wB 0 I I I (wP I (wP I (wV 14 (K:Nat) I (by show w64 (6*(L:Int))=_;rw[Aj (by omega) (by omega)];omega) ?_))))
 refine B4 Tryz.vec233 K I I I I I I I (by simp only[maxLen];omega) (by omega) ?_
 intro g
 refine wP I (Aa (zE (zA (zA (zB (wP I (Aa (A4 ?_))))))))
 try refine Ax ?_
 refine A3 (X:=Unit) (fun _=>[(1,Al b1),(3, .slice (some ⟨g,0,none⟩) K K)]) (fun _=>[⟨b1,187,[.bool (decide (z<0)),slv p L cap],true,none⟩,⟨g,5,zrV 0++byV (E9 m K),true,none⟩]) (fun _=>True) ?_ ?_
 ·refine zH ?_
  refine Aw (X:=Nat) (fun i=>[(1,Al b1),(3, .slice (some ⟨g,0,none⟩) K K),(4, .int .i64 (i:Nat))]) (fun i=>[⟨b1,187,[.bool (decide (z<0)),slv p L cap],true,none⟩,⟨g,5,zrV (K-6*i)++byV (E9 m (6*i)),true,none⟩]) (fun i=>i≤L) (fun i=>L-i) 0 (Nat.zero_le _) ⟨I,I,I,O⟩ [] (by show _=[_,(⟨g,5,zrV (K-0)++[],true,none⟩:Bx)]++[];simp only[List.append_nil,Nat.sub_zero];rfl) ?_
  intro i hi
  have hi:i≤L:=hi
  refine zA (zA (zB (wP I (wP I (wB 0 I I I (wP I (wP I ?_)))))))
  by_cases hiL:i<L
  ·refine wU 20 true I (dT (by omega)) (Aa (zE (zR I (zI (zE (zA (zH (zA (zB ?_)))))))))
   obtain⟨bA,oA,rfl,rA⟩:=hA.row (show i<(lbs br m).length by omega)
   have rA:=rA i (by omega)
   rw[AP br2] at rA
   obtain⟨v,hv⟩: ∃v,v=m/br^i%br:=⟨_,rfl⟩
   rw[←hv] at rA
   have hvb:v<1000000:=by rw[hv];exact Nat.mod_lt _ (by decide)
   refine wP I (wB 0 I I I (wP I ?_))
   refine wJ ?_
   refine wL 0 I I (fun W hp=>rA.hp hp) I (wP I (Aa (zE (zA (zB (wP I (Aa (zE (zH ?_)))))))))
   refine Aw (X:=Nat) (fun k=>[(1,Al b1),(3, .slice (some ⟨g,0,none⟩) K K),(4, .int .i64 (i:Nat)),(5, .int .i64 ((v/10^k:Nat):Int)),(6, .int .i64 ((k+1:Nat):Int))]) (fun k=>[⟨b1,187,[.bool (decide (z<0)),slv (some ⟨bA,oA,none⟩) L cap],true,none⟩,⟨g,5,zrV (K-(6*i+k))++byV (E9 m (6*i+k)),true,none⟩]) (fun k=>k≤6) (fun k=>6-k) 0 (by decide) ⟨I,I,I,by show some _=some (Value.int .i64 ((v/1:Nat):Int));rw[Nat.div_one],I,O⟩ [] I ?_
   intro k hk
   have hk:k≤6:=hk
   refine zA (zA (zB (wP I (wP I ?_))))
   by_cases hk6:k<6
   ·refine wU 29 true I (dT (by show((k+1:Nat):Int)≤6;omega)) (Aa (zE (zR I (zI (zE (zA (zH (zA (zB ?_)))))))))
    obtain⟨u,hu⟩: ∃u,u=v/10^k:=⟨_,rfl⟩
    have hub:u<1000000:=by rw[hu];exact Nat.lt_of_le_of_lt (Nat.div_le_self ..) hvb
    have hdig:u%10=m/10^(6*i+k)%10:=by rw[hu,hv];exact QY hk6
    have hu2:v/10^(k+1)=u/10:=by rw[hu,Nat.pow_succ,Nat.div_div_eq_div_mul]
    obtain⟨d,hd⟩: ∃d,d=6*i+k:=⟨_,rfl⟩
    have hdK:d<K:=by omega
    rw[←hu, ←hd]
    rw[←hd] at hdig
    iterate 5 refine wP I ?_
    refine wV 36 ((6*i:Nat):Int) I (by show w64 (6*(i:Int))=_;rw[Aj (by omega) (by omega)];omega) (wP I (wV 37 ((K-6*i:Nat):Int) I (by show w64 ((K:Int)-((6*i:Nat):Int))=_;rw[Aj (by omega) (by omega)];omega) (wP I (wP I (wV 39 ((K-d-1:Nat):Int) I (by show w64 (((K-6*i:Nat):Int)-((k+1:Nat):Int))=_;rw[Aj (by omega) (by omega)];omega) (wP I ?_))))))
    refine Fh I I I I I (by decide) ?_
    refine wV 41 ((u%10:Nat):Int) I (show Int.tmod (u:Nat) ((10:Nat):Int)=_ from(Int.ofNat_tmod _ _).symm) (wP I (wV 42 ((48+u%10:Nat):Int) I (show w64 (48+((u%10:Nat):Int))=_ by rw[Aj (by omega) (by omega)];omega) ?_))
    refine R3 Tryz.underlying3 Tryz.underlying5 I I I I ?_
    refine Ag 43 (.int .u8 ((UInt8.ofNat (48+m/10^d%10)).toNat:Int)) I (congrArg (Value.int .u8) (by rw[Rf u,hdig])) ?_
    refine wJ ?_
    refine A5 1 (zrV (K-d-1)++byV (E9 m (d+1))) tH I I I I I I I I I I (by show 0+(K-d-1)*1+1≤(zrV (K-d)++byV (E9 m d)).length;rw[List.length_append,Hz];omega) (by
     show BD (zrV (K-d)++byV (E9 m d)) _ _=_
     rw[show K-d=K-d-1+1 by omega]
     exact Pj) ?_
    refine Aa (zE (zB (wP I ?_)))
    refine CG I I I I I (by decide) ?_
    exact wV 46 ((u/10:Nat):Int) I (show w64 (Int.tdiv (u:Nat) ((10:Nat):Int))=_ by rw[←Int.ofNat_tdiv,Aj (by omega) (by omega)]) (wP I (Aa (zN (zE (zB (wP I (wP I (wV 31 ((k+1+1:Nat):Int) I (An (by omega)) (wP I (Aa (Ak (k+1) hk6 (by show 6-(k+1)<6-k;omega) ⟨I,I,I,by show some _=some (Value.int .i64 ((v/10^(k+1):Nat):Int));rw[hu2],I,O⟩ [] (by show _=[_,(⟨g,5,zrV (K-(6*i+(k+1)))++byV (E9 m (6*i+(k+1))),true,none⟩:Bx)]++[];rw[show 6*i+(k+1)=d+1 by omega,show K-(d+1)=K-d-1 by omega];rfl))))))))))))
   ·have hk6:k=6:=by omega
    subst hk6
    refine wU 29 false I (dF (by decide)) (Aa (zE (zS I (zJ (zK (zK (zL (zN (zE (zB (wP I (wP I (wV 22 ((i+1:Nat):Int) I (An (by omega)) ?_)))))))))))))
    exact wP I (Aa (Ak (i+1) hiL (by show L-(i+1)<L-i;omega) ⟨I,I,I,O⟩ [] (by show _=[_,(⟨g,5,zrV (K-6*(i+1))++byV (E9 m (6*(i+1))),true,none⟩:Bx)]++[];rw[show 6*(i+1)=6*i+6 by omega];rfl)))
  ·have hiL:i=L:=by omega
   subst hiL
   exact wU 20 false I (dF (by omega)) (Aa (zE (zS I (zJ (zK (zK (zL (Ah () O ⟨I,I,O⟩ [] (by rw[←hK,Nat.sub_self];rfl)))))))))
 intro _ _
 obtain⟨nd,hnd⟩: ∃nd,(decDigits m).length=nd:=⟨_,rfl⟩
 have hndK:nd≤K:=by
  rw[←hnd]
  refine BE K m (by omega) ?_
  rw[hK, ←Ic];exact hml
 have hnd0:0<nd:=by rw[←hnd];exact List.length_pos_iff.2 (EV _)
 have hlow:=SJ (m:=m) (d:=K) (by rw[hnd];exact hndK)
 rw[hnd] at hlow
 have hgetB: ∀j,j<K→ ∃b,(E9 m K)[j]? =some b∧(zrV 0++byV (E9 m K))[0+j]? =some (.int .u8 (b.toNat:Int)):=fun j hj=>by
  refine⟨(E9 m K)[j]'(by rw[H7];exact hj),List.getElem?_eq_getElem _, ?_⟩
  exact Pm (k:=0) (by rw[H7];exact hj)
 try refine A4 ?_
 try refine Ax ?_
 refine A3 (X:=Unit) (fun _=>[(1,Al b1),(3, .slice (some ⟨g,K-nd,none⟩) nd nd)]) (fun _=>[⟨b1,187,[.bool (decide (z<0)),slv p L cap],true,none⟩,⟨g,5,zrV 0++byV (E9 m K),true,none⟩]) (fun _=>True) ?_ ?_
 ·refine zH ?_
  refine Aw (X:=Nat) (fun j=>[(1,Al b1),(3, .slice (some ⟨g,j,none⟩) (K-j) (K-j))]) (fun _=>[⟨b1,187,[.bool (decide (z<0)),slv p L cap],true,none⟩,⟨g,5,zrV 0++byV (E9 m K),true,none⟩]) (fun j=>j≤K-nd) (fun j=>K-nd-j) 0 (Nat.zero_le _) ⟨I,I,O⟩ [] I ?_
  intro j hj
  have hj:j≤K-nd:=hj
  obtain⟨b,hb,hbc⟩:=hgetB j (by omega)
  rw[Nat.zero_add] at hbc
  have hrow: ∀W1 bxs,Hp W bxs W1→nth bxs 1=some (⟨g,5,zrV 0++byV (E9 m K),true,none⟩:Bx)→Ao W1 g j [.int .u8 (b.toNat:Int)]:=fun W1 bxs hp h1=>by
   have h:=Ao.of_bx hp 1 h1 rfl
   exact⟨h.lt,fun t u hu=>by
    have ht:t=0:=by have:=(List.getElem?_eq_some_iff.1 hu).1;simpa using this
    subst ht
    have hu:u= .int .u8 (b.toNat:Int):=by simpa using hu.symm
    rw[hu]
    have:=h.get j _ hbc
    rwa [Nat.zero_add] at this⟩
  refine zA (zA (zB (wP I (wI I I (by decide) (by show(0:Int)<((K-j:Nat):Int);omega) ?_))))
  refine Ag 48 (.pointer (some ⟨g,j,none⟩)) I I ?_
  refine wL 0 I I (fun W1 hp=>hrow W1 _ hp I) I (wP I (wU 50 (decide (b=48)) I (CR b 48) (Aa (zE ?_))))
  refine Ai I (fun h48=> ?_) (fun h48=> ?_)
  ·have h48:b=48:=of_decide_eq_true h48
   have hjl:j<K-nd:=by
    rcases Nat.lt_or_ge j (K-nd) with h|h
    ·exact h
    ·have e:j=K-nd:=by omega
     rw[hlow,List.getElem?_append_right (by rw[List.length_replicate];omega),List.length_replicate,e,Nat.sub_self,h48] at hb
     exact absurd (RA hb) hm0
   refine zI (zE (zH (zB (wP I ?_))))
   refine GM 1 tH I I I I I I I I (by show 1≤K-j;omega) (Nat.le_refl _) ?_
   refine Ag 52 (.slice (some ⟨g,j+1,none⟩) (K-(j+1)) (K-(j+1))) I (by rw[if_neg (show¬K-j=1 by omega)];show Value.slice (some ⟨g,j+1*1,none⟩) (K-j-1) (K-j-1)=_;rw[show K-(j+1)=K-j-1 by omega]) ?_
   exact wP I (Aa (zN (Ak (j+1) hjl (by show K-nd-(j+1)<K-nd-j;omega) ⟨I,I,O⟩ [] I)))
  ·have h48: ¬b=48:=of_decide_eq_false h48
   have e:j=K-nd:=by
    rcases Nat.lt_or_ge j (K-nd) with h|h
    ·rw[hlow,List.getElem?_append_left (by rw[List.length_replicate];exact h),List.getElem?_replicate_of_lt h] at hb
     exact absurd (Option.some.inj hb).symm h48
    ·omega
   exact zJ (zK (zK (zL (Ah () O ⟨I,by rw[e,show K-(K-nd)=nd by omega];rfl,O⟩ [] I))))
 intro _ _
 have hbytes: ∀j (hj:j<(decDigits m).length),(zrV 0++byV (E9 m K))[K-nd+j]? =some (.int .u8 ((decDigits m)[j].toNat:Int)):=fun j hj=>by
  obtain⟨b,hb,hbc⟩:=hgetB (K-nd+j) (by omega)
  rw[Nat.zero_add] at hbc
  rw[hbc]
  rw[hlow,List.getElem?_append_right (by rw[List.length_replicate];omega),List.length_replicate,Nat.add_sub_cancel_left,List.getElem?_eq_getElem hj] at hb
  rw[Option.some.inj hb]
 refine zA (zA (zB (wP I (wB 0 I I I (Aa (zE ?_))))))
 refine Ai I (fun hn=> ?_) (fun hn=> ?_)
 ·have hn:z<0:=of_decide_eq_true hn
  refine zA (zB (wP I ?_))
  refine Gh 1 (decDigits m) (e:=5) (by kernel_rfl) Tryz.underlying5 (by kernel_rfl) I I I I I I hnd.symm hbytes ?_
  refine By I I I I I (a:=[45]) (b:=decDigits m) (by decide) (by omega) ?_
  exact wP I (Aa (zE (zO (zP (wR1 I I (by rw[B3,hm];unfold FC;rw[if_pos hn]))))))
 ·have hn: ¬z<0:=of_decide_eq_false hn
  refine zI (zE (zA (zB (wP I ?_))))
  refine Gh 1 (decDigits m) (e:=5) (by kernel_rfl) Tryz.underlying5 (by kernel_rfl) I I I I I I hnd.symm hbytes ?_
  exact wP I (Aa (zE (zO (wR1 I I (by rw[B3,hm];unfold FC;rw[if_neg hn];rfl)))))
theorem Dn (z:Int) (hl:(decDigits z.natAbs).length≤300) (W:World) (p:Option Addr) (cap:Nat) (hA:Ar W p (lbs br z.natAbs)):
  Ad Tryz.prog 219 #[.agg #[.bool (decide (z<0)),slv p (lbs br z.natAbs).length cap]] W (fun _:Unit=> .tuple #[str (itoa z), .int .i64 0]) (fun _=>True) (fun _=>[]):=by
 refine Ab (args:=[.agg #[.bool (decide (z<0)),slv p (lbs br z.natAbs).length cap]]) Tryz.func219 I I I ?_
 refine zA (zB ?_)
 (refine Az rfl rfl rfl rfl ?_;intro)
 refine wP I (wP I (Aa (zE (zA (zB (wB 0 I I I (wC I I (fun W hp=>Fp z (by omega) W p cap (hA.hp hp)) (wP I (Aa (zE (zA (zA (zB ?_)))))))))))))
 refine wP I (wC I I (fun W _=>F3 z hl W) (wP I (Aa (zE (zS I (zI (zE (zA (zB (wP I (wP I (wP I (Aa ?_)))))))))))))
 exact zE (zO (wR2 I I I))
-- BOXES 6
-- CODE2
abbrev HA (z:Int) (p:Option Addr) (cap:Nat):Value:= .agg #[.bool (decide (z<0)),slv p (lbs br z.natAbs).length cap]
abbrev KP (b:Nat) (z:Int) (p:Option Addr) (cap:Nat):Bx:=⟨b,187,[.bool (decide (z<0)),slv p (lbs br z.natAbs).length cap],true,none⟩
theorem O9 (z:Int) (W:World) (p:Option Addr) (cap:Nat):Ad Tryz.prog 207 #[HA z p cap] W (fun _:Unit=>HA (-z) p cap) (fun _=>True) (fun _=>[]):=by
 obtain⟨n,hn⟩: ∃n,z.natAbs=n:=⟨_,rfl⟩
 refine Ab (args:=[HA z p cap]) Tryz.func207 I I I ?_
 unfold HA
 rw[Int.natAbs_neg,hn]
 refine zA (zB ?_)
 (refine Az rfl rfl rfl rfl ?_;intro)
 (refine Ae Tryz.hZ rfl rfl rfl rfl ?_;intro)
 refine Aa (zE (zA (zA (zB (wP I (wB 0 I I I (wP I (wP I ?_))))))))
 by_cases h0:n=0
 ·have hz:z=0:=by omega
  exact wU 6 true I (by rw[h0,AF];rfl) (Aa (zE (zR I (zA (zB (wB 0 I I I (wS 1 I I I (Aa (zE (zO (zP (AE tH I (.cell 1 I I I I I) () (by rw[hz];rfl) O fun W _=>A0.nil _ _))))))))))))
 ·have hL:(lbs br n).length≠0:=fun e=>h0 ((Ct br2).1 (List.length_eq_zero_iff.1 e))
  refine wU 6 false I (by rw[beq_eq_false_iff_ne];omega) (Aa (zE (zS I (zI (zE (zA (zB (wP I (wB 0 I I I (wP I (wP I (wB 0 I I I ?_))))))))))))
  refine Au Tryz.hZ tH I I I I I I I I ?_
  refine wS 1 I I I (Aa (zE (zO ?_)))
  exact AE tH I (.cell 1 I I I I I) () (by
   show Value.agg #[.bool (!decide (z<0)),_]=_
   have e:(!decide (z<0))=decide (-z<0):=by
    by_cases h:z<0
    ·rw[dT h,dF (by omega)];rfl
    ·rw[dF h,dT (by omega)];rfl
   rw[e]) trivial fun W _=>A0.nil _ _
theorem JB (a b:Int) (W:World) (p q:Option Addr) (cap cap2:Nat) (hA:Ar W p (lbs br a.natAbs)) (hB:Ar W q (lbs br b.natAbs)) (hna:(lbs br a.natAbs).length≤1000) (hnb:(lbs br b.natAbs).length≤1000):
  Ad Tryz.prog 206 #[HA a p cap,HA b q cap2] W (fun x:NV=>Sp (a+b) x) (fun x=>B9 x (lbs br (a+b).natAbs)) (fun x=>[Bn x (lbs br (a+b).natAbs)]):=by
 refine Ab (args:=[HA a p cap,HA b q cap2]) Tryz.func206 I I I ?_
 refine zA (zB ?_)
 (refine Az rfl rfl rfl rfl ?_;intro)
 (refine Az rfl rfl rfl rfl ?_;intro)
 (refine Ae Tryz.hZ rfl rfl rfl rfl ?_;intro)
 refine Aa ?_
 rename_i b2 b3 b4
 refine zE (zA (zA (zB (wP I (wB 0 I I I (wP I (wB 1 I I I ?_)))))))
 by_cases hs:decide (a<0)=decide (b<0)
 ·refine FG (c:=true) Tryz.underlying4 I I I I I (congrArg some (by rw[hs];exact beq_self_eq_true _)) ?_
  refine Aa ?_
  have en:(a+b).natAbs=a.natAbs+b.natAbs:=by
   by_cases h1:a<0<;>by_cases h2:b<0<;>simp[h1,h2] at hs<;>omega
  have es:decide (a<0)=decide (a+b<0):=by
   by_cases h1:a<0<;>by_cases h2:b<0<;>simp[h1,h2] at hs⊢ <;>omega
  refine zE (zR I (Ax ?_))
  refine BA (X:= { x:NV//B9 x (lbs br (a+b).natAbs) }) [true,true,true,true,true,true,false,false,false] (fun _=>[(4,Al b4)]) (fun x=>[KP b2 a p cap,KP b3 b q cap2,⟨b4,187,[.bool (decide (a+b<0)),Bb x.1 (lbs br (a+b).natAbs).length],true,none⟩,Bn x.1 (lbs br (a+b).natAbs)])
   3 [KP b2 a p cap,KP b3 b q cap2,⟨b4,187,[.bool false, .slice none 0 0],true,none⟩] Tryz.mixed (by kernel_rfl) ?_ ?_
  ·refine qP I (qB 0 I I I (qP I (qB 0 I I I (qP I (qB 1 I I I (Dr (wX (wZ ?_))))))))
   refine wD (X:=NV) rfl rfl (fun W' hp=>Nt W' p q cap cap2 a.natAbs b.natAbs (hA.hp hp) (hB.hp hp) (by omega) (by omega)) ?_;intro x hx
   refine Aa (At (wX (wZ ?_)))
   refine Au Tryz.hZ tH I I I I I I I I ?_
   refine Aa (At (wX (wZ (wS 2 I I I (Aa (At ?_))))))
   rw[←en] at hx⊢;first|refine Ce rfl (by((repeat (first|refine BG.same ?_|refine BG.off rfl ?_));exact trivial)) ?_|refine AO rfl (by kernel_rfl) ?_
   exact AI ⟨x,hx⟩ ⟨I,O⟩ [0,1,2,3] (by decide) (by rw[es];rfl)
  rintro⟨x,hx⟩
  exact zE (zO (zP (AE tH I (.cell 2 I I I I I) x I hx fun W hp=>A0.of_hp1 hp 3 I)))
 refine FG (c:=false) Tryz.underlying4 I I I I I (congrArg some (beq_eq_false_iff_ne.2 hs)) ?_
 refine Aa (zE (zS I (zI (zE (zA (zA (zB (wP I (wB 0 I I I (wP I (wB 1 I I I (wC I I (fun W' hp=>I7 W' p q cap cap2 a.natAbs b.natAbs (hA.hp hp) (hB.hp hp) (by omega) (by omega)) (wP I ?_)))))))))))))
 refine wU 24 (decide (a.natAbs<b.natAbs)) I (decide_eq_decide.2 (by unfold JJ;split<;>(try split)<;>omega)) (Aa (A4 ?_))
 try refine Ax ?_
 refine A3 (X:=(Int×Option Addr×Nat)×(Int×Option Addr×Nat)) (fun _=>[(2,Al b2),(3,Al b3),(4,Al b4)]) (fun x=>[KP b2 x.1.1 x.1.2.1 x.1.2.2,KP b3 x.2.1 x.2.2.1 x.2.2.2,⟨b4,187,[.bool false, .slice none 0 0],true,none⟩])
  (fun x=>Ar W x.1.2.1 (lbs br x.1.1.natAbs)∧Ar W x.2.2.1 (lbs br x.2.1.natAbs)∧x.2.1.natAbs≤x.1.1.natAbs∧x.1.1+x.2.1=a+b∧(decide (x.1.1<0)≠decide (x.2.1<0))∧(lbs br x.1.1.natAbs).length≤1000) ?_ ?_
 ·refine Ai I (fun h=> ?_) (fun h=> ?_)
  ·have h:a.natAbs<b.natAbs:=of_decide_eq_true h
   exact zB (wB 1 I I I (wB 0 I I I (wS 0 I I I (wS 1 I I I (Aa (Ah ((b,q,cap2),(a,p,cap)) ⟨hB,hA,Nat.le_of_lt h,Int.add_comm ..,Ne.symm hs,hnb⟩ ⟨I,I,I,O⟩ [] I))))))
  ·have h: ¬a.natAbs<b.natAbs:=of_decide_eq_false h
   exact zI (Ah ((a,p,cap),(b,q,cap2)) ⟨hA,hB,by show b.natAbs≤a.natAbs;omega,I,hs,hna⟩ ⟨I,I,I,O⟩ [] I)
 rintro⟨⟨u,pu,cu⟩,⟨v,pv,cv⟩⟩ ⟨hU,hV,hle,hsum,hsg,hul⟩
 have hU:Ar W pu (lbs br u.natAbs):=hU
 have hV:Ar W pv (lbs br v.natAbs):=hV
 have hle:v.natAbs≤u.natAbs:=hle
 have hsum:u+v=a+b:=hsum
 have hsg:decide (u<0)≠decide (v<0):=hsg
 have hul:(lbs br u.natAbs).length≤1000:=hul
 have en:(a+b).natAbs=u.natAbs-v.natAbs:=by
  rw[←hsum]
  by_cases h1:u<0<;>by_cases h2:v<0<;>simp[h1,h2] at hsg<;>omega
 have es:(a+b).natAbs≠0→decide (u<0)=decide (a+b<0):=fun h0=>by
  rw[←hsum] at h0⊢
  by_cases h1:u<0<;>by_cases h2:v<0<;>simp[h1,h2] at hsg⊢ <;>omega
 refine Ax ?_
 refine BA (X:= { y:Nat×NV//B9 y.2 (lbs br (a+b).natAbs) }) [true,true,true,true,true,true,false,false,false,false] (fun y=>[(4,Al b4),(5,Al y.1.1)]) (fun y=>[⟨b4,187,[.bool false, .slice none 0 0],true,none⟩,⟨y.1.1,187,[.bool (decide (u<0)),Bb y.1.2 (lbs br (a+b).natAbs).length],true,none⟩,Bn y.1.2 (lbs br (a+b).natAbs)])
  4 [KP b2 u pu cu,KP b3 v pv cv,⟨b4,187,[.bool false, .slice none 0 0],true,none⟩] Tryz.mixed (by kernel_rfl) ?_ ?_
 ·refine qP I (qB 0 I I I (qP I (qB 0 I I I (qP I (qB 1 I I I (Dr (wX ?_)))))))
  refine RS.cons ?_ (RS.cons ?_ (RS.nil))
  ·refine wD (X:=NV) rfl rfl (fun W' hp=>DG W' pu pv cu cv u.natAbs v.natAbs hle (hU.hp hp) (hV.hp hp) (by omega)) ?_;intro x hx
   refine Aa (At (wX ?_))
   refine RS.cons ?_ (RS.cons ?_ (RS.nil))
   ·refine Au Tryz.hZ tH I I I I I I I I ?_
    refine Aa (At (wX (wZ ?_)))
    refine Ae Tryz.hZ rfl rfl rfl rfl ?_;intro b5
    refine Aa (At (wX (wZ (wS 4 I I I (Aa (At ?_))))))
    rw[←en] at hx⊢;first|refine Ce rfl (by((repeat (first|refine BG.same ?_|refine BG.off rfl ?_));exact trivial)) ?_|refine AO rfl (by kernel_rfl) ?_
    exact AI ⟨(b5,x),hx⟩ ⟨I,I,O⟩ [2,4,3] (by decide) I
   ·refine Ae Tryz.hZ rfl rfl rfl rfl ?_;intro b5
    refine Aa (At (wX (wZ ?_)))
    refine Au Tryz.hZ tH I I I I I I I I ?_
    refine Aa (At (wX (wZ (wS 4 I I I (Aa (At ?_))))))
    rw[←en] at hx⊢;first|refine Ce rfl (by((repeat (first|refine BG.same ?_|refine BG.off rfl ?_));exact trivial)) ?_|refine AO rfl (by kernel_rfl) ?_
    exact AI ⟨(b5,x),hx⟩ ⟨I,I,O⟩ [2,4,3] (by decide) I
  ·refine Ae Tryz.hZ rfl rfl rfl rfl ?_;intro b5
   refine Aa (At (wX (wZ ?_)))
   refine wD (X:=NV) rfl rfl (fun W' hp=>DG W' pu pv cu cv u.natAbs v.natAbs hle (hU.hp hp) (hV.hp hp) (by omega)) ?_;intro x hx
   refine Aa (At (wX (wZ ?_)))
   refine Au Tryz.hZ tH I I I I I I I I ?_
   refine Aa (At (wX (wZ (wS 3 I I I (Aa (At ?_))))))
   rw[←en] at hx⊢;first|refine Ce rfl (by((repeat (first|refine BG.same ?_|refine BG.off rfl ?_));exact trivial)) ?_|refine AO rfl (by kernel_rfl) ?_
   exact AI ⟨(b5,x),hx⟩ ⟨I,I,O⟩ [2,3,4] (by decide) I
 rintro⟨⟨b5,x⟩,hx⟩
 have hx:B9 x (lbs br (a+b).natAbs):=hx
 refine zE (zA (zA (zB (wP I (wB 1 I I I (wP I (wP I ?_)))))))
 refine Ag 38 (.bool (decide ((a+b).natAbs=0))) I (congrArg Value.bool (by
  by_cases h0:(a+b).natAbs=0
  ·rw[dT h0,h0,AF];rfl
  ·have hL:(lbs br (a+b).natAbs).length≠0:=fun e=>h0 ((Ct br2).1 (List.length_eq_zero_iff.1 e))
   rw[dF h0,beq_eq_false_iff_ne];omega)) ?_
 refine Aa (A4 ?_)
 try refine Ax ?_
 refine A3 (X:=Unit) (fun _=>[(4,Al b4),(5,Al b5)]) (fun _=>[⟨b4,187,[.bool false, .slice none 0 0],true,none⟩,⟨b5,187,[.bool (decide (a+b<0)),Bb x (lbs br (a+b).natAbs).length],true,none⟩,Bn x (lbs br (a+b).natAbs)]) (fun _=>True) ?_ ?_
 ·refine Ai I (fun h=> ?_) (fun h=> ?_)
  ·have h:(a+b).natAbs=0:=of_decide_eq_true h
   exact zB (wP I (wS 1 I I I (Aa (Ah () O ⟨I,I,O⟩ [] (by rw[dF (show¬a+b<0 by omega)];rfl)))))
  ·have h: ¬(a+b).natAbs=0:=of_decide_eq_false h
   exact zI (Ah () O ⟨I,I,O⟩ [] (by rw[←es h];rfl))
 intro _ _
 exact zA (zB (wB 1 I I I (wS 0 I I I (Aa (zE (zO (AE tH I (.cell 0 I I I I I) x I hx fun W hp=>A0.of_hp1 hp 2 I)))))))
theorem Ke (a b:Int) (W:World) (p q:Option Addr) (cap cap2:Nat) (hA:Ar W p (lbs br a.natAbs)) (hB:Ar W q (lbs br b.natAbs)) (hna:(lbs br a.natAbs).length≤1000) (hnb:(lbs br b.natAbs).length≤1000):
  Ad Tryz.prog 255 #[HA a p cap,HA b q cap2] W (fun x:NV=>Sp (a*b) x) (fun x=>B9 x (lbs br (a*b).natAbs)) (fun x=>[Bn x (lbs br (a*b).natAbs)]):=by
 have en:(a*b).natAbs=a.natAbs*b.natAbs:=Int.natAbs_mul a b
 have es:(a*b).natAbs≠0→(decide (a<0) !=decide (b<0))=decide (a*b<0):=fun h0=>by
  rw[en] at h0
  have ha:a≠0:=fun e=>h0 (by rw[e];simp)
  have hb:b≠0:=fun e=>h0 (by rw[e];simp)
  by_cases h1:a<0<;>by_cases h2:b<0
  ·rw[dT h1,dT h2,dF (by have:=Int.mul_pos_of_neg_of_neg h1 h2;omega)];rfl
  ·rw[dT h1,dF h2,dT (Int.mul_neg_of_neg_of_pos h1 (by omega))];rfl
  ·rw[dF h1,dT h2,dT (Int.mul_neg_of_pos_of_neg (by omega) h2)];rfl
  ·rw[dF h1,dF h2,dF (by have:=Int.mul_pos (show 0<a by omega) (show 0<b by omega);omega)];rfl
 refine Ab (args:=[HA a p cap,HA b q cap2]) Tryz.func255 I I I ?_
 refine zA (zB ?_)
 (refine Az rfl rfl rfl rfl ?_;intro)
 (refine Az rfl rfl rfl rfl ?_;intro)
 (refine Ae Tryz.hZ rfl rfl rfl rfl ?_;intro)
 refine Aa ?_
 rename_i b2 b3 b4
 refine zE (Ax ?_)
 refine BA (X:= { y:Nat×NV//B9 y.2 (lbs br (a*b).natAbs) }) [true,true,true,true,true,true,true,true,true,false,false,false,false] (fun y=>[(4,Al b4),(5,Al y.1.1)]) (fun y=>[⟨b4,187,[.bool false, .slice none 0 0],true,none⟩,⟨y.1.1,187,[.bool (decide (a<0) !=decide (b<0)),Bb y.1.2 (lbs br (a*b).natAbs).length],true,none⟩,Bn y.1.2 (lbs br (a*b).natAbs)])
  4 [KP b2 a p cap,KP b3 b q cap2,⟨b4,187,[.bool false, .slice none 0 0],true,none⟩] Tryz.mixed (by kernel_rfl) ?_ ?_
 ·refine qP I (qB 0 I I I (qP I (qB 1 I I I ?_)))
  refine QV Tryz.underlying4 I I I I I I ?_
  refine qP I (qB 0 I I I (qP I (qB 1 I I I (Dr (wX ?_)))))
  refine RS.cons ?_ (RS.cons ?_ (RS.nil))
  ·refine wD (X:=NV) rfl rfl (fun W' hp=>Hi W' p q cap cap2 a.natAbs b.natAbs (hA.hp hp) (hB.hp hp) (by omega) (by omega)) ?_;intro x hx
   refine Aa (At (wX ?_))
   refine RS.cons ?_ (RS.cons ?_ (RS.nil))
   ·refine Au Tryz.hZ tH I I I I I I I I ?_
    refine Aa (At (wX (wZ ?_)))
    refine Ae Tryz.hZ rfl rfl rfl rfl ?_;intro b5
    refine Aa (At (wX (wZ (wS 4 I I I (Aa (At ?_))))))
    rw[←en] at hx⊢;first|refine Ce rfl (by((repeat (first|refine BG.same ?_|refine BG.off rfl ?_));exact trivial)) ?_|refine AO rfl (by kernel_rfl) ?_
    exact AI ⟨(b5,x),hx⟩ ⟨I,I,O⟩ [2,4,3] (by decide) I
   ·refine Ae Tryz.hZ rfl rfl rfl rfl ?_;intro b5
    refine Aa (At (wX (wZ ?_)))
    refine Au Tryz.hZ tH I I I I I I I I ?_
    refine Aa (At (wX (wZ (wS 4 I I I (Aa (At ?_))))))
    rw[←en] at hx⊢;first|refine Ce rfl (by((repeat (first|refine BG.same ?_|refine BG.off rfl ?_));exact trivial)) ?_|refine AO rfl (by kernel_rfl) ?_
    exact AI ⟨(b5,x),hx⟩ ⟨I,I,O⟩ [2,4,3] (by decide) I
  ·refine Ae Tryz.hZ rfl rfl rfl rfl ?_;intro b5
   refine Aa (At (wX (wZ ?_)))
   refine wD (X:=NV) rfl rfl (fun W' hp=>Hi W' p q cap cap2 a.natAbs b.natAbs (hA.hp hp) (hB.hp hp) (by omega) (by omega)) ?_;intro x hx
   refine Aa (At (wX (wZ ?_)))
   refine Au Tryz.hZ tH I I I I I I I I ?_
   refine Aa (At (wX (wZ (wS 3 I I I (Aa (At ?_))))))
   rw[←en] at hx⊢;first|refine Ce rfl (by((repeat (first|refine BG.same ?_|refine BG.off rfl ?_));exact trivial)) ?_|refine AO rfl (by kernel_rfl) ?_
   exact AI ⟨(b5,x),hx⟩ ⟨I,I,O⟩ [2,3,4] (by decide) I
 rintro⟨⟨b5,x⟩,hx⟩
 have hx:B9 x (lbs br (a*b).natAbs):=hx
 refine zE (zA (zA (zB (wP I (wB 1 I I I (wP I (wP I ?_)))))))
 refine Ag 20 (.bool (decide ((a*b).natAbs=0))) I (congrArg Value.bool (by
  by_cases h0:(a*b).natAbs=0
  ·rw[dT h0,h0,AF];rfl
  ·have hL:(lbs br (a*b).natAbs).length≠0:=fun e=>h0 ((Ct br2).1 (List.length_eq_zero_iff.1 e))
   rw[dF h0,beq_eq_false_iff_ne];omega)) ?_
 refine Aa (A4 ?_)
 try refine Ax ?_
 refine A3 (X:=Unit) (fun _=>[(4,Al b4),(5,Al b5)]) (fun _=>[⟨b4,187,[.bool false, .slice none 0 0],true,none⟩,⟨b5,187,[.bool (decide (a*b<0)),Bb x (lbs br (a*b).natAbs).length],true,none⟩,Bn x (lbs br (a*b).natAbs)]) (fun _=>True) ?_ ?_
 ·refine Ai I (fun h=> ?_) (fun h=> ?_)
  ·have h:(a*b).natAbs=0:=of_decide_eq_true h
   exact zB (wP I (wS 1 I I I (Aa (Ah () O ⟨I,I,O⟩ [] (by rw[dF (show¬a*b<0 by omega)];rfl)))))
  ·have h: ¬(a*b).natAbs=0:=of_decide_eq_false h
   exact zI (Ah () O ⟨I,I,O⟩ [] (by rw[←es h];rfl))
 intro _ _
 exact zA (zB (wB 1 I I I (wS 0 I I I (Aa (zE (zO (AE tH I (.cell 0 I I I I I) x I hx fun W hp=>A0.of_hp1 hp 2 I)))))))
-- BOXES 6
-- CODE2
theorem Fu {z:Int} (h:(decDigits z.natAbs).length≤300):(itoa z).length≤301:=by
 rw[B3,List.length_append]
 have:=IR z
 omega
theorem HQ {a b:Int} (h:(smI a&&smI b)=true):AZ Tryz.prog 170 [str (itoa a),str (itoa b)] (.tuple #[.int .i64 a, .int .i64 b, .bool true]):=fun W=>by
 obtain⟨h1,h2⟩:=Bool.and_eq_true_iff.1 h
 have l1:(itoa a).length≤17:=of_decide_eq_true h1
 have l2:(itoa b).length≤17:=of_decide_eq_true h2
 have:=JC a b (by omega) (by omega) W
 rw[h1,h2] at this
 exact this
theorem H6 {a b:Int} (h:(smI a&&smI b)=false) (ha:(decDigits a.natAbs).length≤300) (hb:(decDigits b.natAbs).length≤300): ∃x y:Int,AZ Tryz.prog 170 [str (itoa a),str (itoa b)] (.tuple #[.int .i64 x, .int .i64 y, .bool false]):=
 ⟨_,_,fun W=>by
  have l1:=Fu ha
  have l2:=Fu hb
  have:=JC a b (by omega) (by omega) W
  rw[h] at this
  exact this⟩
theorem Kq (a b:Int) (ha:(decDigits a.natAbs).length≤300) (hb:(decDigits b.natAbs).length≤300) (hab:(decDigits (a*b).natAbs).length≤300) (W:World) (ht:AB W):
  Ad Tryz.prog 205 #[str (itoa a),str (itoa b)] W (fun _:Unit=> .tuple #[str (itoa (a*b)), .int .i64 0]) (fun _=>True) (fun _=>[]):=by
 have la:=Cn (m:=a.natAbs) (by omega)
 have lb:=Cn (m:=b.natAbs) (by omega)
 have l1:=Fu ha
 have l2:=Fu hb
 refine Ab (args:=[str (itoa a),str (itoa b)]) Tryz.func205 I I I ?_
 refine zA (zB (wP I (wP I (Aa (zE (zA (zA (zB (wP I (wP I (wC I I (fun W _=>D4 a b ha hb W) (wP I (Aa ?_)))))))))))))
 refine zE (zA (zB (wP I (wP I (Aa (zE (zS I (zI (zE (zA (zA (zB ?_))))))))))))
 cases hs:smI a&&smI b with
 |true=>
  refine wP I (wP I (wC I I (fun W _=>HQ hs W) ?_))
  iterate 7 refine wP I ?_
  refine Aa (zE (zA (zB (wP I (wP I (wP I (wP I ?_)))))))
  refine Ag 26 (.int .i64 ((itoa a).length:Nat)) I (congrArg (fun n:Nat=>Value.int .i64 (n:Int)) (As _)) ?_
  refine wP I (wP I ?_)
  refine Ag 28 (.int .i64 ((itoa b).length:Nat)) I (congrArg (fun n:Nat=>Value.int .i64 (n:Int)) (As _)) ?_
  refine wP I (wV 29 (((itoa a).length+(itoa b).length:Nat):Int) I (AA (by omega)) (wP I (wU 30 (decide ((itoa a).length+(itoa b).length≤18)) I (decide_eq_decide.2 (by omega)) (wP I (Aa (zE ?_))))))
  refine Ai I (fun h18=> ?_) (fun h18=> ?_)
  ·have h18:(itoa a).length+(itoa b).length≤18:=of_decide_eq_true h18
   have hm:(a*b).natAbs<1000000000000000000:=by
    have p1:=Dc a.natAbs
    have p2:=Dc b.natAbs
    have q1:(decDigits a.natAbs).length≤(itoa a).length:=by rw[B3,List.length_append];omega
    have q2:(decDigits b.natAbs).length≤(itoa b).length:=by rw[B3,List.length_append];omega
    rw[Int.natAbs_mul]
    have r1:=Nat.mul_lt_mul'' p1 p2
    rw[←Nat.pow_add] at r1
    exact Nat.lt_of_lt_of_le r1 (show _≤10^18 from Nat.pow_le_pow_right (by decide) (by omega))
   exact zA (zB (wP I (wP I (wP I (wV 34 (a*b) I (Aj (by omega) (by omega)) (wC I I (fun W hp=>Bh (a*b) (by omega) (by omega) W (ht.hp hp)) (wP I (wP I (Aa (zE (zO (zP (wR2 I I I)))))))))))))
  ·refine zI (zE (zA (zB (wP I ?_))))
   refine wD (X:=NV) I I (fun W' _=>Bo a (by omega) W') ?_
   intro x hx
   refine wP I ?_
   refine wD (X:=NV) I I (fun W' _=>Bo b (by omega) W') ?_
   intro y hy
   refine wD (X:=NV) I I (fun W' hp=>Ke a b W' (some ⟨x.1,0,none⟩) (some ⟨y.1,0,none⟩) x.2.1 y.2.1 (Ar.of_bx hp 0 I) (Ar.of_bx hp 1 I) (by omega) (by omega)) ?_
   intro w hw
   exact wC I I (fun W' hp=>Dn (a*b) hab W' (some ⟨w.1,0,none⟩) w.2.1 (Ar.of_bx hp 2 I)) (wP I (wP I (wP I (wP I (Aa (zE (zO (wR2 I I I))))))))
 |false=>
  obtain⟨x0,y0,h2⟩:=H6 hs ha hb
  refine wP I (wP I (wC I I (fun W _=>h2 W) ?_))
  iterate 7 refine wP I ?_
  refine Aa (zE (zA (zB (wP I (wP I ?_)))))
  iterate 6 refine Af I I ?_
  refine wP I (Aa (zE (zS I (zI (zE (zA (zB (wP I ?_))))))))
  refine wD (X:=NV) I I (fun W' _=>Bo a (by omega) W') ?_
  intro x hx
  refine wP I ?_
  refine wD (X:=NV) I I (fun W' _=>Bo b (by omega) W') ?_
  intro y hy
  refine wD (X:=NV) I I (fun W' hp=>Ke a b W' (some ⟨x.1,0,none⟩) (some ⟨y.1,0,none⟩) x.2.1 y.2.1 (Ar.of_bx hp 0 I) (Ar.of_bx hp 1 I) (by omega) (by omega)) ?_
  intro w hw
  exact wC I I (fun W' hp=>Dn (a*b) hab W' (some ⟨w.1,0,none⟩) w.2.1 (Ar.of_bx hp 2 I)) (wP I (wP I (wP I (wP I (Aa (zE (zO (wR2 I I I))))))))
theorem Ov (a b:Int) (ha:(decDigits a.natAbs).length≤300) (hb:(decDigits b.natAbs).length≤300) (W:World):
  Ad Tryz.prog 157 #[str (itoa a),str (itoa b)] W (fun _:Unit=> .tuple #[.int .i64 (EI a b), .int .i64 0]) (fun _=>True) (fun _=>[]):=by
 have la:=Cn (m:=a.natAbs) (by omega)
 have lb:=Cn (m:=b.natAbs) (by omega)
 refine Ab (args:=[str (itoa a),str (itoa b)]) Tryz.func157 I I I ?_
 refine zA (zB (wP I (wP I (Aa (zE (zA (zA (zB (wP I (wP I (wC I I (fun W _=>D4 a b ha hb W) (wP I (Aa ?_)))))))))))))
 refine zE (zA (zB (wP I (wP I (Aa (zE (zS I (zI (zE (zA (zA (zB ?_))))))))))))
 cases hs:smI a&&smI b with
 |true=>
  refine wP I (wP I (wC I I (fun W _=>HQ hs W) ?_))
  iterate 7 refine wP I ?_
  refine Aa (zE (zA (zB (wP I (Aa (zE (zR I (zA (zA (zB (wP I (wP I (wP I ?_)))))))))))))
  by_cases h1:a<b
  ·exact wU 27 true I (dT h1) (Aa (zE (zR I (zA (zB (wP I (wP I (Aa (zE (zO (zP (zP (wR2 I I (by rw[EI,if_pos h1]))))))))))))))
  refine wU 27 false I (dF h1) (Aa (zE (zS I (zI (zE (zA (zA (zB (wP I (wP I (wP I ?_)))))))))))
  by_cases h2:b<a
  ·exact wU 30 true I (dT h2) (Aa (zE (zR I (zA (zB (wP I (wP I (Aa (zE (zO (zP (zP (wR2 I I (by rw[EI,if_neg h1,if_neg (by omega)]))))))))))))))
  exact wU 30 false I (dF h2) (Aa (zE (zS I (zI (zE (zA (zB (wP I (wP I (Aa (zE (zO (zP (wR2 I I (by rw[EI,if_neg h1,if_pos (by omega)])))))))))))))))
 |false=>
  obtain⟨x0,y0,h2⟩:=H6 hs ha hb
  refine wP I (wP I (wC I I (fun W _=>h2 W) ?_))
  iterate 7 refine wP I ?_
  refine Aa (zE (zA (zB (wP I (Aa (zE (zS I (zI (zE (zA (zB (wP I ?_))))))))))))
  refine wD (X:=NV) I I (fun W' _=>Bo a (by omega) W') ?_
  intro x hx
  refine wP I ?_
  refine wD (X:=NV) I I (fun W' _=>Bo b (by omega) W') ?_
  intro y hy
  refine wC I I (fun W' hp=>O9 b W' (some ⟨y.1,0,none⟩) y.2.1) ?_
  refine wD (X:=NV) I I (fun W' hp=>JB a (-b) W' (some ⟨x.1,0,none⟩) (some ⟨y.1,0,none⟩) x.2.1 y.2.1 (Ar.of_bx hp 0 I) (by rw[Int.natAbs_neg];exact Ar.of_bx hp 1 I) (by omega) (by rw[Int.natAbs_neg];omega)) ?_
  intro w hw
  (refine Ae Tryz.hZ rfl rfl rfl rfl ?_;intro)
  refine wS 3 I I I (Aa ?_)
  rename_i b10
  refine zE (zA (zA (zB (wP I (wB 3 I I I (wP I (wP I ?_)))))))
  refine Ag 40 (.bool (decide (a=b))) I (congrArg Value.bool (by
   by_cases h0:a=b
   ·rw[dT h0,show(a+ -b).natAbs=0 by omega,AF];rfl
   ·have hL:(lbs br (a+ -b).natAbs).length≠0:=fun e=>by have:=(Ct br2).1 (List.length_eq_zero_iff.1 e);omega
    rw[dF h0,beq_eq_false_iff_ne];omega)) ?_
  refine Aa (zE ?_)
  refine Ai I (fun h0=> ?_) (fun h0=> ?_)
  ·have h0:a=b:=of_decide_eq_true h0
   exact zA (zB (wP I (wP I (Aa (zE (zO (zP (wR2 I I (by rw[EI,if_neg (by omega),if_pos h0])))))))))
  have h0: ¬a=b:=of_decide_eq_false h0
  refine zI (zE (zA (zA (zB (wP I (wB 3 I I I (Aa (zE ?_))))))))
  refine Ai I (fun h1=> ?_) (fun h1=> ?_)
  ·have h1:a+ -b<0:=of_decide_eq_true h1
   exact zA (zB (wP I (wP I (Aa (zE (zO (zP (wR2 I I (by rw[EI,if_pos (by omega)])))))))))
  ·have h1: ¬a+ -b<0:=of_decide_eq_false h1
   exact zI (zE (zA (zB (wP I (wP I (Aa (zE (zO (wR2 I I (by rw[EI,if_neg (by omega),if_neg h0]))))))))))
-- BOXES 4
-- CODE2
theorem LM (r:Nat):lv br [r]=r:=by show r+br*0=r;rw[Nat.mul_zero,Nat.add_zero]
theorem LB (W:World) (p:Option Addr) (cap a dv:Nat) (hA:Ar W p (lbs br a)) (hna:(lbs br a).length≤1000000) (hd0:0<dv) (hd1:dv<br):
  Ad Tryz.prog 225 #[slv p (lbs br a).length cap, .int .i64 (dv:Nat)] W (fun x:NV×NV=> .tuple #[Bb x.1 (lbs br (a/dv)).length,Bb x.2 (lbs br (a%dv)).length]) (fun x=>B9 x.1 (lbs br (a/dv))∧B9 x.2 (lbs br (a%dv))) (fun x=>[Bn x.1 (lbs br (a/dv)),Bn x.2 (lbs br (a%dv))]):=by
 obtain⟨K,hK⟩: ∃K,(lbs br a).length=K:=⟨_,rfl⟩
 have hd1':dv<1000000:=hd1
 have hal:=A6 br2 a
 rw[hK] at hna hal
 refine Ab (args:=[slv p (lbs br a).length cap, .int .i64 (dv:Nat)]) Tryz.func225 I I I ?_
 rw[hK]
 refine zA (zB (wP I (wP I (Aa (zE (zA (zB (wP I (wP I ?_)))))))))
 refine B4 Tryz.vec170 K I I I I I I I (by simp only[maxLen];omega) (by omega) ?_
 intro g
 have ez:Ck (Value.cells (.int .i64 0)).toList K=nI (List.replicate K 0)++[]:=by rw[List.append_nil];exact DQ K
 rw[ez]
 refine wP I (Aa (zE (zA (zB (wP I (Aa (zE (zA (zA (zB (wP I (wP I (wP I ?_)))))))))))))
 refine wV 14 ((K:Int)-1) I (Aj (by omega) (by omega)) (wP I (Aa (zE (zH ?_))))
 refine Aw (X:=Nat×List Nat×Nat×Nat) (fun x=>[(0,slv p K cap),(1, .int .i64 (dv:Nat)),(6,slv (some ⟨g,0,none⟩) K K),(7, .int .i64 (x.2.2.2:Nat)),(8, .int .i64 ((x.1:Nat)-1:Int))]) (fun x=>[⟨g,3,nI x.2.1++[],true,none⟩])
  (fun x=>x.1≤K∧x.2.1.length=K∧(∀y∈x.2.1,y<br)∧lv br x.2.1=br^x.1*x.2.2.1∧a/br^x.1=x.2.2.1*dv+x.2.2.2∧x.2.2.2<dv) (fun x=>x.1) (K,List.replicate K 0,0,0) ⟨Nat.le_refl _,List.length_replicate,Ga (by decide) K,by rw[Dx];show 0=br^K*0;rw[Nat.mul_zero],by show a/br^K=0*dv+0;rw[Nat.div_eq_of_lt hal];omega,hd0⟩ ⟨rfl,rfl,rfl,rfl,rfl,trivial⟩ [] rfl ?_
 rintro⟨k,l,qh,rs⟩ ⟨hk,hl,hlb,hlv,hq,hr⟩
 have hk:k≤K:=hk
 have hl:l.length=K:=hl
 have hlv:lv br l=br^k*qh:=hlv
 have hq:a/br^k=qh*dv+rs:=hq
 have hr:rs<dv:=hr
 refine zA (zA (zB (wP I (wP I ?_))))
 cases k with
 |zero=>
  have hq:a=qh*dv+rs:=by simpa using hq
  have hlv:lv br l=qh:=by rw[hlv];simp
  have eq1:a/dv=qh:=by rw[hq,Nat.mul_comm,Nat.mul_add_div hd0,Nat.div_eq_of_lt hr,Nat.add_zero]
  have eq2:a%dv=rs:=by rw[hq,Nat.mul_comm,Nat.mul_add_mod,Nat.mod_eq_of_lt hr]
  refine wU 16 false I (dF (by show¬(((0:Nat):Int)-1≥0);omega)) (Aa (zE (zS I (zJ (zK (zK (zL (zE (zA (zB ?_))))))))))
  have hV0:(⟨some g,K,[]⟩:Vec).OK 1 l.length (nI l):=⟨Dm _,(fun h=>by cases h),fun _=>⟨by show _≤K;omega,by show K≤maxLen;simp only[maxLen];omega,by show(nI l).length+0=K*1;rw[Bk];omega⟩⟩
  obtain⟨j1,hV1,he1⟩:=CL hV0 hlb
  have hrb: ∀x∈[rs],x<br:=fun x hx=>by obtain rfl:=List.mem_singleton.1 hx;show x<1000000;omega
  refine wP I ?_
  refine Ag 35 (slv (some ⟨g,0,none⟩) l.length K) I (by rw[hl]) ?_
  refine wC I I (fun W hp=>Ca W _ K _ (Ar.of_bx hp 0 I) hlb (by omega) (by omega)) (wP I ?_)
  refine Ap Tryz.hZ tH I I I I I I I I I I I fun bN=> ?_
  have hV2:(⟨some bN,1,[]⟩:Vec).OK 1 [rs].length (nI [rs]):=⟨rfl,(fun h=>by cases h),fun _=>⟨Nat.le_refl _,(by show 1≤maxLen;decide),rfl⟩⟩
  obtain⟨j2,hV3,he2⟩:=CL hV2 hrb
  refine wC I I (fun W hp=>Ca W (some ⟨bN,0,none⟩) 1 [rs] (Ar.of_bx (junk:=[]) hp 1 I) hrb (by show 1≤1;omega) (by show 1<_;decide)) (wP I (wP I (Aa (zE (zO ?_)))))
  rw[hlv, ←eq1] at hV1 he1
  rw[LM, ←eq2] at hV3 he2
  exact AH tH I (.tmp I) (.tmp I) (((g,K,j1):NV),((bN,1,j2):NV)) (by rw[hlv, ←eq1,LM, ←eq2]) ⟨hV1,hV3⟩ fun W hp=>A0.of_hp (hp.pick (l:=[Bn (g,K,j1) (lbs br (a/dv)),Bn (bN,1,j2) (lbs br (a%dv))]) [0,1] (by decide) (by
   show some [(⟨g,3,nI l++[],true,none⟩:Bx),⟨bN,3,nI [rs]++[],true,none⟩]=some [⟨g,3,nI (lbs br (a/dv))++j1,true,none⟩,⟨bN,3,nI (lbs br (a%dv))++j2,true,none⟩]
   rw[he1, ←eq2,he2]))
 |succ k=>
  have hq:a/br^(k+1)=qh*dv+rs:=hq
  have hi:k<l.length:=by rw[hl];omega
  obtain⟨b1,o1,rfl,r1⟩:=hA.row (show k<(lbs br a).length by omega)
  have r1:=r1 k (by omega)
  obtain⟨v,hv⟩: ∃v,lim (lbs br a) k=v:=⟨_,rfl⟩
  rw[hv] at r1
  have hvb:v<br:=by rw[←hv];exact AN br2 (AS br2 a) _
  have hvb':v<1000000:=hvb
  have hve:v=a/br^k%br:=by rw[←hv];exact AP br2 a _
  obtain⟨n,hn⟩: ∃n,n=v+rs*br:=⟨_,rfl⟩
  have hn':n=v+rs*1000000:=hn
  have hn63:n<1000000000000:=by omega
  have hnq:=MJ (B:=br) (d:=dv) hvb hr hn
  have hnq':n/dv<1000000:=hnq
  have hs:=GY (B:=br) (d:=dv) (q:=qh) (r:=rs) (i:=k) hq (n:=n) (by rw[hn,hve])
  have hzero:l[k]? =some 0:=by
   rw[Cy hi,BK br2 _ hlb,hlv,Nat.pow_succ,Nat.mul_assoc,Nat.mul_div_cancel_left _ (Nat.pow_pos (by decide)),Nat.mul_mod_right]
  have hset:=FJ (B:=br) (n/dv) hzero
  rw[Nat.mul_zero,Nat.add_zero,hlv,Nat.pow_succ,Nat.mul_assoc, ←Nat.mul_add] at hset
  have hrm:n%dv<dv:=Nat.mod_lt _ hd0
  refine wU 16 true I (dT (by show(((k+1:Nat):Int)-1≥0);omega)) (Aa (zE (zR I (zI (zE (zA (zH (zA (zB (wP I (wP I (wP I (wP I ?_)))))))))))))
  refine wV 22 (k:Nat) I (by show((k+1:Nat):Int)-1=_;omega) ?_
  refine wJ ?_
  refine wL 0 I I (fun W hp=>r1.hp hp) I (wP I (wV 25 (n:Nat) I (by show w64 (w64 ((rs:Int)*((1000000:Nat):Int))+v)=_;rw[BB (by omega),AA (by omega),hn',Nat.add_comm]) (wP I (Aa (zE (zA (zB (wP I (wP I (wV 27 (k:Nat) I (by show((k+1:Nat):Int)-1=_;omega) (wP I (wP I ?_))))))))))))
  refine CG I I I I I (by omega) ?_
  refine wV 30 ((n/dv:Nat):Int) I (Bl (by omega)) ?_
  refine wJ ?_
  refine A5 0 (nI (l.set k (n/dv))++[]) tH I I I I I I I I I I (by show 0+k*1+1≤(nI l++[]).length;rw[List.append_nil,Bk];omega) (BP hi (n/dv)) ?_
  refine Aa (zE (zB (wP I (wP I ?_))))
  refine Fh I I I I I (by omega) ?_
  refine Ag 34 (.int .i64 ((n%dv:Nat):Int)) I I ?_
  exact wP I (Aa (zN (zE (zB (wP I (wV 17 (k:Nat) I (by show((k+1:Nat):Int)-1=_;omega) (wP I (wV 18 ((k:Nat)-1:Int) I (Aj (by omega) (by omega)) (wP I (Aa (Ak (k,l.set k (n/dv),qh*br+n/dv,n%dv) ⟨by show k≤K;omega,by rw[List.length_set];exact hl,Cf hlb hnq,by show lv br (l.set k (n/dv))=br^k*(qh*br+n/dv);rw[hset,Nat.mul_comm qh],by show a/br^k=_;exact hs,hrm⟩ (by show k<k+1;omega) ⟨I,I,I,I,I,O⟩ [] I)))))))))))
end
end Go.Proofs.YtemghkmmcomalaaGreatDoor
