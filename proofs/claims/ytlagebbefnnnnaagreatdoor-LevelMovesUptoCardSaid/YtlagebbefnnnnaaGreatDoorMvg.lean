/-
  Lemmas that the theorem levelMoves_upto_card needs (part 7 of 8).
-/
import Derived.Test.YtlagebbefnnnnaaGreatDoorMvf
set_option maxHeartbeats 64000000
namespace Go.Proofs.YtlagebbefnnnnaaGreatDoor
section
open Go Go.RowKit Go.Am Go.Lib
set_option maxRecDepth 10000
-- BOXES 6
-- CODE2
def Mx (W:World) (p:Option Addr) (l:List Nat):Prop:=l=[]∨ ∃b off,p=some ⟨b,off,none⟩∧ ∀k (_:k<l.length),Ae W b (off+k*1) [.int .i64 (l[k]:Nat)]
theorem Mx.row {W:World} {p:Option Addr} {l:List Nat} (h:Mx W p l) {i:Nat} (hi:i<l.length): ∃b off,p=some ⟨b,off,none⟩∧ ∀k (_:k<l.length),Ae W b (off+k*1) [.int .i64 (l[k]:Nat)]:=by
 rcases h with rfl|h
 ·exact absurd hi (Nat.not_lt_zero _)
 ·exact h
theorem Q5 {W:World} {b:Nat} {l:List Nat} {junk:List Value} (h:Ae W b 0 (iC l++junk)):Mx W (some ⟨b,0,none⟩) l:= .inr ⟨b,0,rfl,fun k hk=>⟨h.lt,fun m u hu=>by
 have hm:m=0:=by have:=(List.getElem?_eq_some_iff.1 hu).1;simpa using this
 subst hm
 have:=h.get k u (by
  rw[List.getElem?_append_left (by rw[List.length_map];exact hk),List.getElem?_map,List.getElem?_eq_getElem hk]
  exact hu)
 rw[Nat.mul_one,Nat.add_zero];exact this⟩⟩
theorem Vn {V:Vec} {l:List Nat} (hV:V.OK 1 l.length (iC l)): ∃p cap,V.val l.length= .slice p l.length cap∧
  ∀ {W0 W:World} {bxs:List Bx},Hp W0 bxs W→ ∀k,nth bxs k=some (V.bx 3 (iC l))→Mx W p l:=by
 obtain⟨p,cap,junk⟩:=V
 cases p with
 |none=>
  have h0:=hV.nil rfl
  exact⟨none,0,by rw[h0];rfl,fun _ _ _=> .inl (List.length_eq_zero_iff.1 h0)⟩
 |some g=>exact⟨some ⟨g,0,none⟩,cap,rfl,fun {W0 W bxs} hp k hk=>Q5 (Ae.of_bx hp k hk rfl)⟩
theorem Od (W:World) (p q:Option Addr) (cap cap2:Nat) (xs ys:List Nat) (hA:Mx W p xs) (hB:Mx W q ys) (hn:xs.length<4611686018427387904) (hm:ys.length<4611686018427387904):
  Ai Tryz.prog 34 #[.slice p xs.length cap, .slice q ys.length cap2] W (fun _:Unit=> .bool (decide (xs=ys))) (fun _=>True) (fun _=>[]):=by
 refine Ad (args:=[.slice p xs.length cap, .slice q ys.length cap2]) Tryz.func34 rfl rfl rfl ?_
 refine zA (zB (wP rfl (Aa (zE (zA (zA (zB ?_)))))))
 iterate 5 refine wP rfl ?_
 by_cases hl:xs.length=ys.length
 ·refine Ac 10 (.bool false) rfl (congrArg Value.bool (by rw[hl];simp)) ?_
  refine Aa (zE (zS rfl (zI (zE (zA (zA (zB (wP rfl (wP rfl (wP rfl (Aa (AP ?_))))))))))))
  refine BF (X:=Unit) (fun _=>[(4, .bool false)]) (fun _=>[]) (fun _=>xs=ys) ?_ ?_
  ·refine B6 ?_
   refine Az (X:=Nat) (fun i=>[(0, .slice p xs.length cap),(1, .slice q ys.length cap2),(4, .bool false),(12, .int .i64 (xs.length:Nat)),(13, .int .i64 (i:Nat))]) (fun _=>[]) (fun i=>i≤xs.length∧xs.take i=ys.take i) (fun i=>xs.length-i) 0 ⟨Nat.zero_le _,rfl⟩ ⟨rfl,rfl,rfl,rfl,rfl,trivial⟩ [] rfl ?_
   rintro i ⟨hi,he⟩
   refine zA (zB (wP rfl ?_))
   by_cases hlt:i<xs.length
   ·refine Ac 14 (.bool true) rfl (congrArg Value.bool (decide_eq_true (by omega))) ?_
    refine Aa (zE (zA (zR rfl (zI (zE (zA (zH (zA (zB ?_)))))))))
    obtain⟨pb,po,rfl,hr1⟩:=hA.row hlt
    obtain⟨qb,qo,rfl,hr2⟩:=hB.row (show i<ys.length by omega)
    refine wP rfl (wP rfl (Aa (zE (zA ?_))))
    refine zT Tryz.mixed (by kernel_rfl) ?_
    refine qP rfl (qP rfl ?_)
    refine qJ ?_
    refine Ap rfl rfl rfl rfl (fun W hp=>Ae.load 0 tH rfl ((fun W hp=>(hr1 i hlt).hp hp) W hp) rfl) ?_
    refine qP rfl (qP rfl ?_)
    refine qJ ?_
    refine Ap rfl rfl rfl rfl (fun W hp=>Ae.load 0 tH rfl ((fun W hp=>(hr2 i (by omega)).hp hp) W hp) rfl) ?_
    refine qP rfl ?_
    by_cases hx:xs[i]=ys[i]
    ·refine AF 24 (.bool false) rfl (congrArg Value.bool (by rw[hx];simp)) ?_
     refine AE (Aa (zE (zS rfl (zI (zN (zE (zB (wP rfl ?_))))))))
     refine Ac 25 (.int .i64 ((i+1:Nat):Int)) rfl (congrArg (Value.int .i64) (AM (by omega))) ?_
     refine wP rfl (Aa ?_)
     exact At (i+1) ⟨hlt,by rw[List.take_add_one,List.take_add_one,he,List.getElem?_eq_getElem hlt,List.getElem?_eq_getElem (by omega),hx]⟩ (by show xs.length-(i+1)<xs.length-i;omega) ⟨rfl,rfl,rfl,rfl,rfl,trivial⟩ [] rfl
    ·refine AF 24 (.bool true) rfl (congrArg Value.bool (bne_iff_ne.2 (by omega))) ?_
     refine AE (Aa (zE (zR rfl (zA (zB (wP rfl (Aa (zE (zO (zQ (zP (zP (zQ ?_)))))))))))))
     refine zP ?_
     exact Af tH rfl (.tmp rfl) () (by rw[decide_eq_false fun e=>hx (by subst e;rfl)]) trivial fun W _=>Ag.nil _ _
   ·refine Ac 14 (.bool false) rfl (congrArg Value.bool (decide_eq_false (by omega))) ?_
    refine Aa (zE (zA (zS rfl (zJ (zK (zK (zL ?_)))))))
    exact AH () (by rw[List.take_of_length_le (by omega),List.take_of_length_le (by omega)] at he;exact he) ⟨rfl,trivial⟩ [] rfl
  ·intro _ he
   have he:xs=ys:=he
   refine zA (zB (wP rfl (Aa (zE (zO ?_)))))
   exact Af tH rfl (.tmp rfl) () (by rw[decide_eq_true he]) trivial fun W _=>Ag.nil _ _
 ·refine Ac 10 (.bool true) rfl (congrArg Value.bool (by rw[bne_iff_ne];omega)) ?_
  refine Aa (zE (zR rfl (zA (zB (wP rfl (Aa (zE (zO (zP ?_)))))))))
  exact Af tH rfl (.tmp rfl) () (by rw[decide_eq_false fun e=>hl (by rw[e])]) trivial fun W _=>Ag.nil _ _
def sq1 (x y:Int):Sd:=⟨x,y,1,1,false,0,0⟩
def sqG:Sd:=⟨0,0,0,0,true,0,0⟩
def sqL (g:Bool):List Sd:=[if g then sqG else sq1 0 0,sq1 10 0,sq1 10 10,sq1 0 10]
theorem HV (x y:Int) (W:World):Ai Tryz.prog 135 #[.int .i64 x, .int .i64 y] W (fun _:Unit=>(sq1 x y).val) (fun _=>True) (fun _=>[]):=by
 refine Ad (args:=[.int .i64 x, .int .i64 y]) Tryz.func135 rfl rfl rfl ?_
 refine zA (zB ?_)
 (refine An Tryz.hZ rfl rfl rfl rfl ?_;intro)
 refine Aa (zE (zA (zB (wP rfl (wP rfl ?_)))))
 refine AA Tryz.hZ tH rfl rfl rfl rfl rfl rfl rfl rfl ?_
 refine wS 0 rfl rfl rfl (Aa (zE (zO ?_)))
 exact Af tH rfl (.cell 0 rfl rfl rfl rfl rfl) () rfl trivial fun W _=>Ag.nil _ _
theorem EO (g:Bool) (W:World):Ai Tryz.prog 60 #[.bool g] W (fun x:Nat×Nat=>AX (some ⟨x.2,0,none⟩) 1 1) (fun _=>True)
  (fun x=>[⟨x.1,42,cellsOf (sqL g),true,none⟩,bxE x.2 32 (slv (some ⟨x.1,0,none⟩) 4 4)]):=by
 refine Ad (args:=[.bool g]) Tryz.func60 rfl rfl rfl ?_
 refine zA (zB ?_)
 (refine An Tryz.hZ rfl rfl rfl rfl ?_;intro)
 refine Aa (zE (zA (zB (wP rfl (Aa (zE (zA (zB (wP rfl ?_)))))))))
 refine Ab (capt:=[]) rfl rfl rfl rfl rfl rfl (by kernel_rfl) (fun W _=>HV 0 0 W) ?_
 refine wP rfl ?_
 refine Ab (capt:=[]) rfl rfl rfl rfl rfl rfl (by kernel_rfl) (fun W _=>HV 10 0 W) ?_
 refine wP rfl ?_
 refine Ab (capt:=[]) rfl rfl rfl rfl rfl rfl (by kernel_rfl) (fun W _=>HV 10 10 W) ?_
 refine wP rfl ?_
 refine Ab (capt:=[]) rfl rfl rfl rfl rfl rfl (by kernel_rfl) (fun W _=>HV 0 10 W) ?_
 refine A4 Tryz.hZ tH rfl rfl rfl rfl rfl rfl rfl rfl rfl rfl rfl fun bS=> ?_
 refine wP rfl (Aa (zE (zA (zA (zB (wP rfl (Aa ?_)))))))
 cases g with
 |false=>
  refine zE (zS rfl (zI (zE (zA (zB (wP rfl ?_))))))
  refine A4 Tryz.hZ tH rfl rfl rfl rfl rfl rfl rfl rfl rfl rfl rfl fun bR=> ?_
  refine AA Tryz.hZ tH rfl rfl rfl rfl rfl rfl rfl rfl ?_
  refine wS 0 rfl rfl rfl (Aa (zE (zO ?_)))
  exact Af tH rfl (.cell 0 rfl rfl rfl rfl rfl) (bS,bR) rfl trivial fun W hp=>Ag.of_hp (hp.pick (l:=[⟨bS,42,cellsOf (sqL false),true,none⟩,bxE bR 32 (slv (some ⟨bS,0,none⟩) 4 4)]) [1,2] (by decide) rfl)
 |true=>
  refine zE (zR rfl (zB (wP rfl ?_)))
  refine AA Tryz.hZ tH rfl rfl rfl rfl rfl rfl rfl rfl ?_
  refine wJ ?_
  refine wS 1 rfl rfl rfl (Aa (zE (zA (zB (wP rfl ?_)))))
  refine A4 Tryz.hZ tH rfl rfl rfl rfl rfl rfl rfl rfl rfl rfl rfl fun bR=> ?_
  refine AA Tryz.hZ tH rfl rfl rfl rfl rfl rfl rfl rfl ?_
  refine wS 0 rfl rfl rfl (Aa (zE (zO ?_)))
  exact Af tH rfl (.cell 0 rfl rfl rfl rfl rfl) (bS,bR) rfl trivial fun W hp=>Ag.of_hp (hp.pick (l:=[⟨bS,42,cellsOf (sqL true),true,none⟩,bxE bR 32 (slv (some ⟨bS,0,none⟩) 4 4)]) [1,2] (by decide) rfl)
theorem Pj {g:Bool} {bS bR:Nat} {W0 W:World} {bxs:List Bx} (hp:Hp W0 bxs W) (k i:Nat) (hk:nth bxs k=some ⟨bS,42,cellsOf (sqL g),true,none⟩) (hi:nth bxs i=some (bxE bR 32 (slv (some ⟨bS,0,none⟩) 4 4))):AY W (some ⟨bR,0,none⟩) [sqL g]:=by
 refine .inr ⟨bR,0,rfl,⟨fun j l hl=> ?_⟩⟩
 have hj:j=0:=by have:=(List.getElem?_eq_some_iff.1 hl).1;simpa using this
 subst hj
 have hl:sqL g=l:=by simpa using hl
 subst hl
 have hrow:=Ae.of_bx hp k hk rfl
 exact⟨some ⟨bS,0,none⟩,4,Ae.of_bx hp i hi rfl, .inr ⟨bS,0,rfl,Ef.of_cells hrow.lt fun j u hj=>hrow.get j u hj⟩⟩
theorem YZ (g:Bool):chk [sqL g]=0:=by cases g<;>decide+kernel
theorem Zy:B8 [sqL false]=[q2 0 1,q2 5 1]:=by decide+kernel
theorem Zq:B8 [sqL true]=[q2 0 1,q2 5 1,q2 10 1]:=by decide+kernel
theorem YG:JM (Aw [sqL true]) (q2 5 1) true=[1,3]:=by decide+kernel
theorem YS:prW (Aw [sqL false]) (q2 5 1)=[(0,2),(1,3)]:=by decide+kernel
end
section
open Go Go.RowKit Go.Am
set_option maxRecDepth 10000
-- BOXES 1
theorem Oy (W:World) (p:Option Addr) (cap:Nat) (rs:List (List Sd)) (hn:rs.length<4611686018427387904) (hT:tot rs<1099511627776) (hR:AY W p rs):
  Ai Tryz.prog 12 #[AX p rs.length cap] W (fun _:Unit=> .int .i64 (chk rs)) (fun _=>True) (fun _=>[]):=
 (IZ W p cap rs hn hT hR).cast (by rw[T0])
theorem TO (W:World) (p:Option Addr) (cap:Nat) (rs:List (List Sd)) (hn:rs.length<4611686018427387904) (hR:AY W p rs) (hc:chk rs=0):
  Ai Tryz.prog 68 #[AX p rs.length cap] W (fun V:Vec=> .tuple #[V.val rs.flatten.length, .int .i64 0]) (fun V=>V.OK 7 rs.flatten.length (cellsOf rs.flatten)) (fun V=>[V.bx 42 (cellsOf rs.flatten)]):=by
 obtain⟨hne,hT,_⟩:=Cf hc
 refine Ad (args:=[AX p rs.length cap]) Tryz.func68 rfl rfl rfl ?_
 refine zA (zB ?_)
 (refine A0 rfl rfl rfl rfl ?_;intro)
 refine wP rfl (wP rfl (Aa ?_))
 rename_i b1
 refine zE (zA (zA (zB (wB 0 rfl rfl rfl ?_))))
 refine Ab rfl rfl rfl rfl rfl rfl (by kernel_rfl) (fun W hp=>(Oy W p cap rs hn (by omega) (hR.hp hp)).cast (by rw[hc])) ?_
 refine wP rfl (Aa (zE (zS rfl (zI (zE (zA (zB (wP rfl (Aa (zE (zA (zA (zB ?_)))))))))))))
 refine wP rfl (Aa (zE (zH ?_)))
 refine Cl ?_
 refine Az (X:=Nat×Vec) (fun x=>[(1, .pointer (some ⟨b1,0,none⟩)),(4,x.2.val (tot (rs.take x.1))),(5, .int .i64 (x.1:Nat))]) (fun x=>[⟨b1,24,[slv p rs.length cap],true,none⟩,x.2.bx 42 (cellsOf (rs.take x.1).flatten)])
  (fun x=>x.1≤rs.length∧x.2.OK 7 (tot (rs.take x.1)) (cellsOf (rs.take x.1).flatten)) (fun x=>rs.length-x.1) (0,Vec.empty) ⟨Nat.zero_le _,Vec.OK.empty 7⟩ ⟨rfl,rfl,rfl,trivial⟩ [] rfl ?_
 rintro⟨k,V⟩ ⟨hk,hV⟩
 refine zA (zA (zB (wP rfl (wP rfl (wB 0 rfl rfl rfl (wP rfl (wP rfl (Aa (zE ?_)))))))))
 refine Al rfl (fun h=> ?_) (fun h=> ?_)
 ·have hk:k<rs.length:=by simp at h;omega
  clear h
  obtain⟨b,off,rfl,hrow⟩:=hR.row hk
  obtain⟨q,cap2,hq1,hq2⟩:=hrow k hk
  refine zI (zE (zA (zH (zB (wP rfl (wP rfl (wB 0 rfl rfl rfl (wP rfl ?_))))))))
  refine wJ ?_
  refine Av rfl rfl rfl rfl (fun W hp=>Ae.load 0 tH rfl ((fun W hp=>hq1.hp hp) W hp) rfl) ?_
  obtain⟨b2,off2,rfl,hRk⟩: ∃b off,q=some ⟨b,off,none⟩∧Ef W b off (rg rs k):=by
   rcases hq2 with h|h
   ·exact absurd h (hne _ (List.mem_of_getElem? (AN hk)))
   ·exact h
  have h1:=Ba hk
  have h2:=Ch rs (k+1)
  refine E1 (len:=tot (rs.take k)) 1 Tryz.vec32 rfl rfl rfl rfl rfl rfl rfl rfl rfl hV (A7 (rg rs k)) (fun W hp j u hj=> ?_) (HD _) (by simp only[maxLen];omega) (by omega) ?_
  ·have hR':Br W (some ⟨b2,off2,none⟩) (rg rs k):=Br.hp (.inr ⟨b2,off2,rfl,hRk⟩) hp
   rcases hR' with h|⟨b3,off3,e,hR'⟩
   ·exact absurd h (hne _ (List.mem_of_getElem? (AN hk)))
   ·cases e
    rw[Addr.add_none]
    exact hR'.cells j u hj
  intro V' hV' _
  have e3:cellsOf (rs.take k).flatten++cellsOf (rg rs k)=cellsOf (rs.take (k+1)).flatten:=by rw[JE hk,Dn]
  rw[e3, ←h1] at hV'
  rw[e3, ←h1]
  refine wP rfl (Aa (zN (zE (zB (wP rfl (wP rfl (wP rfl (Aa ?_))))))))
  exact At (k+1,V') ⟨hk,hV'⟩ (by show rs.length-(k+1)<rs.length-k;omega) ⟨rfl,rfl,congrArg (fun z=>some (Value.int .i64 z)) (A6 (x:=(k:Int)+1) (by omega) (by omega)),trivial⟩ [] rfl
 ·have e:k=rs.length:=by simp at h;omega
  subst e
  rw[List.take_length] at hV
  rw[List.take_length]
  refine zJ (zK (zK (zL (zE (zA (zB (wP rfl (wP rfl (wP rfl (Aa (zE (zO ?_))))))))))))
  exact Au tH rfl (.tmp rfl) (.tmp rfl) V (by rw[Cv]) (by rw[Cv];exact hV) fun W hp=>Ag.of_hp1 hp 1 rfl
end
section
open Go Go.RowKit Go.Am Go.Lib
set_option maxRecDepth 10000
-- BOXES 14
-- CODE2
theorem KE (W:World) (p q:Option Addr) (cp cq:Nat) (L:List (Nat×Nat)) (hn:L.length<4611686018427387904) (hp0:L4 W p L) (hq0:L4 W q L):
  Ai Tryz.prog 61 #[.slice p L.length cp, .slice q L.length cq] W (fun _:Unit=> .bool true) (fun _=>True) (fun _=>[]):=by
 refine Ad (args:=[.slice p L.length cp, .slice q L.length cq]) Tryz.func61 rfl rfl rfl ?_
 refine zA (zB (wP rfl (Aa (zE (zA (zA (zB ?_)))))))
 iterate 5 refine wP rfl ?_
 refine Ac 11 (.bool false) rfl (congrArg Value.bool (by simp)) ?_
 refine Aa (zE (zS rfl (zI (zE (zA (zA (zB (wP rfl (Aa (zE (zH ?_)))))))))))
 refine Az (X:=Nat) (fun i=>[(0, .slice p L.length cp),(1, .slice q L.length cq),(5, .int .i64 (i:Nat))]) (fun _=>[]) (fun i=>i≤L.length) (fun i=>L.length-i) 0 (Nat.zero_le _) ⟨rfl,rfl,rfl,trivial⟩ [] rfl ?_
 intro i hi
 have hi:i≤L.length:=hi
 refine zA (zA (zB (wP rfl (wP rfl (wP rfl (wP rfl ?_))))))
 by_cases hlt:i<L.length
 ·refine Ac 15 (.bool true) rfl (congrArg Value.bool (decide_eq_true (by omega))) ?_
  refine Aa (zE (zR rfl (zI (zE (zA (zH (zA (zA ?_))))))))
  refine zT Tryz.mixed (by kernel_rfl) ?_
  obtain⟨g1,o1,rfl,h1⟩:=hp0.at_ hlt
  obtain⟨g2,o2,rfl,h2⟩:=hq0.at_ hlt
  obtain⟨c1,s1,r1⟩:=h1 i hlt
  obtain⟨c2,s2,r2⟩:=h2 i hlt
  obtain⟨⟨x,y⟩,hxy⟩: ∃xy,xy=L[i]:=⟨_,rfl⟩
  rw[←hxy] at r1 r2
  refine qP rfl (qP rfl ?_)
  refine qJ ?_
  refine Ap rfl rfl rfl rfl (fun W hp=>Ae.load 0 tH rfl ((fun W1 hp=>s1.hp hp) W hp) rfl) ?_
  refine qP rfl (qP rfl (qP rfl ?_))
  refine qJ ?_
  refine Ap rfl rfl rfl rfl (fun W hp=>Ae.load 0 tH rfl ((fun W1 hp=>s2.hp hp) W hp) rfl) ?_
  refine qP rfl (qP rfl (AE (Aa (zE (zS rfl (zI (zE (zA (zB (wP rfl (Aa (zE (zH ?_)))))))))))))
  refine Az (X:=Nat) (fun k=>[(0, .slice (some ⟨g1,o1,none⟩) L.length cp),(1, .slice (some ⟨g2,o2,none⟩) L.length cq),(5, .int .i64 (i:Nat)),(6, .int .i64 (k:Nat))]) (fun _=>[]) (fun k=>k≤2) (fun k=>2-k) 0 (by decide) ⟨rfl,rfl,rfl,rfl,trivial⟩ [] rfl ?_
  intro k hk
  have hk:k≤2:=hk
  refine zA (zA (zB (wP rfl (wP rfl (wP rfl ?_)))))
  refine wJ ?_
  refine Av rfl rfl rfl rfl (fun W hp=>Ae.load 0 tH rfl ((fun W1 hp=>s1.hp hp) W hp) rfl) ?_
  refine wP rfl (wP rfl ?_)
  by_cases hk2:k<2
  ·refine Ac 35 (.bool true) rfl (congrArg Value.bool (decide_eq_true (by show(k:Int)<((2:Nat):Int);omega))) ?_
   refine Aa (zE (zR rfl (zI (zE (zA (zH (zA ?_)))))))
   refine zT Tryz.mixed (by kernel_rfl) ?_
   obtain⟨v,hv⟩: ∃v,v=if k=0 then x else y:=⟨_,rfl⟩
   have rr: ∀ {c:Nat},Ae W c 0 (prC (x,y))→Ae W c (0+k*1) [.int .i64 (v:Nat)]:=fun {c} h=>by
    have:k=0∨k=1:=by omega
    rcases this with rfl|rfl
    ·rw[if_pos rfl] at hv;subst hv
     exact⟨h.lt,fun m u hu=>by
      have hm:m=0:=by have:=(List.getElem?_eq_some_iff.1 hu).1;simpa using this
      subst hm
      exact h.get 0 u hu⟩
    ·rw[if_neg (by decide)] at hv;subst hv
     exact⟨h.lt,fun m u hu=>by
      have hm:m=0:=by have:=(List.getElem?_eq_some_iff.1 hu).1;simpa using this
      subst hm
      exact h.get 1 u hu⟩
   have q1:=rr r1
   have q2:=rr r2
   refine qP rfl (qP rfl ?_)
   refine qJ ?_
   refine Ap rfl rfl rfl rfl (fun W hp=>Ae.load 0 tH rfl ((fun W1 hp=>s1.hp hp) W hp) rfl) ?_
   refine qP rfl ?_
   refine qJ ?_
   refine Ap rfl rfl rfl rfl (fun W hp=>Ae.load 0 tH rfl ((fun W1 hp=>q1.hp hp) W hp) rfl) ?_
   refine qP rfl (qP rfl ?_)
   refine qJ ?_
   refine Ap rfl rfl rfl rfl (fun W hp=>Ae.load 0 tH rfl ((fun W1 hp=>s2.hp hp) W hp) rfl) ?_
   refine qP rfl ?_
   refine qJ ?_
   refine Ap rfl rfl rfl rfl (fun W hp=>Ae.load 0 tH rfl ((fun W1 hp=>q2.hp hp) W hp) rfl) ?_
   refine qP rfl ?_
   refine AF 52 (.bool false) rfl (congrArg Value.bool (by simp)) ?_
   refine AE (Aa (zE (zS rfl (zI (zN (zE (zB (wP rfl (wP rfl ?_)))))))))
   refine Ac 37 (.int .i64 ((k+1:Nat):Int)) rfl (congrArg (Value.int .i64) (AM (by omega))) ?_
   refine wP rfl (Aa ?_)
   exact At (k+1) (by show k+1≤2;omega) (by show 2-(k+1)<2-k;omega) ⟨rfl,rfl,rfl,rfl,trivial⟩ [] rfl
  ·refine Ac 35 (.bool false) rfl (congrArg Value.bool (decide_eq_false (by show¬(k:Int)<((2:Nat):Int);omega))) ?_
   refine Aa (zE (zS rfl (zJ (zK (zK (zL (zN (zE (zB (wP rfl (wP rfl ?_)))))))))))
   refine Ac 17 (.int .i64 ((i+1:Nat):Int)) rfl (congrArg (Value.int .i64) (AM (by omega))) ?_
   refine wP rfl (Aa ?_)
   exact At (i+1) hlt (by show L.length-(i+1)<L.length-i;omega) ⟨rfl,rfl,rfl,trivial⟩ [] rfl
 ·refine Ac 15 (.bool false) rfl (congrArg Value.bool (decide_eq_false (by omega))) ?_
  refine Aa (zE (zS rfl (zJ (zK (zK (zL (zE (zA (zB (wP rfl (Aa (zE (zO ?_)))))))))))))
  exact Af tH rfl (.tmp rfl) () rfl trivial fun W _=>Ag.nil _ _
theorem Zx (g:Bool):tot [sqL g]=4:=by cases g<;>rfl
theorem KR {g:Bool} {bS bR:Nat} {W0 W:World} {bxs:List Bx} (hp:Hp W0 bxs W) (k i:Nat) (hk:nth bxs k=some ⟨bS,42,cellsOf (sqL g),true,none⟩) (hi:nth bxs i=some (bxE bR 32 (slv (some ⟨bS,0,none⟩) 4 4))) (hd:I2 W0) (hv:BN W0) (ht:Bd W0):EG W (some ⟨bR,0,none⟩) [sqL g]:=
 ⟨by show 1<_;decide,Pj hp k i hk hi,YZ g,hd.hp hp,hv.hp hp,ht.hp hp⟩
theorem Wl {g:Bool} {l:List Rat} (e:B8 [sqL g]=l) (W:World) (bR:Nat) (h:EG W (some ⟨bR,0,none⟩) [sqL g]):
  Ai Tryz.prog 22 #[AX (some ⟨bR,0,none⟩) 1 1] W (fun V:Vec=> .tuple #[V.val l.length, .int .i64 0]) (fun V=>V.OK 1 l.length (nS l)) (fun V=>[V.bx 37 (nS l)]):=by
 subst e
 exact I8 W (some ⟨bR,0,none⟩) 1 [sqL g] h
theorem YM (W:World) (bR:Nat) (h:EG W (some ⟨bR,0,none⟩) [sqL true]):
  Ai Tryz.prog 32 #[AX (some ⟨bR,0,none⟩) 1 1,str [53], .bool true] W (fun V:Vec=> .tuple #[V.val [1,3].length, .int .i64 0]) (fun V=>V.OK 1 [1,3].length (iC [1,3])) (fun V=>[V.bx 3 (iC [1,3])]):=by
 have h1:=Pt W (some ⟨bR,0,none⟩) 1 [sqL true] h (by rw[Zx];decide) (q2 5 1) ⟨by decide,by decide⟩ true
 rw[ns5,YG] at h1
 exact h1
theorem Zf (W:World) (bR:Nat) (h:EG W (some ⟨bR,0,none⟩) [sqL false]):
  Ai Tryz.prog 33 #[AX (some ⟨bR,0,none⟩) 1 1,str [53]] W (fun x:Vec×Mw=> .tuple #[x.1.val x.2.length, .int .i64 0]) (fun x=>x.2.map (·.2)=[(0,2),(1,3)]∧x.1.OK 1 x.2.length (DM x.2)) (fun x=>[x.1.bx 58 (DM x.2),prB x.2]):=by
 have h1:=Ol W (some ⟨bR,0,none⟩) 1 [sqL false] h (q2 5 1) ⟨by decide,by decide⟩
 rw[ns5,YS] at h1
 exact h1
theorem Gl {V:Vec} {l:List Rat} (hV:V.OK 1 l.length (nS l)): ∃p cap,V.val l.length=slv p (l.map Ak).length cap∧
  ∀ {W0 W:World} {bxs:List Bx},Hp W0 bxs W→ ∀k,nth bxs k=some (V.bx 37 (nS l))→Nm W p (l.map Ak):=by
 have e:(l.map Ak).map str=nS l:=by simp[nS]
 obtain⟨p,cap,junk⟩:=V
 cases p with
 |none=>
  have hl:=List.length_eq_zero_iff.1 (hV.nil rfl)
  subst hl
  exact⟨none,0,rfl,fun _ _ _=> .inl rfl⟩
 |some g=>
  refine⟨some ⟨g,0,none⟩,cap,by rw[List.length_map];rfl,fun {W0 W bxs} hp k hk=> .inr ⟨g,0,rfl, ?_⟩⟩
  rw[e]
  exact DC hp k (A:=[]) (C:=junk) hk rfl rfl
theorem QU {W0 W:World} {bxs:List Bx} (hp:Hp W0 bxs W) (k:Nat) {b:Nat} {t:TypeId} {l:List (List UInt8)} (hk:nth bxs k=some ⟨b,t,l.map str,true,none⟩):Nm W (some ⟨b,0,none⟩) l:= .inr ⟨b,0,rfl,Ae.of_bx hp k hk rfl⟩
theorem Vm {W0 W:World} {bxs:List Bx} (hp:Hp W0 bxs W) (k:Nat) {b:Nat} {t:TypeId} {l:List Nat} (hk:nth bxs k=some ⟨b,t,iC l,true,none⟩):Mx W (some ⟨b,0,none⟩) l:=Q5 (junk:=[]) (by rw[List.append_nil];exact Ae.of_bx hp k hk rfl)
theorem e05:([q2 0 1,q2 5 1]:List Rat).map Ak=[[48],[53]]:=by rw[List.map_cons,List.map_cons,List.map_nil,ns0,ns5]
theorem ZT:([q2 0 1,q2 5 1,q2 10 1]:List Rat).map Ak=[[48],[53],[49,48]]:=by rw[List.map_cons,List.map_cons,List.map_cons,List.map_nil,ns0,ns5,aQ]
theorem Jb (W:World) (hd:I2 W) (hv:BN W) (ht:Bd W):Ai Tryz.prog 21 #[] W (fun _:Unit=> .bool true) (fun _=>True) (fun _=>[]):=by
 refine Ad (args:=[]) Tryz.func21 rfl rfl rfl ?_
 refine zA (zB (wP rfl (Aa (zE (zA (zB ?_))))))
 refine Ay (X:=Nat×Nat) rfl rfl rfl rfl rfl rfl (by kernel_rfl) (fun W1 _=>EO false W1) ?_
 rintro⟨s1,r1⟩ _
 refine Ay (X:=Vec) rfl rfl rfl rfl rfl rfl (by kernel_rfl) (fun W1 hp=>Wl Zy W1 r1 (KR hp 0 1 rfl rfl hd hv ht)) ?_
 intro V1 hV1
 obtain⟨p1,c1,e1,m1⟩:=Gl hV1
 rw[e1]
 iterate 5 refine wP rfl ?_
 refine Aa (zE (zA (zB ?_)))
 refine Ay (X:=Nat×Nat) rfl rfl rfl rfl rfl rfl (by kernel_rfl) (fun W1 _=>EO true W1) ?_
 rintro⟨s2,r2⟩ _
 refine Ay (X:=Vec) rfl rfl rfl rfl rfl rfl (by kernel_rfl) (fun W1 hp=>Wl Zq W1 r2 (KR hp 3 4 rfl rfl hd hv ht)) ?_
 intro V2 hV2
 obtain⟨p2,c2,e2,m2⟩:=Gl hV2
 rw[e2]
 iterate 5 refine wP rfl ?_
 refine Aa (zE (zA (zB ?_)))
 refine Ay (X:=Nat×Nat) rfl rfl rfl rfl rfl rfl (by kernel_rfl) (fun W1 _=>EO true W1) ?_
 rintro⟨s3,r3⟩ _
 refine Ay (X:=Vec) rfl rfl rfl rfl rfl rfl (by kernel_rfl) (fun W1 hp=>YM W1 r3 (KR hp 6 7 rfl rfl hd hv ht)) ?_
 intro V3 hV3
 obtain⟨p3,c3,e3,m3⟩:=Vn hV3
 rw[e3]
 iterate 5 refine wP rfl ?_
 refine Aa (zE (zA (zB ?_)))
 refine Ay (X:=Nat×Nat) rfl rfl rfl rfl rfl rfl (by kernel_rfl) (fun W1 _=>EO false W1) ?_
 rintro⟨s4,r4⟩ _
 refine Ay (X:=Vec×Mw) rfl rfl rfl rfl rfl rfl (by kernel_rfl) (fun W1 hp=>Zf W1 r4 (KR hp 9 10 rfl rfl hd hv ht)) ?_
 rintro⟨V4,mk⟩ ⟨hmk,hV4⟩
 obtain⟨p4,c4,e4,m4⟩:=Un hmk hV4
 dsimp only
 rw[e4]
 iterate 5 refine wP rfl ?_
 refine Aa (zE (zA (zB ?_)))
 iterate 6 refine wP rfl ?_
 refine Ac 34 (.bool true) rfl rfl ?_
 refine wP rfl (wP rfl ?_)
 refine A4 Tryz.hZ tH rfl rfl rfl rfl rfl rfl rfl rfl rfl rfl rfl fun bA=> ?_
 refine Ab rfl rfl rfl rfl rfl rfl (by kernel_rfl) (fun W1 hp=>(DZ W1 p1 (some ⟨bA,0,none⟩) c1 2 _ [[48],[53]] (m1 hp 2 rfl) (QU hp 13 rfl) (by decide) (by decide)).cast (v':= .bool true) (by rw[e05,decide_eq_true rfl])) ?_
 refine wP rfl (wP rfl (wP rfl ?_))
 refine A4 Tryz.hZ tH rfl rfl rfl rfl rfl rfl rfl rfl rfl rfl rfl fun bB=> ?_
 refine Ab rfl rfl rfl rfl rfl rfl (by kernel_rfl) (fun W1 hp=>(DZ W1 p2 (some ⟨bB,0,none⟩) c2 3 _ [[48],[53],[49,48]] (m2 hp 5 rfl) (QU hp 14 rfl) (by decide) (by decide)).cast (v':= .bool true) (by rw[ZT,decide_eq_true rfl])) ?_
 refine wP rfl (wP rfl (wP rfl ?_))
 refine A4 Tryz.hZ tH rfl rfl rfl rfl rfl rfl rfl rfl rfl rfl rfl fun bC=> ?_
 refine Ab rfl rfl rfl rfl rfl rfl (by kernel_rfl) (fun W1 hp=>(Od W1 p3 (some ⟨bC,0,none⟩) c3 2 [1,3] [1,3] (m3 hp 8 rfl) (Vm hp 15 rfl) (by decide) (by decide)).cast (v':= .bool true) (by rw[decide_eq_true rfl])) ?_
 refine wP rfl (wP rfl (wP rfl ?_))
 refine A4 Tryz.hZ tH rfl rfl rfl rfl rfl rfl rfl rfl rfl rfl rfl fun bD=> ?_
 refine A4 Tryz.hZ tH rfl rfl rfl rfl rfl rfl rfl rfl rfl rfl rfl fun bE=> ?_
 refine A4 Tryz.hZ tH rfl rfl rfl rfl rfl rfl rfl rfl rfl rfl rfl fun bF=> ?_
 refine Ab rfl rfl rfl rfl rfl rfl (by kernel_rfl) (fun W1 hp=>KE W1 p4 (some ⟨bF,0,none⟩) c4 2 [(0,2),(1,3)] (by decide) (m4 hp 11 12 rfl rfl) (.inr ⟨bF,0,rfl,fun i hi=> ?_⟩)) ?_
 ·have hF:=Ae.of_bx hp 18 rfl rfl
  have:i=0∨i=1:=by have:i<2:=hi;omega
  rcases this with rfl|rfl
  ·exact⟨bD,⟨hF.lt,fun m u hu=>by
    have hm:m=0:=by have:=(List.getElem?_eq_some_iff.1 hu).1;simpa using this
    subst hm
    exact hF.get 0 u hu⟩,Ae.of_bx hp 16 rfl rfl⟩
  ·exact⟨bE,⟨hF.lt,fun m u hu=>by
    have hm:m=0:=by have:=(List.getElem?_eq_some_iff.1 hu).1;simpa using this
    subst hm
    exact hF.get 1 u hu⟩,Ae.of_bx hp 17 rfl rfl⟩
 refine wP rfl (wP rfl (Aa (zE (zO ?_))))
 exact Af tH rfl (.tmp rfl) () rfl trivial fun W _=>Ag.nil _ _
theorem Om (W:World) (p:Option Addr) (cap:Nat) (rs:List (List Sd)) (h:EG W p rs):
  Ai Tryz.prog 26 #[AX p rs.length cap] W (fun V:Vec=>V.val rs.flatten.length) (fun V=>V.OK 7 rs.flatten.length (cellsOf rs.flatten)) (fun V=>[V.bx 42 (cellsOf rs.flatten)]):=by
 refine Ad (args:=[AX p rs.length cap]) Tryz.func26 rfl rfl rfl ?_
 refine zA (zB ?_)
 (refine A0 rfl rfl rfl rfl ?_;intro)
 refine wP rfl (Aa (zE (zA (zB (wB 0 rfl rfl rfl ?_)))))
 refine Ay (X:=Vec) rfl rfl rfl rfl rfl rfl (by kernel_rfl) (fun W1 hp=>TO W1 p cap rs (by have:=h.n;omega) (h.R.hp hp) h.c) ?_
 intro V hV
 iterate 5 refine wP rfl ?_
 refine Aa (zE (zA (zB (wP rfl (wP rfl (Aa (zE (zO ?_))))))))
 exact Af tH rfl (.tmp rfl) V rfl hV fun W1 hp=>Ag.of_hp (hp.pick (l:=[V.bx 42 (cellsOf rs.flatten)]) [1] (by decide) rfl)
def Ij (rs:List (List Sd)):Bool:= !grt rs 12&&(decide (chk rs=0)&&decide (tot rs≤12))
theorem Qe (W:World) (p:Option Addr) (cap:Nat) (rs:List (List Sd)) (hn:rs.length<1099511627776) (hT:tot rs<1099511627776) (hR:AY W p rs) (hd:I2 W) (hv:BN W) (ht:Bd W):
  Ai Tryz.prog 20 #[AX p rs.length cap] W (fun _:Unit=> .bool (Ij rs)) (fun _=>True) (fun _=>[]):=by
 refine Ad (args:=[AX p rs.length cap]) Tryz.func20 rfl rfl rfl ?_
 refine zA (zB ?_)
 (refine A0 rfl rfl rfl rfl ?_;intro)
 refine wP rfl (Aa (zE (zA (zB (wB 0 rfl rfl rfl ?_)))))
 refine Ab rfl rfl rfl rfl rfl rfl (by kernel_rfl) (fun W1 hp=>QQ W1 p cap rs 12 (by omega) (by omega) (hR.hp hp)) ?_
 by_cases hg:grt rs 12=true
 ·have e:Ij rs=false:=by unfold Ij;rw[hg];rfl
  refine Ac 4 (.bool true) rfl (congrArg Value.bool hg) ?_
  refine wP rfl (wP rfl ?_)
  iterate 3 refine Ao rfl rfl ?_
  refine wP rfl (wP rfl ?_)
  iterate 4 refine Ao rfl rfl ?_
  refine wP rfl (wP rfl (Aa (zE (zO ?_))))
  exact Af tH rfl (.tmp rfl) () (by rw[e]) trivial fun W _=>Ag.nil _ _
 have hg:grt rs 12=false:=by simpa using hg
 refine Ac 4 (.bool false) rfl (congrArg Value.bool hg) ?_
 refine wP rfl (wP rfl (wB 0 rfl rfl rfl ?_))
 refine Ab rfl rfl rfl rfl rfl rfl (by kernel_rfl) (fun W1 hp=>(IZ W1 p cap rs (by omega) (by omega) (hR.hp hp)).cast (by rw[T0])) ?_
 refine wP rfl ?_
 by_cases hc:chk rs=0
 rotate_left
 ·have e:Ij rs=false:=by unfold Ij;rw[decide_eq_false hc,Bool.false_and,Bool.and_false]
  refine Ac 9 (.bool false) rfl (congrArg Value.bool (beq_eq_false_iff_ne.2 hc)) ?_
  refine wP rfl (wP rfl ?_)
  iterate 4 refine Ao rfl rfl ?_
  refine wP rfl (wP rfl (Aa (zE (zO ?_))))
  exact Af tH rfl (.tmp rfl) () (by rw[e]) trivial fun W _=>Ag.nil _ _
 refine Ac 9 (.bool true) rfl (congrArg Value.bool (beq_iff_eq.2 hc)) ?_
 have e:Ij rs=decide (tot rs≤12):=by unfold Ij;rw[hg,decide_eq_true hc];rfl
 have eS:rs.flatten.length=tot rs:=List.length_flatten
 refine wP rfl (wP rfl (wB 0 rfl rfl rfl ?_))
 refine Ay (X:=Vec) rfl rfl rfl rfl rfl rfl (by kernel_rfl) (fun W1 hp=>Om W1 p cap rs ⟨hn,hR.hp hp,hc,hd.hp hp,hv.hp hp,ht.hp hp⟩) ?_
 intro V hV
 have hT0:=(Cf hc).2.2
 obtain⟨gS,cS,hSv,_⟩:=Vec.sds hV (by omega)
 rw[hSv,eS]
 refine wP rfl (wP rfl ?_)
 refine Ac 15 (.bool (decide (tot rs≤12))) rfl (congrArg Value.bool (decide_eq_decide.2 (by omega))) ?_
 refine wP rfl (wP rfl (Aa (zE (zO ?_))))
 exact Af tH rfl (.tmp rfl) () (by rw[e]) trivial fun W _=>Ag.nil _ _
theorem YV {W:World} {p:Option Addr} {rs:List (List Sd)} (hf:Ij rs=true) (hn:rs.length<1099511627776) (hR:AY W p rs) (hd:I2 W) (hv:BN W) (ht:Bd W):EG W p rs∧tot rs≤12:=by
 unfold Ij at hf
 simp only[Bool.and_eq_true,decide_eq_true_eq] at hf
 exact⟨⟨hn,hR,hf.2.1,hd,hv,ht⟩,hf.2.2⟩
end
section
theorem HY {F:List FrP} {z:Rat}:z∈Eo F↔ ∃f∈F, ∃g∈F,f.ax=g.ax∧Da f g z=true:=by
 unfold Eo
 rw[List.mem_flatMap]
 constructor
 ·rintro⟨q,hq,hz⟩
  obtain⟨h1,h2,h3⟩:=HK.1 hq
  exact⟨_,Gz (by omega),_,Gz h2,h3,Ps.1 hz⟩
 ·rintro⟨f,hf,g,hg,hax,hz⟩
  obtain⟨i,hi,rfl⟩:=List.getElem_of_mem hf
  obtain⟨k,hk,rfl⟩:=List.getElem_of_mem hg
  have ei:fr F i=F[i]:=by have:=FO hi;rw[List.getElem?_eq_getElem hi] at this;exact(Option.some.inj this).symm
  have ek:fr F k=F[k]:=by have:=FO hk;rw[List.getElem?_eq_getElem hk] at this;exact(Option.some.inj this).symm
  rcases Nat.lt_trichotomy i k with c|c|c
  ·exact⟨(i,k),HK.2 ⟨c,hk,by rw[ei,ek];exact hax⟩,Ps.2 (by rw[ei,ek];exact hz)⟩
  ·subst c
   exact absurd hz (W7 ⟨rfl,rfl, .inr ⟨rfl,rfl⟩⟩ z)
  ·exact⟨(k,i),HK.2 ⟨c,hi,by rw[ei,ek];exact hax.symm⟩,Ps.2 (by rw[ei,ek];exact TN.1 hz)⟩
theorem Wg {rs rs':List (List Sd)} (h: ∀z,z∈BV rs↔z∈BV rs'):st0 rs=st0 rs':=JD (Fg _) (Fg _) fun z=>by rw[G9,G9];exact h z
theorem JA {rs rs':List (List Sd)} (h1: ∀z,z∈BV rs↔z∈BV rs') (h2: ∀z,z∈Eo (Aw rs)↔z∈Eo (Aw rs')):B8 rs=B8 rs':=
 JD (H6 _) (H6 _) fun z=>by
  have hb:base rs=base rs':=by unfold base;rw[Wg h1]
  rw[Gm,Gm,h1,h2,hb]
theorem U4 {F G:List FrP} (h: ∀f,f∈F↔f∈G) (z:Rat):z∈Eo F↔z∈Eo G:=by
 rw[HY,HY]
 constructor
 ·rintro⟨f,hf,g,hg,h1⟩;exact⟨f,(h f).1 hf,g,(h g).1 hg,h1⟩
 ·rintro⟨f,hf,g,hg,h1⟩;exact⟨f,(h f).2 hf,g,(h g).2 hg,h1⟩
theorem N8 {φ:FrP→FrP} {F:List FrP} {z:Rat} (h1: ∀f g:FrP,(φ f).ax=(φ g).ax↔f.ax=g.ax) (h2: ∀f g:FrP,f.ax=g.ax→(Da (φ f) (φ g) z=true↔Da f g z=true)):z∈Eo (F.map φ)↔z∈Eo F:=by
 rw[HY,HY]
 constructor
 ·rintro⟨f',hf,g',hg,hax,hz⟩
  obtain⟨f,hf1,rfl⟩:=List.mem_map.1 hf
  obtain⟨g,hg1,rfl⟩:=List.mem_map.1 hg
  have hax:=(h1 f g).1 hax
  exact⟨f,hf1,g,hg1,hax,(h2 f g hax).1 hz⟩
 ·rintro⟨f,hf,g,hg,hax,hz⟩
  exact⟨_,List.mem_map.2 ⟨f,hf,rfl⟩,_,List.mem_map.2 ⟨g,hg,rfl⟩,(h1 f g).2 hax,(h2 f g hax).2 hz⟩
def FrP.shift (dx dy:Int) (f:FrP):FrP:= { f with pos:=f.pos+(if f.ax then dx else dy) }
theorem WP (dx dy:Int) {f g:FrP} (h:f.ax=g.ax) (z:Rat):Da (f.shift dx dy) (g.shift dx dy) z=Da f g z:=by
 have hB: ∀f:FrP,(f.shift dx dy).velB z=f.velB z:=fun f=>rfl
 have hA: ∀f:FrP,(f.shift dx dy).velA z=f.velA z:=fun f=>rfl
 have hat: ∀f:FrP,(f.shift dx dy).at z=f.at z+(if f.ax then(dx:Rat) else(dy:Rat)):=fun f=>by
  unfold FrP.at FrP.shift FrP.vel
  dsimp only
  cases f.ax<;>simp only[Bool.false_eq_true,if_true,if_false,Rat.intCast_add]<;>split<;>grind
 unfold Da
 rw[hB,hB,hA,hA,hat,hat,h]
 congr 1
 refine decide_eq_decide.2 ⟨fun e=>by grind,fun e=>by rw[e]⟩
def FrP.turn (M:Int) (flip:Bool) (f:FrP):FrP:= { f with ax:= !f.ax,pos:=if flip then M-f.pos else f.pos,hd:=if flip then -f.hd else f.hd }
theorem XO (M:Int) (flip:Bool) (f g:FrP) (z:Rat):Da (f.turn M flip) (g.turn M flip) z=Da f g z:=by
 cases flip with
 |false=>
  have h1: ∀f:FrP,(f.turn M false).at z=f.at z:=fun f=>rfl
  have h2: ∀f:FrP,(f.turn M false).velA z=f.velA z:=fun f=>rfl
  have h3: ∀f:FrP,(f.turn M false).velB z=f.velB z:=fun f=>rfl
  unfold Da
  rw[h1,h1,h2,h2,h3,h3]
 |true=>
  have hv: ∀f:FrP,(f.turn M true).vel= -f.vel:=fun f=>by
   show((-f.hd:Int):Rat)*f.sp= -((f.hd:Rat)*f.sp)
   rw[Rat.intCast_neg];grind
  have h1: ∀f:FrP,(f.turn M true).at z=(M:Rat)-f.at z:=fun f=>by
   unfold FrP.at
   rw[hv]
   show(if z≤f.st then((M-f.pos:Int):Rat) else((M-f.pos:Int):Rat)+ -f.vel*(z-f.st))=_
   rw[Rat.intCast_sub]
   split<;>grind
  have h2: ∀f:FrP,(f.turn M true).velA z= -f.velA z:=fun f=>by
   unfold FrP.velA
   rw[hv]
   show(if z<f.st then(0:Rat) else -f.vel)=_
   split<;>grind
  have h3: ∀f:FrP,(f.turn M true).velB z= -f.velB z:=fun f=>by
   unfold FrP.velB
   rw[hv]
   show(if f.st<z then -f.vel else(0:Rat))=_
   split<;>grind
  unfold Da
  rw[h1,h1,h2,h2,h3,h3]
  have e1:((M:Rat)-f.at z=(M:Rat)-g.at z)↔f.at z=g.at z:=⟨fun e=>by grind,fun e=>by rw[e]⟩
  have e2: ∀a b:Rat,(-a≠ -b)↔a≠b:=fun a b=>⟨fun h e=>h (by rw[e]),fun h e=>h (by grind)⟩
  rw[decide_eq_decide.2 e1,decide_eq_decide.2 (e2 _ _),decide_eq_decide.2 (e2 _ _)]
theorem PY (dx dy:Int) {F:List FrP} {z:Rat}:z∈Eo (F.map (·.shift dx dy))↔z∈Eo F:=
 N8 (fun _ _=>Iff.rfl) fun f g h=>by rw[WP dx dy h]
theorem RZ (M:Int) (flip:Bool→Bool) {F:List FrP} {z:Rat}:z∈Eo (F.map fun f=>f.turn M (flip f.ax))↔z∈Eo F:=
 N8 (fun f g=>by show((!f.ax)=(!g.ax))↔_;cases f.ax<;>cases g.ax<;>simp) fun f g h=>by rw[h,XO]
end
section
open Go Go.RowKit Go.Am
set_option maxRecDepth 10000
-- BOXES 8
def D6 (q:Int×Int) (s:Sd):Int×Int:=(if s.x<q.1 then s.x else q.1,if s.y<q.2 then s.y else q.2)
def CU (l:List Sd):Int×Int:=l.foldl D6 ((sd l 0).x,(sd l 0).y)
theorem UZ (l:List Sd) {k:Nat} (hk:k<l.length) (q:Int×Int):(l.take (k+1)).foldl D6 q=D6 ((l.take k).foldl D6 q) (sd l k):=by
 rw[List.take_add_one,Cz hk,List.foldl_append];rfl
theorem Ku (W:World) (p:Option Addr) (cap:Nat) (rs:List (List Sd)) (hn:rs.length<4611686018427387904) (hT:tot rs<1099511627776) (h0:tot rs≠0) (hR:AY W p rs) (hne: ∀l∈rs,l≠[]):
  Ai Tryz.prog 106 #[AX p rs.length cap] W (fun _:Unit=>spot (CU rs.flatten).1 (CU rs.flatten).2) (fun _=>True) (fun _=>[]):=by
 refine Ad (args:=[AX p rs.length cap]) Tryz.func106 rfl rfl rfl ?_
 refine zA (zB ?_)
 (refine A0 rfl rfl rfl rfl ?_;intro)
 (refine An Tryz.hZ rfl rfl rfl rfl ?_;intro)
 refine Aa ?_
 rename_i b1 b2
 refine zE (zA (zB (wP rfl (wB 0 rfl rfl rfl ?_))))
 refine Ay (X:=Vec) rfl rfl rfl rfl rfl rfl (by kernel_rfl) (fun W hp=>ES W p cap rs hn hT (hR.hp hp) hne) ?_
 intro V hV
 have hlen:=Cv rs
 generalize rs.flatten=l at hlen hV⊢
 obtain⟨pv,cv,jv⟩:=V
 have hl0:0<l.length:=by omega
 cases pv with
 |none=>exact absurd (hV.nil rfl) (by omega)
 |some gv=>
 refine wP rfl (Aa (zE (zA (zB (wP rfl ?_)))))
 refine wJ ?_
 refine Av rfl rfl rfl rfl (fun W hp=>Ae.load 0 tH rfl ((fun W hp=>Vec.rowAt (f:=Sd.cells) (n:=7) (fun _=>rfl) hp 2 rfl (Cz hl0)) W hp) rfl) ?_
 refine Ab rfl rfl rfl rfl rfl rfl (by kernel_rfl) (fun W _=>(Bl ..)) ?_
 (refine An Tryz.hZ rfl rfl rfl rfl ?_;intro)
 refine wS 3 rfl rfl rfl (Aa ?_)
 rename_i b4
 refine zE (zA (zA (zB (wP rfl (wP rfl (wP rfl (Aa (zE (zH ?_)))))))))
 refine Az (X:=Nat) (fun k=>[(1, .pointer (some ⟨b1,0,none⟩)),(2, .pointer (some ⟨b2,0,none⟩)),(4, .pointer (some ⟨b4,0,none⟩)),(14,slv (some ⟨gv,0,none⟩) l.length cv),(15, .int .i64 (l.length:Nat)),(16, .int .i64 (k:Nat))])
  (fun k=>[⟨b1,24,[slv p rs.length cap],true,none⟩,⟨b2,147,[.int .i64 0, .int .i64 0],true,none⟩,(⟨some gv,cv,jv⟩:Vec).bx 42 (cellsOf l),⟨b4,147,[.int .i64 ((l.take k).foldl D6 ((sd l 0).x,(sd l 0).y)).1, .int .i64 ((l.take k).foldl D6 ((sd l 0).x,(sd l 0).y)).2],true,none⟩])
  (fun k=>k≤l.length) (fun k=>l.length-k) 0 (Nat.zero_le _) ⟨rfl,rfl,rfl,rfl,rfl,rfl,trivial⟩ [] rfl ?_
 intro k hk
 refine zA (zB (wP rfl (Aa (zE (zA ?_)))))
 refine Al rfl (fun h=> ?_) (fun h=> ?_)
 ·have hk:k<l.length:=by simp at h;omega
  clear h
  have hs:=UZ l hk ((sd l 0).x,(sd l 0).y)
  generalize (l.take k).foldl D6 ((sd l 0).x,(sd l 0).y)=q at hs⊢
  refine zI (zE (zA (zH (zA (zB ?_)))))
  refine wJ ?_
  refine Av rfl rfl rfl rfl (fun W hp=>Ae.load 0 tH rfl ((fun W hp=>Vec.rowAt (f:=Sd.cells) (n:=7) (fun _=>rfl) hp 2 rfl (Cz hk)) W hp) rfl) ?_
  (refine An Tryz.hZ rfl rfl rfl rfl ?_;intro)
  refine wS 4 rfl rfl rfl (Aa (zE (zB (wP rfl (wB 3 rfl rfl rfl (wP rfl (wB 4 rfl rfl rfl (wP rfl (wP rfl (wB 3 rfl rfl rfl (wP rfl (wB 4 rfl rfl rfl (wP rfl ?_)))))))))))))
  refine AA Tryz.hZ tH rfl rfl rfl rfl rfl rfl rfl rfl ?_
  refine wS 3 rfl rfl rfl (Aa (zN (zE (zB (wP rfl (wP rfl (Aa ?_)))))))
  exact At (k+1) hk (by omega) ⟨rfl,rfl,rfl,rfl,rfl,congrArg (fun z=>some (Value.int .i64 z)) (A6 (x:=(k:Int)+1) (by omega) (by omega)),trivial⟩ [_]
   (by show _=[_,_,_,(⟨b4,147,[.int .i64 ((l.take (k+1)).foldl D6 ((sd l 0).x,(sd l 0).y)).1, .int .i64 ((l.take (k+1)).foldl D6 ((sd l 0).x,(sd l 0).y)).2],true,none⟩:Bx)]++[_];rw[hs];rfl)
 ·have e:k=l.length:=by simp at h;omega
  subst e
  clear h
  rw[List.take_length]
  refine zJ (zK (zK (zL (zE (zA (zB (wB 3 rfl rfl rfl (wS 1 rfl rfl rfl (Aa (zE (zO ?_)))))))))))
  exact Af tH rfl (.cell 1 rfl rfl rfl rfl rfl) () rfl trivial fun W _=>Ag.nil _ _
def Ql (x y:Int):Int×Int:=(w64 (0-y),x)
theorem RO (x y:Int) (W:World):Ai Tryz.prog 107 #[spot x y] W (fun _:Unit=>spot (Ql x y).1 (Ql x y).2) (fun _=>True) (fun _=>[]):=by
 refine Ad (args:=[spot x y]) Tryz.func107 rfl rfl rfl ?_
 refine zA (zB ?_)
 (refine A0 rfl rfl rfl rfl ?_;intro)
 (refine An Tryz.hZ rfl rfl rfl rfl ?_;intro)
 refine Aa (zE (zA (zB (wP rfl (wB 0 rfl rfl rfl (wP rfl (wP rfl (wB 0 rfl rfl rfl ?_))))))))
 refine AA Tryz.hZ tH rfl rfl rfl rfl rfl rfl rfl rfl ?_
 refine wS 1 rfl rfl rfl (Aa (zE (zO ?_)))
 exact Af tH rfl (.cell 1 rfl rfl rfl rfl rfl) () rfl trivial fun W _=>Ag.nil _ _
def UX (u v a b:Int) (x y:Int):Int×Int:=(w64 (w64 (x-u)+a),w64 (w64 (y-v)+b))
theorem RB (u v a b x y:Int) (W:World) (b1 b2:Nat) (h1:Ae W b1 0 [.int .i64 u, .int .i64 v]) (h2:Ae W b2 0 [.int .i64 a, .int .i64 b]):
  Ai Tryz.prog 108 #[spot x y, .pointer (some ⟨b1,0,none⟩), .pointer (some ⟨b2,0,none⟩)] W (fun _:Unit=>spot (UX u v a b x y).1 (UX u v a b x y).2) (fun _=>True) (fun _=>[]):=by
 refine Ad (args:=[spot x y, .pointer (some ⟨b1,0,none⟩), .pointer (some ⟨b2,0,none⟩)]) Tryz.func108 rfl rfl rfl ?_
 refine zA (zB ?_)
 (refine A0 rfl rfl rfl rfl ?_;intro)
 (refine An Tryz.hZ rfl rfl rfl rfl ?_;intro)
 refine Aa (zE (zA (zB (wP rfl (wB 0 rfl rfl rfl (wP rfl ?_))))))
 refine Av rfl rfl rfl rfl (fun W hp=>Ae.load 0 tH rfl ((fun W hp=>h1.hp hp) W hp) rfl) ?_
 refine wP rfl (wP rfl ?_)
 refine Av rfl rfl rfl rfl (fun W hp=>Ae.load 0 tH rfl ((fun W hp=>h2.hp hp) W hp) rfl) ?_
 refine wP rfl (wP rfl (wB 0 rfl rfl rfl (wP rfl ?_)))
 refine Av rfl rfl rfl rfl (fun W hp=>Ae.load 1 tH rfl ((fun W hp=>h1.hp hp) W hp) rfl) ?_
 refine wP rfl (wP rfl ?_)
 refine Av rfl rfl rfl rfl (fun W hp=>Ae.load 1 tH rfl ((fun W hp=>h2.hp hp) W hp) rfl) ?_
 refine wP rfl ?_
 refine AA Tryz.hZ tH rfl rfl rfl rfl rfl rfl rfl rfl ?_
 refine wS 1 rfl rfl rfl (Aa (zE (zO ?_)))
 exact Af tH rfl (.cell 1 rfl rfl rfl rfl rfl) () rfl trivial fun W _=>Ag.nil _ _
-- BOXES 8
def qn (n:Int):Int:=Int.tmod (w64 (Int.tmod n 4+4)) 4
def EN:Nat→List (List Sd)→List (List Sd)
 |0,rs=>rs
 |k+1,rs=>mvR Ql (EN k rs)
def Ft (rs:List (List Sd)) (n:Nat):List (List Sd):=mvR (UX (CU (EN n rs).flatten).1 (CU (EN n rs).flatten).2 (CU rs.flatten).1 (CU rs.flatten).2) (EN n rs)
theorem De (n:Nat) (rs:List (List Sd)):(EN n rs).length=rs.length:=by
 induction n with
 |zero=>rfl
 |succ n ih=>show(mvR Ql (EN n rs)).length=_;rw[Ea,ih]
theorem GX (n:Nat) (rs:List (List Sd)):tot (EN n rs)=tot rs:=by
 induction n with
 |zero=>rfl
 |succ n ih=>show tot (mvR Ql (EN n rs))=_;rw[KO,ih]
theorem IX {rs:List (List Sd)} (h: ∀l∈rs,l≠[]): ∀n, ∀l∈EN n rs,l≠[]
 |0=>h
 |n+1=>Oz (IX h n)
abbrev Way:=Option (Vec×GC)
def aO (v:Value) (n:Nat):Way→Value
 |none=>v
 |some x=>x.1.val n
def UT:Way→Bx
 |none=>C9
 |some x=>x.1.bx 32 (AG x.2)
def Xe:Way→Bx
 |none=>C9
 |some x=>mkB x.2
def V8 (rs:List (List Sd)) (k:Nat):Way→Prop
 |none=>k=0
 |some x=>DE x.2 (EN k rs)∧x.1.OK 1 rs.length (AG x.2)
theorem TM {W0:World} {p:Option Addr} {cap:Nat} {rs:List (List Sd)} (hR:AY W0 p rs) {k:Nat} {y:Way} (h:V8 rs k y):
  ∃q cq,aO (slv p rs.length cap) rs.length y=slv q (EN k rs).length cq∧ ∀ {W:World} {bxs:List Bx},Hp W0 bxs W→ ∀i j,nth bxs i=some (UT y)→nth bxs j=some (Xe y)→AY W q (EN k rs):=by
 cases y with
 |none=>
  obtain rfl:k=0:=h
  exact⟨p,cap,rfl,fun hp _ _ _ _=>hR.hp hp⟩
 |some x=>
  obtain⟨V,mk⟩:=x
  obtain⟨h1,h2⟩:DE mk (EN k rs)∧V.OK 1 rs.length (AG mk):=h
  have h2':V.OK 1 (EN k rs).length (AG mk):=by rw[De];exact h2
  obtain⟨q,cq,e1,e2⟩:=Et h1 h2'
  exact⟨q,cq,by rw[←e1,De];rfl,fun hp i j hi hj=>e2 hp i j hi hj⟩
theorem XH {r:Nat} {D:List Deferred} {Q:Exit→Act→World→Prop} {e:Exit} {env:Env} {W0:World} {bxs bxs':List Bx} (s:List Nat) (hs:s.Nodup) (hp:pick bxs s=some bxs') (h:NE r D Q e env (Hp W0 bxs')):NE r D Q e env (Hp W0 bxs):=
 .mk fun a W ha hd hh=>h.out a W ha hd (hh.pick s hs hp)
def aR (rs:List (List Sd)):Way→Value
 |none=> .tuple #[Mm, .int .i64 2]
 |some x=> .tuple #[.agg #[x.1.val rs.length], .int .i64 0]
def aK (rs:List (List Sd)) (n:Nat):Way→Prop
 |none=>(Ft rs n).flatten.any (fun s=> !rgd s)=true
 |some x=>(Ft rs n).flatten.any (fun s=> !rgd s)=false∧DE x.2 (Ft rs n)∧x.1.OK 1 rs.length (AG x.2)
def aU:Way→List Bx
 |none=>[]
 |some x=>[x.1.bx 32 (AG x.2),mkB x.2]
theorem aB (n:Int):0≤qn n∧qn n<4:=by
 have h1: -4<Int.tmod n 4:=by have:=Int.lt_tmod_of_pos n (show(0:Int)<4 by decide);omega
 have h2:Int.tmod n 4<4:=Int.tmod_lt_of_pos n (by decide)
 unfold qn
 rw[As (by omega) (by omega)]
 exact⟨Int.tmod_nonneg _ (by omega),Int.tmod_lt_of_pos _ (by decide)⟩
theorem OQ (W:World) (p:Option Addr) (cap:Nat) (rs:List (List Sd)) (n:Int) (hn:rs.length<1099511627776) (hR:AY W p rs) (hc:chk rs=0):
  Ai Tryz.prog 44 #[AX p rs.length cap, .int .i64 n] W (aR rs) (aK rs (qn n).toNat) aU:=by
 obtain⟨hne,hT24,h0⟩:=Cf hc
 have hT:tot rs<1099511627776:=by omega
 refine Ad (args:=[AX p rs.length cap, .int .i64 n]) Tryz.func44 rfl rfl rfl ?_
 refine zA (zB ?_)
 (refine A0 rfl rfl rfl rfl ?_;intro)
 (refine An Tryz.hZ rfl rfl rfl rfl ?_;intro)
 refine wP rfl (Aa ?_)
 rename_i b2 b4
 refine zE (zA (zA (zB (wB 0 rfl rfl rfl ?_))))
 refine Ab rfl rfl rfl rfl rfl rfl (by kernel_rfl) (fun W hp=>(Dk W p cap rs (by omega) hT (hR.hp hp)).cast (by rw[hc])) ?_
 refine wP rfl (Aa (zE (zS rfl (zI (zE (AL ?_))))))
 refine Jh (X:=Nat×Nat) (fun x=>[(1, .int .i64 n),(4, .pointer (some ⟨b4,0,none⟩)),(5, .int .i64 0),(6, .pointer (some ⟨x.1,0,none⟩)),(7, .pointer (some ⟨x.2,0,none⟩))])
  (fun x=>[⟨b2,24,[slv p rs.length cap],true,none⟩,⟨b4,24,[slv none 0 0],true,none⟩,⟨x.1,147,[.int .i64 (CU rs.flatten).1, .int .i64 (CU rs.flatten).2],true,none⟩,⟨x.2,24,[slv p rs.length cap],true,none⟩]) 4 Tryz.mixed (by kernel_rfl) ?_ ?_
 ·refine qB 0 rfl rfl rfl ?_
  refine A8 rfl rfl rfl rfl rfl rfl (by kernel_rfl) (fun W hp=>Ku W p cap rs (by omega) hT h0 (hR.hp hp) hne) ?_
  refine qB 0 rfl rfl rfl (CX ?_)
  refine wX ?_
  refine RS.cons ?_ (RS.cons ?_ (RS.nil))
  ·refine An Tryz.hZ rfl rfl rfl rfl ?_;intro b6
   refine Aa (Ah ?_)
   refine wX ?_
   refine RS.cons ?_ (RS.nil)
   refine An Tryz.hZ rfl rfl rfl rfl ?_;intro b7
   refine Aa (Ah ?_)
   refine wX ?_
   refine RS.cons ?_ (RS.nil)
   refine wS 2 rfl rfl rfl (Aa (Ah ?_))
   refine wX ?_
   refine RS.cons ?_ (RS.nil)
   refine wS 3 rfl rfl rfl (Aa (Ah ?_))
   (first|refine BT rfl (by((repeat (first|refine BM.same ?_|refine BM.off rfl ?_));exact trivial)) ?_|refine A3 rfl (by kernel_rfl) ?_);(first|exact Ax (b6,b7) ⟨rfl,rfl,rfl,rfl,rfl,trivial⟩ [0,1,2,3] (by decide) rfl|exact Ax (b6,b7) ⟨rfl,rfl,rfl,rfl,rfl,trivial⟩ [0,1,3,2] (by decide) rfl)
  ·refine An Tryz.hZ rfl rfl rfl rfl ?_;intro b7
   refine Aa (Ah ?_)
   refine wX ?_
   refine RS.cons ?_ (RS.nil)
   refine An Tryz.hZ rfl rfl rfl rfl ?_;intro b6
   refine Aa (Ah ?_)
   refine wX ?_
   refine RS.cons ?_ (RS.nil)
   refine wS 3 rfl rfl rfl (Aa (Ah ?_))
   refine wX ?_
   refine RS.cons ?_ (RS.nil)
   refine wS 2 rfl rfl rfl (Aa (Ah ?_))
   (first|refine BT rfl (by((repeat (first|refine BM.same ?_|refine BM.off rfl ?_));exact trivial)) ?_|refine A3 rfl (by kernel_rfl) ?_);(first|exact Ax (b6,b7) ⟨rfl,rfl,rfl,rfl,rfl,trivial⟩ [0,1,2,3] (by decide) rfl|exact Ax (b6,b7) ⟨rfl,rfl,rfl,rfl,rfl,trivial⟩ [0,1,3,2] (by decide) rfl)
 rintro⟨b6,b7⟩
 refine zE (zA (zA (zB (wP rfl ?_))))
 refine Hn rfl rfl rfl rfl rfl (by decide) ?_
 refine wP rfl ?_
 refine Hn rfl rfl rfl rfl rfl (by decide) ?_
 refine wP rfl (Aa ?_)
 obtain⟨hq0,hq4⟩:=aB n
 have hqn:qn n=((qn n).toNat:Int):=by omega
 refine AP ?_
 refine AW 19 (.int .i64 ((qn n).toNat:Int)) rfl (congrArg (Value.int .i64) hqn) ?_
 generalize (qn n).toNat=m at hqn⊢
 refine zH ?_
 iterate 2 refine Cl ?_
 refine Az (X:=Nat×Way) (fun x=>[(4, .pointer (some ⟨b4,0,none⟩)),(5, .int .i64 0),(6, .pointer (some ⟨b6,0,none⟩)),(7, .pointer (some ⟨b7,0,none⟩)),(19, .int .i64 (m:Nat)),(20, .int .i64 (x.1:Nat))])
  (fun x=>[⟨b2,24,[slv p rs.length cap],true,none⟩,⟨b4,24,[slv none 0 0],true,none⟩,⟨b6,147,[.int .i64 (CU rs.flatten).1, .int .i64 (CU rs.flatten).2],true,none⟩,⟨b7,24,[aO (slv p rs.length cap) rs.length x.2],true,none⟩,UT x.2,Xe x.2])
  (fun x=>x.1≤m∧V8 rs x.1 x.2) (fun x=>m-x.1) (0,none) ⟨Nat.zero_le _,rfl⟩ ⟨rfl,rfl,rfl,rfl,rfl,rfl,trivial⟩ [] rfl ?_
 rintro⟨k,y⟩ ⟨hk0,hy0⟩
 have hk:k≤m:=hk0
 have hy:V8 rs k y:=hy0
 clear hk0 hy0
 obtain⟨q,cq,eV,hq⟩:=TM (p:=p) (cap:=cap) hR hy
 refine zA (zB (wP rfl (Aa (zE (zA ?_)))))
 refine Al rfl (fun h=> ?_) (fun h=> ?_)
 ·have hk:k<m:=by simp at h;omega
  clear h
  refine zI (zE (zA (zH (zB (wB 3 rfl rfl rfl ?_)))))
  refine Ac 22 (AX q (EN k rs).length cq) rfl (congrArg (fun v=>Value.agg #[v]) eV) ?_
  refine Ay (X:=Vec×GC) rfl rfl rfl rfl rfl rfl (by kernel_rfl) (fun W hp=>F5 107 (by kernel_rfl) [] Ql W q cq (EN k rs) (by rw[De];exact hn) (by rw[GX];exact hT) (hq hp 4 5 rfl rfl) (IX hne k) (fun W' _ x y=>RO x y W')) ?_
  rintro⟨V,mk⟩ ⟨hmk,hV⟩
  have hV':V.OK 1 rs.length (AG mk):=by rw[De] at hV;exact hV
  obtain⟨q',c',e'⟩:=K0 hV'
  refine Ac 23 (AX q' rs.length c') rfl (congrArg (fun v=>Value.agg #[v]) (by rw[De];exact e')) ?_
  refine wS 3 rfl rfl rfl (Aa (zN (zE (zB (wP rfl (wP rfl (Aa ?_)))))))
  refine XH [0,1,2,3,6,7] (by decide) rfl ?_
  exact At (k+1,some (V,mk)) ⟨hk,hmk,hV'⟩ (by show m-(k+1)<m-k;omega) ⟨rfl,rfl,rfl,rfl,rfl,congrArg (fun z=>some (Value.int .i64 z)) (A6 (x:=(k:Int)+1) (by omega) (by omega)),trivial⟩ [] (by show _=[_,_,_,(⟨b7,24,[V.val rs.length],true,none⟩:Bx),_,_]++[];rw[e'];rfl)
 ·have e:k=m:=by simp at h;omega
  subst e
  clear h
  refine zJ (zK (zK (zL (zE (zA (zB (wB 3 rfl rfl rfl ?_)))))))
  refine Ac 25 (AX q (EN k rs).length cq) rfl (congrArg (fun v=>Value.agg #[v]) eV) ?_
  refine Ab rfl rfl rfl rfl rfl rfl (by kernel_rfl) (fun W hp=>Ku W q cq (EN k rs) (by rw[De];omega) (by rw[GX];exact hT) (by rw[GX];exact h0) (hq hp 4 5 rfl rfl) (IX hne k)) ?_
  (refine An Tryz.hZ rfl rfl rfl rfl ?_;intro)
  refine wS 6 rfl rfl rfl (Aa ?_)
  rename_i b8
  refine zE (zA (zB (wB 3 rfl rfl rfl (wP rfl ?_))))
  refine Ac 27 (AX q (EN k rs).length cq) rfl (congrArg (fun v=>Value.agg #[v]) eV) ?_
  refine Ay (X:=Vec×GC) rfl rfl rfl rfl rfl rfl (by kernel_rfl) (fun W hp=>F5 108 (by kernel_rfl) [.pointer (some ⟨b8,0,none⟩), .pointer (some ⟨b6,0,none⟩)] (UX (CU (EN k rs).flatten).1 (CU (EN k rs).flatten).2 (CU rs.flatten).1 (CU rs.flatten).2) W q cq (EN k rs) (by rw[De];exact hn) (by rw[GX];exact hT) (hq hp 4 5 rfl rfl) (IX hne k) (fun W' hb x y=>RB _ _ _ _ x y W' b8 b6 ((Ae.of_bx hp 6 rfl rfl).below (Nat.le_refl _) hb) ((Ae.of_bx hp 2 rfl rfl).below (Nat.le_refl _) hb))) ?_
  rintro⟨V,mk⟩ ⟨hmk,hV⟩
  have hmk:DE mk (Ft rs k):=hmk
  have hl:(Ft rs k).length=rs.length:=by unfold Ft;rw[Ea,De]
  have hV':V.OK 1 (Ft rs k).length (AG mk):=by rw[hl];rw[De] at hV;exact hV
  obtain⟨q2,cq2,eV2,hrings⟩:=Et hmk hV'
  refine Ac 29 (AX q2 (Ft rs k).length cq2) rfl (congrArg (fun v=>Value.agg #[v]) (by rw[←eV2,hl,De])) ?_
  refine Ab rfl rfl rfl rfl rfl rfl (by kernel_rfl) (fun W hp=>FH W q2 cq2 (Ft rs k) (by rw[hl];omega) (by unfold Ft;rw[KO,GX];exact hT) (hrings hp 7 8 rfl rfl) (by unfold Ft;exact Oz (IX hne k))) ?_
  cases hr:(Ft rs k).flatten.any (fun s=> !rgd s) with
  |true=>
   refine Ac 30 (.tuple #[Mm, .int .i64 2]) rfl (by rw[if_pos rfl]) ?_
   refine wP rfl (wP rfl (wS 1 rfl rfl rfl (wP rfl (Aa (zE (zO ?_))))))
   exact Au tH rfl (.cell 1 rfl rfl rfl rfl rfl) (.tmp rfl) none rfl hr fun W _=>Ag.nil _ _
  |false=>
   refine Ac 30 (.tuple #[AX q2 (Ft rs k).length cq2, .int .i64 0]) rfl (by rw[if_neg (by decide)]) ?_
   refine wP rfl (wP rfl (wS 1 rfl rfl rfl (wP rfl (Aa (zE (zO ?_))))))
   exact Au tH rfl (.cell 1 rfl rfl rfl rfl rfl) (.tmp rfl) (some (V,mk)) (by show Value.tuple #[.agg #[slv q2 _ cq2],_]= .tuple #[.agg #[V.val rs.length],_];rw[←eV2,hl]) ⟨hr,hmk,hl▸hV'⟩ fun W hp=>(hp.pick [7,8] (by decide) rfl).own
end
section
open Go Go.RowKit Go.Am
def qN:Nat→List (List Sd)→List (List Sd)
 |0,rs=>rs
 |n+1,rs=>qtR (qN n rs)
theorem WI (f:Sd→Sd) (rs:List (List Sd)):(rs.map (·.map f)).flatten=rs.flatten.map f:=by rw[List.map_flatten]
theorem Kn (a b:Int): ∀(l:List Sd) (q:Int×Int),(l.map (tr a b)).foldl D6 (q.1+a,q.2+b)=((l.foldl D6 q).1+a,(l.foldl D6 q).2+b)
 |[],_=>rfl
 |s::l,q=>by
  show(l.map (tr a b)).foldl D6 (D6 (q.1+a,q.2+b) (tr a b s))=_
  have e:D6 (q.1+a,q.2+b) (tr a b s)=((D6 q s).1+a,(D6 q s).2+b):=by
   unfold D6 tr
   simp only
   congr 1<;>split<;>split<;>omega
  rw[e,Kn a b l];rfl
theorem YC (a b:Int) {l:List Sd} (h:0<l.length):CU (l.map (tr a b))=((CU l).1+a,(CU l).2+b):=by
 unfold CU
 rw[Bp h]
 exact Kn a b l ((sd l 0).x,(sd l 0).y)
theorem K8: ∀(l:List Sd) (q:Int×Int),(l.foldl D6 q).1≤q.1∧(l.foldl D6 q).2≤q.2∧(∀s∈l,(l.foldl D6 q).1≤s.x∧(l.foldl D6 q).2≤s.y)∧
  ((l.foldl D6 q).1=q.1∨ ∃s∈l,(l.foldl D6 q).1=s.x)∧((l.foldl D6 q).2=q.2∨ ∃s∈l,(l.foldl D6 q).2=s.y)
 |[],q=>⟨Int.le_refl _,Int.le_refl _,(fun s hs=>by cases hs), .inl rfl, .inl rfl⟩
 |s::l,q=>by
  obtain⟨h1,h2,h3,h4,h5⟩:=K8 l (D6 q s)
  have e:(s::l).foldl D6 q=l.foldl D6 (D6 q s):=rfl
  have f1:(D6 q s).1=if s.x<q.1 then s.x else q.1:=rfl
  have f2:(D6 q s).2=if s.y<q.2 then s.y else q.2:=rfl
  rw[e]
  refine⟨by rw[f1] at h1;split at h1<;>omega,by rw[f2] at h2;split at h2<;>omega,fun t ht=> ?_, ?_, ?_⟩
  ·rcases List.mem_cons.1 ht with rfl|ht
   ·exact⟨by rw[f1] at h1;split at h1<;>omega,by rw[f2] at h2;split at h2<;>omega⟩
   ·exact h3 t ht
  ·rcases h4 with h4|⟨t,ht,h4⟩
   ·rw[f1] at h4
    split at h4
    ·exact .inr ⟨s, .head _,h4⟩
    ·exact .inl h4
   ·exact .inr ⟨t, .tail _ ht,h4⟩
  ·rcases h5 with h5|⟨t,ht,h5⟩
   ·rw[f2] at h5
    split at h5
    ·exact .inr ⟨s, .head _,h5⟩
    ·exact .inl h5
   ·exact .inr ⟨t, .tail _ ht,h5⟩
theorem Uz {l:List Sd} (h:0<l.length):(∀s∈l,(CU l).1≤s.x∧(CU l).2≤s.y)∧(∃s∈l,(CU l).1=s.x)∧ ∃s∈l,(CU l).2=s.y:=by
 obtain⟨_,_,h3,h4,h5⟩:=K8 l ((sd l 0).x,(sd l 0).y)
 have hm:sd l 0∈l:=List.mem_of_getElem? (Cz h)
 refine⟨h3, ?_, ?_⟩
 ·rcases h4 with h4|h4
  ·exact⟨_,hm,h4⟩
  ·exact h4
 ·rcases h5 with h5|h5
  ·exact⟨_,hm,h5⟩
  ·exact h5
theorem ZR (a b c d:Int) (rs:List (List Sd)):trR a b (trR c d rs)=trR (c+a) (d+b) rs:=by
 unfold trR
 rw[List.map_map]
 apply List.map_congr_left
 intro l _
 show(l.map (tr c d)).map (tr a b)=_
 rw[List.map_map]
 apply List.map_congr_left
 intro s _
 show tr a b (tr c d s)=_
 unfold tr
 simp only
 rw[Int.add_assoc,Int.add_assoc]
theorem Yl {f:Sd→Sd} (h: ∀s,f s=s) (rs:List (List Sd)):rs.map (·.map f)=rs:=by
 have:(fun l:List Sd=>l.map f)=id:=funext fun l=>by
  show l.map f=l
  rw[show f=id from funext h,List.map_id]
 rw[this,List.map_id]
theorem Ul (rs:List (List Sd)):trR 0 0 rs=rs:=Yl (fun s=>by unfold tr;cases s;simp) rs
def YU (n:Nat) (rs:List (List Sd)):List (List Sd):=trR ((CU rs.flatten).1-(CU (qN n rs).flatten).1) ((CU rs.flatten).2-(CU (qN n rs).flatten).2) (qN n rs)
theorem Vy (rs:List (List Sd)): ∀n,tot (qN n rs)=tot rs
 |0=>rfl
 |n+1=>by show tot (qtR (qN n rs))=_;rw[show tot (qtR (qN n rs))=tot (qN n rs) from HI _ _,Vy rs n]
theorem Yn (a b:Int) {rs:List (List Sd)} (h:tot rs≠0):CU (trR a b rs).flatten=((CU rs.flatten).1+a,(CU rs.flatten).2+b):=by
 unfold trR
 rw[WI]
 exact YC a b (by rw[Cv];omega)
theorem OR {rs:List (List Sd)} (h:GT rs): ∀n,GT (qN n rs)
 |0=>h
 |n+1=>fun l hl s hs=>by
  obtain⟨m,hm,rfl⟩:=List.mem_map.1 hl
  obtain⟨t,ht,rfl⟩:=List.mem_map.1 hs
  exact Rg (OR h n m hm t ht)
theorem WD {f:Int→Int→Int×Int} {g:Sd→Sd} {rs:List (List Sd)} (h: ∀l∈rs, ∀s∈l,mvS f s=g s):mvR f rs=rs.map (·.map g):=by
 unfold mvR
 apply List.map_congr_left
 intro l hl
 apply List.map_congr_left
 intro s hs
 exact h l hl s hs
theorem SZ {rs:List (List Sd)} (h:GT rs): ∀n, ∃a b, -65536≤a∧a≤0∧ -65536≤b∧b≤0∧EN n rs=trR a b (qN n rs)
 |0=>⟨0,0,by decide,by decide,by decide,by decide,(Ul rs).symm⟩
 |n+1=>by
  obtain⟨a,b,h1,h2,h3,h4,e⟩:=SZ h n
  refine⟨-65536-b,a,by omega,by omega,by omega,by omega, ?_⟩
  show mvR Ql (EN n rs)=trR (-65536-b) a (qtR (qN n rs))
  rw[e]
  have h5:mvR Ql (trR a b (qN n rs))=(trR a b (qN n rs)).map (·.map fun s=> { s with x:=0-s.y,y:=s.x }):=by
   refine WD fun l hl s hs=> ?_
   obtain⟨m,hm,rfl⟩:=List.mem_map.1 hl
   obtain⟨t,ht,rfl⟩:=List.mem_map.1 hs
   obtain⟨t1,t2,t3,t4⟩:=OR h n m hm t ht
   show(⟨w64 (0-(t.y+b)),t.x+a,t.rise,t.run,t.gable,t.plate,t.over⟩:Sd)=⟨0-(t.y+b),t.x+a,t.rise,t.run,t.gable,t.plate,t.over⟩
   rw[As (by omega) (by omega)]
  rw[h5]
  unfold trR qtR
  rw[List.map_map,List.map_map]
  apply List.map_congr_left
  intro l _
  show(l.map (tr a b)).map _=(l.map qt).map _
  rw[List.map_map,List.map_map]
  apply List.map_congr_left
  intro s _
  show(⟨0-(s.y+b),s.x+a,s.rise,s.run,s.gable,s.plate,s.over⟩:Sd)=⟨65536-s.y+(-65536-b),s.x+a,s.rise,s.run,s.gable,s.plate,s.over⟩
  rw[show 0-(s.y+b)=65536-s.y+(-65536-b) by omega]
theorem Tk {rs:List (List Sd)} (h:GT rs) (h0:tot rs≠0):0≤(CU rs.flatten).1∧(CU rs.flatten).1≤65536∧0≤(CU rs.flatten).2∧(CU rs.flatten).2≤65536:=by
 obtain⟨_,⟨s,hs,e1⟩,⟨t,ht,e2⟩⟩:=Uz (l:=rs.flatten) (by rw[Cv];omega)
 obtain⟨l,hl,hs⟩:=List.mem_flatten.1 hs
 obtain⟨m,hm,ht⟩:=List.mem_flatten.1 ht
 obtain⟨s1,s2,_,_⟩:=h l hl s hs
 obtain⟨_,_,t3,t4⟩:=h m hm t ht
 omega
theorem Tb {rs:List (List Sd)} (h:GT rs) (h0:tot rs≠0) (n:Nat):Ft rs n=YU n rs:=by
 obtain⟨a,b,a1,a2,b1,b2,e⟩:=SZ h n
 have hq:=OR h n
 have h0q:tot (qN n rs)≠0:=by rw[Vy];exact h0
 obtain⟨l1,l2,l3,l4⟩:=Tk h h0
 obtain⟨q1,q2,q3,q4⟩:=Tk hq h0q
 unfold Ft YU
 rw[e,Yn a b h0q]
 simp only
 generalize (CU rs.flatten).1=X at*
 generalize (CU rs.flatten).2=Y at*
 generalize (CU (qN n rs).flatten).1=U at*
 generalize (CU (qN n rs).flatten).2=V at*
 rw[show mvR (UX (U+a) (V+b) X Y) (trR a b (qN n rs))=(trR a b (qN n rs)).map (·.map (tr (X-U-a) (Y-V-b))) from WD fun l hl s hs=>by
  obtain⟨m,hm,rfl⟩:=List.mem_map.1 hl
  obtain⟨t,ht,rfl⟩:=List.mem_map.1 hs
  obtain⟨t1,t2,t3,t4⟩:=hq m hm t ht
  show(⟨w64 (w64 (t.x+a-(U+a))+X),w64 (w64 (t.y+b-(V+b))+Y),t.rise,t.run,t.gable,t.plate,t.over⟩:Sd)=⟨t.x+a+(X-U-a),t.y+b+(Y-V-b),t.rise,t.run,t.gable,t.plate,t.over⟩
  rw[As (x:=t.x+a-(U+a)) (by omega) (by omega),As (x:=t.y+b-(V+b)) (by omega) (by omega),As (by omega) (by omega),As (by omega) (by omega)]
  congr 1<;>omega]
 have:=ZR (X-U-a) (Y-V-b) a b (qN n rs)
 rw[show a+(X-U-a)=X-U by omega,show b+(Y-V-b)=Y-V by omega] at this
 exact this
theorem md {n c i:Nat} (hc:c<n) (hi:i≤n):(c+i)%n=if c+i<n then c+i else c+i-n:=by
 split
 ·exact Nat.mod_eq_of_lt (by omega)
 ·rename_i h
  rw[Nat.mod_eq_sub_mod (by omega)]
  by_cases e:c+i-n<n
  ·exact Nat.mod_eq_of_lt e
  ·omega
theorem YQ (n c i:Nat):nxt n ((c+i)%n)=(c+(i+1))%n:=by
 unfold nxt
 rw[Nat.mod_add_mod,Nat.add_assoc]
theorem I3 (g:Nat→Int) (n:Nat): ∀c,AB (fun i=>g ((c+i)%n)) n=AB g n
 |0=>Bb n fun i hi=>by rw[Nat.zero_add,Nat.mod_eq_of_lt hi]
 |c+1=>by
  rw[←I3 g n c, ←Gb (fun i=>g ((c+i)%n)) n]
  refine Bb n fun i _=> ?_
  unfold nxt
  rw[Nat.add_mod_mod,show c+1+i=c+(i+1) by omega]
theorem Wp (X Y:Nat→Int): ∀n,0<n→ ∃c,c<n∧ ∀k,k<n→Y c<Y k∨(Y c=Y k∧X c≤X k)
 |0,h=>absurd h (Nat.lt_irrefl _)
 |n+1,_=>by
  by_cases h0:n=0
  ·subst h0
   exact⟨0,by omega,fun k hk=>by rw[show k=0 by omega];omega⟩
  ·obtain⟨c,hc,h⟩:=Wp X Y n (by omega)
   by_cases hn:Y c<Y n∨(Y c=Y n∧X c≤X n)
   ·refine⟨c,by omega,fun k hk=> ?_⟩
    by_cases e:k=n
    ·subst e;exact hn
    ·exact h k (by omega)
   ·refine⟨n,by omega,fun k hk=> ?_⟩
    by_cases e:k=n
    ·subst e;omega
    ·have:=h k (by omega);omega
section
variable {n:Nat} {X Y:Nat→Int}
end
section
variable {T:Nat} {σ:Nat→Nat} {X Y:Nat→Int}
theorem Net.round (N:Net T σ X Y) {px py:Int} (h: ∀k,k<T→ ¬On σ X Y k px py) {cx cy:Int} (hx:cx=px∨cx=px-1) (hy:cy=py∨cy=py-1):Wn T σ X Y cx cy=Wn T σ X Y px py:=by
 have v: ∀y,(y=py∨y=py-1)→Wn T σ X Y (px-1) y=Wn T σ X Y px y:=fun y hy=>by
  have h2:=VU (T:=T) (σ:=σ) (X:=X) (Y:=Y) px y
  rw[Ca (f:=Vd σ X Y px y) T (fun j hj=> ?_)] at h2
  ·omega
  ·refine Classical.byContradiction fun hn=> ?_
   obtain⟨e,hx⟩:=SK hn
   have e2:X (σ j)=X j:=by rcases N.side j hj with h|h<;>omega
   exact h j hj ⟨by omega,by omega,by omega,by omega⟩
 have w:Wn T σ X Y px (py-1)=Wn T σ X Y px py:=by
  have h2:=YE N px py
  rw[Ca (f:=Hd σ X Y px py) T (fun j hj=> ?_)] at h2
  ·omega
  ·refine Classical.byContradiction fun hn=> ?_
   obtain⟨e,hx⟩:=Xj hn
   have e2:Y (σ j)=Y j:=by rcases N.side j hj with h|h<;>omega
   exact h j hj ⟨by omega,by omega,by omega,by omega⟩
 have hc:Wn T σ X Y cx cy=Wn T σ X Y px cy:=by
  rcases hx with e|e
  ·rw[e]
  ·rw[e];exact v cy hy
 rw[hc]
 rcases hy with e|e
 ·rw[e]
 ·rw[e];exact w
theorem Net.col (N:Net T σ X Y) {c lo:Int}: ∀d:Nat,(∀y,lo≤y→y≤lo+d→ ∀k,k<T→ ¬On σ X Y k c y)→Wn T σ X Y c (lo+d)=Wn T σ X Y c lo
 |0,_=>by rw[show lo+((0:Nat):Int)=lo by omega]
 |d+1,h=>by
  have h1:=N.round (h (lo+((d+1:Nat):Int)) (by omega) (by omega)) (cx:=c) (cy:=lo+d) (.inl rfl) (.inr (by omega))
  rw[←h1]
  exact N.col d fun y a b=>h y a (by omega)
theorem Net.row (N:Net T σ X Y) {c lo:Int}: ∀d:Nat,(∀x,lo≤x→x≤lo+d→ ∀k,k<T→ ¬On σ X Y k x c)→Wn T σ X Y (lo+d) c=Wn T σ X Y lo c
 |0,_=>by rw[show lo+((0:Nat):Int)=lo by omega]
 |d+1,h=>by
  have h1:=N.round (h (lo+((d+1:Nat):Int)) (by omega) (by omega)) (cx:=lo+d) (cy:=c) (.inr (by omega)) (.inl rfl)
  rw[←h1]
  exact N.row d fun y a b=>h y a (by omega)
theorem Net.col_to (N:Net T σ X Y) {c a b y:Int} (h: ∀y,a≤y→y≤b→ ∀k,k<T→ ¬On σ X Y k c y) (h1:a≤y) (h2:y≤b):Wn T σ X Y c y=Wn T σ X Y c a:=by
 have:=N.col (c:=c) (lo:=a) (y-a).toNat fun z p q=>h z p (by omega)
 rwa [show a+((y-a).toNat:Int)=y by omega] at this
theorem Net.row_to (N:Net T σ X Y) {c a b x:Int} (h: ∀x,a≤x→x≤b→ ∀k,k<T→ ¬On σ X Y k x c) (h1:a≤x) (h2:x≤b):Wn T σ X Y x c=Wn T σ X Y a c:=by
 have:=N.row (c:=c) (lo:=a) (x-a).toNat fun z p q=>h z p (by omega)
 rwa [show a+((x-a).toNat:Int)=x by omega] at this
end
theorem ER {rs:List (List Sd)} (h:chk rs=0):GT rs:=fun l hl s hs=>HZ ((By h).1 l hl s hs)
def Wr (rs:List (List Sd)) (r:Nat) (x y:Int):Int:=Wn (rg rs r).length (nxt (rg rs r).length) (fun k=>(sd (rg rs r) k).x) (fun k=>(sd (rg rs r) k).y) x y
def OnR (rs:List (List Sd)) (r k:Nat) (px py:Int):Prop:=On (nxt (rg rs r).length) (fun k=>(sd (rg rs r) k).x) (fun k=>(sd (rg rs r) k).y) k px py
theorem apart {rs:List (List Sd)} (hc:crs rs=false) {r s i:Nat} (hr:r<rs.length) (hs:s<rs.length) (hne:r≠s) (hi:i<(rg rs r).length) {px py:Int} (h:OnR rs r i px py): ∀k,k<(rg rs s).length→ ¬OnR rs s k px py:=
 fun k hk h2=>Td ((HR rs).1 hc r i s k hr hi hs hk fun h=>hne h.1) h h2
theorem O0 {rs:List (List Sd)} (hc:chk rs=0) {r:Nat} (hr:r<rs.length):Net (rg rs r).length (nxt (rg rs r).length) (fun k=>(sd (rg rs r) k).x) (fun k=>(sd (rg rs r) k).y):=
 PG (ER hc) (By hc).2.1 (By hc).2.2.1 hr
theorem Vx {rs:List (List Sd)} (hc:chk rs=0) {r s k:Nat} (hr:r<rs.length) (hs:s<rs.length) (hne:r≠s) (hk:k<(rg rs r).length) {px py:Int} (h:OnR rs r k px py):Wr rs s px py=Wr rs s (sd (rg rs r) k).x (sd (rg rs r) k).y:=by
 have N:=O0 hc hr
 have M:=O0 hc hs
 have hap: ∀px py,OnR rs r k px py→ ∀j,j<(rg rs s).length→ ¬OnR rs s j px py:=fun px py h=>apart (By hc).2.2.1 hr hs hne hk h
 have hside:=N.side k hk
 unfold OnR On at h
 simp only at h
 unfold Wr
 rcases hside with⟨e,hd⟩|⟨e,hd⟩
 ·have ex:px=(sd (rg rs r) k).x:=by omega
  subst ex
  by_cases hu:(sd (rg rs r) k).y<(sd (rg rs r) (nxt (rg rs r).length k)).y
  ·refine M.col_to (a:=(sd (rg rs r) k).y) (b:=(sd (rg rs r) (nxt (rg rs r).length k)).y) (fun y a b=>hap _ _ ?_) (by omega) (by omega)
   unfold OnR On
   simp only
   omega
  ·have hh: ∀y,(sd (rg rs r) (nxt (rg rs r).length k)).y≤y→y≤(sd (rg rs r) k).y→OnR rs r k (sd (rg rs r) k).x y:=fun y a b=>by
    unfold OnR On
    simp only
    omega
   rw[M.col_to (a:=(sd (rg rs r) (nxt (rg rs r).length k)).y) (b:=(sd (rg rs r) k).y) (fun y a b=>hap _ _ (hh y a b)) (by omega) (by omega),
    M.col_to (y:=(sd (rg rs r) k).y) (a:=(sd (rg rs r) (nxt (rg rs r).length k)).y) (b:=(sd (rg rs r) k).y) (fun y a b=>hap _ _ (hh y a b)) (by omega) (by omega)]
 ·have ex:py=(sd (rg rs r) k).y:=by omega
  subst ex
  by_cases hu:(sd (rg rs r) k).x<(sd (rg rs r) (nxt (rg rs r).length k)).x
  ·refine M.row_to (a:=(sd (rg rs r) k).x) (b:=(sd (rg rs r) (nxt (rg rs r).length k)).x) (fun y a b=>hap _ _ ?_) (by omega) (by omega)
   unfold OnR On
   simp only
   omega
  ·have hh: ∀x,(sd (rg rs r) (nxt (rg rs r).length k)).x≤x→x≤(sd (rg rs r) k).x→OnR rs r k x (sd (rg rs r) k).y:=fun y a b=>by
    unfold OnR On
    simp only
    omega
   rw[M.row_to (a:=(sd (rg rs r) (nxt (rg rs r).length k)).x) (b:=(sd (rg rs r) k).x) (fun y a b=>hap _ _ (hh y a b)) (by omega) (by omega),
    M.row_to (x:=(sd (rg rs r) k).x) (a:=(sd (rg rs r) (nxt (rg rs r).length k)).x) (b:=(sd (rg rs r) k).x) (fun y a b=>hap _ _ (hh y a b)) (by omega) (by omega)]
theorem OG {rs:List (List Sd)} (hc:chk rs=0) {r s:Nat} (hr:r<rs.length) (hs:s<rs.length) (hne:r≠s): ∀k,k<(rg rs r).length→Wr rs s (sd (rg rs r) k).x (sd (rg rs r) k).y=Wr rs s (sd (rg rs r) 0).x (sd (rg rs r) 0).y:=
 L8 (fun _=>rfl) fun k hk h=>by
  rw[←h]
  refine Vx hc hr hs hne hk ?_
  unfold OnR On
  simp only
  omega
theorem XK {rs:List (List Sd)} (hc:chk rs=0) {r:Nat} (hr:r<rs.length):
  (∀k,k<(rg rs r).length→Lv (rg rs r).length (nxt (rg rs r).length) (fun k=>(sd (rg rs r) k).x) (fun k=>(sd (rg rs r) k).y) k (if r=0 then 1 else 0))∧ ∀x y,Wr rs r x y=0∨Wr rs r x y=if r=0 then 1 else -1:=by
 obtain⟨hg,hs,hx,hp,_⟩:=By hc
 obtain⟨_,h24,_⟩:=Cf hc
 have hin:=ER hc
 have hm:rg rs r∈rs:=List.mem_of_getElem? (AN hr)
 have hlen:=C8 hm
 obtain⟨L,h01,hL,hv,ha⟩:=QV hin hs hx hr
 have h1:Bz rs r=true:=List.all_eq_true.1 hp r (List.mem_range.2 hr)
 unfold Bz at h1
 rw[(Dq (hin _ hm) _ (Nat.le_refl _) (by omega)).1] at h1
 have h5:=(Bool.and_eq_true_iff.1 h1).1
 rw[beq_iff_eq] at h5
 have h6:AB (Bo (rg rs r)) (rg rs r).length>0↔r=0:=by
  rw[←decide_eq_true_iff (p:=AB (Bo (rg rs r)) (rg rs r).length>0),h5,beq_iff_eq]
 have e:L=if r=0 then 1 else 0:=by
  rcases h01 with e|e
  ·subst e
   rw[if_neg (fun h=>by have:=h6.2 h;omega)]
  ·subst e
   rw[if_pos (h6.1 (by omega))]
 refine⟨fun k hk=>by rw[←e];exact hL k hk,fun x y=> ?_⟩
 rcases hv x y with h|h
 ·exact .inl h
 ·right
  show Wn _ _ _ _ _ _=_
  rw[h,e]
  split<;>rfl
theorem Ui {t u:Sd} (ht:inR t) (hu:inR u) {px py:Int}:CS t u px py=true↔u.x=t.x∧t.x>px∧ ¬(t.y>py↔u.y>py):=by
 unfold CS
 rw[As (by have:=ht.1;have:=ht.2.1;have:=hu.1;have:=hu.2.1;omega) (by have:=ht.1;have:=ht.2.1;have:=hu.1;have:=hu.2.1;omega)]
 simp only[Bool.and_eq_true,beq_iff_eq,decide_eq_true_eq,Bool.not_eq_true',beq_eq_false_iff_ne,ne_eq,decide_eq_decide]
 constructor
 ·rintro⟨⟨h1,h2⟩,h3⟩
  exact⟨by omega,h2,h3⟩
 ·rintro⟨h1,h2,h3⟩
  exact⟨⟨by omega,h2⟩,h3⟩
theorem NX {l:List Sd} (hin: ∀s∈l,inR s) (ax:Y7 l) (px py:Int): ∀n,n≤l.length→(AB (fun k=>ind (sd l k).x px*(ind (sd l (nxt l.length k)).y py-ind (sd l k).y py)) n)%2=if BA l px py n=true then 1 else 0
 |0,_=>rfl
 |n+1,h=>by
  have ih:=NX hin ax px py n (by omega)
  have hp:=Ui (px:=px) (py:=py) (BO hin (show n<l.length by omega)) (BO hin (Bt (show n<l.length by omega)))
  have ha:=ax n (by omega)
  show(AB _ n+ind (sd l n).x px*(ind (sd l (nxt l.length n)).y py-ind (sd l n).y py))%2=if (if CS (sd l n) (sd l (nxt l.length n)) px py=true then !BA l px py n else BA l px py n)=true then 1 else 0
  generalize AB _ n=A at*
  by_cases hb:CS (sd l n) (sd l (nxt l.length n)) px py=true
  ·rw[if_pos hb]
   obtain⟨h1,h2,h3⟩:=hp.1 hb
   rw[EI h2]
   rcases Cr (sd l (nxt l.length n)).y py with⟨e3,h4⟩|⟨e3,h4⟩<;>rcases Cr (sd l n).y py with⟨e5,h5⟩|⟨e5,h5⟩<;>rw[e3,e5]
   ·exact absurd ⟨fun _=>h4,fun _=>h5⟩ h3
   ·cases hi:BA l px py n<;>rw[hi] at ih<;>simp at ih⊢ <;>omega
   ·cases hi:BA l px py n<;>rw[hi] at ih<;>simp at ih⊢ <;>omega
   ·exact absurd ⟨fun _=>by omega,fun _=>by omega⟩ h3
  ·rw[if_neg hb]
   have e:ind (sd l n).x px*(ind (sd l (nxt l.length n)).y py-ind (sd l n).y py)=0:=by
    rcases Cr (sd l n).x px with⟨e3,h4⟩|⟨e3,h4⟩
    ·rcases ha with hx|hy
     ·have:(sd l n).y>py↔(sd l (nxt l.length n)).y>py:=Classical.byContradiction fun hn=>hb (hp.2 ⟨by omega,h4,hn⟩)
      unfold ind
      by_cases e:(sd l n).y>py
      ·rw[if_pos e,if_pos (this.1 e)];simp
      ·rw[if_neg e,if_neg (fun h=>e (this.2 h))];simp
     ·rw[show(sd l (nxt l.length n)).y=(sd l n).y by omega];simp
    ·rw[e3,Int.zero_mul]
   rw[e,Int.add_zero];exact ih
theorem aA {rs:List (List Sd)} (hc:chk rs=0) {r s:Nat} (hr:r<rs.length) (hs:s<rs.length) (hne:r≠s): ∀k,k<(rg rs r).length→Wr rs s (sd (rg rs r) k).x (sd (rg rs r) k).y=if s=0 then 1 else 0:=by
 obtain⟨hg,hsh,hx,hp,_⟩:=By hc
 have hin:=ER hc
 have hole: ∀r s,r<rs.length→s<rs.length→r≠s→r≠0→ ∀k,k<(rg rs r).length→Wr rs s (sd (rg rs r) k).x (sd (rg rs r) k).y=if s=0 then 1 else 0:=fun r s hr hs hne h0 k hk=>by
  rw[OG hc hr hs hne k hk]
  have h1:Bz rs r=true:=List.all_eq_true.1 hp r (List.mem_range.2 hr)
  unfold Bz at h1
  have h2:Dz rs r s=true:=List.all_eq_true.1 (Bool.and_eq_true_iff.1 h1).2 s (List.mem_range.2 hs)
  unfold Dz at h2
  rw[beq_false_of_ne (fun h=>hne h.symm),beq_false_of_ne h0,Bool.false_or,Bool.false_or,beq_iff_eq] at h2
  have hm:rg rs s∈rs:=List.mem_of_getElem? (AN hs)
  have h3:=NX (hin _ hm) (NF (hin _ hm) (hsh _ hm)) (sd (rg rs r) 0).x (sd (rg rs r) 0).y _ (Nat.le_refl _)
  rw[h2] at h3
  change Wr rs s (sd (rg rs r) 0).x (sd (rg rs r) 0).y%2=_ at h3
  have h4:=(XK hc hs).2 (sd (rg rs r) 0).x (sd (rg rs r) 0).y
  by_cases e:s=0
  ·subst e
   rw[if_pos rfl] at h4⊢
   rw[if_pos (show((0:Nat)==0)=true from rfl)] at h3
   omega
  ·rw[if_neg e] at h4⊢
   rw[if_neg (by simp[e])] at h3
   omega
 by_cases h0:r=0
 ·subst h0
  intro k hk
  have hs0:s≠0:=fun h=>hne h.symm
  rw[if_neg hs0]
  have hm:rg rs 0∈rs:=List.mem_of_getElem? (AN hr)
  have h4:=Jp (hsh _ hm)
  obtain⟨c,hcn,hlow⟩:=Wp (fun _=>0) (fun k=> -(sd (rg rs 0) k).x) (rg rs 0).length (by omega)
  have hmax: ∀j,j<(rg rs 0).length→(sd (rg rs 0) j).x≤(sd (rg rs 0) c).x:=fun j hj=>by
   have:=hlow j hj;omega
  rw[OG hc hr hs hne k hk, ←OG hc hr hs hne c hcn]
  refine Fb (fun j hj=> ?_) _
  have h5:=hole s 0 hs hr hs0 hs0 j hj
  rw[if_pos rfl] at h5
  refine Classical.byContradiction fun hn=> ?_
  have h6:Wr rs 0 (sd (rg rs s) j).x (sd (rg rs s) j).y=0:=Fb (fun i hi=>by
   have:=hmax i hi
   omega) _
  omega
 ·exact hole r s hr hs hne h0
def rot {α:Type} (l:List α) (k:Nat):List α:=l.drop k++l.take k
theorem Cu {α:Type} (l:List α) (k:Nat):(rot l k).length=l.length:=by
 unfold rot
 rw[List.length_append,List.length_drop,List.length_take];omega
theorem Yg {α:Type} {l:List α} {k i:Nat} (hk:k<l.length) (hi:i<l.length):(rot l k)[i]? =l[(k+i)%l.length]? :=by
 rw[md hk (Nat.le_of_lt hi)]
 unfold rot
 by_cases h:i<l.length-k
 ·rw[List.getElem?_append_left (by rw[List.length_drop];exact h),List.getElem?_drop,if_pos (by omega)]
 ·rw[List.getElem?_append_right (by rw[List.length_drop];omega),List.length_drop,List.getElem?_take,if_pos (by omega),if_neg (by omega)]
  congr 1;omega
theorem Rv {l:List Sd} {k i:Nat} (hk:k<l.length) (hi:i<l.length):sd (rot l k) i=sd l ((k+i)%l.length):=by
 unfold sd
 rw[List.getD_eq_getElem?_getD,List.getD_eq_getElem?_getD,Yg hk hi]
theorem KT {α:Type} {l:List α} {k:Nat} {s:α}:s∈rot l k↔s∈l:=by
 unfold rot
 rw[List.mem_append]
 constructor
 ·rintro(h|h)
  ·exact List.mem_of_mem_drop h
  ·exact List.mem_of_mem_take h
 ·intro h
  rw[←List.take_append_drop k l] at h
  exact(List.mem_append.1 h).symm
theorem QW {n k i:Nat} (h:0<n):(k+i)%n<n:=Nat.mod_lt _ h
theorem KQ (n k i:Nat):nxt n ((k+i)%n)=(k+nxt n i)%n:=by
 rw[YQ]
 unfold nxt
 rw[Nat.add_mod_mod]
theorem Yb {n:Nat} (k i:Nat) (hn:0<n):prv n ((k+i)%n)=(k+prv n i)%n:=by
 unfold prv
 rw[Nat.add_mod_mod,show(k+i)%n+n-1=(k+i)%n+(n-1) by omega,Nat.mod_add_mod,show k+i+(n-1)=k+(i+n-1) by omega]
theorem SA {n k i j:Nat} (hk:k<n) (hi:i<n) (hj:j<n) (h:(k+i)%n=(k+j)%n):i=j:=by
 rw[md hk (Nat.le_of_lt hi),md hk (Nat.le_of_lt hj)] at h
 split at h<;>split at h<;>omega
theorem UU {n k i:Nat} (hk:k<n) (hi:i<n): ∃j,j<n∧(k+j)%n=i:=by
 by_cases h:k≤i
 ·refine⟨i-k,by omega, ?_⟩
  rw[show k+(i-k)=i by omega,Nat.mod_eq_of_lt hi]
 ·refine⟨i+n-k,by omega, ?_⟩
  rw[show k+(i+n-k)=i+n by omega,Nat.add_mod_right,Nat.mod_eq_of_lt hi]
theorem U3 {rs:List (List Sd)} (hc:chk rs=0) {r:Nat} (hr:r<rs.length):AB (Bo (rg rs r)) (rg rs r).length>0↔r=0:=by
 obtain⟨_,_,_,hp,_⟩:=By hc
 obtain⟨_,h24,_⟩:=Cf hc
 have hin:=ER hc
 have hm:rg rs r∈rs:=List.mem_of_getElem? (AN hr)
 have hlen:=C8 hm
 have h1:Bz rs r=true:=List.all_eq_true.1 hp r (List.mem_range.2 hr)
 unfold Bz at h1
 rw[(Dq (hin _ hm) _ (Nat.le_refl _) (by omega)).1] at h1
 have h5:=(Bool.and_eq_true_iff.1 h1).1
 rw[beq_iff_eq] at h5
 rw[←decide_eq_true_iff (p:=AB (Bo (rg rs r)) (rg rs r).length>0),h5,beq_iff_eq]
theorem My (l:List Sd) (b:Bool): ∀k,AT l b k=true↔b=true∨ ∃i,i<k∧(sd l i).gable=false
 |0=>⟨.inl,fun h=>by
   rcases h with h|⟨i,hi,_⟩
   ·exact h
   ·omega⟩
 |k+1=>by
  show(AT l b k|| !(sd l k).gable)=true↔_
  rw[Bool.or_eq_true_iff,My l b k,Bool.not_eq_true']
  constructor
  ·rintro((h|⟨i,hi,h⟩)|h)
   ·exact .inl h
   ·exact .inr ⟨i,by omega,h⟩
   ·exact .inr ⟨k,by omega,h⟩
  ·rintro(h|⟨i,hi,h⟩)
   ·exact .inl (.inl h)
   ·by_cases e:i=k
    ·subst e;exact .inr h
    ·exact .inl (.inr ⟨i,by omega,h⟩)
theorem I7 (rs:List (List Sd)): ∀n,AQ rs n=true↔ ∃r i,r<n∧i<(rg rs r).length∧(sd (rg rs r) i).gable=false
 |0=>⟨fun h=>(by cases h),fun⟨r,i,h,_⟩=>by omega⟩
 |n+1=>by
  show AT (rg rs n) (AQ rs n) (rg rs n).length=true↔_
  rw[My,I7 rs n]
  constructor
  ·rintro(⟨r,i,h1,h2,h3⟩|⟨i,h1,h2⟩)
   ·exact⟨r,i,by omega,h2,h3⟩
   ·exact⟨n,i,by omega,h1,h2⟩
  ·rintro⟨r,i,h1,h2,h3⟩
   by_cases e:r=n
   ·subst e;exact .inr ⟨i,h2,h3⟩
   ·exact .inl ⟨r,i,by omega,h2,h3⟩
structure Sim (rs rs':List (List Sd)) (τ κ:Nat→Nat):Prop where
 len:rs'.length=rs.length
 ring: ∀r,r<rs.length→rg rs' r=rot (rg rs (τ r)) (κ r)
 kap: ∀r,r<rs.length→κ r<(rg rs (τ r)).length
 lt: ∀r,r<rs.length→τ r<rs.length
 inj: ∀r s,r<rs.length→s<rs.length→τ r=τ s→r=s
 sur: ∀r,r<rs.length→ ∃r',r'<rs.length∧τ r'=r
 zero: ∀r,r<rs.length→(τ r=0↔r=0)
 tot:tot rs'=tot rs
theorem Yh {rs rs':List (List Sd)} {τ κ:Nat→Nat} (hc:chk rs=0) (S:Sim rs rs' τ κ):chk rs'=0:=by
 obtain⟨hg,hsh,hx,hp,hj⟩:=By hc
 obtain⟨hne,h24,h0⟩:=Cf hc
 have hin:=ER hc
 have memR: ∀r,r<rs.length→rg rs r∈rs:=fun r hr=>List.mem_of_getElem? (AN hr)
 have mem: ∀l∈rs', ∃r,r<rs.length∧l=rot (rg rs (τ r)) (κ r):=fun l hl=>by
  obtain⟨r,hr,e⟩:=List.getElem_of_mem hl
  have hr':r<rs.length:=by rw[←S.len];exact hr
  refine⟨r,hr', ?_⟩
  rw[←S.ring r hr', ←e]
  simp[rg,hr]
 have ln: ∀r,r<rs.length→(rg rs' r).length=(rg rs (τ r)).length:=fun r hr=>by rw[S.ring r hr,Cu]
 have n0: ∀r,r<rs.length→0<(rg rs (τ r)).length:=fun r hr=>Nat.lt_of_le_of_lt (Nat.zero_le _) (S.kap r hr)
 have hsd: ∀r i,r<rs.length→i<(rg rs (τ r)).length→sd (rg rs' r) i=sd (rg rs (τ r)) ((κ r+i)%(rg rs (τ r)).length):=fun r i hr hi=>by
  rw[S.ring r hr,Rv (S.kap r hr) hi]
 have hnx: ∀r i,r<rs.length→i<(rg rs (τ r)).length→sd (rg rs' r) (nxt (rg rs' r).length i)=sd (rg rs (τ r)) (nxt (rg rs (τ r)).length ((κ r+i)%(rg rs (τ r)).length)):=fun r i hr hi=>by
  rw[ln r hr,hsd r _ hr (Bt hi),KQ]
 have hpv: ∀r i,r<rs.length→i<(rg rs (τ r)).length→sd (rg rs' r) (prv (rg rs' r).length i)=sd (rg rs (τ r)) (prv (rg rs (τ r)).length ((κ r+i)%(rg rs (τ r)).length)):=fun r i hr hi=>by
  rw[ln r hr,hsd r _ hr (Dc hi),Yb _ _ (n0 r hr)]
 have hin': ∀l∈rs', ∀s∈l,inR s:=fun l hl s hs=>by
  obtain⟨r,hr,rfl⟩:=mem l hl
  exact hin _ (memR _ (S.lt r hr)) s (KT.1 hs)
 have memR': ∀r,r<rs.length→rg rs' r∈rs':=fun r hr=>List.mem_of_getElem? (AN (by rw[S.len];exact hr))
 have shp': ∀l∈rs',shp l=true:=fun l hl=>by
  obtain⟨r,hr,rfl⟩:=mem l hl
  have h1:=hsh _ (memR _ (S.lt r hr))
  unfold shp at h1⊢
  rw[Cu]
  obtain⟨h2,h3⟩:=Bool.and_eq_true_iff.1 h1
  rw[h2,Bool.true_and]
  refine List.all_eq_true.2 fun i hi=> ?_
  have hi:=List.mem_range.1 hi
  have h4:=List.all_eq_true.1 h3 _ (List.mem_range.2 (QW (k:=κ r) (i:=i) (n0 r hr)))
  have e1:=hsd r i hr hi
  have e2:=hnx r i hr hi
  have e3:=hpv r i hr hi
  rw[S.ring r hr] at e1 e2 e3
  unfold EK at h4⊢
  rw[e1,e2,e3]
  exact h4
 refine La (fun l hl e=> ?_) (by rw[S.tot];exact h0) (by rw[S.tot];exact h24) (Lt fun l hl s hs=> ?_) shp' ((HR rs').2 fun r i s k hr hi hs hk hn=> ?_) (List.all_eq_true.2 fun r hr=> ?_) (Bool.and_eq_true_iff.2 ⟨List.all_eq_true.2 fun l hl=> ?_, ?_⟩)
 ·obtain⟨r,hr,rfl⟩:=mem l hl
  have h1:=congrArg List.length e
  rw[Cu,List.length_nil] at h1
  have:=n0 r hr
  omega
 ·obtain⟨r,hr,rfl⟩:=mem l hl
  exact hg _ (memR _ (S.lt r hr)) s (KT.1 hs)
 ·rw[S.len] at hr hs
  have hi':i<(rg rs (τ r)).length:=by rw[←ln r hr];exact hi
  have hk':k<(rg rs (τ s)).length:=by rw[←ln s hs];exact hk
  have h:=(HR rs).1 hx (τ r) ((κ r+i)%(rg rs (τ r)).length) (τ s) ((κ s+k)%(rg rs (τ s)).length) (S.lt r hr) (QW (n0 r hr)) (S.lt s hs) (QW (n0 s hs)) (fun hnear=>hn ?_)
  ·show CF (sd (rg rs' r) i) (sd (rg rs' r) (nxt (rg rs' r).length i)) (sd (rg rs' s) k) (sd (rg rs' s) (nxt (rg rs' s).length k))=false
   rw[hsd r i hr hi',hnx r i hr hi',hsd s k hs hk',hnx s k hs hk']
   exact h
  ·obtain⟨e,hnear⟩:=hnear
   have e:=S.inj r s hr hs e
   subst e
   refine⟨rfl, ?_⟩
   rw[KQ,KQ] at hnear
   rw[ln r hr]
   rcases hnear with h|h|h
   ·exact .inl (SA (S.kap r hr) hi' hk' h)
   ·exact .inr (.inl (SA (S.kap r hr) hi' (Bt hk') h))
   ·exact .inr (.inr (SA (S.kap r hr) hk' (Bt hi') h))
 ·have hr:=List.mem_range.1 hr
  rw[S.len] at hr
  have hlt:=C8 (memR _ (S.lt r hr))
  unfold Bz
  rw[(Dq (hin' _ (memR' r hr)) _ (Nat.le_refl _) (by rw[ln r hr];omega)).1]
  have ea:AB (Bo (rg rs' r)) (rg rs' r).length=AB (Bo (rg rs (τ r))) (rg rs (τ r)).length:=by
   rw[←I3 (Bo (rg rs (τ r))) (rg rs (τ r)).length (κ r),ln r hr]
   refine Bb _ fun i hi=> ?_
   unfold Bo
   rw[hsd r i hr hi,hnx r i hr hi]
  rw[ea]
  refine Bool.and_eq_true_iff.2 ⟨?_,List.all_eq_true.2 fun k hk=> ?_⟩
  ·rw[beq_iff_eq]
   have h1:=(U3 hc (S.lt r hr)).trans (S.zero r hr)
   by_cases e:r=0
   ·rw[decide_eq_true (h1.2 e),e];rfl
   ·rw[decide_eq_false (fun h=>e (h1.1 h)),beq_false_of_ne e]
  ·have hk:=List.mem_range.1 hk
   rw[S.len] at hk
   unfold Dz
   by_cases ek:k=r
   ·subst ek;simp
   by_cases e0:r=0
   ·subst e0;simp
   have hne:τ r≠τ k:=fun e=>ek (S.inj r k hr hk e).symm
   have hpar:=NX (hin' _ (memR' k hk)) (NF (hin' _ (memR' k hk)) (shp' _ (memR' k hk))) (sd (rg rs' r) 0).x (sd (rg rs' r) 0).y _ (Nat.le_refl _)
   have hc0:sd (rg rs' r) 0=sd (rg rs (τ r)) (κ r):=by
    rw[hsd r 0 hr (n0 r hr),Nat.add_zero,Nat.mod_eq_of_lt (S.kap r hr)]
   have hc1: ∀j,j<(rg rs' k).length→ind (sd (rg rs' k) j).x (sd (rg rs' r) 0).x*(ind (sd (rg rs' k) (nxt (rg rs' k).length j)).y (sd (rg rs' r) 0).y-ind (sd (rg rs' k) j).y (sd (rg rs' r) 0).y)=(fun j=>ind (sd (rg rs (τ k)) j).x (sd (rg rs (τ r)) (κ r)).x*(ind (sd (rg rs (τ k)) (nxt (rg rs (τ k)).length j)).y (sd (rg rs (τ r)) (κ r)).y-ind (sd (rg rs (τ k)) j).y (sd (rg rs (τ r)) (κ r)).y)) ((κ k+j)%(rg rs (τ k)).length):=fun j hj'=>by
    rw[ln k hk] at hj'
    simp only
    rw[hnx k j hk hj',hsd k j hk hj',hc0]
   have esum:AB (fun j=>ind (sd (rg rs' k) j).x (sd (rg rs' r) 0).x*(ind (sd (rg rs' k) (nxt (rg rs' k).length j)).y (sd (rg rs' r) 0).y-ind (sd (rg rs' k) j).y (sd (rg rs' r) 0).y)) (rg rs' k).length=Wr rs (τ k) (sd (rg rs (τ r)) (κ r)).x (sd (rg rs (τ r)) (κ r)).y:=by
    rw[Bb _ hc1,ln k hk]
    exact I3 (fun j=>ind (sd (rg rs (τ k)) j).x (sd (rg rs (τ r)) (κ r)).x*(ind (sd (rg rs (τ k)) (nxt (rg rs (τ k)).length j)).y (sd (rg rs (τ r)) (κ r)).y-ind (sd (rg rs (τ k)) j).y (sd (rg rs (τ r)) (κ r)).y)) (rg rs (τ k)).length (κ k)
   rw[esum,aA hc (S.lt r hr) (S.lt k hk) hne _ (S.kap r hr)] at hpar
   rw[beq_false_of_ne ek,beq_false_of_ne e0,Bool.false_or,Bool.false_or,beq_iff_eq]
   have hz:=S.zero k hk
   by_cases e:k=0
   ·rw[if_pos (hz.2 e)] at hpar
    rw[e] at hpar⊢
    cases hi:BA (rg rs' 0) (sd (rg rs' r) 0).x (sd (rg rs' r) 0).y (rg rs' 0).length with
    |true=>rfl
    |false=>rw[hi] at hpar;cases hpar
   ·rw[if_neg (fun h=>e (hz.1 h))] at hpar
    rw[beq_false_of_ne e]
    cases hi:BA (rg rs' k) (sd (rg rs' r) 0).x (sd (rg rs' r) 0).y (rg rs' k).length with
    |false=>rfl
    |true=>rw[hi] at hpar;cases hpar
 ·obtain⟨r,hr,rfl⟩:=mem l hl
  have h1:=List.all_eq_true.1 (Bool.and_eq_true_iff.1 hj).1 _ (memR _ (S.lt r hr))
  unfold CH at h1⊢
  rw[Cu]
  refine List.all_eq_true.2 fun i hi=> ?_
  have hi:=List.mem_range.1 hi
  have h4:=List.all_eq_true.1 h1 _ (List.mem_range.2 (QW (k:=κ r) (i:=i) (n0 r hr)))
  have e1:=hsd r i hr hi
  have e2:=hnx r i hr hi
  have e3:=hpv r i hr hi
  rw[S.ring r hr] at e1 e2 e3
  unfold Ck at h4⊢
  rw[e1,e2,e3]
  exact h4
 ·rw[S.len,I7]
  obtain⟨r,i,hr,hi,hgb⟩:=(I7 rs rs.length).1 (Bool.and_eq_true_iff.1 hj).2
  obtain⟨r',hr',e⟩:=S.sur r hr
  subst e
  obtain⟨j,hj',e⟩:=UU (S.kap r' hr') hi
  refine⟨r',j,hr',by rw[ln r' hr'];exact hj', ?_⟩
  rw[hsd r' j hr' hj',e]
  exact hgb
def Ic (a b:Int):Int:=if a<b then -1 else if a>b then 1 else 0
def D1 (a b:Sd):Int:=if Ic a.x b.x≠0 then Ic a.x b.x else Ic a.y b.y
theorem QO (a b:Int):(a<b∧Ic a b= -1)∨(a>b∧Ic a b=1)∨(a=b∧Ic a b=0):=by
 unfold Ic
 by_cases h:a<b
 ·rw[if_pos h];exact .inl ⟨h,rfl⟩
 ·rw[if_neg h]
  by_cases h2:a>b
  ·rw[if_pos h2];exact .inr (.inl ⟨h2,rfl⟩)
  ·rw[if_neg h2];exact .inr (.inr ⟨by omega,rfl⟩)
theorem Mq (a b:Sd):((a.x<b.x∨(a.x=b.x∧a.y<b.y))∧D1 a b= -1)∨((b.x<a.x∨(a.x=b.x∧b.y<a.y))∧D1 a b=1)∨((a.x=b.x∧a.y=b.y)∧D1 a b=0):=by
 unfold D1
 rcases QO a.x b.x with⟨h,e⟩|⟨h,e⟩|⟨h,e⟩<;>rw[e]
 ·rw[if_pos (by decide)];exact .inl ⟨.inl h,rfl⟩
 ·rw[if_pos (by decide)];exact .inr (.inl ⟨.inl h,rfl⟩)
 ·rw[if_neg (by decide)]
  rcases QO a.y b.y with⟨h',e'⟩|⟨h',e'⟩|⟨h',e'⟩<;>rw[e']
  ·exact .inl ⟨.inr ⟨h,h'⟩,rfl⟩
  ·exact .inr (.inl ⟨.inr ⟨h,h'⟩,rfl⟩)
  ·exact .inr (.inr ⟨⟨h,h'⟩,rfl⟩)
theorem Hg {a b:Sd}:D1 a b<0↔(a.x<b.x∨(a.x=b.x∧a.y<b.y)):=by
 rcases Mq a b with⟨h,e⟩|⟨h,e⟩|⟨h,e⟩<;>rw[e]<;>constructor<;>intro h'<;>omega
theorem Nk {a b:Sd}:D1 a b=0↔(a.x=b.x∧a.y=b.y):=by
 rcases Mq a b with⟨h,e⟩|⟨h,e⟩|⟨h,e⟩<;>rw[e]<;>constructor<;>intro h'<;>omega
def Em (l:List Sd):Nat→Nat
 |0=>0
 |k+1=>if D1 (sd l (k+1)) (sd l (Em l k))<0 then k+1 else Em l k
def atS (l:List Sd):Nat:=Em l (l.length-1)
theorem OU (l:List Sd): ∀k,Em l k≤k
 |0=>Nat.le_refl _
 |k+1=>by
  have:=OU l k
  have e:Em l (k+1)=if D1 (sd l (k+1)) (sd l (Em l k))<0 then k+1 else Em l k:=rfl
  rw[e]
  split<;>omega
def ZL (l:List Sd) (i:Nat):Prop:=i<l.length∧ ∀j,j<l.length→j≠i→D1 (sd l i) (sd l j)<0
def Z2 (l:List Sd):Prop:= ∀i j,i<l.length→j<l.length→i≠j→ ¬((sd l i).x=(sd l j).x∧(sd l i).y=(sd l j).y)
theorem Xk {l:List Sd} (hd:Z2 l) (h0:0<l.length):ZL l (atS l):=by
 have key: ∀k,k<l.length→ ∀j,j≤k→j≠Em l k→D1 (sd l (Em l k)) (sd l j)<0:=fun k=>by
  induction k with
  |zero=>intro _ j hj hn;exact absurd (show j=0 by omega) hn
  |succ k ih=>
   intro hk j hj hn
   have e:Em l (k+1)=if D1 (sd l (k+1)) (sd l (Em l k))<0 then k+1 else Em l k:=rfl
   have hle:=OU l k
   by_cases hc:D1 (sd l (k+1)) (sd l (Em l k))<0
   ·rw[if_pos hc] at e
    rw[e] at hn⊢
    by_cases e2:j=Em l k
    ·rw[e2];exact hc
    ·have h1:=Hg.1 (ih (by omega) j (by omega) e2)
     have h2:=Hg.1 hc
     exact Hg.2 (by omega)
   ·rw[if_neg hc] at e
    rw[e] at hn⊢
    by_cases e2:j=k+1
    ·subst e2
     have h3:=hd (Em l k) (k+1) (by omega) hk (by omega)
     rcases Mq (sd l (k+1)) (sd l (Em l k)) with⟨_,e3⟩|⟨h4,_⟩|⟨h4,_⟩
     ·exact absurd (show D1 (sd l (k+1)) (sd l (Em l k))<0 by rw[e3];decide) hc
     ·exact Hg.2 (by omega)
     ·exact absurd ⟨h4.1.symm,h4.2.symm⟩ h3
    ·exact ih (by omega) j (by omega) hn
 have hle:=OU l (l.length-1)
 exact⟨by unfold atS;omega,fun j hj hn=>key _ (by omega) j (by omega) hn⟩
theorem Np {rs:List (List Sd)} (hc:chk rs=0) {r:Nat} (hr:r<rs.length):Z2 (rg rs r):=fun i j hi hj hne h=>by
 have N:=O0 hc hr
 have s1:=N.side i hi
 have s2:=N.side j hj
 rcases N.free i j hi hj (sd (rg rs r) i).x (sd (rg rs r) i).y (by unfold On;simp only;omega) (by unfold On;simp only;omega) with e|e|e
 ·exact hne e
 ·rw[e] at h;omega
 ·rw[e] at h;omega
def Jk (l:List Sd):List Sd:=rot l (atS l)
theorem P9 (l:List Sd):(Jk l).length=l.length:=Cu ..
abbrev PR:=List Sd×List Int
def Dy (off n:Nat):List Int:=(List.range n).map fun i=>((off+i:Nat):Int)
theorem Gj (off n:Nat):(Dy off n).length=n:=by simp[Dy]
theorem Q2 (off n m:Nat):Dy off n++Dy (off+n) m=Dy off (n+m):=by
 apply List.ext_getElem?
 intro i
 unfold Dy
 by_cases h:i<n
 ·rw[List.getElem?_append_left (by simpa using h),List.getElem?_map,List.getElem?_map,List.getElem?_range h,List.getElem?_range (by omega)]
 ·rw[List.getElem?_append_right (by simpa using h),List.getElem?_map,List.getElem?_map]
  simp only[List.length_map,List.length_range]
  by_cases h2:i<n+m
  ·rw[List.getElem?_range (by omega),List.getElem?_range h2]
   simp only[Option.map_some]
   congr 2;omega
  ·rw[List.getElem?_eq_none (by simp;omega),List.getElem?_eq_none (by simp;omega)];rfl
def F3 (rs:List (List Sd)) (r:Nat):PR:=(Jk (rg rs r),rot (Dy (tot (rs.take r)) (rg rs r).length) (atS (rg rs r)))
def FC (rs:List (List Sd)):Nat→List PR
 |0=>[]
 |r+1=>FC rs r++[F3 rs r]
def Y8:List PR→List PR
 |[p,q]=>if D1 (sd q.1 0) (sd p.1 0)<0 then[q,p] else[p,q]
 |l=>l
def VL:List PR→List PR
 |[]=>[]
 |p::t=>p::Y8 t
def UB (rs:List (List Sd)):List PR:=VL (FC rs rs.length)
def Fv (rs:List (List Sd)):List (List Sd):=(UB rs).map (·.1)
def Ru (rs:List (List Sd)):List Int:=(UB rs).flatMap (·.2)
theorem RJ: ∀l:List PR,(Y8 l).Perm l
 |[]=> .refl _
 |[_]=> .refl _
 |[p,q]=>by
  show(if _ then[q,p] else[p,q]).Perm _
  split
  ·exact .swap ..
  ·exact .refl _
 |_::_::_::_=> .refl _
theorem Mh: ∀l:List PR,(VL l).Perm l
 |[]=> .refl _
 |_::t=>(RJ t).cons _
theorem Wi {α:Type} (l:List α) (k:Nat):(rot l k).Perm l:=by
 unfold rot
 conv=>rhs;rw[←List.take_append_drop k l]
 exact List.perm_append_comm
theorem Lr (rs:List (List Sd)): ∀n,n≤rs.length→((FC rs n).flatMap (·.2)).Perm (Dy 0 (tot (rs.take n)))
 |0,_=>by simp[FC,Dy,tot]
 |n+1,h=>by
  have ih:=Lr rs n (by omega)
  have e:=Q2 0 (tot (rs.take n)) (rg rs n).length
  rw[Nat.zero_add] at e
  rw[Ba (show n<rs.length by omega), ←e]
  show((FC rs n++[F3 rs n]).flatMap (·.2)).Perm _
  rw[List.flatMap_append]
  refine ih.append ?_
  show([F3 rs n].flatMap (·.2)).Perm _
  simp only[List.flatMap_cons,List.flatMap_nil,List.append_nil]
  exact Wi ..
theorem JU (rs:List (List Sd)):(Ru rs).Perm (Dy 0 (tot rs)):=by
 have h:=Lr rs rs.length (Nat.le_refl _)
 rw[List.take_length] at h
 exact((Mh _).flatMap_right _).trans h
def Wa (rs:List (List Sd)) (o:Int):Sd:=rs.flatten.getD o.toNat default
theorem XW {α β:Type} (f:α→β) (l:List α) (k:Nat):rot (l.map f) k=(rot l k).map f:=by simp[rot]
theorem VQ {rs:List (List Sd)} {r:Nat} (hr:r<rs.length):rg rs r=(Dy (tot (rs.take r)) (rg rs r).length).map (Wa rs):=by
 apply List.ext_getElem?
 intro i
 unfold Dy
 rw[List.map_map,List.getElem?_map]
 by_cases h:i<(rg rs r).length
 ·rw[List.getElem?_range h,Cz h]
  show some _=some (Wa rs ((tot (rs.take r)+i:Nat):Int))
  congr 1
  unfold Wa
  rw[show(((tot (rs.take r)+i:Nat):Int)).toNat=tot (rs.take r)+i by omega]
  have e:rs.flatten=(rs.take r).flatten++(rg rs r++(rs.drop (r+1)).flatten):=by
   have h2:rs=rs.take r++(rg rs r::rs.drop (r+1)):=by
    conv=>lhs;rw[←List.take_append_drop r rs,List.drop_eq_getElem_cons hr]
    simp[rg,hr]
   conv=>lhs;rw[h2]
   simp
  rw[e,List.getD_eq_getElem?_getD,List.getElem?_append_right (by rw[Cv];omega),Cv,Nat.add_sub_cancel_left,List.getElem?_append_left h,Cz h];rfl
 ·rw[List.getElem?_eq_none (by omega),List.getElem?_eq_none (by simpa using h)];rfl
theorem N5 {rs:List (List Sd)}: ∀n,n≤rs.length→ ∀p∈FC rs n,p.1=p.2.map (Wa rs)
 |0,_,p,h=>by cases h
 |n+1,hn,p,h=>by
  rcases List.mem_append.1 h with h|h
  ·exact N5 n (by omega) p h
  ·obtain rfl:=List.mem_singleton.1 h
   show rot (rg rs n) _=(rot _ _).map _
   rw[←XW, ←VQ (by omega)]
theorem PA (f:Int→Sd): ∀ps:List PR,(∀p∈ps,p.1=p.2.map f)→(ps.map (·.1)).flatten=(ps.flatMap (·.2)).map f
 |[],_=>rfl
 |p::ps,h=>by
  simp only[List.map_cons,List.flatten_cons,List.flatMap_cons,List.map_append]
  rw[h p (List.mem_cons_self ..),PA f ps fun q hq=>h q (List.mem_cons_of_mem _ hq)]
theorem TK (rs:List (List Sd)):(Fv rs).flatten=(Ru rs).map (Wa rs):=
 PA _ _ fun p hp=>N5 _ (Nat.le_refl _) p ((Mh _).mem_iff.1 hp)
theorem VX (rs:List (List Sd)):tot (Fv rs)=tot rs:=by
 rw[←Cv,TK,List.length_map,(JU rs).length_eq,Gj]
theorem VK {rs:List (List Sd)} (hc:chk rs=0) (h12:tot rs≤12):rs.length=1∨rs.length=2∨rs.length=3:=by
 have h4: ∀l∈rs,4≤l.length:=fun l hl=>Jp ((By hc).2.1 l hl)
 have h0:=(Cf hc).2.2
 match rs,h4,h0,h12 with
 |[],_,h0,_=>exact absurd rfl h0
 |[_],_,_,_=>exact .inl rfl
 |[_,_],_,_,_=>exact .inr (.inl rfl)
 |[_,_,_],_,_,_=>exact .inr (.inr rfl)
 |a::b::c::d::t,h4,_,h12=>
  have h1:=h4 a (by simp)
  have h2:=h4 b (by simp)
  have h3:=h4 c (by simp)
  have h5:=h4 d (by simp)
  simp only[tot,List.map_cons,List.sum_cons] at h12
  omega
theorem Zo (rs:List (List Sd)):FC rs 3=[F3 rs 0,F3 rs 1,F3 rs 2]:=rfl
def c1 (rs:List (List Sd)) (r:Nat):List Sd:=Jk (rg rs r)
theorem Vw {rs:List (List Sd)} (h:rs.length=1):Fv rs=[c1 rs 0]:=by
 unfold Fv UB
 rw[h];rfl
theorem Xh {rs:List (List Sd)} (h:rs.length=2):Fv rs=[c1 rs 0,c1 rs 1]:=by
 unfold Fv UB
 rw[h];rfl
theorem Wf {rs:List (List Sd)} (h:rs.length=3):Fv rs=if D1 (sd (c1 rs 2) 0) (sd (c1 rs 1) 0)<0 then[c1 rs 0,c1 rs 2,c1 rs 1] else[c1 rs 0,c1 rs 1,c1 rs 2]:=by
 unfold Fv UB
 rw[h,Zo]
 show(F3 rs 0::(if D1 (sd (c1 rs 2) 0) (sd (c1 rs 1) 0)<0 then[F3 rs 2,F3 rs 1] else[F3 rs 1,F3 rs 2])).map (·.1)=_
 split<;>rfl
theorem PP {rs:List (List Sd)} (hc:chk rs=0) {r:Nat} (hr:r<rs.length):atS (rg rs r)<(rg rs r).length:=
 (Xk (Np hc hr) (List.length_pos_iff.2 ((Cf hc).1 _ (List.mem_of_getElem? (AN hr))))).1
def sw (r:Nat):Nat:=if r=1 then 2 else if r=2 then 1 else r
theorem Pe {rs rs':List (List Sd)} {κ:Nat→Nat} (τ:Nat→Nat) (hτ:(∀r,τ r=r)∨(τ=sw∧rs.length=3)) (hlen:rs'.length=rs.length) (hring: ∀r,r<rs.length→rg rs' r=rot (rg rs (τ r)) (κ r)) (hk: ∀r,r<rs.length→κ r<(rg rs (τ r)).length) (ht:tot rs'=tot rs):Sim rs rs' τ κ:=by
 rcases hτ with h|⟨rfl,h3⟩
 ·exact⟨hlen,hring,hk,fun r hr=>by rw[h];exact hr,fun r s _ _ e=>by rw[h,h] at e;exact e,fun r hr=>⟨r,hr,h r⟩,fun r _=>by rw[h],ht⟩
 ·refine⟨hlen,hring,hk,fun r hr=> ?_,fun r s hr hs e=> ?_,fun r hr=> ?_,fun r hr=> ?_,ht⟩
  ·unfold sw;split<;>first|omega|(split<;>omega)
  ·unfold sw at e
   by_cases h1:r=1<;>by_cases h2:s=1<;>by_cases h4:r=2<;>by_cases h5:s=2<;>simp[h1,h2,h4,h5] at e<;>omega
  ·refine⟨sw r, ?_, ?_⟩
   ·unfold sw;split<;>first|omega|(split<;>omega)
   ·by_cases h1:r=1
    ·subst h1;rfl
    ·by_cases h2:r=2
     ·subst h2;rfl
     ·unfold sw;simp[h1,h2]
  ·unfold sw
   by_cases h1:r=1
   ·subst h1;simp
   ·by_cases h2:r=2
    ·subst h2;simp
    ·simp[h1,h2]
theorem Lb {rs:List (List Sd)} (hc:chk rs=0) (h12:tot rs≤12): ∃τ κ,Sim rs (Fv rs) τ κ:=by
 have ht:=VX rs
 rcases VK hc h12 with h|h|h
 ·refine⟨id,fun r=>atS (rg rs r),Pe id (.inl fun _=>rfl) (by rw[Vw h,h];rfl) (fun r hr=> ?_) (fun r hr=>PP hc hr) ht⟩
  rw[Vw h]
  obtain rfl:r=0:=by omega
  rfl
 ·refine⟨id,fun r=>atS (rg rs r),Pe id (.inl fun _=>rfl) (by rw[Xh h,h];rfl) (fun r hr=> ?_) (fun r hr=>PP hc hr) ht⟩
  rw[Xh h]
  rcases(show r=0∨r=1 by omega) with rfl|rfl<;>rfl
 ·by_cases hs:D1 (sd (c1 rs 2) 0) (sd (c1 rs 1) 0)<0
  ·have e:Fv rs=[c1 rs 0,c1 rs 2,c1 rs 1]:=by rw[Wf h,if_pos hs]
   refine⟨sw,fun r=>atS (rg rs (sw r)),Pe sw (.inr ⟨rfl,h⟩) (by rw[e,h];rfl) (fun r hr=> ?_) (fun r hr=>PP hc ?_) ht⟩
   ·rw[e]
    rcases(show r=0∨r=1∨r=2 by omega) with rfl|rfl|rfl<;>rfl
   ·rw[h] at hr⊢
    rcases(show r=0∨r=1∨r=2 by omega) with rfl|rfl|rfl<;>decide
  ·have e:Fv rs=[c1 rs 0,c1 rs 1,c1 rs 2]:=by rw[Wf h,if_neg hs]
   refine⟨id,fun r=>atS (rg rs r),Pe id (.inl fun _=>rfl) (by rw[e,h];rfl) (fun r hr=> ?_) (fun r hr=>PP hc hr) ht⟩
   rw[e]
   rcases(show r=0∨r=1∨r=2 by omega) with rfl|rfl|rfl<;>rfl
theorem UR {rs:List (List Sd)} (hc:chk rs=0) (h12:tot rs≤12):chk (Fv rs)=0:=by
 obtain⟨τ,κ,S⟩:=Lb hc h12
 exact Yh hc S
theorem Wu {f:Sd→Sd} {φ:FrP→FrP} {l:List Sd} (h: ∀i,i<l.length→frO (f (sd l i)) (f (sd l (nxt l.length i)))=φ (EL l i)): ∀i,i≤l.length→Es (l.map f) i=(Es l i).map φ:=fun i hi=>by
 unfold Es
 rw[List.map_map]
 refine List.map_congr_left fun k hk=> ?_
 have hk:k<l.length:=by have:=List.mem_range.1 hk;omega
 show EL (l.map f) k=φ (EL l k)
 rw[←h k hk]
 unfold EL
 rw[List.length_map,Bp hk,Bp (Bt hk)]
theorem Qv {f:Sd→Sd} {φ:FrP→FrP} {rs:List (List Sd)} (h: ∀r,r<rs.length→ ∀i,i<(rg rs r).length→frO (f (sd (rg rs r) i)) (f (sd (rg rs r) (nxt (rg rs r).length i)))=φ (EL (rg rs r) i)):
  ∀k,k≤rs.length→Cn (rs.map (·.map f)) k=(Cn rs k).map φ
 |0,_=>rfl
 |k+1,hk=>by
  show Cn (rs.map (·.map f)) k++Es (rg (rs.map (·.map f)) k) (rg (rs.map (·.map f)) k).length=(Cn rs k++Es (rg rs k) (rg rs k).length).map _
  rw[Qv h k (by omega),List.map_append,FK,List.length_map,Wu (h k (by omega)) _ (Nat.le_refl _)]
theorem QT {f:Sd→Sd} {φ:FrP→FrP} {rs:List (List Sd)} (h: ∀r,r<rs.length→ ∀i,i<(rg rs r).length→frO (f (sd (rg rs r) i)) (f (sd (rg rs r) (nxt (rg rs r).length i)))=φ (EL (rg rs r) i)):
  Aw (rs.map (·.map f))=(Aw rs).map φ:=by
 unfold Aw
 rw[List.length_map,Qv h _ (Nat.le_refl _)]
theorem L6 {f:Sd→Sd} (h: ∀s:Sd,(f s).gable=s.gable∧(f s).plate=s.plate) (rs:List (List Sd)):BV (rs.map (·.map f))=BV rs:=by
 unfold BV
 rw[←List.map_flatten,List.filter_map,List.map_map]
 have e:((fun s:Sd=> !s.gable)∘f)=fun s=> !s.gable:=funext fun s=>by show(!(f s).gable)=_;rw[(h s).1]
 rw[e]
 refine List.map_congr_left fun s _=> ?_
 show(((f s).plate:Int):Rat)=_
 rw[(h s).2]
theorem Z4 (a b:Int) (s t:Sd):hdg (tr a b s) (tr a b t)=hdg s t:=by
 unfold hdg tr
 dsimp only
 have e1:s.x+a<t.x+a↔s.x<t.x:=by omega
 have e2:s.y+b<t.y+b↔s.y<t.y:=by omega
 have e3:t.x+a<s.x+a↔t.x<s.x:=by omega
 simp only[e1,e2,e3]
theorem Zr (a b:Int) (s t:Sd):frO (tr a b s) (tr a b t)=(frO s t).shift a b:=by
 unfold frO FrP.shift
 rw[Z4]
 dsimp only[tr]
 cases PO (hdg s t)<;>rfl
theorem SG (a b:Int) (rs:List (List Sd)):B8 (trR a b rs)=B8 rs:=by
 have hs:BV (trR a b rs)=BV rs:=L6 (f:=tr a b) (fun s=>⟨rfl,rfl⟩) rs
 have hf:Aw (trR a b rs)=(Aw rs).map (·.shift a b):=QT (f:=tr a b) fun r _ i _=>Zr a b _ _
 exact JA (fun z=>by rw[hs]) fun z=>by rw[hf,PY]
theorem ZC {s t:Sd} (h: ¬((t.x-s.x=0)↔(t.y-s.y=0))):hdg (qt s) (qt t)=(hdg s t+1)%4:=by
 unfold hdg qt
 dsimp only
 by_cases h1:s.x<t.x
 ·have:s.y=t.y:=by omega
  rw[if_neg (by omega),if_pos (by omega),if_pos h1]
 by_cases h2:s.y<t.y
 ·rw[if_neg (by omega),if_neg (by omega),if_pos (by omega),if_neg h1,if_pos h2]
 by_cases h3:t.x<s.x
 ·rw[if_neg (by omega),if_neg (by omega),if_neg (by omega),if_neg h1,if_neg h2,if_pos h3]
 ·rw[if_pos (by omega),if_neg h1,if_neg h2,if_neg h3]
theorem ZM {s t:Sd} (h: ¬((t.x-s.x=0)↔(t.y-s.y=0))):frO (qt s) (qt t)=(frO s t).turn 65536 (!(frO s t).ax):=by
 have hk:=UN s t
 unfold frO FrP.turn
 rw[ZC h]
 obtain⟨k,e⟩: ∃k,k=hdg s t:=⟨_,rfl⟩
 rw[←e] at hk⊢
 match k,hk with
 |0,_=>rfl
 |1,_=>rfl
 |2,_=>rfl
 |3,_=>rfl
theorem Z5 {rs:List (List Sd)} (hc:chk rs=0):B8 (qtR rs)=B8 rs:=by
 have hs:BV (qtR rs)=BV rs:=L6 (f:=qt) (fun s=>⟨rfl,rfl⟩) rs
 obtain⟨_,hsh,_⟩:=By hc
 have hR:=ER hc
 have hf:Aw (qtR rs)=(Aw rs).map fun f=>f.turn 65536 (!f.ax):=QT (f:=qt) (φ:=fun f=>f.turn 65536 (!f.ax)) fun r hr i hi=>by
  have hm:rg rs r∈rs:=List.mem_of_getElem? (AN hr)
  exact ZM (Di (hR _ hm) (hsh _ hm) hi).1
 exact JA (fun z=>by rw[hs]) fun z=>by rw[hf];exact RZ 65536 (fun b=> !b)
theorem OF {rs:List (List Sd)} (h:chk rs=0): ∀n,chk (qN n rs)=0
 |0=>h
 |n+1=>aL (OF h n)
theorem SE {rs:List (List Sd)} (h:chk rs=0): ∀n,B8 (qN n rs)=B8 rs
 |0=>rfl
 |n+1=>by
  show B8 (qtR (qN n rs))=_
  rw[Z5 (OF h n),SE h n]
theorem W5 {rs:List (List Sd)} (h:chk rs=0) {n:Nat} (h3:(Ft rs n).flatten.any (fun s=> !rgd s)=false):chk (Ft rs n)=0:=by
 rw[Tb (ER h) (Cf h).2.2] at h3⊢
 exact Wd (OF h n) h3
theorem TB {rs:List (List Sd)} (h:chk rs=0) (n:Nat):B8 (Ft rs n)=B8 rs:=by
 rw[Tb (ER h) (Cf h).2.2]
 unfold YU
 rw[SG,SE h]
theorem U8 {dx dy:Int} {rs:List (List Sd)} (h:GT rs) (hx:0≤dx∧dx≤65536) (hy:0≤dy∧dy≤65536):mvR (shF dx dy) rs=trR dx dy rs:=by
 unfold mvR trR
 refine List.map_congr_left fun l hl=>List.map_congr_left fun s hs=> ?_
 obtain⟨h1,h2,h3,h4⟩:=h l hl s hs
 unfold mvS shF tr
 simp only
 rw[As (x:=s.x+dx) (by omega) (by omega),As (x:=s.y+dy) (by omega) (by omega)]
theorem YL {dx dy:Int} {rs:List (List Sd)} (hx:0≤dx∧dx≤65536) (hy:0≤dy∧dy≤65536) (he:shE rs dx dy=0):chk (mvR (shF dx dy) rs)=0∧B8 (mvR (shF dx dy) rs)=B8 rs:=by
 obtain⟨hc,_,h3⟩:=Rj he
 rw[U8 (ER hc) hx hy] at h3⊢
 exact⟨Wd hc h3,SG dx dy rs⟩
theorem Q1 {rs:List (List Sd)} {s:Sd}:s∈rs.flatten↔ ∃r,r<rs.length∧s∈rg rs r:=by
 rw[List.mem_flatten]
 constructor
 ·rintro⟨l,hl,hs⟩
  obtain⟨r,hr,rfl⟩:=List.getElem_of_mem hl
  refine⟨r,hr, ?_⟩
  have:=AN hr
  rw[List.getElem?_eq_getElem hr] at this
  rw[←Option.some.inj this]
  exact hs
 ·rintro⟨r,hr,hs⟩
  exact⟨_,List.mem_of_getElem? (AN hr),hs⟩
theorem QB {rs:List (List Sd)} {f:FrP}: ∀k,f∈Cn rs k↔ ∃r,r<k∧ ∃i,i<(rg rs r).length∧f=EL (rg rs r) i
 |0=>⟨fun h=>(by cases h),fun⟨r,h,_⟩=>(by omega)⟩
 |k+1=>by
  show f∈Cn rs k++Es (rg rs k) (rg rs k).length↔_
  rw[List.mem_append,QB k]
  have e:f∈Es (rg rs k) (rg rs k).length↔ ∃i,i<(rg rs k).length∧f=EL (rg rs k) i:=by
   unfold Es
   rw[List.mem_map]
   constructor
   ·rintro⟨i,hi,rfl⟩;exact⟨i,List.mem_range.1 hi,rfl⟩
   ·rintro⟨i,hi,rfl⟩;exact⟨i,List.mem_range.2 hi,rfl⟩
  rw[e]
  constructor
  ·rintro(⟨r,h,x⟩|x)
   ·exact⟨r,by omega,x⟩
   ·exact⟨k,by omega,x⟩
  ·rintro⟨r,h,x⟩
   rcases Nat.lt_or_ge r k with c|c
   ·exact .inl ⟨r,c,x⟩
   ·obtain rfl:r=k:=by omega
    exact .inr x
theorem Rp {rs:List (List Sd)} {f:FrP}:f∈Aw rs↔ ∃r,r<rs.length∧ ∃i,i<(rg rs r).length∧f=EL (rg rs r) i:=QB _
theorem Nf {l:List Sd} {k i:Nat} (hk:k<l.length) (hi:i<l.length):EL (rot l k) i=EL l ((k+i)%l.length):=by
 unfold EL
 rw[Cu,Rv hk hi,Rv hk (Bt hi),KQ]
theorem Vv {rs rs':List (List Sd)} {τ κ:Nat→Nat} (S:Sim rs rs' τ κ):B8 rs'=B8 rs:=by
 have hfl: ∀s,s∈rs'.flatten↔s∈rs.flatten:=fun s=>by
  rw[Q1,Q1,S.len]
  constructor
  ·rintro⟨r,hr,hs⟩
   rw[S.ring r hr,KT] at hs
   exact⟨τ r,S.lt r hr,hs⟩
  ·rintro⟨r,hr,hs⟩
   obtain⟨r',hr',rfl⟩:=S.sur r hr
   exact⟨r',hr',by rw[S.ring r' hr',KT];exact hs⟩
 have hst: ∀z,z∈BV rs'↔z∈BV rs:=fun z=>by
  unfold BV
  rw[List.mem_map,List.mem_map]
  constructor
  ·rintro⟨s,hs,rfl⟩
   obtain⟨h1,h2⟩:=List.mem_filter.1 hs
   exact⟨s,List.mem_filter.2 ⟨(hfl s).1 h1,h2⟩,rfl⟩
  ·rintro⟨s,hs,rfl⟩
   obtain⟨h1,h2⟩:=List.mem_filter.1 hs
   exact⟨s,List.mem_filter.2 ⟨(hfl s).2 h1,h2⟩,rfl⟩
 have haf: ∀f,f∈Aw rs'↔f∈Aw rs:=fun f=>by
  rw[Rp,Rp,S.len]
  constructor
  ·rintro⟨r,hr,i,hi,rfl⟩
   have hk:=S.kap r hr
   rw[S.ring r hr] at hi⊢
   rw[Cu] at hi
   exact⟨τ r,S.lt r hr,_,QW (by omega),Nf hk hi⟩
  ·rintro⟨r,hr,i,hi,rfl⟩
   obtain⟨r',hr',rfl⟩:=S.sur r hr
   have hk:=S.kap r' hr'
   obtain⟨j,hj,rfl⟩:=UU hk hi
   exact⟨r',hr',j,by rw[S.ring r' hr',Cu];exact hj,by rw[S.ring r' hr',Nf hk hj]⟩
 exact JA hst fun z=>U4 haf z
theorem Xf {rs:List (List Sd)} (hc:chk rs=0) (h12:tot rs≤12):B8 (Fv rs)=B8 rs:=by
 obtain⟨τ,κ,S⟩:=Lb hc h12
 exact Vv S
abbrev ci (l:List Int):List Value:=l.map (Value.int .i64)
theorem WV {α:Type} {l:List α} {k:Nat} {x:α} (h:l[k]? =some x):l.set k x=l:=by
 obtain⟨h1,rfl⟩:=List.getElem?_eq_some_iff.1 h
 exact List.set_getElem_self h1
end
section
open Go Go.RowKit Go.Am
set_option maxRecDepth 10000
-- BOXES 2
theorem Js {L:List Sd} {j:Nat} (hj:j<L.length):cellsOf L=cellsOf (L.take j)++((sd L j).cells++cellsOf (L.drop (j+1))):=by
 have e:L=L.take j++(sd L j::L.drop (j+1)):=by
  have h:=List.take_append_drop j L
  rw[List.drop_eq_getElem_cons hj] at h
  rw[show sd L j=L[j] by simp[sd,hj]]
  exact h.symm
 conv=>lhs;rw[e]
 rw[Dn]
 rfl
theorem N1 (s:Sd) {junk:List Value} {L:List Sd} {j:Nat} (hj:j<L.length):AS (cellsOf L++junk) (j*7) s.val.cells.toList=cellsOf (L.set j s)++junk:=by
 have hl:(cellsOf (L.take j)).length=j*7:=by rw[A7,List.length_take,Nat.min_eq_left (by omega)]
 have e2:cellsOf (L.set j s)=cellsOf (L.take j)++(s.cells++cellsOf (L.drop (j+1))):=by
  rw[Js (L:=L.set j s) (j:=j) (by rw[List.length_set];exact hj),List.take_set_of_le (Nat.le_refl _),List.drop_set_of_lt (by omega),show sd (L.set j s) j=s by simp[sd,hj]]
 rw[Js hj,e2]
 simp only[List.append_assoc]
 rw[show j*7=(cellsOf (L.take j)).length+0 by omega,Bj]
 rfl
def swG {α:Type} (d:α) (l:List α) (k:Nat):List α:=(List.range l.length).map fun m=>if m<k∨l.length-1-m<k then l.getD (l.length-1-m) d else l.getD m d
section
variable {α:Type} (d:α)
theorem AU (l:List α) (k:Nat):(swG d l k).length=l.length:=by simp[swG]
theorem Hc {l:List α} {k m:Nat} (hm:m<l.length):(swG d l k).getD m d=if m<k∨l.length-1-m<k then l.getD (l.length-1-m) d else l.getD m d:=by
 rw[List.getD_eq_getElem?_getD,swG,List.getElem?_map,List.getElem?_range hm];rfl
theorem Iz {l m:List α} (h:l.length=m.length) (hs: ∀i,i<l.length→l.getD i d=m.getD i d):l=m:=by
 refine List.ext_getElem h fun i h1 h2=> ?_
 have:=hs i h1
 rw[List.getD_eq_getElem?_getD,List.getD_eq_getElem?_getD,List.getElem?_eq_getElem h1,List.getElem?_eq_getElem h2] at this
 exact this
theorem PW (l:List α):swG d l 0=l:=Iz d (AU d l 0) fun i hi=>by
 rw[AU] at hi
 rw[Hc d hi,if_neg (by omega)]
theorem ZG {l:List α} {i:Nat} (hi:i<l.length) (s:α) (k:Nat):(l.set i s).getD k d=if k=i then s else l.getD k d:=by
 rw[List.getD_eq_getElem?_getD,List.getD_eq_getElem?_getD]
 by_cases e:k=i
 ·subst e;rw[if_pos rfl,List.getElem?_set_self hi];rfl
 ·rw[if_neg e,List.getElem?_set_ne (fun h=>e h.symm)]
theorem Qu {l:List α} {k:Nat} (hk:k<l.length-1-k):swG d l (k+1)=((swG d l k).set k (l.getD (l.length-1-k) d)).set (l.length-1-k) (l.getD k d):=Iz d (by rw[AU,List.length_set,List.length_set,AU]) fun i hi=>by
 rw[AU] at hi
 rw[Hc d hi,ZG d (by rw[List.length_set,AU];omega),ZG d (by rw[AU];omega),Hc d hi]
 by_cases e1:i=l.length-1-k
 ·rw[if_pos e1,if_pos (by omega),e1,show l.length-1-(l.length-1-k)=k by omega]
 by_cases e2:i=k
 ·rw[if_neg e1,if_pos e2,if_pos (by omega),e2]
 ·rw[if_neg e1,if_neg e2]
  by_cases e3:i<k∨l.length-1-i<k
  ·rw[if_pos (by omega),if_pos e3]
  ·rw[if_neg (by omega),if_neg e3]
theorem Qb {l:List α} {k:Nat} (hk: ¬k<l.length-1-k):swG d l k=l.reverse:=Iz d (by rw[AU,List.length_reverse]) fun i hi=>by
 rw[AU] at hi
 rw[Hc d hi]
 have hr:l.reverse.getD i d=l.getD (l.length-1-i) d:=by
  rw[List.getD_eq_getElem?_getD,List.getD_eq_getElem?_getD,List.getElem?_reverse hi]
 rw[hr]
 by_cases e:i<k∨l.length-1-i<k
 ·rw[if_pos e]
 ·rw[if_neg e];congr 1;omega
end
theorem JH (l m:List Int):ci (l++m)=ci l++ci m:=List.map_append
theorem BJ (l:List Int):(ci l).length=l.length*1:=by rw[List.length_map,Nat.mul_one]
theorem YI: ∀l:List Int, ∀u∈ci l,u.oneCell'=true:=fun l u hu=>by
 obtain⟨z,_,rfl⟩:=List.mem_map.1 hu
 rfl
theorem LN: ∀(c:List Value) (j:Nat) (v:Value),j<c.length→AS c j [v]=c.set j v
 |[],j,_,h=>absurd h (Nat.not_lt_zero _)
 |x::c,0,v,_=>by simp[AS]
 |x::c,j+1,v,h=>by
  have ih:=LN c j v (by simpa using h)
  have e:=Bj [x] c j [v]
  rw[List.length_singleton,Nat.add_comm 1 j] at e
  rw[show x::c=[x]++c from rfl,e,ih];rfl
theorem Pc (z:Int) {junk:List Value} {L:List Int} {j:Nat} (hj:j<L.length):AS (ci L++junk) (j*1) (Value.int .i64 z).cells.toList=ci (L.set j z)++junk:=by
 rw[Nat.mul_one]
 show AS _ j [Value.int .i64 z]=_
 rw[LN _ _ _ (by rw[List.length_append,List.length_map];omega),List.set_append_left _ _ (by simpa using hj)]
 congr 1
 exact(List.map_set ..).symm
theorem N7 {W0 W:World} {bxs:List Bx} (hp:Hp W0 bxs W) (k:Nat) {g:Nat} {pre:List Value} {L:List Sd} {junk:List Value} (hk:nth bxs k=some ⟨g,42,pre++(cellsOf L++junk),true,none⟩) {j:Nat} (hj:j<L.length):Ae W g (pre.length+j*7) (L.getD j default).cells:=by
 have h:=Ae.of_bx hp k hk rfl
 refine⟨h.lt,fun m u hu=> ?_⟩
 have hm:m<7:=(List.getElem?_eq_some_iff.1 hu).1
 have h1:=F1 L j (sd L j) (Cz hj) m hm
 rw[show(sd L j).cells[m]? =some u from hu] at h1
 have:=h.get (pre.length+(j*7+m)) u (by
  show(pre++(cellsOf L++junk))[pre.length+(j*7+m)]? =some u
  rw[List.getElem?_append_right (by omega),Nat.add_sub_cancel_left,List.getElem?_append_left (List.getElem?_eq_some_iff.1 h1).1]
  exact h1)
 rw[Nat.zero_add, ←Nat.add_assoc] at this
 exact this
theorem PU {W0 W:World} {bxs:List Bx} (hp:Hp W0 bxs W) (k:Nat) {g:Nat} {pre:List Value} {L:List Int} {junk:List Value} (hk:nth bxs k=some ⟨g,3,pre++(ci L++junk),true,none⟩) {j:Nat} (hj:j<L.length):Ae W g (pre.length+j*1) [.int .i64 (L.getD j 0)]:=by
 have h:=Ae.of_bx hp k hk rfl
 refine⟨h.lt,fun m u hu=> ?_⟩
 have hm:m=0:=by have:=(List.getElem?_eq_some_iff.1 hu).1;simp at this;omega
 subst hm
 have h1:(ci L)[j]? =some u:=by
  rw[List.getElem?_map,List.getElem?_eq_getElem hj, ←hu,List.getD_eq_getElem?_getD,List.getElem?_eq_getElem hj];rfl
 have:=h.get (pre.length+(j*1+0)) u (by
  show(pre++(ci L++junk))[pre.length+(j*1+0)]? =some u
  rw[List.getElem?_append_right (by omega),Nat.add_sub_cancel_left,Nat.mul_one,Nat.add_zero,List.getElem?_append_left (by simpa using hj)]
  exact h1)
 rw[Nat.zero_add, ←Nat.add_assoc] at this
 exact this
theorem MQ (W:World) (g cap off:Nat) (pre junk:List Value) (l:List Sd) (hoff:off=pre.length) (hn:l.length<4611686018427387904) (hg:W.heap[g]? =some (.cells (pre++(cellsOf l++junk)).toArray 42 (0,0))):
  Calls Tryz.prog 189 #[.slice (some ⟨g,off,none⟩) l.length cap] W fun e W'=> ∃x:Unit,e= .returned ((fun _=> .tuple #[]) x)∧True∧FL W W' g ((fun _=>g) x) ((fun _=> .cells (pre++(cellsOf l.reverse++junk)).toArray 42 (0,0)) x):=by
 subst hoff
 have key:Calls Tryz.prog 189 [.slice (some ⟨g,pre.length,none⟩) l.length cap].toArray W fun e W'=> ∃x:Unit,e= .returned ((fun _=> .tuple #[]) x)∧(fun _=>True) x∧Below (AK W).heap.size (AK W) W'∧Ag (AK W) W' ((fun _=>[AI (Ar W g),⟨g,42,pre++(cellsOf l.reverse++junk),true,none⟩]) x):=by
  refine Be (X:=Unit) (val:=fun _=> .tuple #[]) (Φ:=fun _=>True) (nb:=fun _=>[AI (Ar W g),⟨g,42,pre++(cellsOf l.reverse++junk),true,none⟩]) (Hp.enterT (B:=⟨g,42,pre++(cellsOf l++junk),true,none⟩) rfl hg) Tryz.func189 rfl rfl rfl ?_
  refine zA (zB (wP rfl (wP rfl (wP rfl ?_))))
  refine Ac 6 (.int .i64 ((l.length:Nat)-1-(0:Nat))) rfl (congrArg (Value.int .i64) (show w64 ((l.length:Nat)-1)=_ by rw[As (by omega) (by omega)];omega)) ?_
  refine wP rfl (wP rfl (Aa (zE (zH ?_))))
  refine Az (X:=Nat) (fun k=>[(0, .slice (some ⟨g,pre.length,none⟩) l.length cap),(2, .int .i64 (k:Nat)),(3, .int .i64 ((l.length:Nat)-1-(k:Nat)))]) (fun k=>[AI (Ar W g),⟨g,42,pre++(cellsOf (swG default l k)++junk),true,none⟩])
   (fun k=>2*k≤l.length) (fun k=>l.length-k) 0 (Nat.zero_le _) ⟨rfl,rfl,rfl,trivial⟩ [] (by show _=_++[];rw[PW];rfl) ?_
  intro k hk
  refine zA (zA (zB (wP rfl (wP rfl (wP rfl (Aa (zE ?_)))))))
  refine Al rfl (fun h=> ?_) (fun h=> ?_)
  rotate_left
  ·have hd: ¬k<l.length-1-k:=by
    have h':decide ((k:Int)<(l.length:Nat)-1-(k:Nat))=false:=h
    rw[decide_eq_false_iff_not] at h';omega
   rw[Qb default hd]
   refine zJ (zK (zK (zL ?_)))
   refine CW (X:=Unit) (val:=fun _=> .tuple #[]) (Φ:=fun _=>True) (nb:=fun _=>[AI (Ar W g),⟨g,42,pre++(cellsOf l.reverse++junk),true,none⟩]) (fn:=Tryz.f189) tH rfl () rfl trivial fun W1 hp=> ?_
   exact(hp.pick (l:=[AI (Ar W g),⟨g,42,pre++(cellsOf l.reverse++junk),true,none⟩]) [0,1] (by decide) rfl).own
  have hd:k<l.length-1-k:=by
   have h':decide ((k:Int)<(l.length:Nat)-1-(k:Nat))=true:=h
   rw[decide_eq_true_iff] at h';omega
  clear h
  have e3:((l.length:Nat):Int)-1-(k:Nat)=((l.length-1-k:Nat):Int):=by omega
  have s1:(swG default l k).getD (l.length-1-k) default=l.getD (l.length-1-k) default:=by rw[Hc default (by omega),if_neg (by omega)]
  have s2:(swG default l k).getD k default=l.getD k default:=by rw[Hc default (by omega),if_neg (by omega)]
  refine zI (zE ?_)
  refine AW 3 (.int .i64 ((l.length-1-k:Nat):Int)) rfl (congrArg (Value.int .i64) e3) ?_
  refine AL (B6 ?_)
  repeat refine AL ?_
  refine BW (X:=Unit) [true,true,false,false,true,true,true,true,true,true,true,true,true,false,false,false] (fun _=>[(0, .slice (some ⟨g,pre.length,none⟩) l.length cap),(2, .int .i64 (k:Nat)),(3, .int .i64 ((l.length-1-k:Nat):Int))]) (fun _=>[AI (Ar W g),⟨g,42,pre++(cellsOf (swG default l (k+1))++junk),true,none⟩])
   5 [AI (Ar W g),⟨g,42,pre++(cellsOf (swG default l k)++junk),true,none⟩] Tryz.mixed (by kernel_rfl) ?_ ?_
  ·refine qP rfl (qP rfl (qP rfl (qP rfl ?_)))
   refine qJ ?_
   refine Ap rfl rfl rfl rfl (fun W hp=>Ae.load 0 tH rfl ((fun W1 hp=>show Ae W1 g (pre.length+(l.length-1-k)*7) (l.getD (l.length-1-k) default).cells from by rw[←s1];exact N7 hp 1 rfl (by rw[AU];omega)) W hp) rfl) ?_
   refine qP rfl (qP rfl ?_)
   refine qJ ?_
   refine Ap rfl rfl rfl rfl (fun W hp=>Ae.load 0 tH rfl ((fun W1 hp=>show Ae W1 g (pre.length+k*7) (l.getD (k) default).cells from by rw[←s2];exact N7 hp 1 rfl (by rw[AU];omega)) W hp) rfl) ?_
   refine qJ ?_
   refine CX ?_
   have h1:AS (pre++(cellsOf (swG default l k)++junk)) (pre.length+k*7) (l.getD (l.length-1-k) default).val.cells.toList=pre++(cellsOf ((swG default l k).set k (l.getD (l.length-1-k) default))++junk):=by
    rw[Bj];congr 1;exact N1 _ (by rw[AU];omega)
   have h2:AS (pre++(cellsOf ((swG default l k).set k (l.getD (l.length-1-k) default))++junk)) (pre.length+(l.length-1-k)*7) (l.getD (k) default).val.cells.toList=pre++(cellsOf (swG default l (k+1))++junk):=by
    rw[Bj,Qu default hd];congr 1;exact N1 _ (by rw[List.length_set,AU];omega)
   refine wX ?_
   refine RS.cons ?_ (RS.cons ?_ (RS.cons ?_ (RS.nil)))
   ·refine wP rfl (Aa (Ah ?_))
    refine wX ?_
    refine RS.cons ?_ (RS.cons ?_ (RS.nil))
    ·refine wP rfl (Aa (Ah ?_))
     refine wX ?_
     refine RS.cons ?_ (RS.nil)
     refine Aj 1 _ tH rfl rfl rfl rfl rfl rfl rfl rfl rfl rfl (by show pre.length+k*7+7≤(pre++(cellsOf (swG default l k)++junk)).length;rw[List.length_append,List.length_append,A7,AU];omega) h1 ?_
     refine Aa (Ah ?_)
     refine wY ?_
     refine RS.cons ?_ (RS.nil)
     refine wJ ?_
     refine Aa (Ah ?_)
     refine wY ?_
     refine RS.cons ?_ (RS.nil)
     refine Aj 1 _ tH rfl rfl rfl rfl rfl rfl rfl rfl rfl rfl (by show pre.length+(l.length-1-k)*7+7≤(pre++(cellsOf ((swG default l k).set k (l.getD (l.length-1-k) default))++junk)).length;rw[List.length_append,List.length_append,A7,List.length_set,AU];omega) h2 ?_
     refine Aa (Ah ?_)
     refine A3 rfl (by kernel_rfl) ?_
     exact Ax () ⟨rfl,rfl,rfl,trivial⟩ [0,1] (by decide) rfl
    ·refine Aj 1 _ tH rfl rfl rfl rfl rfl rfl rfl rfl rfl rfl (by show pre.length+k*7+7≤(pre++(cellsOf (swG default l k)++junk)).length;rw[List.length_append,List.length_append,A7,AU];omega) h1 ?_
     refine Aa (Ah ?_)
     refine wY ?_
     refine RS.cons ?_ (RS.nil)
     refine wP rfl (Aa (Ah ?_))
     refine wY ?_
     refine RS.cons ?_ (RS.nil)
     refine wJ ?_
     refine Aa (Ah ?_)
     refine wY ?_
     refine RS.cons ?_ (RS.nil)
     refine Aj 1 _ tH rfl rfl rfl rfl rfl rfl rfl rfl rfl rfl (by show pre.length+(l.length-1-k)*7+7≤(pre++(cellsOf ((swG default l k).set k (l.getD (l.length-1-k) default))++junk)).length;rw[List.length_append,List.length_append,A7,List.length_set,AU];omega) h2 ?_
     refine Aa (Ah ?_)
     refine A3 rfl (by kernel_rfl) ?_
     exact Ax () ⟨rfl,rfl,rfl,trivial⟩ [0,1] (by decide) rfl
   ·refine wP rfl (Aa (Ah ?_))
    refine wX ?_
    refine RS.cons ?_ (RS.cons ?_ (RS.nil))
    ·refine wP rfl (Aa (Ah ?_))
     refine wX ?_
     refine RS.cons ?_ (RS.nil)
     refine Aj 1 _ tH rfl rfl rfl rfl rfl rfl rfl rfl rfl rfl (by show pre.length+k*7+7≤(pre++(cellsOf (swG default l k)++junk)).length;rw[List.length_append,List.length_append,A7,AU];omega) h1 ?_
     refine Aa (Ah ?_)
     refine wY ?_
     refine RS.cons ?_ (RS.nil)
     refine wJ ?_
     refine Aa (Ah ?_)
     refine wY ?_
     refine RS.cons ?_ (RS.nil)
     refine Aj 1 _ tH rfl rfl rfl rfl rfl rfl rfl rfl rfl rfl (by show pre.length+(l.length-1-k)*7+7≤(pre++(cellsOf ((swG default l k).set k (l.getD (l.length-1-k) default))++junk)).length;rw[List.length_append,List.length_append,A7,List.length_set,AU];omega) h2 ?_
     refine Aa (Ah ?_)
     refine A3 rfl (by kernel_rfl) ?_
     exact Ax () ⟨rfl,rfl,rfl,trivial⟩ [0,1] (by decide) rfl
    ·refine Aj 1 _ tH rfl rfl rfl rfl rfl rfl rfl rfl rfl rfl (by show pre.length+k*7+7≤(pre++(cellsOf (swG default l k)++junk)).length;rw[List.length_append,List.length_append,A7,AU];omega) h1 ?_
     refine Aa (Ah ?_)
     refine wY ?_
     refine RS.cons ?_ (RS.nil)
     refine wP rfl (Aa (Ah ?_))
     refine wY ?_
     refine RS.cons ?_ (RS.nil)
     refine wJ ?_
     refine Aa (Ah ?_)
     refine wY ?_
     refine RS.cons ?_ (RS.nil)
     refine Aj 1 _ tH rfl rfl rfl rfl rfl rfl rfl rfl rfl rfl (by show pre.length+(l.length-1-k)*7+7≤(pre++(cellsOf ((swG default l k).set k (l.getD (l.length-1-k) default))++junk)).length;rw[List.length_append,List.length_append,A7,List.length_set,AU];omega) h2 ?_
     refine Aa (Ah ?_)
     refine A3 rfl (by kernel_rfl) ?_
     exact Ax () ⟨rfl,rfl,rfl,trivial⟩ [0,1] (by decide) rfl
   ·refine Aj 1 _ tH rfl rfl rfl rfl rfl rfl rfl rfl rfl rfl (by show pre.length+k*7+7≤(pre++(cellsOf (swG default l k)++junk)).length;rw[List.length_append,List.length_append,A7,AU];omega) h1 ?_
    refine Aa (Ah ?_)
    refine wY ?_
    refine RS.cons ?_ (RS.cons ?_ (RS.nil))
    ·refine wP rfl (Aa (Ah ?_))
     refine wY ?_
     refine RS.cons ?_ (RS.nil)
     refine wP rfl (Aa (Ah ?_))
     refine wY ?_
     refine RS.cons ?_ (RS.nil)
     refine wJ ?_
     refine Aa (Ah ?_)
     refine wY ?_
     refine RS.cons ?_ (RS.nil)
     refine Aj 1 _ tH rfl rfl rfl rfl rfl rfl rfl rfl rfl rfl (by show pre.length+(l.length-1-k)*7+7≤(pre++(cellsOf ((swG default l k).set k (l.getD (l.length-1-k) default))++junk)).length;rw[List.length_append,List.length_append,A7,List.length_set,AU];omega) h2 ?_
     refine Aa (Ah ?_)
     refine A3 rfl (by kernel_rfl) ?_
     exact Ax () ⟨rfl,rfl,rfl,trivial⟩ [0,1] (by decide) rfl
    ·refine wP rfl (Aa (Ah ?_))
     refine wY ?_
     refine RS.cons ?_ (RS.nil)
     refine wP rfl (Aa (Ah ?_))
     refine wY ?_
     refine RS.cons ?_ (RS.nil)
     refine wJ ?_
     refine Aa (Ah ?_)
     refine wY ?_
     refine RS.cons ?_ (RS.nil)
     refine Aj 1 _ tH rfl rfl rfl rfl rfl rfl rfl rfl rfl rfl (by show pre.length+(l.length-1-k)*7+7≤(pre++(cellsOf ((swG default l k).set k (l.getD (l.length-1-k) default))++junk)).length;rw[List.length_append,List.length_append,A7,List.length_set,AU];omega) h2 ?_
     refine Aa (Ah ?_)
     refine A3 rfl (by kernel_rfl) ?_
     exact Ax () ⟨rfl,rfl,rfl,trivial⟩ [0,1] (by decide) rfl
  intro _
  refine zN (zE (zB (wP rfl (wP rfl (wP rfl (wP rfl ?_))))))
  refine Ac 13 (.int .i64 ((l.length:Nat)-1-((k+1:Nat):Int))) rfl (congrArg (Value.int .i64) (show w64 (((l.length-1-k:Nat):Int)-1)=_ by rw[As (by omega) (by omega)];omega)) ?_
  refine wP rfl (wP rfl (Aa ?_))
  exact At (k+1) (by show 2*(k+1)≤l.length;omega) (by omega) ⟨rfl,congrArg (fun z=>some (Value.int .i64 z)) (A6 (x:=(k:Int)+1) (by omega) (by omega)),rfl,trivial⟩ [] rfl
 refine key.mono ?_
 rintro e W' ⟨x,he,_,hb,hn'⟩
 exact⟨x,he,trivial,CN hg rfl hb hn'⟩
section
variable {r:Option Nat} {n:Nat} {W0:World} {N:Nat} {D:List Deferred} {ops:List Oper} {Q:Exit→Act→World→Prop} {o:Oper} {rest:List Oper} {env:Env} {bxs:List Bx}
theorem Iv (k:Nat) (pre:List Value) (l:List Sd) (junk:List Value) (ys:List Value) {c:Call} {f:Operand} {d g cap off m:Nat} {xs:List Value}
  (hg:A9 ops N env o=some true) (hd:o.dst=some d) (ho:o.op= .call c) (hc:c.callee= .value f) (hf:evO N env f=some (.func (.func 189) #[] #[])) (ha:Cj (evO N env) c.args.toList=some [.slice (some ⟨g,off,none⟩) m cap])
  (hk:nth bxs k=some ⟨g,42,xs,true,none⟩) (hm:m=l.length) (hoff:off=pre.length) (hxs:xs=pre++(cellsOf l++junk)) (hys:pre++(cellsOf l.reverse++junk)=ys) (hn:l.length<4611686018427387904)
  (h:WL r n Tryz.prog N D ops Q rest ((d, .tuple #[])::env) (Hp W0 (bxs.set k ⟨g,42,ys,true,none⟩))):WL r n Tryz.prog N D ops Q (o::rest) env (Hp W0 bxs):=by
 subst hm;subst hxs;subst hys
 refine BX (X:=Unit) (val:=fun _=> .tuple #[]) (Φ:=fun _=>True) (capt:=[]) k (B:=⟨g,42,pre++(cellsOf l++junk),true,none⟩) (L1:=[]) (L2:=[]) (b:=g) (ob:= .cells (pre++(cellsOf l++junk)).toArray 42 (0,0)) (fun _=>⟨g,42,pre++(cellsOf l.reverse++junk),true,none⟩) (g':=fun _=>g) (o':=fun _=> .cells (pre++(cellsOf l.reverse++junk)).toArray 42 (0,0))
  hg hd ho hc hf ha (by kernel_rfl) hk rfl (fun _ _=>rfl) (fun W hp=> ?_) (fun _ _=>h)
 have hk':bxs[k]? =some ⟨g,42,pre++(cellsOf l++junk),true,none⟩:=by rw[←AV];exact hk
 exact MQ W g cap off pre junk l hoff hn (hp.own.cell k _ hk' (g, .cells (pre++(cellsOf l++junk)).toArray 42 (0,0)) (List.mem_cons_self ..)).1
end
theorem NR (W:World) (g cap off:Nat) (pre junk:List Value) (l:List Int) (hoff:off=pre.length) (hn:l.length<4611686018427387904) (hg:W.heap[g]? =some (.cells (pre++(ci l++junk)).toArray 3 (0,0))):
  Calls Tryz.prog 191 #[.slice (some ⟨g,off,none⟩) l.length cap] W fun e W'=> ∃x:Unit,e= .returned ((fun _=> .tuple #[]) x)∧True∧FL W W' g ((fun _=>g) x) ((fun _=> .cells (pre++(ci l.reverse++junk)).toArray 3 (0,0)) x):=by
 subst hoff
 have key:Calls Tryz.prog 191 [.slice (some ⟨g,pre.length,none⟩) l.length cap].toArray W fun e W'=> ∃x:Unit,e= .returned ((fun _=> .tuple #[]) x)∧(fun _=>True) x∧Below (AK W).heap.size (AK W) W'∧Ag (AK W) W' ((fun _=>[AI (Ar W g),⟨g,3,pre++(ci l.reverse++junk),true,none⟩]) x):=by
  refine Be (X:=Unit) (val:=fun _=> .tuple #[]) (Φ:=fun _=>True) (nb:=fun _=>[AI (Ar W g),⟨g,3,pre++(ci l.reverse++junk),true,none⟩]) (Hp.enterT (B:=⟨g,3,pre++(ci l++junk),true,none⟩) rfl hg) Tryz.func191 rfl rfl rfl ?_
  refine zA (zB (wP rfl (wP rfl (wP rfl ?_))))
  refine Ac 6 (.int .i64 ((l.length:Nat)-1-(0:Nat))) rfl (congrArg (Value.int .i64) (show w64 ((l.length:Nat)-1)=_ by rw[As (by omega) (by omega)];omega)) ?_
  refine wP rfl (wP rfl (Aa (zE (zH ?_))))
  refine Az (X:=Nat) (fun k=>[(0, .slice (some ⟨g,pre.length,none⟩) l.length cap),(2, .int .i64 (k:Nat)),(3, .int .i64 ((l.length:Nat)-1-(k:Nat)))]) (fun k=>[AI (Ar W g),⟨g,3,pre++(ci (swG 0 l k)++junk),true,none⟩])
   (fun k=>2*k≤l.length) (fun k=>l.length-k) 0 (Nat.zero_le _) ⟨rfl,rfl,rfl,trivial⟩ [] (by show _=_++[];rw[PW];rfl) ?_
  intro k hk
  refine zA (zA (zB (wP rfl (wP rfl (wP rfl (Aa (zE ?_)))))))
  refine Al rfl (fun h=> ?_) (fun h=> ?_)
  rotate_left
  ·have hd: ¬k<l.length-1-k:=by
    have h':decide ((k:Int)<(l.length:Nat)-1-(k:Nat))=false:=h
    rw[decide_eq_false_iff_not] at h';omega
   rw[Qb 0 hd]
   refine zJ (zK (zK (zL ?_)))
   refine CW (X:=Unit) (val:=fun _=> .tuple #[]) (Φ:=fun _=>True) (nb:=fun _=>[AI (Ar W g),⟨g,3,pre++(ci l.reverse++junk),true,none⟩]) (fn:=Tryz.f191) tH rfl () rfl trivial fun W1 hp=> ?_
   exact(hp.pick (l:=[AI (Ar W g),⟨g,3,pre++(ci l.reverse++junk),true,none⟩]) [0,1] (by decide) rfl).own
  have hd:k<l.length-1-k:=by
   have h':decide ((k:Int)<(l.length:Nat)-1-(k:Nat))=true:=h
   rw[decide_eq_true_iff] at h';omega
  clear h
  have e3:((l.length:Nat):Int)-1-(k:Nat)=((l.length-1-k:Nat):Int):=by omega
  have s1:(swG 0 l k).getD (l.length-1-k) 0=l.getD (l.length-1-k) 0:=by rw[Hc 0 (by omega),if_neg (by omega)]
  have s2:(swG 0 l k).getD k 0=l.getD k 0:=by rw[Hc 0 (by omega),if_neg (by omega)]
  refine zI (zE ?_)
  refine AW 3 (.int .i64 ((l.length-1-k:Nat):Int)) rfl (congrArg (Value.int .i64) e3) ?_
  refine AL (B6 ?_)
  repeat refine AL ?_
  refine BW (X:=Unit) [true,true,false,false,true,true,true,true,true,true,true,true,true,false,false,false] (fun _=>[(0, .slice (some ⟨g,pre.length,none⟩) l.length cap),(2, .int .i64 (k:Nat)),(3, .int .i64 ((l.length-1-k:Nat):Int))]) (fun _=>[AI (Ar W g),⟨g,3,pre++(ci (swG 0 l (k+1))++junk),true,none⟩])
   5 [AI (Ar W g),⟨g,3,pre++(ci (swG 0 l k)++junk),true,none⟩] Tryz.mixed (by kernel_rfl) ?_ ?_
  ·refine qP rfl (qP rfl (qP rfl (qP rfl ?_)))
   refine qJ ?_
   refine Ap rfl rfl rfl rfl (fun W hp=>Ae.load 0 tH rfl ((fun W1 hp=>show Ae W1 g (pre.length+(l.length-1-k)*1) [Value.int .i64 (l.getD (l.length-1-k) 0)] from by rw[←s1];exact PU hp 1 rfl (by rw[AU];omega)) W hp) rfl) ?_
   refine qP rfl (qP rfl ?_)
   refine qJ ?_
   refine Ap rfl rfl rfl rfl (fun W hp=>Ae.load 0 tH rfl ((fun W1 hp=>show Ae W1 g (pre.length+k*1) [Value.int .i64 (l.getD (k) 0)] from by rw[←s2];exact PU hp 1 rfl (by rw[AU];omega)) W hp) rfl) ?_
   refine qJ ?_
   refine CX ?_
   have h1:AS (pre++(ci (swG 0 l k)++junk)) (pre.length+k*1) (Value.int .i64 (l.getD (l.length-1-k) 0)).cells.toList=pre++(ci ((swG 0 l k).set k (l.getD (l.length-1-k) 0))++junk):=by
    rw[Bj];congr 1;exact Pc _ (by rw[AU];omega)
   have h2:AS (pre++(ci ((swG 0 l k).set k (l.getD (l.length-1-k) 0))++junk)) (pre.length+(l.length-1-k)*1) (Value.int .i64 (l.getD (k) 0)).cells.toList=pre++(ci (swG 0 l (k+1))++junk):=by
    rw[Bj,Qu 0 hd];congr 1;exact Pc _ (by rw[List.length_set,AU];omega)
   refine wX ?_
   refine RS.cons ?_ (RS.cons ?_ (RS.cons ?_ (RS.nil)))
   ·refine wP rfl (Aa (Ah ?_))
    refine wX ?_
    refine RS.cons ?_ (RS.cons ?_ (RS.nil))
    ·refine wP rfl (Aa (Ah ?_))
     refine wX ?_
     refine RS.cons ?_ (RS.nil)
     refine Aj 1 _ tH rfl rfl rfl rfl rfl rfl rfl rfl rfl rfl (by show pre.length+k*1+1≤(pre++(ci (swG 0 l k)++junk)).length;rw[List.length_append,List.length_append,BJ,AU];omega) h1 ?_
     refine Aa (Ah ?_)
     refine wY ?_
     refine RS.cons ?_ (RS.nil)
     refine wJ ?_
     refine Aa (Ah ?_)
     refine wY ?_
     refine RS.cons ?_ (RS.nil)
     refine Aj 1 _ tH rfl rfl rfl rfl rfl rfl rfl rfl rfl rfl (by show pre.length+(l.length-1-k)*1+1≤(pre++(ci ((swG 0 l k).set k (l.getD (l.length-1-k) 0))++junk)).length;rw[List.length_append,List.length_append,BJ,List.length_set,AU];omega) h2 ?_
     refine Aa (Ah ?_)
     refine A3 rfl (by kernel_rfl) ?_
     exact Ax () ⟨rfl,rfl,rfl,trivial⟩ [0,1] (by decide) rfl
    ·refine Aj 1 _ tH rfl rfl rfl rfl rfl rfl rfl rfl rfl rfl (by show pre.length+k*1+1≤(pre++(ci (swG 0 l k)++junk)).length;rw[List.length_append,List.length_append,BJ,AU];omega) h1 ?_
     refine Aa (Ah ?_)
     refine wY ?_
     refine RS.cons ?_ (RS.nil)
     refine wP rfl (Aa (Ah ?_))
     refine wY ?_
     refine RS.cons ?_ (RS.nil)
     refine wJ ?_
     refine Aa (Ah ?_)
     refine wY ?_
     refine RS.cons ?_ (RS.nil)
     refine Aj 1 _ tH rfl rfl rfl rfl rfl rfl rfl rfl rfl rfl (by show pre.length+(l.length-1-k)*1+1≤(pre++(ci ((swG 0 l k).set k (l.getD (l.length-1-k) 0))++junk)).length;rw[List.length_append,List.length_append,BJ,List.length_set,AU];omega) h2 ?_
     refine Aa (Ah ?_)
     refine A3 rfl (by kernel_rfl) ?_
     exact Ax () ⟨rfl,rfl,rfl,trivial⟩ [0,1] (by decide) rfl
   ·refine wP rfl (Aa (Ah ?_))
    refine wX ?_
    refine RS.cons ?_ (RS.cons ?_ (RS.nil))
    ·refine wP rfl (Aa (Ah ?_))
     refine wX ?_
     refine RS.cons ?_ (RS.nil)
     refine Aj 1 _ tH rfl rfl rfl rfl rfl rfl rfl rfl rfl rfl (by show pre.length+k*1+1≤(pre++(ci (swG 0 l k)++junk)).length;rw[List.length_append,List.length_append,BJ,AU];omega) h1 ?_
     refine Aa (Ah ?_)
     refine wY ?_
     refine RS.cons ?_ (RS.nil)
     refine wJ ?_
     refine Aa (Ah ?_)
     refine wY ?_
     refine RS.cons ?_ (RS.nil)
     refine Aj 1 _ tH rfl rfl rfl rfl rfl rfl rfl rfl rfl rfl (by show pre.length+(l.length-1-k)*1+1≤(pre++(ci ((swG 0 l k).set k (l.getD (l.length-1-k) 0))++junk)).length;rw[List.length_append,List.length_append,BJ,List.length_set,AU];omega) h2 ?_
     refine Aa (Ah ?_)
     refine A3 rfl (by kernel_rfl) ?_
     exact Ax () ⟨rfl,rfl,rfl,trivial⟩ [0,1] (by decide) rfl
    ·refine Aj 1 _ tH rfl rfl rfl rfl rfl rfl rfl rfl rfl rfl (by show pre.length+k*1+1≤(pre++(ci (swG 0 l k)++junk)).length;rw[List.length_append,List.length_append,BJ,AU];omega) h1 ?_
     refine Aa (Ah ?_)
     refine wY ?_
     refine RS.cons ?_ (RS.nil)
     refine wP rfl (Aa (Ah ?_))
     refine wY ?_
     refine RS.cons ?_ (RS.nil)
     refine wJ ?_
     refine Aa (Ah ?_)
     refine wY ?_
     refine RS.cons ?_ (RS.nil)
     refine Aj 1 _ tH rfl rfl rfl rfl rfl rfl rfl rfl rfl rfl (by show pre.length+(l.length-1-k)*1+1≤(pre++(ci ((swG 0 l k).set k (l.getD (l.length-1-k) 0))++junk)).length;rw[List.length_append,List.length_append,BJ,List.length_set,AU];omega) h2 ?_
     refine Aa (Ah ?_)
     refine A3 rfl (by kernel_rfl) ?_
     exact Ax () ⟨rfl,rfl,rfl,trivial⟩ [0,1] (by decide) rfl
   ·refine Aj 1 _ tH rfl rfl rfl rfl rfl rfl rfl rfl rfl rfl (by show pre.length+k*1+1≤(pre++(ci (swG 0 l k)++junk)).length;rw[List.length_append,List.length_append,BJ,AU];omega) h1 ?_
    refine Aa (Ah ?_)
    refine wY ?_
    refine RS.cons ?_ (RS.cons ?_ (RS.nil))
    ·refine wP rfl (Aa (Ah ?_))
     refine wY ?_
     refine RS.cons ?_ (RS.nil)
     refine wP rfl (Aa (Ah ?_))
     refine wY ?_
     refine RS.cons ?_ (RS.nil)
     refine wJ ?_
     refine Aa (Ah ?_)
     refine wY ?_
     refine RS.cons ?_ (RS.nil)
     refine Aj 1 _ tH rfl rfl rfl rfl rfl rfl rfl rfl rfl rfl (by show pre.length+(l.length-1-k)*1+1≤(pre++(ci ((swG 0 l k).set k (l.getD (l.length-1-k) 0))++junk)).length;rw[List.length_append,List.length_append,BJ,List.length_set,AU];omega) h2 ?_
     refine Aa (Ah ?_)
     refine A3 rfl (by kernel_rfl) ?_
     exact Ax () ⟨rfl,rfl,rfl,trivial⟩ [0,1] (by decide) rfl
    ·refine wP rfl (Aa (Ah ?_))
     refine wY ?_
     refine RS.cons ?_ (RS.nil)
     refine wP rfl (Aa (Ah ?_))
     refine wY ?_
     refine RS.cons ?_ (RS.nil)
     refine wJ ?_
     refine Aa (Ah ?_)
     refine wY ?_
     refine RS.cons ?_ (RS.nil)
     refine Aj 1 _ tH rfl rfl rfl rfl rfl rfl rfl rfl rfl rfl (by show pre.length+(l.length-1-k)*1+1≤(pre++(ci ((swG 0 l k).set k (l.getD (l.length-1-k) 0))++junk)).length;rw[List.length_append,List.length_append,BJ,List.length_set,AU];omega) h2 ?_
     refine Aa (Ah ?_)
     refine A3 rfl (by kernel_rfl) ?_
     exact Ax () ⟨rfl,rfl,rfl,trivial⟩ [0,1] (by decide) rfl
  intro _
  refine zN (zE (zB (wP rfl (wP rfl (wP rfl (wP rfl ?_))))))
  refine Ac 13 (.int .i64 ((l.length:Nat)-1-((k+1:Nat):Int))) rfl (congrArg (Value.int .i64) (show w64 (((l.length-1-k:Nat):Int)-1)=_ by rw[As (by omega) (by omega)];omega)) ?_
  refine wP rfl (wP rfl (Aa ?_))
  exact At (k+1) (by show 2*(k+1)≤l.length;omega) (by omega) ⟨rfl,congrArg (fun z=>some (Value.int .i64 z)) (A6 (x:=(k:Int)+1) (by omega) (by omega)),rfl,trivial⟩ [] rfl
 refine key.mono ?_
 rintro e W' ⟨x,he,_,hb,hn'⟩
 exact⟨x,he,trivial,CN hg rfl hb hn'⟩
section
variable {r:Option Nat} {n:Nat} {W0:World} {N:Nat} {D:List Deferred} {ops:List Oper} {Q:Exit→Act→World→Prop} {o:Oper} {rest:List Oper} {env:Env} {bxs:List Bx}
theorem Ki (k:Nat) (pre:List Value) (l:List Int) (junk:List Value) (ys:List Value) {c:Call} {f:Operand} {d g cap off m:Nat} {xs:List Value}
  (hg:A9 ops N env o=some true) (hd:o.dst=some d) (ho:o.op= .call c) (hc:c.callee= .value f) (hf:evO N env f=some (.func (.func 191) #[] #[])) (ha:Cj (evO N env) c.args.toList=some [.slice (some ⟨g,off,none⟩) m cap])
  (hk:nth bxs k=some ⟨g,3,xs,true,none⟩) (hm:m=l.length) (hoff:off=pre.length) (hxs:xs=pre++(ci l++junk)) (hys:pre++(ci l.reverse++junk)=ys) (hn:l.length<4611686018427387904)
  (h:WL r n Tryz.prog N D ops Q rest ((d, .tuple #[])::env) (Hp W0 (bxs.set k ⟨g,3,ys,true,none⟩))):WL r n Tryz.prog N D ops Q (o::rest) env (Hp W0 bxs):=by
 subst hm;subst hxs;subst hys
 refine BX (X:=Unit) (val:=fun _=> .tuple #[]) (Φ:=fun _=>True) (capt:=[]) k (B:=⟨g,3,pre++(ci l++junk),true,none⟩) (L1:=[]) (L2:=[]) (b:=g) (ob:= .cells (pre++(ci l++junk)).toArray 3 (0,0)) (fun _=>⟨g,3,pre++(ci l.reverse++junk),true,none⟩) (g':=fun _=>g) (o':=fun _=> .cells (pre++(ci l.reverse++junk)).toArray 3 (0,0))
  hg hd ho hc hf ha (by kernel_rfl) hk rfl (fun _ _=>rfl) (fun W hp=> ?_) (fun _ _=>h)
 have hk':bxs[k]? =some ⟨g,3,pre++(ci l++junk),true,none⟩:=by rw[←AV];exact hk
 exact NR W g cap off pre junk l hoff hn (hp.own.cell k _ hk' (g, .cells (pre++(ci l++junk)).toArray 3 (0,0)) (List.mem_cons_self ..)).1
end
theorem Og (W:World) (b off cap:Nat) (l:List Int) (hn:l.length<1099511627776) (hR:Ae W b off (ci l)) (hne:l≠[]):
  Ai Tryz.prog 190 #[.slice (some ⟨b,off,none⟩) l.length cap] W (fun V:Vec=>V.val l.length) (fun V=>V.OK 1 l.length (ci l)∧V.p≠none) (fun V=>[V.bx 3 (ci l)]):=by
 refine Ad (args:=[.slice (some ⟨b,off,none⟩) l.length cap]) Tryz.func190 rfl rfl rfl ?_
 refine zA (zB (wP rfl (Aa (zE (zA (zA (zB (wP rfl ?_))))))))
 refine Q3 tH rfl rfl rfl rfl rfl rfl rfl ?_
 refine zC (zE (zS rfl (zI (zE (zA (zB ?_))))))
 refine IdZ tH rfl rfl rfl rfl rfl ?_
 intro g
 refine wP rfl ?_
 refine E1 (len:=0) (V:=⟨some g,0,[]⟩) (xs:=[]) 0 Tryz.vec58 rfl rfl rfl rfl rfl rfl rfl rfl rfl ⟨rfl,(fun h=>by cases h),fun _=>⟨Nat.le_refl _,Nat.zero_le _,rfl⟩⟩ (BJ l) (fun W hp j u hj=> ?_) (YI _) (by simp only[maxLen];omega) (by omega) ?_
 ·rw[Addr.add_none]
  exact(hR.hp hp).get j u hj
 intro V hV hp0
 refine wP rfl (Aa (zE (zO ?_)))
 have e0:0+l.length=l.length:=Nat.zero_add _
 rw[e0,List.nil_append] at hV
 exact Af tH rfl (.tmp rfl) V (by rw[e0]) ⟨hV,fun h=>hne (List.length_eq_zero_iff.1 (hp0 h))⟩ fun W hp=>Ag.of_hp1 hp 0 rfl
theorem MM (W:World) (p:Option Addr) (cap:Nat) (l:List Sd) (k:Nat) (hk:k<l.length) (hn:l.length<1099511627776) (hR:Br W p l):
  Ai Tryz.prog 113 #[.slice p l.length cap, .int .i64 (k:Nat)] W (fun V:Vec=>V.val l.length) (fun V=>V.OK 7 l.length (cellsOf (rot l k))∧V.p≠none) (fun V=>[V.bx 42 (cellsOf (rot l k))]):=by
 have hne:l≠[]:=fun h=>by subst h;exact absurd hk (Nat.not_lt_zero _)
 refine Ad (args:=[.slice p l.length cap, .int .i64 (k:Nat)]) Tryz.func113 rfl rfl rfl ?_
 refine zA (zB (wP rfl (Aa (zE (zA (zB (wP rfl ?_)))))))
 refine Ay (X:=Vec) rfl rfl rfl rfl rfl rfl (by kernel_rfl) (fun W hp=>K7 W p cap l hn (hR.hp hp) hne) ?_
 rintro U0 ⟨hU0,hUp⟩
 obtain⟨pU,capU,junk⟩:=U0
 cases pU with
 |none=>exact absurd rfl hUp
 |some gU=>
 obtain⟨hc0,hc1,hc2⟩:=hU0.cap (by simp)
 have hc0:l.length≤capU:=hc0
 have hc2:(cellsOf l).length+junk.length=capU*7:=hc2
 have et:(l.take k).length=k:=by rw[List.length_take];omega
 have e1:cellsOf l++junk=[]++(cellsOf (l.take k)++(cellsOf (l.drop k)++junk)):=by
  rw[List.nil_append, ←List.append_assoc, ←Dn,List.take_append_drop]
 have e2:[]++(cellsOf (l.take k).reverse++(cellsOf (l.drop k)++junk))=cellsOf (l.take k).reverse++(cellsOf (l.drop k)++junk):=List.nil_append _
 have e3:cellsOf (l.take k).reverse++(cellsOf (l.drop k).reverse++junk)=[]++(cellsOf (rot l k).reverse++junk):=by
  rw[List.nil_append, ←List.append_assoc, ←Dn,rot,List.reverse_append]
 have e4:[]++(cellsOf (rot l k).reverse.reverse++junk)=cellsOf (rot l k)++junk:=by rw[List.nil_append,List.reverse_reverse]
 refine wP rfl (Aa (zE (zA (zB (wP rfl (wP rfl ?_))))))
 refine DD k tH rfl rfl rfl rfl rfl rfl rfl rfl (by omega) ?_
 refine Iv 0 [] (l.take k) (cellsOf (l.drop k)++junk) _ rfl rfl rfl rfl rfl rfl rfl et.symm rfl e1 e2 (by rw[et];omega) ?_
 refine zC (zE (zA (zB (wP rfl (wP rfl ?_)))))
 refine BC k tH rfl rfl rfl rfl rfl rfl rfl rfl (by omega) hc0 ?_
 refine Iv 0 (cellsOf (l.take k).reverse) (l.drop k) junk _ rfl rfl rfl rfl rfl rfl rfl (by rw[List.length_drop]) (by rw[if_neg (by omega),A7,List.length_reverse,et];exact Nat.zero_add _) rfl e3 (by rw[List.length_drop];omega) ?_
 refine zC (zE (zA (zB (wP rfl ?_))))
 refine Iv 0 [] (rot l k).reverse junk _ rfl rfl rfl rfl rfl rfl rfl (by rw[List.length_reverse,Cu]) rfl rfl e4 (by rw[List.length_reverse,Cu];omega) ?_
 refine zC (zE (zA (zB (wP rfl (wP rfl (Aa (zE (zO ?_))))))))
 refine Af tH rfl (.tmp rfl) ⟨some gU,capU,junk⟩ rfl ⟨⟨by rw[A7,Cu],(fun h=>by cases h),fun _=>⟨hc0,hc1, ?_⟩⟩,hUp⟩ fun W hp=>Ag.of_hp1 hp 0 rfl
 show(cellsOf (rot l k)).length+junk.length=capU*7
 rw[←hc2,A7,A7,Cu]
theorem OI (W:World) (b off:Nat) (cap:Nat) (l:List Int) (k:Nat) (hk:k<l.length) (hn:l.length<1099511627776) (hR:Ae W b off (ci l)):
  Ai Tryz.prog 114 #[.slice (some ⟨b,off,none⟩) l.length cap, .int .i64 (k:Nat)] W (fun V:Vec=>V.val l.length) (fun V=>V.OK 1 l.length (ci (rot l k))∧V.p≠none) (fun V=>[V.bx 3 (ci (rot l k))]):=by
 have hne:l≠[]:=fun h=>by subst h;exact absurd hk (Nat.not_lt_zero _)
 refine Ad (args:=[.slice (some ⟨b,off,none⟩) l.length cap, .int .i64 (k:Nat)]) Tryz.func114 rfl rfl rfl ?_
 refine zA (zB (wP rfl (Aa (zE (zA (zB (wP rfl ?_)))))))
 refine Ay (X:=Vec) rfl rfl rfl rfl rfl rfl (by kernel_rfl) (fun W hp=>Og W b off cap l hn (hR.hp hp) hne) ?_
 rintro U0 ⟨hU0,hUp⟩
 obtain⟨pU,capU,junk⟩:=U0
 cases pU with
 |none=>exact absurd rfl hUp
 |some gU=>
 obtain⟨hc0,hc1,hc2⟩:=hU0.cap (by simp)
 have hc0:l.length≤capU:=hc0
 have hc2:(ci l).length+junk.length=capU*1:=hc2
 have et:(l.take k).length=k:=by rw[List.length_take];omega
 have e1:ci l++junk=[]++(ci (l.take k)++(ci (l.drop k)++junk)):=by
  rw[List.nil_append, ←List.append_assoc, ←JH,List.take_append_drop]
 have e2:[]++(ci (l.take k).reverse++(ci (l.drop k)++junk))=ci (l.take k).reverse++(ci (l.drop k)++junk):=List.nil_append _
 have e3:ci (l.take k).reverse++(ci (l.drop k).reverse++junk)=[]++(ci (rot l k).reverse++junk):=by
  rw[List.nil_append, ←List.append_assoc, ←JH,rot,List.reverse_append]
 have e4:[]++(ci (rot l k).reverse.reverse++junk)=ci (rot l k)++junk:=by rw[List.nil_append,List.reverse_reverse]
 refine wP rfl (Aa (zE (zA (zB (wP rfl (wP rfl ?_))))))
 refine DD k tH rfl rfl rfl rfl rfl rfl rfl rfl (by omega) ?_
 refine Ki 0 [] (l.take k) (ci (l.drop k)++junk) _ rfl rfl rfl rfl rfl rfl rfl et.symm rfl e1 e2 (by rw[et];omega) ?_
 refine zC (zE (zA (zB (wP rfl (wP rfl ?_)))))
 refine BC k tH rfl rfl rfl rfl rfl rfl rfl rfl (by omega) hc0 ?_
 refine Ki 0 (ci (l.take k).reverse) (l.drop k) junk _ rfl rfl rfl rfl rfl rfl rfl (by rw[List.length_drop]) (by rw[if_neg (by omega),BJ,List.length_reverse,et];exact Nat.zero_add _) rfl e3 (by rw[List.length_drop];omega) ?_
 refine zC (zE (zA (zB (wP rfl ?_))))
 refine Ki 0 [] (rot l k).reverse junk _ rfl rfl rfl rfl rfl rfl rfl (by rw[List.length_reverse,Cu]) rfl rfl e4 (by rw[List.length_reverse,Cu];omega) ?_
 refine zC (zE (zA (zB (wP rfl (wP rfl (Aa (zE (zO ?_))))))))
 refine Af tH rfl (.tmp rfl) ⟨some gU,capU,junk⟩ rfl ⟨⟨by rw[BJ,Cu],(fun h=>by cases h),fun _=>⟨hc0,hc1, ?_⟩⟩,hUp⟩ fun W hp=>Ag.of_hp1 hp 0 rfl
 show(ci (rot l k)).length+junk.length=capU*1
 rw[←hc2,BJ,BJ,Cu]
-- BOXES 3
theorem Kx (a:Int):Bv Tryz.prog 245 [.int .i64 a] (.bool false):=by
 intro W
 refine Ad (args:=[.int .i64 a]) Tryz.func245 rfl rfl rfl ?_
 refine zA (zB (wP rfl (Aa (zE (zA (zB (wP rfl (wP rfl (wP rfl ?_)))))))))
 refine Ac 5 (.bool false) rfl (congrArg Value.bool (show(a !=a)=false by simp)) ?_
 refine wP rfl (Aa (zE (zO ?_)))
 exact Af tH rfl (.tmp rfl) () rfl trivial fun W _=>Ag.nil _ _
theorem Hv (a b:Int):Bv Tryz.prog 188 [.int .i64 a, .int .i64 b] (.int .i64 (Ic a b)):=by
 intro W
 refine Ad (args:=[.int .i64 a, .int .i64 b]) Tryz.func188 rfl rfl rfl ?_
 refine zA (zB (wP rfl (Aa (zE (zA (zB (wP rfl ?_)))))))
 refine Ab rfl rfl rfl rfl rfl rfl (by kernel_rfl) (fun W _=>Kx a W) ?_
 refine wP rfl (Aa (zE (zA (zB (wP rfl ?_)))))
 refine Ab rfl rfl rfl rfl rfl rfl (by kernel_rfl) (fun W _=>Kx b W) ?_
 refine wP rfl (Aa (zE (zA (zA (zB (wP rfl (Aa (zE (zS rfl (zI (zE (zA (zA ?_)))))))))))))
 refine zB (wP rfl (Aa (zE (zS rfl (zI (zE (zA (zA (zB (wP rfl (wP rfl (wP rfl (Aa ?_)))))))))))))
 refine zE ?_
 refine Al rfl (fun h=> ?_) (fun h=> ?_)
 ·have h':a<b:=by have h2:decide (a<b)=true:=h;simpa using h2
  have e:Ic a b= -1:=by unfold Ic;rw[if_pos h']
  refine zA (zB (wP rfl (Aa (zE (zO (zP ?_))))))
  exact Af tH rfl (.tmp rfl) () (by rw[e]) trivial fun W _=>Ag.nil _ _
 have h1: ¬a<b:=by have h2:decide (a<b)=false:=h;simpa using h2
 clear h
 refine zI (zE (zA (zA (zB (wP rfl (wP rfl (wP rfl (Aa (zE ?_)))))))))
 refine Al rfl (fun h=> ?_) (fun h=> ?_)
 ·have h':a>b:=by have h2:decide (a>b)=true:=h;simpa using h2
  have e:Ic a b=1:=by unfold Ic;rw[if_neg h1,if_pos h']
  refine zA (zB (wP rfl (Aa (zE (zO (zP ?_))))))
  exact Af tH rfl (.tmp rfl) () (by rw[e]) trivial fun W _=>Ag.nil _ _
 have h2: ¬a>b:=by have h2:decide (a>b)=false:=h;simpa using h2
 have e:Ic a b=0:=by unfold Ic;rw[if_neg h1,if_neg h2]
 refine zI (zE (zA (zB (wP rfl (Aa (zE (zO ?_)))))))
 exact Af tH rfl (.tmp rfl) () (by rw[e]) trivial fun W _=>Ag.nil _ _
theorem UD (W:World) (g:Nat) (a b:Int) (h:Ae W g 0 [.int .i64 a, .int .i64 b]):
  Ai Tryz.prog 81 #[.slice (some ⟨g,0,none⟩) 2 2] W (fun _:Unit=> .int .i64 (if a≠0 then a else b)) (fun _=>True) (fun _=>[]):=by
 refine Ad (args:=[.slice (some ⟨g,0,none⟩) 2 2]) Tryz.func81 rfl rfl rfl ?_
 have h0:Ae W g (0+0*1) [.int .i64 a]:=⟨h.lt,fun j u hu=>h.get j u (by cases j with|zero=>exact hu|succ j=>cases hu)⟩
 have h1:Ae W g (0+1*1) [.int .i64 b]:=⟨h.lt,fun j u hu=>by
  cases j with
  |zero=>exact h.get 1 u hu
  |succ j=>cases hu⟩
 refine zA (zB (wP rfl (Aa (zE (zA (zB (wP rfl (Aa (zE (zA (zA (zB (wP rfl (wP rfl (wP rfl ?_)))))))))))))))
 refine Aa (zE (zH ?_))
 refine Az (X:=Nat) (fun k=>[(3, .int .i64 0),(6, .slice (some ⟨g,0,none⟩) 2 2),(7, .int .i64 2),(8, .int .i64 (k:Nat))]) (fun _=>[]) (fun k=>k≤2∧(0<k→a=0)∧(1<k→b=0)) (fun k=>2-k) 0 ⟨by omega,fun h=>absurd h (by omega),fun h=>absurd h (by omega)⟩ ⟨rfl,rfl,rfl,rfl,trivial⟩ [] rfl ?_
 rintro k ⟨hk,ha,hb⟩
 refine zA (zB (wP rfl (Aa (zE (zA ?_)))))
 refine Al rfl (fun h=> ?_) (fun h=> ?_)
 rotate_left
 ·have e:k=2:=by have h':decide ((k:Int)<2)=false:=h;rw[decide_eq_false_iff_not] at h';omega
  refine zJ (zK (zK (zL (zE (zA (zB (wP rfl (wP rfl (Aa (zE (zO ?_)))))))))))
  exact Af tH rfl (.tmp rfl) () (by rw[if_neg (fun h=>h (ha (by omega))),hb (by omega)]) trivial fun W _=>Ag.nil _ _
 have hk:k<2:=by have h':decide ((k:Int)<2)=true:=h;rw[decide_eq_true_iff] at h';omega
 clear h
 rcases(show k=0∨k=1 by omega) with rfl|rfl
 ·refine zI (zE (zA (zH (zA (zB ?_)))))
  refine wJ ?_
  refine Av rfl rfl rfl rfl (fun W hp=>Ae.load 0 tH rfl ((fun W hp=>h0.hp hp) W hp) rfl) ?_
  refine wP rfl (Aa (zE (zA (zB (wP rfl (wP rfl (wP rfl (Aa (zE ?_)))))))))
  refine Al rfl (fun hx=> ?_) (fun hx=> ?_)
  ·have hx:a≠0:=by have h':(a !=0)=true:=hx;simpa using h'
   refine zA (zB (wP rfl (wP rfl (Aa (zE (zO (zQ (zP (zP (zQ (zP ?_)))))))))))
   exact Af tH rfl (.tmp rfl) () (by rw[if_pos hx]) trivial fun W _=>Ag.nil _ _
  ·have hx:a=0:=by have h':(a !=0)=false:=hx;simpa using h'
   refine zI (zN (zE (zB (wP rfl (wP rfl (Aa ?_))))))
   exact At 1 ⟨by omega,fun _=>hx,fun h=>absurd h (by omega)⟩ (by omega) ⟨rfl,rfl,rfl,rfl,trivial⟩ [] rfl
 ·refine zI (zE (zA (zH (zA (zB ?_)))))
  refine wJ ?_
  refine Av rfl rfl rfl rfl (fun W hp=>Ae.load 0 tH rfl ((fun W hp=>h1.hp hp) W hp) rfl) ?_
  refine wP rfl (Aa (zE (zA (zB (wP rfl (wP rfl (wP rfl (Aa (zE ?_)))))))))
  refine Al rfl (fun hx=> ?_) (fun hx=> ?_)
  ·refine zA (zB (wP rfl (wP rfl (Aa (zE (zO (zQ (zP (zP (zQ (zP ?_)))))))))))
   exact Af tH rfl (.tmp rfl) () (by rw[if_neg (fun h=>h (ha (by omega)))]) trivial fun W _=>Ag.nil _ _
  ·have hx:b=0:=by have h':(b !=0)=false:=hx;simpa using h'
   refine zI (zN (zE (zB (wP rfl (wP rfl (Aa ?_))))))
   exact At 2 ⟨by omega,fun _=>ha (by omega),fun _=>hx⟩ (by omega) ⟨rfl,rfl,rfl,rfl,trivial⟩ [] rfl
theorem GZ (a b:Sd):Bv Tryz.prog 111 [a.val,b.val] (.int .i64 (D1 a b)):=by
 intro W
 refine Ad (args:=[a.val,b.val]) Tryz.func111 rfl rfl rfl ?_
 refine zA (zB ?_)
 (refine A0 rfl rfl rfl rfl ?_;intro)
 (refine A0 rfl rfl rfl rfl ?_;intro)
 refine wP rfl (Aa ?_)
 rename_i b2 b3
 refine zE (zA ?_)
 refine zT Tryz.mixed (by kernel_rfl) ?_
 refine qP rfl (qB 0 rfl rfl rfl (qP rfl (qB 1 rfl rfl rfl ?_)))
 refine A8 rfl rfl rfl rfl rfl rfl (by kernel_rfl) (fun W _=>Hv a.x b.x W) ?_
 refine qP rfl (qB 0 rfl rfl rfl (qP rfl (qB 1 rfl rfl rfl ?_)))
 refine A8 rfl rfl rfl rfl rfl rfl (by kernel_rfl) (fun W _=>Hv a.y b.y W) ?_
 refine AE ?_
 (refine A4 Tryz.hZ tH rfl rfl rfl rfl rfl rfl rfl rfl rfl rfl rfl ?_;intro)
 rename_i b15
 refine Ab rfl rfl rfl rfl rfl rfl (by kernel_rfl) (fun W hp=>UD W b15 (Ic a.x b.x) (Ic a.y b.y) (Ae.of_bx hp 2 rfl rfl)) ?_
 refine wP rfl (Aa (zE (zO ?_)))
 exact Af tH rfl (.tmp rfl) () (rfl) trivial fun W _=>Ag.nil _ _
theorem MB (W:World) (p:Option Addr) (cap:Nat) (l:List Sd) (h0:0<l.length) (hn:l.length<4611686018427387904) (hR:Br W p l):
  Ai Tryz.prog 112 #[slv p l.length cap, .func (.func 111) #[] #[]] W (fun _:Unit=>(sd l (atS l)).val) (fun _=>True) (fun _=>[]):=by
 obtain⟨bq,oq,rfl,hrq⟩:=hR.row h0
 refine Ad (args:=[slv (some ⟨bq,oq,none⟩) l.length cap, .func (.func 111) #[] #[]]) Tryz.func112 rfl rfl rfl ?_
 refine zA (zB ?_)
 (refine An Tryz.hZ rfl rfl rfl rfl ?_;intro)
 refine Aa ?_
 rename_i b4
 refine zE (zA (zA (zB (wP rfl (wP rfl (wP rfl (Aa (zE ?_))))))))
 refine Al rfl (fun h=> ?_) (fun h=> ?_)
 ·have h':decide (((l.length:Nat):Int)<1)=true:=h
  rw[decide_eq_true_iff] at h';omega
 clear h
 refine zI (zE (zA (zB (wP rfl ?_))))
 refine wJ ?_
 refine Av rfl rfl rfl rfl (fun W hp=>Ae.load 0 tH rfl ((fun W hp=>(hrq 0 h0).hp hp) W hp) rfl) ?_
 (refine An Tryz.hZ rfl rfl rfl rfl ?_;intro)
 refine wS 1 rfl rfl rfl (Aa ?_)
 rename_i b5
 refine zE (zA (zA (zB (wP rfl (Aa (zE (zH ?_)))))))
 refine Az (X:=Nat) (fun k=>[(0,slv (some ⟨bq,oq,none⟩) l.length cap),(1, .func (.func 111) #[] #[]),(4, .pointer (some ⟨b4,0,none⟩)),(5, .pointer (some ⟨b5,0,none⟩)),(6, .int .i64 ((k+1:Nat):Int))]) (fun k=>[⟨b4,42,(default:Sd).cells,true,none⟩,⟨b5,42,(sd l (Em l k)).cells,true,none⟩])
  (fun k=>k<l.length) (fun k=>l.length-k) 0 h0 ⟨rfl,rfl,rfl,rfl,rfl,trivial⟩ [] rfl ?_
 intro k hk
 refine zA (zA (zB (wP rfl (wP rfl (wP rfl (wP rfl (Aa (zE ?_))))))))
 refine Al rfl (fun h=> ?_) (fun h=> ?_)
 rotate_left
 ·have e:k=l.length-1:=by have h':decide (((k+1:Nat):Int)<(l.length:Nat))=false:=h;rw[decide_eq_false_iff_not] at h';omega
  subst e
  refine zJ (zK (zK (zL (zE (zA (zB (wB 1 rfl rfl rfl (wS 0 rfl rfl rfl (Aa (zE (zO ?_)))))))))))
  exact Af tH rfl (.cell 0 rfl rfl rfl rfl rfl) () rfl trivial fun W _=>Ag.nil _ _
 have hk1:k+1<l.length:=by have h':decide (((k+1:Nat):Int)<(l.length:Nat))=true:=h;rw[decide_eq_true_iff] at h';omega
 clear h
 have eup:Em l (k+1)=if D1 (sd l (k+1)) (sd l (Em l k))<0 then k+1 else Em l k:=rfl
 refine zI (zE (zA (zH (zA ?_))))
 refine zT Tryz.mixed (by kernel_rfl) ?_
 refine qP rfl (qP rfl (qP rfl ?_))
 refine qJ ?_
 refine Ap rfl rfl rfl rfl (fun W hp=>Ae.load 0 tH rfl ((fun W hp=>(hrq _ hk1).hp hp) W hp) rfl) ?_
 refine qB 1 rfl rfl rfl ?_
 refine A8 (capt:=[]) rfl rfl rfl rfl rfl rfl (by kernel_rfl) (fun W _=>GZ (sd l (k+1)) (sd l (Em l k)) W) ?_
 refine qP rfl (AE (Aa (zE ?_)))
 refine Al rfl (fun hx=> ?_) (fun hx=> ?_)
 ·have hx:D1 (sd l (k+1)) (sd l (Em l k))<0:=by have h':decide (D1 (sd l (k+1)) (sd l (Em l k))<0)=true:=hx;simpa using h'
  rw[if_pos hx] at eup
  refine zB (wP rfl (wP rfl ?_))
  refine wJ ?_
  refine Av rfl rfl rfl rfl (fun W hp=>Ae.load 0 tH rfl ((fun W hp=>(hrq _ hk1).hp hp) W hp) rfl) ?_
  refine wS 1 rfl rfl rfl (Aa (zN (zE (zB (wP rfl (wP rfl (wP rfl (Aa ?_))))))))
  exact At (k+1) hk1 (by omega) ⟨rfl,rfl,rfl,rfl,congrArg (fun z=>some (Value.int .i64 z)) (A6 (x:=((k+1:Nat):Int)+1) (by omega) (by omega)),trivial⟩ [] (by show _=[_,(⟨b5,42,(sd l (Em l (k+1))).cells,true,none⟩:Bx)]++[];rw[eup];rfl)
 ·have hx: ¬D1 (sd l (k+1)) (sd l (Em l k))<0:=by have h':decide (D1 (sd l (k+1)) (sd l (Em l k))<0)=false:=hx;simpa using h'
  rw[if_neg hx] at eup
  refine zI (zN (zE (zB (wP rfl (wP rfl (wP rfl (Aa ?_)))))))
  exact At (k+1) hk1 (by omega) ⟨rfl,rfl,rfl,rfl,congrArg (fun z=>some (Value.int .i64 z)) (A6 (x:=((k+1:Nat):Int)+1) (by omega) (by omega)),trivial⟩ [] (by show _=[_,(⟨b5,42,(sd l (Em l (k+1))).cells,true,none⟩:Bx)]++[];rw[eup];rfl)
-- BOXES 3
def Zn (l:List Sd) (s:Sd):Bool:=decide (D1 s (sd l (atS l))=0)
theorem Oc (W:World) (b:Nat) (p:Option Addr) (cap:Nat) (l:List Sd) (h0:0<l.length) (hn:l.length<4611686018427387904) (hb:Ae W b 0 [slv p l.length cap]) (hR:Br W p l) (s:Sd):
  Ai Tryz.prog 110 #[s.val, .pointer (some ⟨b,0,none⟩)] W (fun _:Unit=> .bool (Zn l s)) (fun _=>True) (fun _=>[]):=by
 refine Ad (args:=[s.val, .pointer (some ⟨b,0,none⟩)]) Tryz.func110 rfl rfl rfl ?_
 refine zA (zB ?_)
 (refine A0 rfl rfl rfl rfl ?_;intro)
 refine wP rfl (Aa ?_)
 rename_i b2
 refine zE (zA ?_)
 refine zT Tryz.mixed (by kernel_rfl) ?_
 refine qB 0 rfl rfl rfl ?_
 refine Ap rfl rfl rfl rfl (fun W hp=>Ae.load 0 tH rfl ((fun W hp=>hb.hp hp) W hp) rfl) ?_
 refine A8 (capt:=[]) rfl rfl rfl rfl rfl rfl (by kernel_rfl) (fun W hp=>MB W p cap l h0 hn (hR.hp hp)) ?_
 refine A8 (capt:=[]) rfl rfl rfl rfl rfl rfl (by kernel_rfl) (fun W _=>GZ s (sd l (atS l)) W) ?_
 refine qP rfl (qP rfl (AE (Aa (zE (zO ?_)))))
 exact Af tH rfl (.tmp rfl) () (rfl) trivial fun W _=>Ag.nil _ _
theorem Pd (g:Nat) (hE:Bk Tryz.prog g=true) (capt:List Value) (f:Sd→Bool) (W:World) (p:Option Addr) (cap:Nat) (l:List Sd) (hn:l.length<4611686018427387904) (hR:Br W p l)
  (hf: ∀W',Below W.heap.size W W'→ ∀s,Ai Tryz.prog g ([s.val]++capt).toArray W' (fun _:Unit=> .bool (f s)) (fun _=>True) (fun _=>[])):
  Ai Tryz.prog 109 #[slv p l.length cap, .func (.func g) #[] capt.toArray] W (fun _:Unit=> .int .i64 (Fm f l 0)) (fun _=>True) (fun _=>[]):=by
 refine Ad (args:=[slv p l.length cap, .func (.func g) #[] capt.toArray]) Tryz.func109 rfl rfl rfl ?_
 refine zA (zB (wP rfl (Aa (zE (zA (zA (zB (wP rfl (wP rfl (wP rfl (Aa (zE (zH ?_)))))))))))))
 refine Az (X:=Nat) (fun k=>[(0,slv p l.length cap),(1, .func (.func g) #[] capt.toArray),(7, .int .i64 (l.length:Nat)),(8, .int .i64 (k:Nat))]) (fun _=>[])
  (fun k=>k≤l.length∧Fm f l 0=Fm f (l.drop k) k) (fun k=>l.length-k) 0 ⟨Nat.zero_le _,rfl⟩ ⟨rfl,rfl,rfl,rfl,trivial⟩ [] rfl ?_
 rintro k ⟨hk,hi⟩
 refine zA (zB (wP rfl (Aa (zE (zA ?_)))))
 refine Al rfl (fun h=> ?_) (fun h=> ?_)
 rotate_left
 ·refine zJ (zK (zK (zL (zE (zA (zB (wP rfl (Aa (zE (zO ?_))))))))))
  have e:k=l.length:=by simp at h;omega
  rw[e,List.drop_length] at hi
  exact Af tH rfl (.tmp rfl) () (by rw[hi];rfl) trivial fun W _=>Ag.nil _ _
 ·have hk:k<l.length:=by simp at h;omega
  clear h
  obtain⟨b,off,rfl,hrow⟩:=hR.row hk
  refine zI (zE (zA (zH (zA (zB (wP rfl (wP rfl (Aa (zE (zA (zB (wP rfl (wP rfl (wP rfl ?_))))))))))))))
  refine wJ ?_
  refine Av rfl rfl rfl rfl (fun W hp=>Ae.load 0 tH rfl ((fun W hp=>(hrow k hk).hp hp) W hp) rfl) ?_
  refine Ab (g:=g) (capt:=capt) (v:= .bool (f (sd l k))) rfl rfl rfl rfl rfl rfl hE (fun W' hp=>hf W' hp.below (sd l k)) ?_
  have hd:l.drop k=sd l k::l.drop (k+1):=by
   rw[List.drop_eq_getElem_cons hk];simp[sd,hk]
  have hstep:Fm f (l.drop k) k=if f (sd l k)=true then(k:Int) else Fm f (l.drop (k+1)) (k+1):=by rw[hd];rfl
  rw[hstep] at hi
  refine zC (zE ?_)
  refine Al rfl (fun h=> ?_) (fun h=> ?_)
  ·refine zA (zB (wP rfl (wP rfl (Aa (zE (zO (zQ (zP (zP (zQ (zP ?_)))))))))))
   rw[if_pos h] at hi
   exact Af tH rfl (.tmp rfl) () (by rw[hi]) trivial fun W _=>Ag.nil _ _
  ·refine zI (zN (zE (zB (wP rfl (wP rfl (Aa ?_))))))
   rw[if_neg (by rw[h];decide)] at hi
   exact At (k+1) ⟨hk,hi⟩ (by omega) ⟨rfl,rfl,rfl,congrArg (fun z=>some (Value.int .i64 z)) (A6 (x:=(k:Int)+1) (by omega) (by omega)),trivial⟩ [] rfl
theorem Ym {f:Sd→Bool} {l:List Sd} {i:Nat} (hi:i<l.length) (h1:f (sd l i)=true) (h0: ∀j,j<i→f (sd l j)=false):Fm f l 0=(i:Int):=by
 have key: ∀k,k≤i→Fm f l 0=Fm f (l.drop k) k:=fun k=>by
  induction k with
  |zero=>intro _;rfl
  |succ k ih=>
   intro hk
   rw[ih (by omega),List.drop_eq_getElem_cons (show k<l.length by omega)]
   have h2:=h0 k (by omega)
   have e:l[k]'(by omega)=sd l k:=by simp[sd,show k<l.length by omega]
   rw[e]
   show(if f (sd l k)=true then(k:Int) else _)=_
   rw[if_neg (by rw[h2];decide)]
 rw[key i (Nat.le_refl _),List.drop_eq_getElem_cons hi]
 have e:l[i]=sd l i:=by simp[sd,hi]
 rw[e]
 show(if f (sd l i)=true then(i:Int) else _)=_
 rw[if_pos h1]
theorem V9 {l:List Sd} (hd:Z2 l) (h0:0<l.length):Fm (Zn l) l 0=(atS l:Int):=by
 have hm:=Xk hd h0
 refine Ym hm.1 (decide_eq_true (Nk.2 ⟨rfl,rfl⟩)) fun j hj=> ?_
 refine decide_eq_false fun h=> ?_
 have hlt:=hm.1
 have h1:=Hg.1 (hm.2 j (by omega) (by omega))
 have h2:=Nk.1 h
 omega
end
section
open Go Go.RowKit Go.Am
theorem ND (x:Nat) (h:x≤18446744073709551615) (W:World):Ai Tryz.prog 161 #[.int .u64 (x:Nat)] W (fun _:Unit=> .int .i64 (Lib.bitLen x)) (fun _=>True) (fun _=>[]):=by
 refine Ai.of1 ((Go.Proofs.Any.bits_Len (P:=Tryz.prog) (ρ:=Tryz.lays125_ren) { Tryz.lays125 with } (x:Int) W (by omega) (by omega)).mono ?_)
 rintro e w' ⟨rfl,rfl⟩
 exact⟨rfl,Below.refl _ _⟩
end
section
open Go Go.RowKit Go.Am
set_option maxRecDepth 10000
-- BOXES 3
theorem OV (W:World) (pa pb qa qb:Option Addr) (ca cb na nb cna cnb:Nat) (la lb:List Sd) (ha0:0<la.length) (hb0:0<lb.length) (hRa:Br W pa la) (hRb:Br W pb lb):
  Ai Tryz.prog 116 #[.agg #[slv pa la.length ca, .slice qa na cna], .agg #[slv pb lb.length cb, .slice qb nb cnb]] W (fun _:Unit=> .int .i64 (D1 (sd la 0) (sd lb 0))) (fun _=>True) (fun _=>[]):=by
 obtain⟨b,off,rfl,hra⟩:=hRa.row ha0
 obtain⟨b',off',rfl,hrb⟩:=hRb.row hb0
 refine Ad (args:=[.agg #[slv (some ⟨b,off,none⟩) la.length ca, .slice qa na cna], .agg #[slv (some ⟨b',off',none⟩) lb.length cb, .slice qb nb cnb]]) Tryz.func116 rfl rfl rfl ?_
 refine zA (zB ?_)
 (refine A0 rfl rfl rfl rfl ?_;intro)
 (refine A0 rfl rfl rfl rfl ?_;intro)
 refine wP rfl (Aa (zE (zA ?_)))
 refine zT Tryz.mixed (by kernel_rfl) ?_
 refine qP rfl (qB 0 rfl rfl rfl ?_)
 refine qJ ?_
 refine Ap rfl rfl rfl rfl (fun W hp=>Ae.load 0 tH rfl ((fun W hp=>(hra 0 ha0).hp hp) W hp) rfl) ?_
 refine qP rfl (qB 1 rfl rfl rfl ?_)
 refine qJ ?_
 refine Ap rfl rfl rfl rfl (fun W hp=>Ae.load 0 tH rfl ((fun W hp=>(hrb 0 hb0).hp hp) W hp) rfl) ?_
 refine A8 (capt:=[]) rfl rfl rfl rfl rfl rfl (by kernel_rfl) (fun W _=>GZ (sd la 0) (sd lb 0) W) ?_
 refine qP rfl (AE (Aa (zE (zO ?_))))
 exact Af tH rfl (.tmp rfl) () (rfl) trivial fun W _=>Ag.nil _ _
theorem HT {W0 W:World} {bxs:List Bx} (hp:Hp W0 bxs W) (k:Nat) {g:Nat} {e:TypeId} {xs A B C:List Value} {off:Nat} (hk:nth bxs k=some ⟨g,e,xs,true,none⟩) (hxs:xs=A++(B++C)) (hoff:off=A.length):Ae W g off B:=by
 have h:=Ae.of_bx hp k hk rfl
 refine⟨h.lt,fun m u hu=> ?_⟩
 have:=h.get (A.length+m) u (by
  show xs[A.length+m]? =some u
  rw[hxs,List.getElem?_append_right (by omega),Nat.add_sub_cancel_left,List.getElem?_append_left (List.getElem?_eq_some_iff.1 hu).1]
  exact hu)
 rw[Nat.zero_add, ←hoff] at this
 exact this
theorem Sk (W:World) (p:Option Addr) (n cap:Nat) (hn:n≤1):Ai Tryz.prog 246 #[.slice p n cap, .int .i64 0, .int .i64 (n:Nat), .func (.func 116) #[] #[]] W (fun _:Unit=> .tuple #[]) (fun _=>True) (fun _=>[]):=by
 refine Ad (args:=[.slice p n cap, .int .i64 0, .int .i64 (n:Nat), .func (.func 116) #[] #[]]) Tryz.func246 rfl rfl rfl ?_
 refine zA (zB (wP rfl (wP rfl (wP rfl (Aa (zE (zH ?_)))))))
 refine Az (X:=Unit) (fun _=>[(0, .slice p n cap),(1, .int .i64 0),(2, .int .i64 (n:Nat)),(3, .func (.func 116) #[] #[]),(8, .int .i64 1)]) (fun _=>[]) (fun _=>True) (fun _=>0) () trivial ⟨rfl,rfl,rfl,rfl,rfl,trivial⟩ [] rfl ?_
 intro _ _
 refine zA (zA (zB (wP rfl (wP rfl (wP rfl (Aa (zE ?_)))))))
 refine Al rfl (fun h=> ?_) (fun h=> ?_)
 ·have h':decide ((1:Int)<(n:Nat))=true:=h
  rw[decide_eq_true_iff] at h';omega
 refine zJ (zK (zK (zL ?_)))
 exact CW (X:=Unit) (val:=fun _=> .tuple #[]) (Φ:=fun _=>True) (nb:=fun _=>[]) (fn:=Tryz.f246) tH rfl () rfl trivial fun W _=>Ag.nil _ _
structure zIq (W W':World) (g:Nat):Prop where
 size:W.heap.size≤W'.heap.size
 at_: ∀x,x≠g→x<W.heap.size→W'.heap[x]? =W.heap[x]?
theorem Mb {W W':World} {g:Nat} {B:Bx} {o:Obj} (hg:W.heap[g]? =some o) (hB: ∃o',(g,o')∈B.blk) (hp:Hp (AK W) [AI (Ar W g),B] W'):zIq W W' g:=by
 have c0: ∀p∈Ar W g,W'.heap[p.1]? =some p.2:=fun p hq=>(hp.own.cell 0 _ rfl p hq).1
 have old: ∀x,x≠g→x<W.heap.size→W'.heap[x]? =W.heap[x]? :=fun x hx hlt=>by
  have h1:W.heap[x]? =some W.heap[x]:=Array.getElem?_eq_getElem hlt
  rw[h1]
  exact c0 (x,W.heap[x]) (C6.2 ⟨hx,h1⟩)
 refine⟨?_,old⟩
 have hlt:=(Array.getElem?_eq_some_iff.1 hg).1
 by_cases e:W.heap.size-1=g
 ·obtain⟨o',ho⟩:=hB
  have:=(Array.getElem?_eq_some_iff.1 (hp.own.cell 1 B rfl _ ho).1).1
  have h2:g<W'.heap.size:=this
  omega
 ·have h1:=old (W.heap.size-1) e (by omega)
  rw[Array.getElem?_eq_getElem (show W.heap.size-1<W.heap.size by omega)] at h1
  have:=(Array.getElem?_eq_some_iff.1 h1).1
  omega
theorem zIq.trans {W W1 W2:World} {g:Nat} (h:zIq W W1 g) (h':zIq W1 W2 g):zIq W W2 g:=
 ⟨Nat.le_trans h.size h'.size,fun x hx hlt=>(h'.at_ x hx (Nat.lt_of_lt_of_le hlt h.size)).trans (h.at_ x hx hlt)⟩
theorem KX {W W':World} {g:Nat} {p:Option Addr} {l:List Sd} (h:Br W p l) (hk:zIq W W' g) (hne: ∀b off,p=some ⟨b,off,none⟩→b≠g):Br W' p l:=by
 rcases h with h|⟨b,off,h1,h2⟩
 ·exact .inl h
 ·refine .inr ⟨b,off,h1,⟨fun i s hs=> ?_⟩⟩
  have h3:=h2.get i s hs
  refine⟨Nat.lt_of_lt_of_le h3.lt hk.size,fun j x hx=> ?_⟩
  have h4:=h3.get j x hx
  unfold World.cell? at h4⊢
  rw[hk.at_ b (hne b off h1) h3.lt]
  exact h4
def El (c:Int) (A B:List Value):List Value:=if c<0 then B++A else A++B
theorem Sx (W:World) (g off cap:Nat) (pre junk:List Value) (p1 p2 q1 q2:Option Addr) (m1 m2 n1 n2 c1 c2 d1 d2:Nat) (c:Int) (hoff:off=pre.length) (hg:W.heap[g]? =some (.cells (pre++([slv p1 m1 c1,slv p2 m2 c2,slv q1 n1 d1,slv q2 n2 d2]++junk)).toArray 157 (0,0)))
  (hf: ∀W',zIq W W' g→Ai Tryz.prog 116 #[.agg #[slv q1 n1 d1,slv q2 n2 d2], .agg #[slv p1 m1 c1,slv p2 m2 c2]] W' (fun _:Unit=> .int .i64 c) (fun _=>True) (fun _=>[])):
  Calls Tryz.prog 246 #[.slice (some ⟨g,off,none⟩) 2 cap, .int .i64 0, .int .i64 2, .func (.func 116) #[] #[]] W fun e W'=> ∃x:Unit,e= .returned ((fun _=> .tuple #[]) x)∧True∧FL W W' g ((fun _=>g) x) ((fun _=> .cells (pre++(El c [slv p1 m1 c1,slv p2 m2 c2] [slv q1 n1 d1,slv q2 n2 d2]++junk)).toArray 157 (0,0)) x):=by
 subst hoff
 have key:Calls Tryz.prog 246 [.slice (some ⟨g,pre.length,none⟩) 2 cap, .int .i64 0, .int .i64 2, .func (.func 116) #[] #[]].toArray W fun e W'=> ∃x:Unit,e= .returned ((fun _=> .tuple #[]) x)∧(fun _=>True) x∧Below (AK W).heap.size (AK W) W'∧Ag (AK W) W' ((fun _=>[AI (Ar W g),⟨g,157,pre++(El c [slv p1 m1 c1,slv p2 m2 c2] [(slv q1 n1 d1),(slv q2 n2 d2)]++junk),true,none⟩]) x):=by
  refine Be (X:=Unit) (val:=fun _=> .tuple #[]) (Φ:=fun _=>True) (nb:=fun _=>[AI (Ar W g),⟨g,157,pre++(El c [slv p1 m1 c1,slv p2 m2 c2] [(slv q1 n1 d1),(slv q2 n2 d2)]++junk),true,none⟩]) (Hp.enterT (B:=⟨g,157,pre++([(slv p1 m1 c1),(slv p2 m2 c2),(slv q1 n1 d1),(slv q2 n2 d2)]++junk),true,none⟩) rfl hg) Tryz.func246 rfl rfl rfl ?_
  refine zA (zB (wP rfl (wP rfl (wP rfl (Aa (zE (zH ?_)))))))
  refine Az (X:=Bool) (fun k=>[(0, .slice (some ⟨g,pre.length,none⟩) 2 cap),(1, .int .i64 0),(2, .int .i64 2),(3, .func (.func 116) #[] #[]),(8, .int .i64 (match k with|true=>1|false=>2))]) (fun k=>[AI (Ar W g),⟨g,157,pre++((match k with|true=>[(slv p1 m1 c1),(slv p2 m2 c2),(slv q1 n1 d1),(slv q2 n2 d2)]|false=>El c [slv p1 m1 c1,slv p2 m2 c2] [(slv q1 n1 d1),(slv q2 n2 d2)])++junk),true,none⟩])
   (fun _=>True) (fun k=>match k with|true=>1|false=>0) true trivial ⟨rfl,rfl,rfl,rfl,rfl,trivial⟩ [] rfl ?_
  rintro(_|_) _
  ·refine zA (zA (zB (wP rfl (wP rfl (wP rfl (Aa (zE (zS rfl (zJ (zK (zK (zL ?_))))))))))))
   refine CW (X:=Unit) (val:=fun _=> .tuple #[]) (Φ:=fun _=>True) (nb:=fun _=>[AI (Ar W g),⟨g,157,pre++(El c [slv p1 m1 c1,slv p2 m2 c2] [(slv q1 n1 d1),(slv q2 n2 d2)]++junk),true,none⟩]) (fn:=Tryz.f246) tH rfl () rfl trivial fun W1 hp=> ?_
   exact(hp.pick (l:=[AI (Ar W g),⟨g,157,pre++(El c [slv p1 m1 c1,slv p2 m2 c2] [(slv q1 n1 d1),(slv q2 n2 d2)]++junk),true,none⟩]) [0,1] (by decide) rfl).own
  refine zA (zA (zB (wP rfl (wP rfl (wP rfl (Aa (zE (zR rfl (zI (zE (zA (zH (zA ?_)))))))))))))
  refine zB (wP rfl (wP rfl (Aa (zE (zH ?_)))))
  refine Az (X:=Bool) (fun k=>[(0, .slice (some ⟨g,pre.length,none⟩) 2 cap),(1, .int .i64 0),(2, .int .i64 2),(3, .func (.func 116) #[] #[]),(8, .int .i64 1),(9, .int .i64 (match k with|true=>1|false=>0))]) (fun k=>[AI (Ar W g),⟨g,157,pre++((match k with|true=>[(slv p1 m1 c1),(slv p2 m2 c2),(slv q1 n1 d1),(slv q2 n2 d2)]|false=>[(slv q1 n1 d1),(slv q2 n2 d2),(slv p1 m1 c1),(slv p2 m2 c2)])++junk),true,none⟩])
   (fun k=>k=false→c<0) (fun k=>match k with|true=>1|false=>0) true (fun h=>by cases h) ⟨rfl,rfl,rfl,rfl,rfl,rfl,trivial⟩ [] rfl ?_
  rintro(_|_) hk
  ·refine zA (zA ?_)
   refine zT Tryz.mixed (by kernel_rfl) ?_
   refine qP rfl (qP rfl (qP rfl (qP rfl ?_)))
   iterate 12 refine BG rfl rfl ?_
   refine qP rfl (AE (Aa (zE (zS rfl (zJ (zK (zK (zL (zN (zE (zB (wP rfl (wP rfl (wP rfl ?_))))))))))))))
   refine Aa ?_
   exact At false trivial (by decide) ⟨rfl,rfl,rfl,rfl,rfl,trivial⟩ [] (by show _=[_,(⟨g,157,pre++(El c [slv p1 m1 c1,slv p2 m2 c2] [slv q1 n1 d1,slv q2 n2 d2]++junk),true,none⟩:Bx)]++[];rw[El,if_pos (hk rfl)];rfl)
  clear hk
  refine AW 9 (.int .i64 1) rfl rfl ?_
  refine zA (zA ?_)
  refine zT Tryz.mixed (by kernel_rfl) ?_
  iterate 7 refine qP rfl ?_
  refine qJ ?_
  refine Ap rfl rfl rfl rfl (fun W hp=>Ae.load 0 tH rfl ((fun W1 hp=>show Ae W1 g (pre.length+1*2) [slv q1 n1 d1,slv q2 n2 d2] from HT hp 1 (A:=pre++[slv p1 m1 c1,slv p2 m2 c2]) (C:=junk) rfl (by simp) (by simp)) W hp) rfl) ?_
  refine qP rfl (qP rfl (qP rfl ?_))
  refine AF 29 (.int .i64 0) rfl rfl ?_
  refine qJ ?_
  refine Ap rfl rfl rfl rfl (fun W hp=>Ae.load 0 tH rfl ((fun W1 hp=>show Ae W1 g (pre.length+0*2) [slv p1 m1 c1,slv p2 m2 c2] from HT hp 1 (A:=pre) (C:=[slv q1 n1 d1,slv q2 n2 d2]++junk) rfl (by simp) (by simp)) W hp) rfl) ?_
  refine A8 (capt:=[]) rfl rfl rfl rfl rfl rfl (by kernel_rfl) (fun W1 hp=>hf W1 (Mb hg ⟨_,List.mem_cons_self ..⟩ hp)) ?_
  refine qP rfl (qP rfl (AE (Aa (zE ?_))))
  refine Al rfl (fun h=> ?_) (fun h=> ?_)
  rotate_left
  ·have hc: ¬c<0:=by have h':decide (c<0)=false:=h;simpa using h'
   refine zJ (zK (zK (zL (zN (zE (zB (wP rfl (wP rfl (wP rfl (Aa ?_))))))))))
   exact At false trivial (by decide) ⟨rfl,rfl,rfl,rfl,rfl,trivial⟩ [] (by show _=[_,(⟨g,157,pre++(El c [slv p1 m1 c1,slv p2 m2 c2] [slv q1 n1 d1,slv q2 n2 d2]++junk),true,none⟩:Bx)]++[];rw[El,if_neg hc];rfl)
  have hc:c<0:=by have h':decide (c<0)=true:=h;simpa using h'
  clear h
  refine zI (zE (AL (B6 ?_)))
  repeat refine AL ?_
  refine BW (X:=Unit) [true,true,false,false,false,true,true,true,true,true,true,true,true,true,true,false,false,false] (fun _=>[(0, .slice (some ⟨g,pre.length,none⟩) 2 cap),(1, .int .i64 0),(2, .int .i64 2),(3, .func (.func 116) #[] #[]),(8, .int .i64 1),(9, .int .i64 1)]) (fun _=>[AI (Ar W g),⟨g,157,pre++([slv q1 n1 d1,slv q2 n2 d2,slv p1 m1 c1,slv p2 m2 c2]++junk),true,none⟩])
   6 [AI (Ar W g),⟨g,157,pre++([slv p1 m1 c1,slv p2 m2 c2,slv q1 n1 d1,slv q2 n2 d2]++junk),true,none⟩] Tryz.mixed (by kernel_rfl) ?_ ?_
  ·refine qP rfl (qP rfl (qP rfl (qP rfl (qP rfl ?_))))
   refine AF 44 (.int .i64 0) rfl rfl ?_
   refine qJ ?_
   refine Ap rfl rfl rfl rfl (fun W hp=>Ae.load 0 tH rfl ((fun W1 hp=>show Ae W1 g (pre.length+0*2) [slv p1 m1 c1,slv p2 m2 c2] from HT hp 1 (A:=pre) (C:=[slv q1 n1 d1,slv q2 n2 d2]++junk) rfl (by simp) (by simp)) W hp) rfl) ?_
   refine qP rfl (qP rfl ?_)
   refine qJ ?_
   refine Ap rfl rfl rfl rfl (fun W hp=>Ae.load 0 tH rfl ((fun W1 hp=>show Ae W1 g (pre.length+1*2) [slv q1 n1 d1,slv q2 n2 d2] from HT hp 1 (A:=pre++[slv p1 m1 c1,slv p2 m2 c2]) (C:=junk) rfl (by simp) (by simp)) W hp) rfl) ?_
   refine qJ ?_
   refine CX ?_
   have h1:AS (pre++([slv p1 m1 c1,slv p2 m2 c2,slv q1 n1 d1,slv q2 n2 d2]++junk)) (pre.length+1*2) (Value.agg #[slv p1 m1 c1,slv p2 m2 c2]).cells.toList=pre++([slv p1 m1 c1,slv p2 m2 c2,slv p1 m1 c1,slv p2 m2 c2]++junk):=by
    rw[Bj];rfl
   have h2:AS (pre++([slv p1 m1 c1,slv p2 m2 c2,slv p1 m1 c1,slv p2 m2 c2]++junk)) (pre.length+0*2) (Value.agg #[slv q1 n1 d1,slv q2 n2 d2]).cells.toList=pre++([slv q1 n1 d1,slv q2 n2 d2,slv p1 m1 c1,slv p2 m2 c2]++junk):=by
    rw[Bj];rfl
   refine wX ?_
   refine RS.cons ?_ (RS.cons ?_ (RS.cons ?_ (RS.nil)))
   ·refine wP rfl (Aa (Ah ?_))
    refine wX ?_
    refine RS.cons ?_ (RS.cons ?_ (RS.nil))
    ·refine wP rfl (Aa (Ah ?_))
     refine wX ?_
     refine RS.cons ?_ (RS.cons ?_ (RS.nil))
     ·refine wP rfl (Aa (Ah ?_))
      refine wX ?_
      refine RS.cons ?_ (RS.nil)
      refine Aj 1 _ tH rfl rfl rfl rfl rfl rfl rfl rfl rfl rfl (by show pre.length+1*2+2≤(pre++([slv p1 m1 c1,slv p2 m2 c2,slv q1 n1 d1,slv q2 n2 d2]++junk)).length;simp<;>omega) h1 ?_
      refine Aa (Ah ?_)
      refine wY ?_
      refine RS.cons ?_ (RS.nil)
      refine Ac 41 (.int .i64 0) rfl rfl ?_;(first|refine wJ ?_|refine qJ ?_)
      refine Aa (Ah ?_)
      refine wY ?_
      refine RS.cons ?_ (RS.nil)
      refine Aj 1 _ tH rfl rfl rfl rfl rfl rfl rfl rfl rfl rfl (by show pre.length+0*2+2≤(pre++([slv p1 m1 c1,slv p2 m2 c2,slv p1 m1 c1,slv p2 m2 c2]++junk)).length;simp<;>omega) h2 ?_
      refine Aa (Ah ?_)
      refine A3 rfl (by kernel_rfl) ?_
      exact Ax () ⟨rfl,rfl,rfl,rfl,rfl,rfl,trivial⟩ [0,1] (by decide) rfl
     ·refine Aj 1 _ tH rfl rfl rfl rfl rfl rfl rfl rfl rfl rfl (by show pre.length+1*2+2≤(pre++([slv p1 m1 c1,slv p2 m2 c2,slv q1 n1 d1,slv q2 n2 d2]++junk)).length;simp<;>omega) h1 ?_
      refine Aa (Ah ?_)
      refine wY ?_
      refine RS.cons ?_ (RS.nil)
      refine wP rfl (Aa (Ah ?_))
      refine wY ?_
      refine RS.cons ?_ (RS.nil)
      refine Ac 41 (.int .i64 0) rfl rfl ?_;(first|refine wJ ?_|refine qJ ?_)
      refine Aa (Ah ?_)
      refine wY ?_
      refine RS.cons ?_ (RS.nil)
      refine Aj 1 _ tH rfl rfl rfl rfl rfl rfl rfl rfl rfl rfl (by show pre.length+0*2+2≤(pre++([slv p1 m1 c1,slv p2 m2 c2,slv p1 m1 c1,slv p2 m2 c2]++junk)).length;simp<;>omega) h2 ?_
      refine Aa (Ah ?_)
      refine A3 rfl (by kernel_rfl) ?_
      exact Ax () ⟨rfl,rfl,rfl,rfl,rfl,rfl,trivial⟩ [0,1] (by decide) rfl
    ·refine Aj 1 _ tH rfl rfl rfl rfl rfl rfl rfl rfl rfl rfl (by show pre.length+1*2+2≤(pre++([slv p1 m1 c1,slv p2 m2 c2,slv q1 n1 d1,slv q2 n2 d2]++junk)).length;simp<;>omega) h1 ?_
     refine Aa (Ah ?_)
     refine wY ?_
     refine RS.cons ?_ (RS.nil)
     refine wP rfl (Aa (Ah ?_))
     refine wY ?_
     refine RS.cons ?_ (RS.nil)
     refine wP rfl (Aa (Ah ?_))
     refine wY ?_
     refine RS.cons ?_ (RS.nil)
     refine Ac 41 (.int .i64 0) rfl rfl ?_;(first|refine wJ ?_|refine qJ ?_)
     refine Aa (Ah ?_)
     refine wY ?_
     refine RS.cons ?_ (RS.nil)
     refine Aj 1 _ tH rfl rfl rfl rfl rfl rfl rfl rfl rfl rfl (by show pre.length+0*2+2≤(pre++([slv p1 m1 c1,slv p2 m2 c2,slv p1 m1 c1,slv p2 m2 c2]++junk)).length;simp<;>omega) h2 ?_
     refine Aa (Ah ?_)
     refine A3 rfl (by kernel_rfl) ?_
     exact Ax () ⟨rfl,rfl,rfl,rfl,rfl,rfl,trivial⟩ [0,1] (by decide) rfl
   ·refine wP rfl (Aa (Ah ?_))
    refine wX ?_
    refine RS.cons ?_ (RS.cons ?_ (RS.cons ?_ (RS.nil)))
    ·refine wP rfl (Aa (Ah ?_))
     refine wX ?_
     refine RS.cons ?_ (RS.cons ?_ (RS.nil))
     ·refine wP rfl (Aa (Ah ?_))
      refine wX ?_
      refine RS.cons ?_ (RS.nil)
      refine Aj 1 _ tH rfl rfl rfl rfl rfl rfl rfl rfl rfl rfl (by show pre.length+1*2+2≤(pre++([slv p1 m1 c1,slv p2 m2 c2,slv q1 n1 d1,slv q2 n2 d2]++junk)).length;simp<;>omega) h1 ?_
      refine Aa (Ah ?_)
      refine wY ?_
      refine RS.cons ?_ (RS.nil)
      refine Ac 41 (.int .i64 0) rfl rfl ?_;(first|refine wJ ?_|refine qJ ?_)
      refine Aa (Ah ?_)
      refine wY ?_
      refine RS.cons ?_ (RS.nil)
      refine Aj 1 _ tH rfl rfl rfl rfl rfl rfl rfl rfl rfl rfl (by show pre.length+0*2+2≤(pre++([slv p1 m1 c1,slv p2 m2 c2,slv p1 m1 c1,slv p2 m2 c2]++junk)).length;simp<;>omega) h2 ?_
      refine Aa (Ah ?_)
      refine A3 rfl (by kernel_rfl) ?_
      exact Ax () ⟨rfl,rfl,rfl,rfl,rfl,rfl,trivial⟩ [0,1] (by decide) rfl
     ·refine Aj 1 _ tH rfl rfl rfl rfl rfl rfl rfl rfl rfl rfl (by show pre.length+1*2+2≤(pre++([slv p1 m1 c1,slv p2 m2 c2,slv q1 n1 d1,slv q2 n2 d2]++junk)).length;simp<;>omega) h1 ?_
      refine Aa (Ah ?_)
      refine wY ?_
      refine RS.cons ?_ (RS.nil)
      refine wP rfl (Aa (Ah ?_))
      refine wY ?_
      refine RS.cons ?_ (RS.nil)
      refine Ac 41 (.int .i64 0) rfl rfl ?_;(first|refine wJ ?_|refine qJ ?_)
      refine Aa (Ah ?_)
      refine wY ?_
      refine RS.cons ?_ (RS.nil)
      refine Aj 1 _ tH rfl rfl rfl rfl rfl rfl rfl rfl rfl rfl (by show pre.length+0*2+2≤(pre++([slv p1 m1 c1,slv p2 m2 c2,slv p1 m1 c1,slv p2 m2 c2]++junk)).length;simp<;>omega) h2 ?_
      refine Aa (Ah ?_)
      refine A3 rfl (by kernel_rfl) ?_
      exact Ax () ⟨rfl,rfl,rfl,rfl,rfl,rfl,trivial⟩ [0,1] (by decide) rfl
    ·refine wP rfl (Aa (Ah ?_))
     refine wX ?_
     refine RS.cons ?_ (RS.cons ?_ (RS.nil))
     ·refine wP rfl (Aa (Ah ?_))
      refine wX ?_
      refine RS.cons ?_ (RS.nil)
      refine Aj 1 _ tH rfl rfl rfl rfl rfl rfl rfl rfl rfl rfl (by show pre.length+1*2+2≤(pre++([slv p1 m1 c1,slv p2 m2 c2,slv q1 n1 d1,slv q2 n2 d2]++junk)).length;simp<;>omega) h1 ?_
      refine Aa (Ah ?_)
      refine wY ?_
      refine RS.cons ?_ (RS.nil)
      refine Ac 41 (.int .i64 0) rfl rfl ?_;(first|refine wJ ?_|refine qJ ?_)
      refine Aa (Ah ?_)
      refine wY ?_
      refine RS.cons ?_ (RS.nil)
      refine Aj 1 _ tH rfl rfl rfl rfl rfl rfl rfl rfl rfl rfl (by show pre.length+0*2+2≤(pre++([slv p1 m1 c1,slv p2 m2 c2,slv p1 m1 c1,slv p2 m2 c2]++junk)).length;simp<;>omega) h2 ?_
      refine Aa (Ah ?_)
      refine A3 rfl (by kernel_rfl) ?_
      exact Ax () ⟨rfl,rfl,rfl,rfl,rfl,rfl,trivial⟩ [0,1] (by decide) rfl
     ·refine Aj 1 _ tH rfl rfl rfl rfl rfl rfl rfl rfl rfl rfl (by show pre.length+1*2+2≤(pre++([slv p1 m1 c1,slv p2 m2 c2,slv q1 n1 d1,slv q2 n2 d2]++junk)).length;simp<;>omega) h1 ?_
      refine Aa (Ah ?_)
      refine wY ?_
      refine RS.cons ?_ (RS.nil)
      refine wP rfl (Aa (Ah ?_))
      refine wY ?_
      refine RS.cons ?_ (RS.nil)
      refine Ac 41 (.int .i64 0) rfl rfl ?_;(first|refine wJ ?_|refine qJ ?_)
      refine Aa (Ah ?_)
      refine wY ?_
      refine RS.cons ?_ (RS.nil)
      refine Aj 1 _ tH rfl rfl rfl rfl rfl rfl rfl rfl rfl rfl (by show pre.length+0*2+2≤(pre++([slv p1 m1 c1,slv p2 m2 c2,slv p1 m1 c1,slv p2 m2 c2]++junk)).length;simp<;>omega) h2 ?_
      refine Aa (Ah ?_)
      refine A3 rfl (by kernel_rfl) ?_
      exact Ax () ⟨rfl,rfl,rfl,rfl,rfl,rfl,trivial⟩ [0,1] (by decide) rfl
    ·refine Aj 1 _ tH rfl rfl rfl rfl rfl rfl rfl rfl rfl rfl (by show pre.length+1*2+2≤(pre++([slv p1 m1 c1,slv p2 m2 c2,slv q1 n1 d1,slv q2 n2 d2]++junk)).length;simp<;>omega) h1 ?_
     refine Aa (Ah ?_)
     refine wY ?_
     refine RS.cons ?_ (RS.cons ?_ (RS.nil))
     ·refine wP rfl (Aa (Ah ?_))
      refine wY ?_
      refine RS.cons ?_ (RS.nil)
      refine wP rfl (Aa (Ah ?_))
      refine wY ?_
      refine RS.cons ?_ (RS.nil)
      refine Ac 41 (.int .i64 0) rfl rfl ?_;(first|refine wJ ?_|refine qJ ?_)
      refine Aa (Ah ?_)
      refine wY ?_
      refine RS.cons ?_ (RS.nil)
      refine Aj 1 _ tH rfl rfl rfl rfl rfl rfl rfl rfl rfl rfl (by show pre.length+0*2+2≤(pre++([slv p1 m1 c1,slv p2 m2 c2,slv p1 m1 c1,slv p2 m2 c2]++junk)).length;simp<;>omega) h2 ?_
      refine Aa (Ah ?_)
      refine A3 rfl (by kernel_rfl) ?_
      exact Ax () ⟨rfl,rfl,rfl,rfl,rfl,rfl,trivial⟩ [0,1] (by decide) rfl
     ·refine wP rfl (Aa (Ah ?_))
      refine wY ?_
      refine RS.cons ?_ (RS.nil)
      refine wP rfl (Aa (Ah ?_))
      refine wY ?_
      refine RS.cons ?_ (RS.nil)
      refine Ac 41 (.int .i64 0) rfl rfl ?_;(first|refine wJ ?_|refine qJ ?_)
      refine Aa (Ah ?_)
      refine wY ?_
      refine RS.cons ?_ (RS.nil)
      refine Aj 1 _ tH rfl rfl rfl rfl rfl rfl rfl rfl rfl rfl (by show pre.length+0*2+2≤(pre++([slv p1 m1 c1,slv p2 m2 c2,slv p1 m1 c1,slv p2 m2 c2]++junk)).length;simp<;>omega) h2 ?_
      refine Aa (Ah ?_)
      refine A3 rfl (by kernel_rfl) ?_
      exact Ax () ⟨rfl,rfl,rfl,rfl,rfl,rfl,trivial⟩ [0,1] (by decide) rfl
   ·refine Aj 1 _ tH rfl rfl rfl rfl rfl rfl rfl rfl rfl rfl (by show pre.length+1*2+2≤(pre++([slv p1 m1 c1,slv p2 m2 c2,slv q1 n1 d1,slv q2 n2 d2]++junk)).length;simp<;>omega) h1 ?_
    refine Aa (Ah ?_)
    refine wY ?_
    refine RS.cons ?_ (RS.cons ?_ (RS.nil))
    ·refine wP rfl (Aa (Ah ?_))
     refine wY ?_
     refine RS.cons ?_ (RS.nil)
     refine wP rfl (Aa (Ah ?_))
     refine wY ?_
     refine RS.cons ?_ (RS.nil)
     refine wP rfl (Aa (Ah ?_))
     refine wY ?_
     refine RS.cons ?_ (RS.nil)
     refine Ac 41 (.int .i64 0) rfl rfl ?_;(first|refine wJ ?_|refine qJ ?_)
     refine Aa (Ah ?_)
     refine wY ?_
     refine RS.cons ?_ (RS.nil)
     refine Aj 1 _ tH rfl rfl rfl rfl rfl rfl rfl rfl rfl rfl (by show pre.length+0*2+2≤(pre++([slv p1 m1 c1,slv p2 m2 c2,slv p1 m1 c1,slv p2 m2 c2]++junk)).length;simp<;>omega) h2 ?_
     refine Aa (Ah ?_)
     refine A3 rfl (by kernel_rfl) ?_
     exact Ax () ⟨rfl,rfl,rfl,rfl,rfl,rfl,trivial⟩ [0,1] (by decide) rfl
    ·refine wP rfl (Aa (Ah ?_))
     refine wY ?_
     refine RS.cons ?_ (RS.cons ?_ (RS.nil))
     ·refine wP rfl (Aa (Ah ?_))
      refine wY ?_
      refine RS.cons ?_ (RS.nil)
      refine wP rfl (Aa (Ah ?_))
      refine wY ?_
      refine RS.cons ?_ (RS.nil)
      refine Ac 41 (.int .i64 0) rfl rfl ?_;(first|refine wJ ?_|refine qJ ?_)
      refine Aa (Ah ?_)
      refine wY ?_
      refine RS.cons ?_ (RS.nil)
      refine Aj 1 _ tH rfl rfl rfl rfl rfl rfl rfl rfl rfl rfl (by show pre.length+0*2+2≤(pre++([slv p1 m1 c1,slv p2 m2 c2,slv p1 m1 c1,slv p2 m2 c2]++junk)).length;simp<;>omega) h2 ?_
      refine Aa (Ah ?_)
      refine A3 rfl (by kernel_rfl) ?_
      exact Ax () ⟨rfl,rfl,rfl,rfl,rfl,rfl,trivial⟩ [0,1] (by decide) rfl
     ·refine wP rfl (Aa (Ah ?_))
      refine wY ?_
      refine RS.cons ?_ (RS.nil)
      refine wP rfl (Aa (Ah ?_))
      refine wY ?_
      refine RS.cons ?_ (RS.nil)
      refine Ac 41 (.int .i64 0) rfl rfl ?_;(first|refine wJ ?_|refine qJ ?_)
      refine Aa (Ah ?_)
      refine wY ?_
      refine RS.cons ?_ (RS.nil)
      refine Aj 1 _ tH rfl rfl rfl rfl rfl rfl rfl rfl rfl rfl (by show pre.length+0*2+2≤(pre++([slv p1 m1 c1,slv p2 m2 c2,slv p1 m1 c1,slv p2 m2 c2]++junk)).length;simp<;>omega) h2 ?_
      refine Aa (Ah ?_)
      refine A3 rfl (by kernel_rfl) ?_
      exact Ax () ⟨rfl,rfl,rfl,rfl,rfl,rfl,trivial⟩ [0,1] (by decide) rfl
  intro _
  refine zN (zE (zB (wP rfl (wP rfl (wP rfl (Aa ?_))))))
  exact At false (fun _=>hc) (by decide) ⟨rfl,rfl,rfl,rfl,rfl,rfl,trivial⟩ [] rfl
 refine key.mono ?_
 rintro e W' ⟨x,he,_,hb,hn'⟩
 exact⟨x,he,trivial,CN hg rfl hb hn'⟩
theorem RT (W:World) (p:Option Addr) (n cap:Nat) (z:Int) (hn:n≤1):Ai Tryz.prog 192 #[.slice p n cap, .int .i64 0, .int .i64 (n:Nat), .int .i64 z, .func (.func 116) #[] #[]] W (fun _:Unit=> .tuple #[]) (fun _=>True) (fun _=>[]):=by
 refine Ad (args:=[.slice p n cap, .int .i64 0, .int .i64 (n:Nat), .int .i64 z, .func (.func 116) #[] #[]]) Tryz.func192 rfl rfl rfl ?_
 refine zA (zB (wP rfl (Aa (zE (zA (zB (wP rfl (Aa (zE (zH ?_))))))))))
 refine Az (X:=Unit) (fun _=>[(0, .slice p n cap),(1, .int .i64 0),(2, .int .i64 (n:Nat)),(3, .int .i64 z),(4, .func (.func 116) #[] #[])]) (fun _=>[]) (fun _=>True) (fun _=>0) () trivial ⟨rfl,rfl,rfl,rfl,rfl,trivial⟩ [] rfl ?_
 intro _ _
 refine zH (zA (zB (wP rfl (wP rfl (wP rfl ?_)))))
 refine Ac 23 (.int .i64 (n:Nat)) rfl (congrArg (Value.int .i64) (show w64 ((n:Nat)-0)=_ by rw[As (by omega) (by omega)];omega)) ?_
 refine wP rfl (Aa (zE (zA (zA (zB (wP rfl (wP rfl (Aa (zE ?_)))))))))
 refine Al rfl (fun h=> ?_) (fun h=> ?_)
 rotate_left
 ·have h':decide (((n:Nat):Int)≤12)=false:=h
  rw[decide_eq_false_iff_not] at h';omega
 clear h
 refine zA (zB (wP rfl (wP rfl (wP rfl (wP rfl ?_)))))
 refine Ab (capt:=[]) rfl rfl rfl rfl rfl rfl (by kernel_rfl) (fun W _=>Sk W p n cap hn) ?_
 refine Aa (zE (zO (zP (zQ (zP (zQ ?_))))))
 exact HU (X:=Unit) (val:=fun _=> .tuple #[]) (Φ:=fun _=>True) (nb:=fun _=>[]) (fn:=Tryz.f192) tH rfl () rfl trivial fun W _=>Ag.nil _ _
theorem Si (W:World) (g off cap:Nat) (pre junk:List Value) (p1 p2 q1 q2:Option Addr) (m1 m2 n1 n2 c1 c2 d1 d2:Nat) (c:Int) (z:Int) (hoff:off=pre.length) (hg:W.heap[g]? =some (.cells (pre++([slv p1 m1 c1,slv p2 m2 c2,slv q1 n1 d1,slv q2 n2 d2]++junk)).toArray 157 (0,0)))
  (hf: ∀W',zIq W W' g→Ai Tryz.prog 116 #[.agg #[slv q1 n1 d1,slv q2 n2 d2], .agg #[slv p1 m1 c1,slv p2 m2 c2]] W' (fun _:Unit=> .int .i64 c) (fun _=>True) (fun _=>[])):
  Calls Tryz.prog 192 #[.slice (some ⟨g,off,none⟩) 2 cap, .int .i64 0, .int .i64 2, .int .i64 z, .func (.func 116) #[] #[]] W fun e W'=> ∃x:Unit,e= .returned ((fun _=> .tuple #[]) x)∧True∧FL W W' g ((fun _=>g) x) ((fun _=> .cells (pre++(El c [slv p1 m1 c1,slv p2 m2 c2] [slv q1 n1 d1,slv q2 n2 d2]++junk)).toArray 157 (0,0)) x):=by
 have key:Calls Tryz.prog 192 [.slice (some ⟨g,off,none⟩) 2 cap, .int .i64 0, .int .i64 2, .int .i64 z, .func (.func 116) #[] #[]].toArray W fun e W'=> ∃x:Unit,e= .returned ((fun _=> .tuple #[]) x)∧(fun _=>True) x∧Below (AK W).heap.size (AK W) W'∧Ag (AK W) W' ((fun _=>[AI (Ar W g),⟨g,157,pre++(El c [slv p1 m1 c1,slv p2 m2 c2] [slv q1 n1 d1,slv q2 n2 d2]++junk),true,none⟩]) x):=by
  refine Be (X:=Unit) (val:=fun _=> .tuple #[]) (Φ:=fun _=>True) (nb:=fun _=>[AI (Ar W g),⟨g,157,pre++(El c [slv p1 m1 c1,slv p2 m2 c2] [slv q1 n1 d1,slv q2 n2 d2]++junk),true,none⟩]) (Hp.enterT (B:=⟨g,157,pre++([slv p1 m1 c1,slv p2 m2 c2,slv q1 n1 d1,slv q2 n2 d2]++junk),true,none⟩) rfl hg) Tryz.func192 rfl rfl rfl ?_
  refine zA (zB (wP rfl (Aa (zE (zA (zB (wP rfl (Aa (zE (zH ?_))))))))))
  refine Az (X:=Unit) (fun _=>[(0, .slice (some ⟨g,off,none⟩) 2 cap),(1, .int .i64 0),(2, .int .i64 2),(3, .int .i64 z),(4, .func (.func 116) #[] #[])]) (fun _=>[AI (Ar W g),⟨g,157,pre++([slv p1 m1 c1,slv p2 m2 c2,slv q1 n1 d1,slv q2 n2 d2]++junk),true,none⟩]) (fun _=>True) (fun _=>0) () trivial ⟨rfl,rfl,rfl,rfl,rfl,trivial⟩ [] rfl ?_
  intro _ _
  refine zH (zA (zB (wP rfl (wP rfl (wP rfl ?_)))))
  refine Ac 23 (.int .i64 2) rfl rfl ?_
  refine wP rfl (Aa (zE (zA (zA (zB (wP rfl (wP rfl (Aa (zE (zR rfl (zA (zB (wP rfl (wP rfl (wP rfl (wP rfl ?_))))))))))))))))
  refine BX (X:=Unit) (val:=fun _=> .tuple #[]) (Φ:=fun _=>True) (capt:=[]) 1 (B:=⟨g,157,pre++([slv p1 m1 c1,slv p2 m2 c2,slv q1 n1 d1,slv q2 n2 d2]++junk),true,none⟩) (L1:=[]) (L2:=[]) (b:=g) (ob:= .cells (pre++([slv p1 m1 c1,slv p2 m2 c2,slv q1 n1 d1,slv q2 n2 d2]++junk)).toArray 157 (0,0)) (fun _=>⟨g,157,pre++(El c [slv p1 m1 c1,slv p2 m2 c2] [slv q1 n1 d1,slv q2 n2 d2]++junk),true,none⟩) (g':=fun _=>g) (o':=fun _=> .cells (pre++(El c [slv p1 m1 c1,slv p2 m2 c2] [slv q1 n1 d1,slv q2 n2 d2]++junk)).toArray 157 (0,0))
   rfl rfl rfl rfl rfl rfl (by kernel_rfl) rfl rfl (fun _ _=>rfl) (fun W1 hp=>Sx W1 g off cap pre junk p1 p2 q1 q2 m1 m2 n1 n2 c1 c2 d1 d2 c hoff (hp.own.cell 1 _ rfl (g, .cells (pre++([slv p1 m1 c1,slv p2 m2 c2,slv q1 n1 d1,slv q2 n2 d2]++junk)).toArray 157 (0,0)) (List.mem_cons_self ..)).1 (fun W2 hk=>hf W2 ((Mb hg ⟨_,List.mem_cons_self ..⟩ hp).trans hk))) (fun _ _=> ?_)
  refine Aa (zE (zO (zP (zQ (zP (zQ ?_))))))
  refine HU (X:=Unit) (val:=fun _=> .tuple #[]) (Φ:=fun _=>True) (nb:=fun _=>[AI (Ar W g),⟨g,157,pre++(El c [slv p1 m1 c1,slv p2 m2 c2] [slv q1 n1 d1,slv q2 n2 d2]++junk),true,none⟩]) (fn:=Tryz.f192) tH rfl () rfl trivial fun W1 hp=> ?_
  exact(hp.pick (l:=[AI (Ar W g),⟨g,157,pre++(El c [slv p1 m1 c1,slv p2 m2 c2] [slv q1 n1 d1,slv q2 n2 d2]++junk),true,none⟩]) [0,1] (by decide) rfl).own
 refine key.mono ?_
 rintro e W' ⟨x,he,_,hb,hn'⟩
 exact⟨x,he,trivial,CN hg rfl hb hn'⟩
theorem OL (W:World) (p:Option Addr) (n cap:Nat) (hn:n≤1):Ai Tryz.prog 115 #[.slice p n cap, .func (.func 116) #[] #[]] W (fun _:Unit=> .tuple #[]) (fun _=>True) (fun _=>[]):=by
 refine Ad (args:=[.slice p n cap, .func (.func 116) #[] #[]]) Tryz.func115 rfl rfl rfl ?_
 have hz: ∃z:Nat,z≤18446744073709551615∧IntKind.u64.wrap (n:Nat)=(z:Int)∧n=z:=by
  rcases(show n=0∨n=1 by omega) with rfl|rfl
  ·exact⟨0,by omega,rfl,rfl⟩
  ·exact⟨1,by omega,rfl,rfl⟩
 obtain⟨z,hz1,hz2,rfl⟩:=hz
 refine zA (zB (wP rfl (wP rfl (wP rfl (Aa (zE (zB (wP rfl (wP rfl (wP rfl ?_))))))))))
 refine Er (k:= .u64) (kt:= .i64) (by kernel_rfl) (by kernel_rfl) rfl rfl rfl rfl ?_
 refine Ac 10 (.int .u64 (n:Nat)) rfl (congrArg (Value.int .u64) hz2) ?_
 refine Ab (capt:=[]) rfl rfl rfl rfl rfl rfl (by kernel_rfl) (fun W _=>ND n hz1 W) ?_
 refine wP rfl ?_
 refine Ab (capt:=[]) rfl rfl rfl rfl rfl rfl (by kernel_rfl) (fun W _=>RT W p n cap _ hn) ?_
 refine Aa ?_
 exact CW (X:=Unit) (val:=fun _=> .tuple #[]) (Φ:=fun _=>True) (nb:=fun _=>[]) (fn:=Tryz.f115) tH rfl () rfl trivial fun W _=>Ag.nil _ _
theorem O8 (W:World) (g off cap:Nat) (pre junk:List Value) (p1 p2 q1 q2:Option Addr) (m1 m2 n1 n2 c1 c2 d1 d2:Nat) (c:Int) (hoff:off=pre.length) (hg:W.heap[g]? =some (.cells (pre++([slv p1 m1 c1,slv p2 m2 c2,slv q1 n1 d1,slv q2 n2 d2]++junk)).toArray 157 (0,0)))
  (hf: ∀W',zIq W W' g→Ai Tryz.prog 116 #[.agg #[slv q1 n1 d1,slv q2 n2 d2], .agg #[slv p1 m1 c1,slv p2 m2 c2]] W' (fun _:Unit=> .int .i64 c) (fun _=>True) (fun _=>[])):
  Calls Tryz.prog 115 #[.slice (some ⟨g,off,none⟩) 2 cap, .func (.func 116) #[] #[]] W fun e W'=> ∃x:Unit,e= .returned ((fun _=> .tuple #[]) x)∧True∧FL W W' g ((fun _=>g) x) ((fun _=> .cells (pre++(El c [slv p1 m1 c1,slv p2 m2 c2] [slv q1 n1 d1,slv q2 n2 d2]++junk)).toArray 157 (0,0)) x):=by
 have key:Calls Tryz.prog 115 [.slice (some ⟨g,off,none⟩) 2 cap, .func (.func 116) #[] #[]].toArray W fun e W'=> ∃x:Unit,e= .returned ((fun _=> .tuple #[]) x)∧(fun _=>True) x∧Below (AK W).heap.size (AK W) W'∧Ag (AK W) W' ((fun _=>[AI (Ar W g),⟨g,157,pre++(El c [slv p1 m1 c1,slv p2 m2 c2] [slv q1 n1 d1,slv q2 n2 d2]++junk),true,none⟩]) x):=by
  refine Be (X:=Unit) (val:=fun _=> .tuple #[]) (Φ:=fun _=>True) (nb:=fun _=>[AI (Ar W g),⟨g,157,pre++(El c [slv p1 m1 c1,slv p2 m2 c2] [slv q1 n1 d1,slv q2 n2 d2]++junk),true,none⟩]) (Hp.enterT (B:=⟨g,157,pre++([slv p1 m1 c1,slv p2 m2 c2,slv q1 n1 d1,slv q2 n2 d2]++junk),true,none⟩) rfl hg) Tryz.func115 rfl rfl rfl ?_
  refine zA (zB (wP rfl (wP rfl (wP rfl (Aa (zE (zB (wP rfl (wP rfl (wP rfl ?_))))))))))
  refine Er (k:= .u64) (kt:= .i64) (by kernel_rfl) (by kernel_rfl) rfl rfl rfl rfl ?_
  refine Ac 10 (.int .u64 ((2:Nat):Int)) rfl rfl ?_
  refine Ab (capt:=[]) rfl rfl rfl rfl rfl rfl (by kernel_rfl) (fun W _=>ND 2 (by omega) W) ?_
  refine wP rfl ?_
  refine BX (X:=Unit) (val:=fun _=> .tuple #[]) (Φ:=fun _=>True) (capt:=[]) 1 (B:=⟨g,157,pre++([slv p1 m1 c1,slv p2 m2 c2,slv q1 n1 d1,slv q2 n2 d2]++junk),true,none⟩) (L1:=[]) (L2:=[]) (b:=g) (ob:= .cells (pre++([slv p1 m1 c1,slv p2 m2 c2,slv q1 n1 d1,slv q2 n2 d2]++junk)).toArray 157 (0,0)) (fun _=>⟨g,157,pre++(El c [slv p1 m1 c1,slv p2 m2 c2] [slv q1 n1 d1,slv q2 n2 d2]++junk),true,none⟩) (g':=fun _=>g) (o':=fun _=> .cells (pre++(El c [slv p1 m1 c1,slv p2 m2 c2] [slv q1 n1 d1,slv q2 n2 d2]++junk)).toArray 157 (0,0))
   rfl rfl rfl rfl rfl rfl (by kernel_rfl) rfl rfl (fun _ _=>rfl) (fun W1 hp=>Si W1 g off cap pre junk p1 p2 q1 q2 m1 m2 n1 n2 c1 c2 d1 d2 c _ hoff (hp.own.cell 1 _ rfl (g, .cells (pre++([slv p1 m1 c1,slv p2 m2 c2,slv q1 n1 d1,slv q2 n2 d2]++junk)).toArray 157 (0,0)) (List.mem_cons_self ..)).1 (fun W2 hk=>hf W2 ((Mb hg ⟨_,List.mem_cons_self ..⟩ hp).trans hk))) (fun _ _=> ?_)
  refine Aa ?_
  refine CW (X:=Unit) (val:=fun _=> .tuple #[]) (Φ:=fun _=>True) (nb:=fun _=>[AI (Ar W g),⟨g,157,pre++(El c [slv p1 m1 c1,slv p2 m2 c2] [(slv q1 n1 d1),(slv q2 n2 d2)]++junk),true,none⟩]) (fn:=Tryz.f115) tH rfl () rfl trivial fun W1 hp=> ?_
  exact(hp.pick (l:=[AI (Ar W g),⟨g,157,pre++(El c [slv p1 m1 c1,slv p2 m2 c2] [(slv q1 n1 d1),(slv q2 n2 d2)]++junk),true,none⟩]) [0,1] (by decide) rfl).own
 refine key.mono ?_
 rintro e W' ⟨x,he,_,hb,hn'⟩
 exact⟨x,he,trivial,CN hg rfl hb hn'⟩
end
section
open Go Go.RowKit Go.Am
theorem S0 {W0 W:World} {bxs:List Bx} (h:Hp W0 bxs W) {k:Nat} {B B':Bx} (hk:bxs[k]? =some B) (hB:B'.blk.Perm B.blk):Hp W0 (bxs.set k B') W:=by
 refine⟨h.below,fun j X hj p hp=> ?_,fun j X hj=> ?_,fun i j X Y hi hj hne p hp q hq=> ?_⟩
 ·rcases Cp hj with⟨_,rfl⟩|⟨_,h2⟩
  ·exact h.own.cell k B hk p (hB.mem_iff.1 hp)
  ·exact h.own.cell j X h2 p hp
 ·rcases Cp hj with⟨_,rfl⟩|⟨_,h2⟩
  ·exact(hB.map _).nodup_iff.2 (h.own.nd k B hk)
  ·exact h.own.nd j X h2
 ·rcases Cp hi with⟨e1,rfl⟩|⟨e1,h2⟩<;>rcases Cp hj with⟨e2,rfl⟩|⟨e2,h3⟩
  ·exact absurd (e1.trans e2.symm) hne
  ·exact h.own.apart k j B Y hk h3 (fun e=>e2 e.symm) p (hB.mem_iff.1 hp) q hq
  ·exact h.own.apart i k X B h2 hk e1 p hp q (hB.mem_iff.1 hq)
  ·exact h.own.apart i j X Y h2 h3 hne p hp q hq
theorem Mc {r:Option Nat} {n:Nat} {N:Nat} {D:List Deferred} {Q:Exit→Act→World→Prop} {env:Env} {W0:World} {bxs:List Bx} {P:Program} {c:Code} (k:Nat) {B:Bx} (B':Bx) (hk:nth bxs k=some B) (hB:B'.blk.Perm B.blk) (h:WC r n P N D c Q env (Hp W0 (bxs.set k B'))):WC r n P N D c Q env (Hp W0 bxs):= .mk fun a W ha hd hp=>
 h.out a W ha hd (S0 hp (by rw[←AV];exact hk) hB)
abbrev Tc:=List (Vec×List Int)
def nmB (mn:Tc):Bx:=AI (mn.reverse.flatMap fun p=>(p.1.bx 3 (ci p.2)).blk)
theorem Ua (mn:Tc) (U:Vec) (l:List Int):(nmB (mn++[(U,l)])).blk=(U.bx 3 (ci l)).blk++(nmB mn).blk:=by
 show((mn++[(U,l)]).reverse.flatMap _)=_++(mn.reverse.flatMap _)
 rw[List.reverse_append]
 simp
abbrev Gr:=List ((Vec×List Sd)×(Vec×List Int))
def prV (x:(Vec×List Sd)×(Vec×List Int)):List Value:=[x.1.1.val x.1.2.length,x.2.1.val x.2.2.length]
def Bw (mp:Gr):List Value:=mp.flatMap prV
theorem Ox (mp:Gr) (x:(Vec×List Sd)×(Vec×List Int)):Bw (mp++[x])=Bw mp++prV x:=by simp[Bw]
theorem KB: ∀mp:Gr,(Bw mp).length=mp.length*2
 |[]=>rfl
 |x::mp=>by
  show(prV x++Bw mp).length=_
  rw[List.length_append,KB mp,List.length_cons]
  show 2+mp.length*2=(mp.length+1)*2
  omega
theorem MH {mp:Gr} {k:Nat} {x:(Vec×List Sd)×(Vec×List Int)} (h:mp[k]? =some x):Bw mp=Bw (mp.take k)++(prV x++Bw (mp.drop (k+1))):=by
 obtain⟨hk,rfl⟩:=List.getElem?_eq_some_iff.1 h
 have e:mp=mp.take k++(mp[k]::mp.drop (k+1)):=by
  have h2:=List.take_append_drop k mp
  rw[List.drop_eq_getElem_cons hk] at h2
  exact h2.symm
 conv=>lhs;rw[e]
 unfold Bw
 rw[List.flatMap_append];rfl
structure DB (mp:Gr) (ps:List PR):Prop where
 eq:mp.map (fun p=>(p.1.2,p.2.2))=ps
 ok: ∀p∈mp,p.1.1.OK 7 p.1.2.length (cellsOf p.1.2)∧p.2.1.OK 1 p.2.2.length (ci p.2.2)∧p.1.1.p≠none∧p.2.1.p≠none
theorem DB.len {mp:Gr} {ps:List PR} (h:DB mp ps):mp.length=ps.length:=by rw[←h.eq,List.length_map]
theorem DB.snoc {mp:Gr} {ps:List PR} {x:(Vec×List Sd)×(Vec×List Int)} (h:DB mp ps) (h1:x.1.1.OK 7 x.1.2.length (cellsOf x.1.2)) (h2:x.2.1.OK 1 x.2.2.length (ci x.2.2)) (h3:x.1.1.p≠none) (h4:x.2.1.p≠none):DB (mp++[x]) (ps++[(x.1.2,x.2.2)]):=by
 refine⟨by rw[List.map_append,h.eq];rfl,fun p hp=> ?_⟩
 rcases List.mem_append.1 hp with hp|hp
 ·exact h.ok p hp
 ·obtain rfl:=List.mem_singleton.1 hp
  exact⟨h1,h2,h3,h4⟩
def JT:Gr→Gr
 |[x,y,z]=>if D1 (sd z.1.2 0) (sd y.1.2 0)<0 then[x,z,y] else[x,y,z]
 |l=>l
theorem Kt: ∀mp:Gr,(JT mp).Perm mp
 |[]=> .refl _
 |[_]=> .refl _
 |[_,_]=> .refl _
 |[x,y,z]=>by
  show(if _ then[x,z,y] else[x,y,z]).Perm _
  split
  ·exact(List.Perm.swap ..).cons _
  ·exact .refl _
 |_::_::_::_::_=> .refl _
theorem DB.sort {mp:Gr} {ps:List PR} (h:DB mp ps):DB (JT mp) (VL ps):=by
 refine⟨?_,fun p hp=>h.ok p ((Kt mp).mem_iff.1 hp)⟩
 rw[←h.eq]
 match mp with
 |[]=>rfl
 |[_]=>rfl
 |[_,_]=>rfl
 |[x,y,z]=>
  show List.map _ (if D1 (sd z.1.2 0) (sd y.1.2 0)<0 then[x,z,y] else[x,y,z])=(x.1.2,x.2.2)::(if D1 (sd z.1.2 0) (sd y.1.2 0)<0 then[(z.1.2,z.2.2),(y.1.2,y.2.2)] else[(y.1.2,y.2.2),(z.1.2,z.2.2)])
  split<;>rfl
 |_::_::_::_::_=>rfl
section
variable {W0 W:World} {bxs:List Bx}
theorem QD (hp:Hp W0 bxs W) (k:Nat) {mk:GC} (hk:nth bxs k=some (mkB mk)) {x:Vec×List Sd} (hx:x∈mk) {g:Nat} (hg:x.1.p=some g):Br W (some ⟨g,0,none⟩) x.2∧(g,Obj.cells (cellsOf x.2++x.1.junk).toArray 42 (0,0))∈(mkB mk).blk:=by
 obtain⟨⟨p,cap,junk⟩,l⟩:=x
 obtain rfl:p=some g:=hg
 have hin:(g,Obj.cells (cellsOf l++junk).toArray 42 (0,0))∈mk.reverse.flatMap fun p=>(p.1.bx 42 (cellsOf p.2)).blk:=
  List.mem_flatMap.2 ⟨_,List.mem_reverse.2 hx,List.mem_cons_self ..⟩
 have hrow:=Ae.of_grp hp k hk hin
 refine⟨.inr ⟨g,0,rfl,Ef.of_cells hrow.lt fun m u hu=>hrow.get m u ?_⟩,hin⟩
 rw[List.getElem?_append_left (List.getElem?_eq_some_iff.1 hu).1]
 exact hu
theorem Yj (hp:Hp W0 bxs W) (k:Nat) {mn:Tc} (hk:nth bxs k=some (nmB mn)) {x:Vec×List Int} (hx:x∈mn) {g:Nat} (hg:x.1.p=some g) {j:Nat} (hj:j<x.2.length):Ae W g (0+j*1) [.int .i64 (x.2.getD j 0)]:=by
 obtain⟨⟨p,cap,junk⟩,l⟩:=x
 obtain rfl:p=some g:=hg
 have hin:(g,Obj.cells (ci l++junk).toArray 3 (0,0))∈mn.reverse.flatMap fun p=>(p.1.bx 3 (ci p.2)).blk:=
  List.mem_flatMap.2 ⟨_,List.mem_reverse.2 hx,List.mem_cons_self ..⟩
 have hrow:=Ae.of_grp hp k hk hin
 refine⟨hrow.lt,fun m u hu=> ?_⟩
 have hm:m=0:=by have:=(List.getElem?_eq_some_iff.1 hu).1;simp at this;omega
 subst hm
 have h2:=hrow.get j u (by
  show(ci l++junk)[j]? =some u
  have hj':j<l.length:=hj
  rw[List.getElem?_append_left (by simpa using hj'),List.getElem?_map,List.getElem?_eq_getElem hj', ←hu]
  show some _=some (Value.int .i64 (l.getD j 0))
  rw[List.getD_eq_getElem?_getD,List.getElem?_eq_getElem hj'];rfl)
 rw[Nat.mul_one,Nat.add_zero]
 exact h2
end
theorem Vt {mk mk':GC} (h:mk'.Perm mk):(mkB mk').blk.Perm (mkB mk).blk:=
 ((List.reverse_perm mk').trans (h.trans (List.reverse_perm mk).symm)).flatMap_right _
theorem Uv {mn mn':Tc} (h:mn'.Perm mn):(nmB mn').blk.Perm (nmB mn).blk:=
 ((List.reverse_perm mn').trans (h.trans (List.reverse_perm mn).symm)).flatMap_right _
section
variable {r:Option Nat} {n:Nat} {W0:World} {N:Nat} {D:List Deferred} {ops:List Oper} {Q:Exit→Act→World→Prop} {o:Oper} {rest:List Oper} {env:Env} {bxs:List Bx}
theorem WF (k i:Nat) {c:Call} {f:Operand} {d g cV off m:Nat} {jV:List Value} {mp:Gr}
  (hg:A9 ops N env o=some true) (hd:o.dst=some d) (ho:o.op= .call c) (hc:c.callee= .value f) (hf:evO N env f=some (.func (.func 115) #[] #[])) (ha:Cj (evO N env) c.args.toList=some [.slice (some ⟨g,off,none⟩) (m-1) (cV-1), .func (.func 116) #[] #[]])
  (hk:nth bxs k=some ⟨g,157,Bw mp++jV,true,none⟩) (hi:nth bxs i=some (mkB (mp.map (·.1)))) (hki:k≠i) (hm:m=1∨m=2∨m=3) (hoff:m=3→off=2) (hml:mp.length=m) (hok: ∀p∈mp,p.1.1.p≠none∧p.2.1.p≠none∧0<p.1.2.length)
  (h:WL r n Tryz.prog N D ops Q rest ((d, .tuple #[])::env) (Hp W0 (bxs.set k ⟨g,157,Bw (JT mp)++jV,true,none⟩))):WL r n Tryz.prog N D ops Q (o::rest) env (Hp W0 bxs):=by
 have same:JT mp=mp→m≤2→WL r n Tryz.prog N D ops Q (o::rest) env (Hp W0 bxs):=fun e h2=>by
  rw[e] at h
  have e2:bxs.set k ⟨g,157,Bw mp++jV,true,none⟩=bxs:=by
   have h1:bxs[k]? =some ⟨g,157,Bw mp++jV,true,none⟩:=by rw[←AV];exact hk
   exact WV h1
  rw[e2] at h
  exact Ab (g:=115) (capt:=[]) hg hd ho hc hf ha (by kernel_rfl) (fun W _=>OL W _ (m-1) (cV-1) (by omega)) h
 match mp,hml with
 |[x],hml=>exact same rfl (by simp at hml;omega)
 |[x,y],hml=>exact same rfl (by simp at hml;omega)
 |[],hml=>simp at hml;omega
 |_::_::_::_::_,hml=>simp at hml;omega
 |[x,y,z],hml=>
  have hm3:m=3:=by simp at hml;omega
  subst hm3
  obtain rfl:=hoff rfl
  obtain⟨⟨⟨py,cy,jy⟩,ly⟩,⟨⟨qy,dy,ky⟩,oy⟩⟩:=y
  obtain⟨⟨⟨pz,cz,jz⟩,lz⟩,⟨⟨qz,dz,kz⟩,oz⟩⟩:=z
  obtain⟨hy1,hy2,hy3⟩:=hok ((⟨py,cy,jy⟩,ly),(⟨qy,dy,ky⟩,oy)) (by simp)
  obtain⟨hz1,hz2,hz3⟩:=hok ((⟨pz,cz,jz⟩,lz),(⟨qz,dz,kz⟩,oz)) (by simp)
  cases py with
  |none=>exact absurd rfl hy1
  |some gy=>
  cases qy with
  |none=>exact absurd rfl hy2
  |some ny=>
  cases pz with
  |none=>exact absurd rfl hz1
  |some gz=>
  cases qz with
  |none=>exact absurd rfl hz2
  |some nz=>
  have hk':bxs[k]? =some ⟨g,157,prV x++([slv (some ⟨gy,0,none⟩) ly.length cy,slv (some ⟨ny,0,none⟩) oy.length dy,slv (some ⟨gz,0,none⟩) lz.length cz,slv (some ⟨nz,0,none⟩) oz.length dz]++jV),true,none⟩:=by rw[←AV];exact hk
  have hi':bxs[i]? =some (mkB [x.1,(⟨some gy,cy,jy⟩,ly),(⟨some gz,cz,jz⟩,lz)]):=by rw[←AV];exact hi
  refine BX (X:=Unit) (val:=fun _=> .tuple #[]) (Φ:=fun _=>True) (capt:=[]) k (B:=⟨g,157,prV x++([slv (some ⟨gy,0,none⟩) ly.length cy,slv (some ⟨ny,0,none⟩) oy.length dy,slv (some ⟨gz,0,none⟩) lz.length cz,slv (some ⟨nz,0,none⟩) oz.length dz]++jV),true,none⟩) (L1:=[]) (L2:=[]) (b:=g)
   (ob:= .cells (prV x++([slv (some ⟨gy,0,none⟩) ly.length cy,slv (some ⟨ny,0,none⟩) oy.length dy,slv (some ⟨gz,0,none⟩) lz.length cz,slv (some ⟨nz,0,none⟩) oz.length dz]++jV)).toArray 157 (0,0))
   (fun _=>⟨g,157,prV x++(El (D1 (sd lz 0) (sd ly 0)) [slv (some ⟨gy,0,none⟩) ly.length cy,slv (some ⟨ny,0,none⟩) oy.length dy] [slv (some ⟨gz,0,none⟩) lz.length cz,slv (some ⟨nz,0,none⟩) oz.length dz]++jV),true,none⟩) (g':=fun _=>g)
   (o':=fun _=> .cells (prV x++(El (D1 (sd lz 0) (sd ly 0)) [slv (some ⟨gy,0,none⟩) ly.length cy,slv (some ⟨ny,0,none⟩) oy.length dy] [slv (some ⟨gz,0,none⟩) lz.length cz,slv (some ⟨nz,0,none⟩) oz.length dz]++jV)).toArray 157 (0,0))
   hg hd ho hc hf ha (by kernel_rfl) (by rw[AV];exact hk') rfl (fun _ _=>rfl) (fun W hp=> ?_) (fun _ _=> ?_)
  ·obtain⟨ry,my⟩:=QD hp i hi (x:=(⟨some gy,cy,jy⟩,ly)) (by simp) rfl
   obtain⟨rz,mz⟩:=QD hp i hi (x:=(⟨some gz,cz,jz⟩,lz)) (by simp) rfl
   have ney:gy≠g:=fun e=>hp.own.apart k i _ _ hk' hi' hki _ (List.mem_cons_self ..) _ my e.symm
   have nez:gz≠g:=fun e=>hp.own.apart k i _ _ hk' hi' hki _ (List.mem_cons_self ..) _ mz e.symm
   refine O8 W g 2 (cV-1) (prV x) jV (some ⟨gy,0,none⟩) (some ⟨ny,0,none⟩) (some ⟨gz,0,none⟩) (some ⟨nz,0,none⟩) ly.length oy.length lz.length oz.length cy dy cz dz _ rfl (hp.own.cell k _ hk' (g,_) (List.mem_cons_self ..)).1 fun W' hkp=> ?_
   exact OV W' (some ⟨gz,0,none⟩) (some ⟨gy,0,none⟩) (some ⟨nz,0,none⟩) (some ⟨ny,0,none⟩) cz cy oz.length oy.length dz dy lz ly hz3 hy3 (KX rz hkp (fun b off e=>by cases e;exact nez)) (KX ry hkp (fun b off e=>by cases e;exact ney))
  ·have e:Bw (JT [x,((⟨some gy,cy,jy⟩,ly),(⟨some ny,dy,ky⟩,oy)),((⟨some gz,cz,jz⟩,lz),(⟨some nz,dz,kz⟩,oz))])++jV=prV x++(El (D1 (sd lz 0) (sd ly 0)) [slv (some ⟨gy,0,none⟩) ly.length cy,slv (some ⟨ny,0,none⟩) oy.length dy] [slv (some ⟨gz,0,none⟩) lz.length cz,slv (some ⟨nz,0,none⟩) oz.length dz]++jV):=by
    show Bw (if D1 (sd lz 0) (sd ly 0)<0 then _ else _)++jV=_
    unfold El
    by_cases hx:D1 (sd lz 0) (sd ly 0)<0
    ·rw[if_pos hx,if_pos hx];rfl
    ·rw[if_neg hx,if_neg hx];rfl
   rw[e] at h
   exact h
end
theorem Yc (m:Nat):BD (Value.int .i64 0).cells.toList m=ci (List.replicate m 0):=by
 induction m with
 |zero=>rfl
 |succ m ih=>
  show[Value.int .i64 0]++BD (Value.int .i64 0).cells.toList m=_
  rw[ih,List.replicate_succ];rfl
def fill:List Int→Nat→List Int→List Int
 |ns,_,[]=>ns
 |ns,n,o::os=>fill (ns.set o.toNat (n:Int)) (n+1) os
theorem Rc: ∀(os ns:List Int) (n:Nat),(fill ns n os).length=ns.length
 |[],_,_=>rfl
 |o::os,ns,n=>by
  show(fill (ns.set o.toNat (n:Int)) (n+1) os).length=_
  rw[Rc os,List.length_set]
theorem Ni: ∀(os ns:List Int) (n:Nat) (o:Int),fill ns n (os++[o])=(fill ns n os).set o.toNat ((n+os.length:Nat):Int)
 |[],_,_,_=>rfl
 |a::os,ns,n,o=>by
  show fill (ns.set a.toNat (n:Int)) (n+1) (os++[o])=(fill (ns.set a.toNat (n:Int)) (n+1) os).set _ _
  rw[Ni os,List.length_cons]
  congr 2;omega
def Vj (rs:List (List Sd)):List Int:=fill (List.replicate (tot rs) 0) 0 (Ru rs)
theorem VG (rs:List (List Sd)) {o:Int} (h:o∈Ru rs):0≤o∧o<(tot rs:Nat):=by
 have h1:=(JU rs).mem_iff.1 h
 unfold Dy at h1
 obtain⟨i,hi,rfl⟩:=List.mem_map.1 h1
 have:=List.mem_range.1 hi
 omega
theorem Wo (rs:List (List Sd)):(Ru rs).length=tot rs:=by rw[(JU rs).length_eq,Gj]
end
end Go.Proofs.YtlagebbefnnnnaaGreatDoor
