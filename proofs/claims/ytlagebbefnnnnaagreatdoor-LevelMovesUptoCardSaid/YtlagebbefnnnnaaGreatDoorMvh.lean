/-
  Lemmas that the theorem levelMoves_upto_card needs (part 8 of 8).
-/
import Derived.Test.YtlagebbefnnnnaaGreatDoorMvg
import Derived.Test.YtlagebbefnnnnaaGreatDoorRows
import Derived.Deep.Slices
import Derived.ChangeArms
import Derived.ChangeShapes
import Derived.WideShapes
import Derived.Carry
import Derived.Test.YtlagebbefnnnnaaGreatDoorCards
import Derived.Test.YtlagebbefnnnnaaGreatDoorTie
import Derived.ProofKit
import Derived.OpenShut
import Derived.Deep.DeepHandedRow
import Derived.Lib.LaidTab
import Derived.Stop.LaidErr
import Derived.Lay
import Derived.SevenTiedAt
import Derived.Shelf.Vars
set_option maxHeartbeats 64000000
namespace Go.Proofs.YtlagebbefnnnnaaGreatDoor
section
open Go Go.RowKit Go.Am
set_option maxRecDepth 10000
-- BOXES 4
-- BOXIDX t1=0 t2=1 t8=5 t11=5 t14=8
theorem Uc (off j:Nat):Dy off j++[((off+j:Nat):Int)]=Dy off (j+1):=by
 rw[←Q2 off j 1];rfl
theorem N4 (rs:List (List Sd)): ∀n,(FC rs n).length=n
 |0=>rfl
 |n+1=>by
  show(FC rs n++[F3 rs n]).length=_
  rw[List.length_append,N4 rs n];rfl
theorem Nh {rs:List (List Sd)} (hc:chk rs=0): ∀n,n≤rs.length→ ∀x∈FC rs n,0<x.1.length
 |0,_,x,h=>by cases h
 |n+1,hn,x,h=>by
  rcases List.mem_append.1 h with h|h
  ·exact Nh hc n (by omega) x h
  ·obtain rfl:=List.mem_singleton.1 h
   show 0<(Jk (rg rs n)).length
   rw[P9]
   exact List.length_pos_iff.2 ((Cf hc).1 _ (List.mem_of_getElem? (AN (by omega))))
theorem KF (W:World) (p:Option Addr) (cap:Nat) (rs:List (List Sd)) (hn:rs.length<1099511627776) (hR:AY W p rs) (hc:chk rs=0) (h12:tot rs≤12):
  Ai Tryz.prog 45 #[AX p rs.length cap] W (fun x:Vec×GC×Nat=> .tuple #[.agg #[x.1.val (Fv rs).length], .slice (some ⟨x.2.2,0,none⟩) (tot rs) (tot rs), .int .i64 0]) (fun x=>DE x.2.1 (Fv rs)∧x.1.OK 1 (Fv rs).length (AG x.2.1)) (fun x=>[x.1.bx 32 (AG x.2.1),mkB x.2.1,⟨x.2.2,3,ci (Vj rs),true,none⟩]):=by
 obtain⟨hne,hT24,hne0⟩:=Cf hc
 have h3:=VK hc h12
 refine Ad (args:=[AX p rs.length cap]) Tryz.func45 rfl rfl rfl ?_
 refine zA (zB ?_)
 (refine A0 rfl rfl rfl rfl ?_;intro)
 (refine An Tryz.hZ rfl rfl rfl rfl ?_;intro)
 refine wP rfl (wP rfl (Aa ?_))
 rename_i b1 b2
 refine zE (zA (zA (zB (wB 0 rfl rfl rfl ?_))))
 refine Ab rfl rfl rfl rfl rfl rfl (by kernel_rfl) (fun W hp=>(Dk W p cap rs (by omega) (by omega) (hR.hp hp)).cast (by rw[hc])) ?_
 refine wP rfl (Aa (zE (zS rfl (zI (zE (zA (zB (wP rfl (Aa (zE (zA (zB (wP rfl ?_)))))))))))))
 refine Aa (zE (zA (zA (zB (wP rfl (wB 0 rfl rfl rfl (wP rfl (wP rfl (Aa (zE (zH ?_)))))))))))
 refine Cl ?_
 iterate 2 refine No ?_
 refine Az (X:=Nat×Vec×Gr) (fun x=>[(2, .pointer (some ⟨b2,0,none⟩)),(5,x.2.1.val x.1),(6, .int .i64 (tot (rs.take x.1):Nat)),(22,slv p rs.length cap),(23, .int .i64 (rs.length:Nat)),(24, .int .i64 (x.1:Nat))])
  (fun x=>[⟨b1,24,[slv p rs.length cap],true,none⟩,⟨b2,24,[slv none 0 0],true,none⟩,x.2.1.bx 157 (Bw x.2.2),mkB (x.2.2.map (·.1)),nmB (x.2.2.map (·.2))])
  (fun x=>x.1≤rs.length∧DB x.2.2 (FC rs x.1)∧x.2.1.OK 2 x.1 (Bw x.2.2)) (fun x=>rs.length-x.1) (0,Vec.empty,[]) ⟨Nat.zero_le _,⟨rfl,fun p hp=>by cases hp⟩,Vec.OK.empty 2⟩ ⟨rfl,rfl,rfl,rfl,rfl,rfl,trivial⟩ [] rfl ?_
 rintro⟨k,V,mp⟩ ⟨hk,hmp,hV⟩
 change k≤rs.length at hk
 change DB mp (FC rs k) at hmp
 change V.OK 2 k (Bw mp) at hV
 refine zA (zB (wP rfl (Aa (zE (zA ?_)))))
 refine Al rfl (fun h=> ?_) (fun h=> ?_)
 ·have hk:k<rs.length:=by have h':decide ((k:Int)<(rs.length:Nat))=true:=h;rw[decide_eq_true_iff] at h';omega
  clear h
  obtain⟨b,off,rfl,hrow⟩:=hR.row hk
  obtain⟨q,cap2,hq1,hq2⟩:=hrow k hk
  have t1:=Ba hk
  have t2:=Ch rs (k+1)
  have hd:=Np hc hk
  have hat:=PP hc hk
  have hcl:(Jk (rg rs k)).length=(rg rs k).length:=P9 _
  have hol:(rot (Dy (tot (rs.take k)) (rg rs k).length) (atS (rg rs k))).length=(rg rs k).length:=by rw[Cu,Gj]
  obtain⟨o,ho⟩: ∃o,tot (rs.take k)=o:=⟨_,rfl⟩
  obtain⟨m,hm⟩: ∃m,(rg rs k).length=m:=⟨_,rfl⟩
  have t1':((tot (rs.take (k+1)):Nat):Int)=((o+m:Nat):Int):=by rw[t1,ho,hm]
  refine zI (zE (zA (zH (zA (zB ?_)))))
  refine wJ ?_
  refine Av rfl rfl rfl rfl (fun W hp=>Ae.load 0 tH rfl ((fun W hp=>hq1.hp hp) W hp) rfl) ?_
  (refine An Tryz.hZ rfl rfl rfl rfl ?_;intro)
  refine wS 5 rfl rfl rfl (Aa ?_)
  rename_i b8
  refine zE (zA (zB (wP rfl (Aa (zE (zA (zA (zB (wB 5 rfl rfl rfl (wP rfl (wP rfl (Aa (zE ?_)))))))))))))
  refine zH ?_
  refine Cl ?_
  refine Az (X:=Nat×Vec) (fun x=>[(2, .pointer (some ⟨b2,0,none⟩)),(5,V.val k),(6, .int .i64 ((o+x.1:Nat):Int)),(22,slv (some ⟨b,off,none⟩) rs.length cap),(23, .int .i64 (rs.length:Nat)),(24, .int .i64 (k:Nat)),(8, .pointer (some ⟨b8,0,none⟩)),(9,x.2.val x.1),(29, .int .i64 (m:Nat)),(30, .int .i64 (x.1:Nat))])
   (fun x=>[⟨b1,24,[slv (some ⟨b,off,none⟩) rs.length cap],true,none⟩,⟨b2,24,[slv none 0 0],true,none⟩,V.bx 157 (Bw mp),mkB (mp.map (·.1)),nmB (mp.map (·.2)),⟨b8,32,[slv q (rg rs k).length cap2],true,none⟩,x.2.bx 3 (ci (Dy o x.1))])
   (fun x=>x.1≤m∧x.2.OK 1 x.1 (ci (Dy o x.1))) (fun x=>m-x.1) (0,Vec.empty) ⟨Nat.zero_le _,Vec.OK.empty 1⟩ ⟨rfl,rfl,by rw[←ho];rfl,rfl,rfl,rfl,rfl,rfl,by rw[←hm];rfl,rfl,trivial⟩ [] rfl ?_
  rintro⟨j,U⟩ ⟨hj,hU⟩
  change j≤m at hj
  change U.OK 1 j (ci (Dy o j)) at hU
  refine zA (zB (wP rfl (Aa (zE (zA ?_)))))
  refine Al rfl (fun h=> ?_) (fun h=> ?_)
  ·have hj:j<m:=by have h':decide ((j:Int)<(m:Nat))=true:=h;rw[decide_eq_true_iff] at h';omega
   clear h
   refine zI (zE (zA (zH (zA (zB (wP rfl (wP rfl ?_)))))))
   (refine A4 Tryz.hZ tH rfl rfl rfl rfl rfl rfl rfl rfl rfl rfl rfl ?_;intro)
   refine AO (V:=U) (len:=j) (xs:=ci (Dy o j)) 6 7 Tryz.vec58 (j+1) (ci (Dy o (j+1))) rfl rfl rfl rfl rfl rfl rfl rfl rfl rfl rfl hU rfl rfl rfl (by show ci (Dy o j)++ci [((o+j:Nat):Int)]=_;rw[←Uc];exact(JH _ _).symm) (by simp only[maxLen];omega) (by omega) rfl ?_
   intro g c1 j1 hV1
   refine wP rfl (Aa (zE (zB (wP rfl (wP rfl (wP rfl (Aa (zN (zE (zB (wP rfl (wP rfl (Aa ?_)))))))))))))
   exact At (j+1,⟨some g,c1,j1⟩) ⟨hj,hV1⟩ (by show m-(j+1)<m-j;omega) ⟨rfl,rfl,congrArg (fun z=>some (Value.int .i64 z)) (A6 (x:=((o+j:Nat):Int)+1) (by omega) (by omega)),rfl,rfl,rfl,rfl,rfl,rfl,congrArg (fun z=>some (Value.int .i64 z)) (A6 (x:=(j:Int)+1) (by omega) (by omega)),trivial⟩ [_] rfl
  have e:j=m:=by have h':decide ((j:Int)<(m:Nat))=false:=h;rw[decide_eq_false_iff_not] at h';omega
  subst e
  clear h
  obtain⟨pU,cU,jU⟩:=U
  cases pU with
  |none=>have:=hU.nil rfl;omega
  |some gU=>
  refine zJ (zK (zK (zL (zE (zA (zB (wB 5 rfl rfl rfl (wP rfl ?_))))))))
  refine Ab rfl rfl rfl rfl rfl rfl (by kernel_rfl) (fun W hp=>Pd 110 (by kernel_rfl) [.pointer (some ⟨b8,0,none⟩)] (Zn (rg rs k)) W q cap2 (rg rs k) (by omega) (hq2.hp hp) fun W' hb s=>Oc W' b8 q cap2 (rg rs k) (by omega) (by omega) ((Ae.of_bx hp 5 rfl rfl).below (Nat.le_refl _) hb) ((hq2.hp hp).below (Nat.le_refl _) hb) s) ?_
  refine Ac 41 (.int .i64 (atS (rg rs k):Nat)) rfl (congrArg (Value.int .i64) (V9 hd (by omega))) ?_
  refine wP rfl (Aa (zE (zB (wP rfl (wB 5 rfl rfl rfl (wP rfl ?_))))))
  refine Ay (X:=Vec) rfl rfl rfl rfl rfl rfl (by kernel_rfl) (fun W hp=>MM W q cap2 (rg rs k) (atS (rg rs k)) hat (by omega) (hq2.hp hp)) ?_
  rintro⟨pS,cS,jS⟩ ⟨hS,hSp⟩
  cases pS with
  |none=>exact absurd rfl hSp
  |some gS=>
  refine wP rfl (wP rfl ?_)
  refine Ay (X:=Vec) rfl rfl rfl rfl rfl rfl (by kernel_rfl) (fun W hp=>by
   have h:=OI W gU 0 cU (Dy o j) (atS (rg rs k)) (by rw[Gj];omega) (by rw[Gj];omega) (HT hp 6 (A:=[]) (C:=jU) rfl rfl rfl)
   rw[Gj] at h
   exact h) ?_
  rintro⟨pN,cN,jN⟩ ⟨hN,hNp⟩
  cases pN with
  |none=>exact absurd rfl hNp
  |some gN=>
  have hx1:(⟨some gS,cS,jS⟩:Vec).OK 7 (Jk (rg rs k)).length (cellsOf (Jk (rg rs k))):=by rw[hcl];exact hS
  have ho2:(rot (Dy o j) (atS (rg rs k))).length=j:=by rw[←ho, ←hm];exact hol
  have hx2:(⟨some gN,cN,jN⟩:Vec).OK 1 (rot (Dy o j) (atS (rg rs k))).length (ci (rot (Dy o j) (atS (rg rs k)))):=by rw[ho2];exact hN
  have hpv:prV (((⟨some gS,cS,jS⟩:Vec),Jk (rg rs k)),((⟨some gN,cN,jN⟩:Vec),rot (Dy o j) (atS (rg rs k))))=[slv (some ⟨gS,0,none⟩) (rg rs k).length cS,slv (some ⟨gN,0,none⟩) j cN]:=by
   show[slv (some ⟨gS,0,none⟩) (Jk (rg rs k)).length cS,slv (some ⟨gN,0,none⟩) (rot (Dy o j) (atS (rg rs k))).length cN]=_
   rw[hcl,ho2]
  have hpair:F3 rs k=(Jk (rg rs k),rot (Dy o j) (atS (rg rs k))):=by rw[←ho, ←hm];rfl
  refine AA Tryz.hZ tH rfl rfl rfl rfl rfl rfl rfl rfl ?_
  (refine A4 Tryz.hZ tH rfl rfl rfl rfl rfl rfl rfl rfl rfl rfl rfl ?_;intro)
  refine AO (V:=V) (len:=k) (xs:=Bw mp) 2 9 Tryz.vec150 (k+1) (Bw (mp++[(((⟨some gS,cS,jS⟩:Vec),Jk (rg rs k)),((⟨some gN,cN,jN⟩:Vec),rot (Dy o j) (atS (rg rs k))))])) rfl rfl rfl rfl rfl rfl rfl rfl rfl rfl rfl hV rfl rfl rfl (by rw[Ox,hpv];rfl) (by simp only[maxLen];omega) (by omega) rfl ?_
  intro g1 c1 j1 hV1
  refine wP rfl (Aa (zN (zE (zB (wP rfl (wP rfl (Aa ?_)))))))
  refine KP 3 7 (mkB ((mp++[(((⟨some gS,cS,jS⟩:Vec),Jk (rg rs k)),((⟨some gN,cN,jN⟩:Vec),rot (Dy o j) (atS (rg rs k))))]).map (·.1))) rfl rfl rfl (by rw[List.map_append];exact Qc _ _ _) ?_
  refine KP 4 8 (nmB ((mp++[(((⟨some gS,cS,jS⟩:Vec),Jk (rg rs k)),((⟨some gN,cN,jN⟩:Vec),rot (Dy o j) (atS (rg rs k))))]).map (·.2))) rfl rfl rfl (by rw[List.map_append];exact Ua _ _ _) ?_
  exact At (k+1,⟨some g1,c1,j1⟩,mp++[(((⟨some gS,cS,jS⟩:Vec),Jk (rg rs k)),((⟨some gN,cN,jN⟩:Vec),rot (Dy o j) (atS (rg rs k))))])
   ⟨hk,by show DB _ (FC rs k++[F3 rs k]);rw[hpair];exact hmp.snoc hx1 hx2 (by simp) (by simp),hV1⟩ (by show rs.length-(k+1)<rs.length-k;omega)
   ⟨rfl,rfl,congrArg (fun z:Int=>some (Value.int .i64 z)) t1'.symm,rfl,rfl,congrArg (fun z=>some (Value.int .i64 z)) (A6 (x:=(k:Int)+1) (by omega) (by omega)),trivial⟩ [_,_,C9,C9,_] rfl
 have e:k=rs.length:=by have h':decide ((k:Int)<(rs.length:Nat))=false:=h;rw[decide_eq_false_iff_not] at h';omega
 subst e
 clear h
 obtain⟨pV,cV,jV⟩:=V
 cases pV with
 |none=>have:=hV.nil rfl;omega
 |some g=>
 have hcV:rs.length≤cV:=(hV.cap (by simp)).1
 have hml:mp.length=rs.length:=by rw[hmp.len,N4]
 have hmq0:=hmp.sort
 obtain⟨mq,emq⟩: ∃mq,JT mp=mq:=⟨_,rfl⟩
 have hpm:mq.Perm mp:=by rw[←emq];exact Kt mp
 rw[emq] at hmq0
 have hmq:DB mq (UB rs):=hmq0
 have hql:mq.length=rs.length:=by rw[hpm.length_eq,hml]
 have hne2: ∀x∈mp,0<x.1.2.length:=fun x hx=>by
  have h1:(x.1.2,x.2.2)∈FC rs rs.length:=by rw[←hmp.eq];exact List.mem_map.2 ⟨x,hx,rfl⟩
  exact Nh hc _ (Nat.le_refl _) _ h1
 refine zJ (zK (zK (zL (zE (zA (zB (wP rfl ?_)))))))
 refine BC 1 tH rfl rfl rfl rfl rfl rfl rfl rfl (by show 1≤rs.length;omega) hcV ?_
 refine WF 2 3 (m:=rs.length) (mp:=mp) rfl rfl rfl rfl rfl rfl rfl rfl (by decide) h3 (fun h=>(if_neg (show¬cV=1 by omega)).trans rfl) hml (fun x hx=>⟨(hmp.ok x hx).2.2.1,(hmp.ok x hx).2.2.2,hne2 x hx⟩) ?_
 rw[emq]
 refine Aa (zE ?_)
 refine Mc 3 (mkB (mq.map (·.1))) rfl (Vt (hpm.map _)) ?_
 refine Mc 4 (nmB (mq.map (·.2))) rfl (Uv (hpm.map _)) ?_
 refine zA (zB ?_)
 (refine An Tryz.hZ rfl rfl rfl rfl ?_;intro)
 refine Aa ?_
 rename_i b11
 refine zE (zA (zB (wP rfl ?_)))
 refine DX Tryz.vec58 (tot rs) rfl rfl rfl rfl rfl (by rw[List.take_length]) (by rw[List.take_length]) (by simp only[maxLen];omega) (by omega) ?_
 intro bN
 rw[Yc]
 refine wP rfl (Aa (zE (zA (zB (wP rfl (Aa (zE (zA (zA (zB (wP rfl (wP rfl (wP rfl ?_)))))))))))))
 refine Aa (zE (zH ?_))
 refine Cl ?_
 refine Az (X:=Nat×Vec) (fun x=>[(2, .pointer (some ⟨b2,0,none⟩)),(6, .int .i64 (((mq.take x.1).flatMap (·.2.2)).length:Nat)),(11, .pointer (some ⟨b11,0,none⟩)),(12, .slice (some ⟨bN,0,none⟩) (tot rs) (tot rs)),(58, .slice (some ⟨g,0,none⟩) rs.length cV),(59, .int .i64 (rs.length:Nat)),(60, .int .i64 (x.1:Nat))])
  (fun x=>[⟨b1,24,[slv p rs.length cap],true,none⟩,⟨b2,24,[slv none 0 0],true,none⟩,⟨g,157,Bw mq++jV,true,none⟩,mkB (mq.map (·.1)),nmB (mq.map (·.2)),⟨b11,24,[x.2.val x.1],true,none⟩,⟨bN,3,ci (fill (List.replicate (tot rs) 0) 0 ((mq.take x.1).flatMap (·.2.2))),true,none⟩,x.2.bx 32 (AG ((mq.take x.1).map (·.1)))])
  (fun x=>x.1≤rs.length∧x.2.OK 1 x.1 (AG ((mq.take x.1).map (·.1)))) (fun x=>rs.length-x.1) (0,Vec.empty) ⟨Nat.zero_le _,Vec.OK.empty 1⟩ ⟨rfl,rfl,rfl,rfl,rfl,rfl,rfl,trivial⟩ [] rfl ?_
 rintro⟨k,V2⟩ ⟨hk,hV2⟩
 change k≤rs.length at hk
 change V2.OK 1 k (AG ((mq.take k).map (·.1))) at hV2
 have hold:Ru rs=mq.flatMap (·.2.2):=by
  unfold Ru
  rw[←hmq.eq]
  exact List.flatMap_map ..
 refine zA (zB (wP rfl (Aa (zE (zA ?_)))))
 refine Al rfl (fun h=> ?_) (fun h=> ?_)
 ·have hk:k<rs.length:=by have h':decide ((k:Int)<(rs.length:Nat))=true:=h;rw[decide_eq_true_iff] at h';omega
  clear h
  obtain⟨x,hx⟩: ∃x,mq[k]? =some x:=⟨_,List.getElem?_eq_getElem (by omega)⟩
  have hxm:=List.mem_of_getElem? hx
  have htk:mq.take (k+1)=mq.take k++[x]:=by rw[List.take_add_one,hx];rfl
  have hsp:=MH hx
  obtain⟨hx1,hx2,hx3,hx4⟩:=hmq.ok x hxm
  have hxo: ∀o∈x.2.2,0≤o∧o<(tot rs:Nat):=fun o ho=>VG rs (by rw[hold];exact List.mem_flatMap.2 ⟨x,hxm,ho⟩)
  obtain⟨⟨⟨pS,cS,jS⟩,ls⟩,⟨⟨pN,cN,jN⟩,on⟩⟩:=x
  cases pS with
  |none=>exact absurd rfl hx3
  |some gS=>
  cases pN with
  |none=>exact absurd rfl hx4
  |some gN=>
  have hlo:((mq.take k).flatMap (·.2.2)).length+on.length≤tot rs:=by
   have h1:(mq.take (k+1)).flatMap (·.2.2)=(mq.take k).flatMap (·.2.2)++on:=by rw[htk,List.flatMap_append];simp
   have h2:mq.flatMap (·.2.2)=(mq.take (k+1)).flatMap (·.2.2)++(mq.drop (k+1)).flatMap (·.2.2):=by rw[←List.flatMap_append,List.take_append_drop]
   have h4:=Wo rs
   rw[hold,h2,h1,List.length_append,List.length_append] at h4
   omega
  refine zI (zE (zA (zH (zA (zB ?_)))))
  refine wJ ?_
  refine Av rfl rfl rfl rfl (fun W hp=>Ae.load 0 tH rfl ((fun W1 hp=>show Ae W1 g (0+k*2) [slv (some ⟨gS,0,none⟩) ls.length cS,slv (some ⟨gN,0,none⟩) on.length cN] from HT hp 2 (A:=Bw (mq.take k)) (C:=Bw (mq.drop (k+1))++jV) rfl (by rw[hsp,List.append_assoc,List.append_assoc];rfl) (by rw[KB,List.length_take];omega)) W hp) rfl) ?_
  (refine An Tryz.hZ rfl rfl rfl rfl ?_;intro)
  refine wS 8 rfl rfl rfl (Aa ?_)
  rename_i b14
  refine zE (zA (zB (wP rfl (wB 5 rfl rfl rfl (wP rfl (wB 8 rfl rfl rfl ?_))))))
  (refine A4 Tryz.hZ tH rfl rfl rfl rfl rfl rfl rfl rfl rfl rfl rfl ?_;intro)
  refine AO (V:=V2) (len:=k) (xs:=AG ((mq.take k).map (·.1))) 7 9 Tryz.vec22 (k+1) (AG ((mq.take (k+1)).map (·.1))) rfl rfl rfl rfl rfl rfl rfl rfl rfl rfl rfl hV2 rfl rfl rfl (by rw[htk,List.map_append];show AG _++[slv (some ⟨gS,0,none⟩) ls.length cS]=AG (_++[((⟨some gS,cS,jS⟩:Vec),ls)]);exact(If (List.map (·.1) (mq.take k)) ⟨some gS,cS,jS⟩ ls).symm) (by simp only[maxLen];omega) (by omega) rfl ?_
  intro g2 c2 j2 hV3
  refine wP rfl (wS 5 rfl rfl rfl (Aa (zE (zA (zB (wP rfl (wB 8 rfl rfl rfl (wP rfl (wP rfl (Aa (zE (zH ?_))))))))))))
  obtain⟨L,eL⟩: ∃L,(mq.take k).flatMap (·.2.2)=L:=⟨_,rfl⟩
  rw[eL] at hlo
  refine Az (X:=Nat) (fun j=>[(2, .pointer (some ⟨b2,0,none⟩)),(6, .int .i64 ((L.length+j:Nat):Int)),(11, .pointer (some ⟨b11,0,none⟩)),(12, .slice (some ⟨bN,0,none⟩) (tot rs) (tot rs)),(58, .slice (some ⟨g,0,none⟩) rs.length cV),(59, .int .i64 (rs.length:Nat)),(60, .int .i64 (k:Nat)),(72, .slice (some ⟨gN,0,none⟩) on.length cN),(73, .int .i64 (on.length:Nat)),(74, .int .i64 (j:Nat))])
   (fun j=>[⟨b1,24,[slv p rs.length cap],true,none⟩,⟨b2,24,[slv none 0 0],true,none⟩,⟨g,157,Bw mq++jV,true,none⟩,mkB (mq.map (·.1)),nmB (mq.map (·.2)),⟨b11,24,[slv (some ⟨g2,0,none⟩) (k+1) c2],true,none⟩,⟨bN,3,ci (fill (List.replicate (tot rs) 0) 0 (L++on.take j)),true,none⟩,⟨g2,32,AG ((mq.take (k+1)).map (·.1))++j2,true,none⟩])
   (fun j=>j≤on.length) (fun j=>on.length-j) 0 (Nat.zero_le _) ⟨rfl,congrArg (fun l:List Int=>some (Value.int .i64 (l.length:Nat))) eL,rfl,rfl,rfl,rfl,rfl,rfl,rfl,rfl,trivial⟩ [_,_] (by rw[←eL];simp only[List.take_zero,List.append_nil];rfl) ?_
  intro j hj
  refine zA (zB (wP rfl (Aa (zE (zA ?_)))))
  refine Al rfl (fun h=> ?_) (fun h=> ?_)
  ·have hj:j<on.length:=by have h':decide ((j:Int)<(on.length:Nat))=true:=h;rw[decide_eq_true_iff] at h';omega
   clear h
   obtain⟨z,hz⟩: ∃z,on.getD j 0=z:=⟨_,rfl⟩
   have hzj:on[j]? =some z:=by rw[←hz,List.getD_eq_getElem?_getD,List.getElem?_eq_getElem hj];rfl
   obtain⟨hz0,hz1⟩:=hxo z (List.mem_of_getElem? hzj)
   have htj:on.take (j+1)=on.take j++[z]:=by rw[List.take_add_one,hzj];rfl
   have hset:ci ((fill (List.replicate (tot rs) 0) 0 (L++on.take j)).set z.toNat ((L.length+j:Nat):Int))=ci (fill (List.replicate (tot rs) 0) 0 (L++on.take (j+1))):=by
    rw[htj, ←List.append_assoc,Ni,List.length_append,List.length_take,Nat.min_eq_left (Nat.le_of_lt hj),Nat.zero_add]
   have hfl:(fill (List.replicate (tot rs) 0) 0 (L++on.take j)).length=tot rs:=by rw[Rc,List.length_replicate]
   refine zI (zE (zA (zH (zA (zB ?_)))))
   refine wJ ?_
   refine Av rfl rfl rfl rfl (fun W hp=>Ae.load 0 tH rfl ((fun W1 hp=>Yj hp 4 rfl (x:=(⟨some gN,cN,jN⟩,on)) (List.mem_map.2 ⟨_,hxm,rfl⟩) rfl hj) W hp) rfl) ?_
   refine Ac 77 (.int .i64 z) rfl (congrArg (Value.int .i64) hz) ?_
   refine wP rfl (Aa (zE (zA (zB (wP rfl (wP rfl (wP rfl ?_)))))))
   refine wJ ?_
   refine Aj 6 (ci (fill (List.replicate (tot rs) 0) 0 (L++on.take (j+1)))) tH rfl rfl rfl rfl rfl rfl rfl rfl rfl rfl (by show 0+z.toNat*1+1≤(ci (fill (List.replicate (tot rs) 0) 0 (L++on.take j))).length;rw[List.length_map,hfl];omega) (by
    have h1:=Pc ((L.length+j:Nat):Int) (junk:=[]) (L:=fill (List.replicate (tot rs) 0) 0 (L++on.take j)) (j:=z.toNat) (by rw[hfl];omega)
    rw[List.append_nil,List.append_nil,hset] at h1
    show AS _ (0+z.toNat*1) _=_
    rw[Nat.zero_add]
    exact h1) ?_
   refine Aa (zE (zB (wP rfl (wP rfl (wP rfl (Aa (zN (zE (zB (wP rfl (wP rfl (Aa ?_))))))))))))
   exact At (j+1) hj (by omega) ⟨rfl,congrArg (fun z=>some (Value.int .i64 z)) (A6 (x:=((L.length+j:Nat):Int)+1) (by omega) (by omega)),rfl,rfl,rfl,rfl,rfl,rfl,rfl,congrArg (fun z=>some (Value.int .i64 z)) (A6 (x:=(j:Int)+1) (by omega) (by omega)),trivial⟩ [] rfl
  have e:j=on.length:=by have h':decide ((j:Int)<(on.length:Nat))=false:=h;rw[decide_eq_false_iff_not] at h';omega
  subst e
  clear h
  have hL2:(mq.take (k+1)).flatMap (·.2.2)=L++on.take on.length:=by rw[htk,List.flatMap_append,eL,List.take_length];simp
  refine zJ (zK (zK (zL (zN (zE (zB (wP rfl (wP rfl (Aa ?_)))))))))
  exact At (k+1,⟨some g2,c2,j2⟩) ⟨hk,hV3⟩ (by show rs.length-(k+1)<rs.length-k;omega) ⟨rfl,congrArg (fun n:Nat=>some (Value.int .i64 (n:Int))) (by rw[hL2,List.length_append,List.take_length]),rfl,rfl,rfl,rfl,congrArg (fun z=>some (Value.int .i64 z)) (A6 (x:=(k:Int)+1) (by omega) (by omega)),trivial⟩ []
   (congrArg (fun l=>[(⟨b1,24,[slv p rs.length cap],true,none⟩:Bx),⟨b2,24,[slv none 0 0],true,none⟩,⟨g,157,Bw mq++jV,true,none⟩,mkB (mq.map (·.1)),nmB (mq.map (·.2)),⟨b11,24,[slv (some ⟨g2,0,none⟩) (k+1) c2],true,none⟩,⟨bN,3,ci (fill (List.replicate (tot rs) 0) 0 l),true,none⟩,⟨g2,32,AG ((mq.take (k+1)).map (·.1))++j2,true,none⟩]) hL2.symm)
 have e:k=rs.length:=by have h':decide ((k:Int)<(rs.length:Nat))=false:=h;rw[decide_eq_false_iff_not] at h';omega
 subst e
 clear h
 have hcl:(Fv rs).length=rs.length:=by unfold Fv;rw[List.length_map, ←hmq.len,hql]
 have htk:mq.take rs.length=mq:=List.take_of_length_le (by omega)
 rw[htk] at hV2
 obtain⟨pV2,cV2,jV2⟩:=V2
 cases pV2 with
 |none=>have:=hV2.nil rfl;omega
 |some g2=>
 have hns:fill (List.replicate (tot rs) 0) 0 ((mq.take rs.length).flatMap (·.2.2))=Vj rs:=by rw[htk, ←hold];rfl
 refine zJ (zK (zK (zL (zE (zA (zB (wB 5 rfl rfl rfl (wP rfl (wS 1 rfl rfl rfl (wP rfl (wP rfl (Aa (zE ?_)))))))))))))
 refine zO ?_
 refine CB tH rfl (.cell 1 rfl rfl rfl rfl rfl) (.tmp rfl) (.tmp rfl) (⟨some g2,cV2,jV2⟩,mq.map (·.1),bN) (by show Value.tuple #[.agg #[.slice (some ⟨g2,0,none⟩) rs.length cV2],_,_]= .tuple #[.agg #[.slice (some ⟨g2,0,none⟩) (Fv rs).length cV2],_,_];rw[hcl]) ⟨⟨?_,fun x hx=> ?_⟩,by show Vec.OK _ 1 (Fv rs).length _;rw[hcl];exact hV2⟩ fun W hp=> ?_
 ·unfold Fv
  rw[←hmq.eq,List.map_map,List.map_map];rfl
 ·obtain⟨y,hy,rfl⟩:=List.mem_map.1 hx
  exact(hmq.ok y hy).1
 ·have h1:=(hp.pick (l:=[(⟨some g2,cV2,jV2⟩:Vec).bx 32 (AG ((mq.take rs.length).map (·.1))),mkB (mq.map (·.1)),⟨bN,3,ci (fill (List.replicate (tot rs) 0) 0 ((mq.take rs.length).flatMap (·.2.2))),true,none⟩]) [7,3,6] (by decide) rfl).own
  rw[hns,htk] at h1
  exact h1
end
section
open Go Go.RowKit Go.Am Go.Lib
set_option maxRecDepth 10000
-- BOXES 12
-- CODE2
def wyX (n:Nat) (e:Int):Way→Value
 |none=> .tuple #[Mm, .int .i64 e]
 |some x=> .tuple #[.agg #[x.1.val n], .int .i64 0]
def Zm (bad:Bool) (ms:List (List Sd)) (n:Nat):Way→Prop
 |none=>bad=true
 |some x=>bad=false∧DE x.2 ms∧x.1.OK 1 n (AG x.2)
theorem Tm {bad:Bool} {ms:List (List Sd)} {n:Nat} {e:Int} {x:Way} (h:Zm bad ms n x) (hl:ms.length=n) (he:bad=true→e≠0):
  ∃q cq ms' k,wyX n e x= .tuple #[AX q (ms':List (List Sd)).length cq, .int .i64 k]∧(k==0)=(!bad)∧(bad=false→ms'=ms)∧
   ∀ {W0 W:World} {bxs:List Bx},Hp W0 bxs W→ ∀i j,nth bxs i=some (UT x)→nth bxs j=some (Xe x)→AY W q ms':=by
 subst hl
 cases x with
 |none=>
  have h:bad=true:=h
  refine⟨none,0,[],e,rfl,(by rw[h];exact beq_eq_false_iff_ne.2 (he h)),fun h2=>(by rw[h] at h2;cases h2),fun _ _ _ _ _=> .inl rfl⟩
 |some x=>
  obtain⟨h1,h2,h3⟩:bad=false∧DE x.2 ms∧x.1.OK 1 ms.length (AG x.2):=h
  obtain⟨q,cq,e1,e2⟩:=Et h2 h3
  exact⟨q,cq,ms,0,congrArg (fun v=>Value.tuple #[.agg #[v], .int .i64 0]) e1,by rw[h1];rfl,fun _=>rfl,fun hp i j hi hj=>e2 hp i j hi hj⟩
theorem TG (W:World) (p:Option Addr) (cap:Nat) (rs:List (List Sd)) (dx dy:Int) (hn:rs.length<1099511627776) (hT:tot rs<1099511627776) (hR:AY W p rs):
  Ai Tryz.prog 42 #[AX p rs.length cap, .int .i64 dx, .int .i64 dy] W (wyX rs.length (shE rs dx dy)) (Zm (decide (shE rs dx dy≠0)) (mvR (shF dx dy) rs) rs.length) (fun x=>[UT x,Xe x]):=by
 by_cases he:shE rs dx dy=0
 ·exact⟨(UP W p cap rs dx dy hn hR he).out.mono fun e W' ⟨x,h1,hx,hb,hw⟩=>⟨some x,h1,⟨decide_eq_false (fun h=>h he),hx⟩,hb,hw⟩⟩
 ·exact⟨(WW W p cap rs dx dy hn hT hR he).out.mono fun e W' ⟨x,h1,hx,hb,hw⟩=>⟨none,h1,decide_eq_true he,hb,by
   have h:Hp W [] W':=⟨hb,hw⟩
   exact h.newGone.newGone.own⟩⟩
theorem Su (W:World) (p:Option Addr) (cap:Nat) (rs:List (List Sd)) (n:Int) (hn:rs.length<1099511627776) (hR:AY W p rs) (hc:chk rs=0):
  Ai Tryz.prog 44 #[AX p rs.length cap, .int .i64 n] W (wyX rs.length 2) (Zm ((Ft rs (qn n).toNat).flatten.any (fun s=> !rgd s)) (Ft rs (qn n).toNat) rs.length) (fun x=>[UT x,Xe x]):=
 ⟨(OQ W p cap rs n hn hR hc).out.mono fun e W' ⟨x,he,hx,hb,hw⟩=>by
  cases x with
  |some x=>exact⟨some x,he,hx,hb,hw⟩
  |none=>
   have h:Hp W [] W':=⟨hb,hw⟩
   exact⟨none,he,hx,hb,h.newGone.newGone.own⟩⟩
theorem Vk (rs:List (List Sd)) (n:Nat):(Ft rs n).length=rs.length:=by unfold Ft;rw[Ea,De]
theorem VS {rs:List (List Sd)} (hc:chk rs=0) (h12:tot rs≤12):(Fv rs).length=rs.length:=by
 obtain⟨τ,κ,S⟩:=Lb hc h12
 exact S.len
theorem Hi (W:World) (p:Option Addr) (cap:Nat) {rs qs:List (List Sd)} (h:EG W p qs) (e:B8 qs=B8 rs):
  Ai Tryz.prog 22 #[AX p qs.length cap] W (fun V:Vec=> .tuple #[V.val (B8 rs).length, .int .i64 0]) (fun V=>V.OK 1 (B8 rs).length (nS (B8 rs))) (fun V=>[V.bx 37 (nS (B8 rs))]):=by
 have h1:=I8 W p cap qs h
 rw[e] at h1
 exact h1
theorem NQ (W:World) (p:Option Addr) (cap:Nat) (rs:List (List Sd)) (c:Int) (hc8: -128≤c∧c≤127) (a b:Nat) (ha:a<256) (hb:b<256) (hn:rs.length<1099511627776) (hT:tot rs<1099511627776) (hR:AY W p rs) (hd:I2 W) (hv:BN W) (ht:Bd W):
  Ai Tryz.prog 10 #[AX p rs.length cap, .int .u8 (a:Nat), .int .u8 (b:Nat), .int .i8 c] W (fun _:Unit=> .bool true) (fun _=>True) (fun _=>[]):=by
 refine Ad (args:=[AX p rs.length cap, .int .u8 (a:Nat), .int .u8 (b:Nat), .int .i8 c]) Tryz.func10 rfl rfl rfl ?_
 refine zA (zB ?_)
 (refine A0 rfl rfl rfl rfl ?_;intro)
 refine wP rfl (Aa ?_)
 rename_i b4
 refine zE (zA (zA (zB (wB 0 rfl rfl rfl ?_))))
 refine Ab rfl rfl rfl rfl rfl rfl (by kernel_rfl) (fun W1 hp=>Qe W1 p cap rs hn hT (hR.hp hp) (hd.hp hp) (hv.hp hp) (ht.hp hp)) ?_
 by_cases hf:Ij rs=true
 rotate_left
 ·refine Ac 25 (.bool false) rfl (congrArg Value.bool (by simpa using hf)) ?_
  refine wP rfl (Aa (zE (zR rfl (zA (zB ?_)))))
  refine Ab rfl rfl rfl rfl rfl rfl (by kernel_rfl) (fun W1 hp=>Jb W1 (hd.hp hp) (hv.hp hp) (ht.hp hp)) ?_
  refine wP rfl (Aa (zE (zO (zP ?_))))
  exact Af tH rfl (.tmp rfl) () rfl trivial fun W _=>Ag.nil _ _
 obtain⟨hP,h12⟩:=YV hf hn hR hd hv ht
 have hpos:=US hP.c
 have hlen:=WJ (Cf hP.c).2.1
 have hlm:((B8 rs).map Ak).length<4611686018427387904:=by rw[List.length_map];omega
 refine Ac 25 (.bool true) rfl (congrArg Value.bool hf) ?_
 refine wP rfl (Aa (zE (zS rfl (zI (zE (zA (zB (wB 0 rfl rfl rfl ?_))))))))
 refine Ay (X:=Vec) rfl rfl rfl rfl rfl rfl (by kernel_rfl) (fun W1 hp=>I8 W1 p cap rs (hP.hp hp)) ?_
 intro V hV
 obtain⟨pS,cS,eS,mS⟩:=Gl hV
 rw[eS]
 iterate 5 refine wP rfl ?_
 refine Aa (zE (zA (zA (zB ?_))))
 iterate 6 refine wP rfl ?_
 refine Ac 38 (.bool false) rfl (congrArg Value.bool (beq_eq_false_iff_ne.2 (show((((B8 rs).map Ak).length:Nat):Int)≠0 by rw[List.length_map];omega))) ?_
 refine wP rfl (Aa (zE (zS rfl (zI (zE (zA (zA (zB (wB 0 rfl rfl rfl (wP rfl ?_))))))))))
 refine Er Tryz.underlying5 Tryz.underlying3 rfl rfl rfl rfl ?_
 refine Ac 43 (.int .i64 (a:Nat)) rfl (congrArg (Value.int .i64) (CA (by omega))) ?_
 refine wP rfl ?_
 refine Er Tryz.underlying5 Tryz.underlying3 rfl rfl rfl rfl ?_
 refine Ac 45 (.int .i64 (b:Nat)) rfl (congrArg (Value.int .i64) (CA (by omega))) ?_
 obtain⟨e1,he1⟩: ∃e,e=shE rs (a:Nat) (b:Nat):=⟨_,rfl⟩
 obtain⟨ms,hms⟩: ∃m,m=mvR (shF (a:Nat) (b:Nat)) rs:=⟨_,rfl⟩
 have hml:ms.length=rs.length:=by rw[hms,Ea]
 refine Ay (X:=Way) rfl rfl rfl rfl rfl rfl (by kernel_rfl) (fun W1 hp=>TG W1 p cap rs (a:Nat) (b:Nat) hn hT (hR.hp hp)) ?_
 rw[←he1, ←hms]
 intro x hx
 obtain⟨q1,c1,m1,k1,ev1,ek1,em1,hr1⟩:=Tm hx hml (fun h=>of_decide_eq_true h)
 rw[ev1]
 refine wP rfl (wP rfl (wP rfl ?_))
 (refine An Tryz.hZ rfl rfl rfl rfl ?_;intro)
 refine wS 4 rfl rfl rfl (wP rfl (Aa ?_))
 rename_i b11
 refine zE (zA (zB (wP rfl (wP rfl ?_))))
 refine Ac 50 (.bool (!(decide (e1≠0)))) rfl (congrArg Value.bool ek1) ?_
 refine Aa (AP ?_)
 try refine AL ?_
 refine BF (X:=Unit) (fun _=>[(3, .int .i8 c),(4,A5 b4),(9,slv pS ((B8 rs).map Ak).length cS)]) (fun _=>[bxE b4 24 (slv p rs.length cap),V.bx 37 (nS (B8 rs))]) (fun _=>True) ?_ ?_
 ·refine Al rfl (fun h1=> ?_) (fun h1=> ?_)
  ·have h1:e1=0:=by simpa using h1
   have hm:=em1 (decide_eq_false fun h=>h h1)
   subst hm
   obtain⟨hcm,hlv⟩:=YL (show 0≤((a:Nat):Int)∧((a:Nat):Int)≤65536 by omega) (show 0≤((b:Nat):Int)∧((b:Nat):Int)≤65536 by omega) (by rw[←he1];exact h1)
   rw[←hms] at hcm hlv
   refine zA (zB (wB 4 rfl rfl rfl ?_))
   refine Ay (X:=Vec) rfl rfl rfl rfl rfl rfl (by kernel_rfl) (fun W1 hp=>Hi W1 q1 c1 ⟨by omega,hr1 hp 2 3 rfl rfl,hcm,hd.hp hp,hv.hp hp,ht.hp hp⟩ hlv) ?_
   intro U hU
   obtain⟨pU,cU,eU,mU⟩:=Gl hU
   rw[eU]
   iterate 5 refine wP rfl ?_
   refine Aa (zE (zA (zB ?_)))
   iterate 5 refine wP rfl ?_
   refine Ab rfl rfl rfl rfl rfl rfl (by kernel_rfl) (fun W1 hp=>(DZ W1 pS pU cS cU _ _ (mS hp 1 rfl) (mU hp 5 rfl) hlm hlm).cast (v':= .bool true) (by rw[decide_eq_true rfl])) ?_
   refine wP rfl (wP rfl (Aa (zE (zS rfl (zI ?_)))))
   exact AH () trivial ⟨rfl,rfl,rfl,trivial⟩ _ rfl
  ·refine zI ?_
   exact AH () trivial ⟨rfl,rfl,rfl,trivial⟩ _ rfl
 intro _ _
 refine zA (zA (zB (wB 0 rfl rfl rfl (wP rfl ?_))))
 refine Er Tryz.underlying77 Tryz.underlying3 rfl rfl rfl rfl ?_
 refine Ac 67 (.int .i64 c) rfl (congrArg (Value.int .i64) (As (by omega) (by omega))) ?_
 obtain⟨ns,hns⟩: ∃m,m=Ft rs (qn c).toNat:=⟨_,rfl⟩
 have hnl:ns.length=rs.length:=by rw[hns,Vk]
 refine Ay (X:=Way) rfl rfl rfl rfl rfl rfl (by kernel_rfl) (fun W1 hp=>Su W1 p cap rs c hn (hR.hp hp) hP.c) ?_
 rw[←hns]
 obtain⟨bd,hbd⟩: ∃t,t=ns.flatten.any (fun s=> !rgd s):=⟨_,rfl⟩
 rw[←hbd]
 intro x hx
 obtain⟨q2,c2,m2,k2,ev2,ek2,em2,hr2⟩:=Tm (e:=2) hx hnl (fun _=>by decide)
 rw[ev2]
 refine wP rfl (wP rfl (wP rfl ?_))
 (refine An Tryz.hZ rfl rfl rfl rfl ?_;intro)
 refine wS 4 rfl rfl rfl (wP rfl (Aa ?_))
 rename_i b15
 refine zE (zA (zB (wP rfl (wP rfl ?_))))
 refine Ac 72 (.bool (!bd)) rfl (congrArg Value.bool ek2) ?_
 refine Aa (AP ?_)
 try refine AL ?_
 refine BF (X:=Unit) (fun _=>[(4,A5 b4),(9,slv pS ((B8 rs).map Ak).length cS)]) (fun _=>[bxE b4 24 (slv p rs.length cap),V.bx 37 (nS (B8 rs))]) (fun _=>True) ?_ ?_
 ·refine Al rfl (fun h1=> ?_) (fun h1=> ?_)
  ·have h1:bd=false:=by simpa using h1
   have hm:=em2 h1
   subst hm
   have hcm:chk m2=0:=by rw[hns];exact W5 hP.c (by rw[←hns, ←hbd];exact h1)
   have hlv:B8 m2=B8 rs:=by rw[hns];exact TB hP.c _
   refine zA (zB (wB 4 rfl rfl rfl ?_))
   refine Ay (X:=Vec) rfl rfl rfl rfl rfl rfl (by kernel_rfl) (fun W1 hp=>Hi W1 q2 c2 ⟨by omega,hr2 hp 2 3 rfl rfl,hcm,hd.hp hp,hv.hp hp,ht.hp hp⟩ hlv) ?_
   intro U hU
   obtain⟨pU,cU,eU,mU⟩:=Gl hU
   rw[eU]
   iterate 5 refine wP rfl ?_
   refine Aa (zE (zA (zB ?_)))
   iterate 5 refine wP rfl ?_
   refine Ab rfl rfl rfl rfl rfl rfl (by kernel_rfl) (fun W1 hp=>(DZ W1 pS pU cS cU _ _ (mS hp 1 rfl) (mU hp 5 rfl) hlm hlm).cast (v':= .bool true) (by rw[decide_eq_true rfl])) ?_
   refine wP rfl (wP rfl (Aa (zE (zS rfl (zI ?_)))))
   exact AH () trivial ⟨rfl,rfl,trivial⟩ _ rfl
  ·refine zI ?_
   exact AH () trivial ⟨rfl,rfl,trivial⟩ _ rfl
 intro _ _
 refine zA (zB (wB 0 rfl rfl rfl ?_))
 refine Ay (X:=Vec×GC×Nat) rfl rfl rfl rfl rfl rfl (by kernel_rfl) (fun W1 hp=>KF W1 p cap rs hn (hR.hp hp) hP.c h12) ?_
 rintro⟨Vc,mk,gN⟩ ⟨hmk,hVc⟩
 have hcl:=VS hP.c h12
 have hcc:=UR hP.c h12
 have hlv:=Xf hP.c h12
 obtain⟨qc,cc,ec,hrc⟩:=Et hmk hVc
 dsimp only
 rw[ec]
 refine wP rfl (wP rfl (wP rfl (wP rfl ?_)))
 (refine An Tryz.hZ rfl rfl rfl rfl ?_;intro)
 refine wS 5 rfl rfl rfl (wP rfl (wP rfl (Aa ?_)))
 rename_i b19
 refine zE (zA (zB (wB 5 rfl rfl rfl ?_)))
 refine Ay (X:=Vec) rfl rfl rfl rfl rfl rfl (by kernel_rfl) (fun W1 hp=>Hi W1 qc cc ⟨by omega,hrc hp 2 3 rfl rfl,hcc,hd.hp hp,hv.hp hp,ht.hp hp⟩ hlv) ?_
 intro U hU
 obtain⟨pU,cU,eU,mU⟩:=Gl hU
 rw[eU]
 iterate 5 refine wP rfl ?_
 refine Aa (zE (zA (zB ?_)))
 iterate 9 refine wP rfl ?_
 refine Ab rfl rfl rfl rfl rfl rfl (by kernel_rfl) (fun W1 hp=>(DZ W1 pS pU cS cU _ _ (mS hp 1 rfl) (mU hp 6 rfl) hlm hlm).cast (v':= .bool true) (by rw[decide_eq_true rfl])) ?_
 refine wP rfl (wP rfl ?_)
 refine Ab rfl rfl rfl rfl rfl rfl (by kernel_rfl) (fun W1 hp=>Jb W1 (hd.hp hp) (hv.hp hp) (ht.hp hp)) ?_
 refine wP rfl (wP rfl (Aa (zE (zO ?_))))
 exact Af tH rfl (.tmp rfl) () rfl trivial fun W _=>Ag.nil _ _
end
section
open Go Go.RowKit Go.Am Go.ChangeShapes Go.WideShapes Go.Deep
set_option maxRecDepth 10000
theorem c42:Tryz.prog.cellsOf 42=7:=by kernel_rfl
theorem c27:Tryz.prog.cellsOf 32=1:=by kernel_rfl
theorem c24:Tryz.prog.cellsOf 24=1:=by kernel_rfl
theorem c22:Tryz.prog.cellsOf 22=1:=by kernel_rfl
theorem c3:Tryz.prog.cellsOf 3=1:=by kernel_rfl
theorem c4:Tryz.prog.cellsOf 4=1:=by kernel_rfl
theorem Lz {H:Type} (d:DataW H):1≤Rows.uptoBulk d:=by
 cases d with
 |lit l=>cases l<;>simp[Rows.uptoBulk]
 |nil=>simp[Rows.uptoBulk]
 |ptr d=>simp[Rows.uptoBulk]
 |slice elems spare=>simp[Rows.uptoBulk]
 |agg parts=>simp[Rows.uptoBulk]
 |iface t d=>simp[Rows.uptoBulk]
 |map entries=>simp[Rows.uptoBulk]
 |held h=>simp[Rows.uptoBulk]
theorem Vh {H:Type} (l:List (DataW H)):l.length≤Rows.uptoBulkAll l:=by
 induction l with
 |nil=>simp[Rows.uptoBulkAll]
 |cons x r ih=>have:=Lz x;simp only[Rows.uptoBulkAll,List.length_cons];omega
theorem VT {H:Type} {A:Type} (L:A→Nat) (D:A→DataW H) (is:List A) (h: ∀i,i∈is→L i+1≤Rows.uptoBulk (D i)):
  (is.map L).sum+is.length≤Rows.uptoBulkAll (is.map D):=by
 induction is with
 |nil=>simp[Rows.uptoBulkAll]
 |cons x r ih=>
  have h1:=h x (.head _)
  have h2:=ih fun i hi=>h i (.tail _ hi)
  simp only[List.map_cons,List.sum_cons,List.length_cons,Rows.uptoBulkAll]
  omega
theorem LL {H:Type} (e s:List (DataW H)):Rows.uptoBulkAll e+1≤Rows.uptoBulk (.slice e s):=by
 simp only[Rows.uptoBulk];omega
theorem Sn {w:World} {a:Addr} {v:Value} (h:w.cell? a=some v):a.spot=none∧a.block<w.heap.size:=by
 unfold World.cell? at h
 split at h
 ·rename_i hb
  refine⟨?_, ?_⟩
  ·cases hs:a.spot with
   |none=>rfl
   |some k=>simp[hs] at h
  ·exact(Array.getElem?_eq_some_iff.1 hb).1
 ·cases h
theorem IM {w:World} {base n:Nat} {a:Addr} {cs:List Value} (h:w.cells? base a n=some cs) (hn:0<n):a.spot=none∧Ae w a.block a.off cs:=by
 obtain⟨_,hl,hg⟩:=World.cells?_some h
 have h0:=hg 0 hn
 have hv:cs[0]? =some cs[0]:=List.getElem?_eq_getElem (by omega)
 rw[hv] at h0
 have hp:=Sn h0
 have hs:a.spot=none:=by simpa[Addr.add] using hp.1
 refine⟨hs,⟨by simpa[Addr.add] using hp.2,fun j x hx=> ?_⟩⟩
 have hj:j<n:=by rw[←hl];exact(List.getElem?_eq_some_iff.1 hx).1
 rw[←hx, ←hg j hj]
 congr 1
 unfold Addr.add
 split
 ·subst_vars;cases a;simp_all
 ·rfl
theorem SQ {a:Addr} (hs:a.spot=none) (n:Nat):a.add n=⟨a.block,a.off+n,none⟩:=by
 unfold Addr.add
 split
 ·subst_vars;cases a;simp_all
 ·rfl
def Sd.in64 (s:Sd):Prop:= ∀z∈[s.x,s.y,s.rise,s.run,s.plate,s.over], -9223372036854775808≤z∧z≤9223372036854775807
section
variable {H:Type} {enc:TypeId×Value→H} {w:World} {base:Nat} {spare:Nat→Bool} {held:Bool} {fuel:Nat} {cs:List Value} {x:DataW H×List MemPlace}
theorem Xx (h:DataW.trod enc Tryz.prog w base spare held fuel 42 cs=some x): ∃s:Sd,cs=s.cells∧s.in64:=by
 obtain⟨xs,m,rfl,rfl,hl,hx,hf⟩:=DataW.trod_struct Tryz.underlying42 h
 rw[c42] at hl
 have g: ∀(i:Nat) (o t:Nat) (f:Field),(match Tryz.prog.underlying 42 with|some (.struct fs)=>fs[i]? |_=>none)=some f→f.offset=o→f.type=t→
   ∃y,DataW.trod enc Tryz.prog w base spare held m t ((cs.drop o).take (Tryz.prog.cellsOf t))=some y:=by
  intro i o t f hi ho ht
  rw[Tryz.underlying42] at hi
  subst ho;subst ht
  have h1:=hf i f hi
  have h2:i<xs.length:=by rw[hx];exact(Array.getElem?_eq_some_iff.1 hi).1
  rw[List.getElem?_eq_getElem h2] at h1
  exact⟨_,h1⟩
 match cs,hl with
 |[v0,v1,v2,v3,v4,v5,v6],_=>
  have gi: ∀(i o:Nat) (f:Field) (v:Value),(match Tryz.prog.underlying 42 with|some (.struct fs)=>fs[i]? |_=>none)=some f→f.offset=o→f.type=3→([v0,v1,v2,v3,v4,v5,v6].drop o).take 1=[v]→
    ∃z,v= .int .i64 z∧ -9223372036854775808≤z∧z≤9223372036854775807:=by
   intro i o f v h1 h2 h3 h4
   obtain⟨y,hy⟩:=g i o 3 f h1 h2 h3
   rw[c3,h4] at hy
   obtain⟨z,e1,_,hw⟩:=DataW.trod_int Tryz.underlying3 hy
   refine⟨z,by simpa using e1, ?_⟩
   simpa[Lit.wf,IntKind.min,IntKind.max,IntKind.signed,IntKind.bits] using hw
  obtain⟨z0,rfl,b0⟩:=gi 0 0 _ v0 (by rw[Tryz.underlying42];rfl) rfl rfl rfl
  obtain⟨z1,rfl,b1⟩:=gi 1 1 _ v1 (by rw[Tryz.underlying42];rfl) rfl rfl rfl
  obtain⟨z2,rfl,b2⟩:=gi 2 2 _ v2 (by rw[Tryz.underlying42];rfl) rfl rfl rfl
  obtain⟨z3,rfl,b3⟩:=gi 3 3 _ v3 (by rw[Tryz.underlying42];rfl) rfl rfl rfl
  obtain⟨z5,rfl,b5⟩:=gi 5 5 _ v5 (by rw[Tryz.underlying42];rfl) rfl rfl rfl
  obtain⟨z6,rfl,b6⟩:=gi 6 6 _ v6 (by rw[Tryz.underlying42];rfl) rfl rfl rfl
  obtain⟨y4,hy4⟩:=g 4 4 4 _ (by rw[Tryz.underlying42];rfl) rfl rfl
  rw[c4] at hy4
  obtain⟨z4,e4,_⟩:=DataW.trod_bool Tryz.underlying4 hy4
  obtain rfl:v4= .bool z4:=by simpa using e4
  refine⟨⟨z0,z1,z2,z3,z4,z5,z6⟩,rfl, ?_⟩
  intro z hz
  simp only[List.mem_cons,List.not_mem_nil,or_false] at hz
  rcases hz with rfl|rfl|rfl|rfl|rfl|rfl<;>assumption
theorem UH (h:DataW.trod enc Tryz.prog w base spare held fuel 32 cs=some x):
  ∃(p:Option Addr) (cap:Nat) (l:List Sd),cs=[slv p l.length cap]∧Br w p l∧(∀s∈l,s.in64)∧l.length+1≤Rows.uptoBulk x.1:=by
 rcases open_slice Tryz.underlying32 h with⟨rfl,rfl⟩|⟨a,len,cap,m,n,D,Pl,rfl,_,hl,_,hm,rfl,hx⟩
 ·exact⟨none,0,[],rfl, .inl rfl,(fun _ hs=>by cases hs),Lz _⟩
 have hlm:len≤m:=by rw[hm];split<;>omega
 obtain⟨S,hS⟩:=choose_lt (α:=Sd) (n:=len) (p:=fun i s=>w.cells? base (a.add (i*7)) 7=some s.cells∧s.in64) fun i hi=>by
  obtain⟨cs',h1,h2⟩:=hx i (by omega)
  rw[c42] at h1
  obtain⟨s,rfl,h3⟩:=Xx h2
  exact⟨s,h1,h3⟩
 refine⟨some a,cap,(List.range len).map S,by simp, ?_, ?_, ?_⟩
 ·by_cases h0:len=0
  ·subst h0;exact .inl rfl
  ·have hs:a.spot=none:=by simpa[Addr.add] using(IM (hS 0 (by omega)).1 (by decide)).1
   refine .inr ⟨a.block,a.off,by cases a;simp_all,⟨fun i s hi=> ?_⟩⟩
   simp only[List.getElem?_map,Option.map_eq_some_iff] at hi
   obtain⟨k,hk,rfl⟩:=hi
   have hk':i<len∧k=i:=by
    have:=List.getElem?_eq_some_iff.1 hk
    obtain⟨h1,h2⟩:=this
    simp at h1 h2
    exact⟨h1,h2.symm⟩
   obtain⟨h1,rfl⟩:=hk'
   have:=(IM (hS k h1).1 (by decide)).2
   rwa [SQ hs] at this
 ·intro s hs
  simp only[List.mem_map,List.mem_range] at hs
  obtain⟨i,hi,rfl⟩:=hs
  exact(hS i hi).2
 ·have h1:=Vh ((List.range len).map D)
  have h2:=LL ((List.range len).map D) ((List.range (m-len)).map fun j=>D (len+j))
  simp only[List.length_map,List.length_range] at h1⊢
  omega
theorem RR (h:DataW.trod enc Tryz.prog w base spare held fuel 22 cs=some x):
  ∃(p:Option Addr) (cap:Nat) (rs:List (List Sd)),cs=[slv p rs.length cap]∧AY w p rs∧(∀l∈rs, ∀s∈l,s.in64)∧tot rs+rs.length+1≤Rows.uptoBulk x.1:=by
 rcases open_slice Tryz.underlying22 h with⟨rfl,rfl⟩|⟨a,len,cap,m,n,D,Pl,rfl,_,hl,_,hm,rfl,hx⟩
 ·exact⟨none,0,[],rfl, .inl rfl,(fun _ hs=>by cases hs),Lz _⟩
 have hlm:len≤m:=by rw[hm];split<;>omega
 obtain⟨L,hL⟩:=choose_lt (α:=List Sd) (n:=len) (p:=fun i l=> ∃q c,w.cells? base (a.add (i*1)) 1=some [slv q l.length c]∧Br w q l∧(∀s∈l,s.in64)∧l.length+1≤Rows.uptoBulk (D i)) fun i hi=>by
  obtain⟨cs',h1,h2⟩:=hx i (by omega)
  rw[c27] at h1
  obtain⟨q,c,l,rfl,h3,h4,h5⟩:=UH h2
  exact⟨l,q,c,h1,h3,h4,h5⟩
 refine⟨some a,cap,(List.range len).map L,by simp, ?_, ?_, ?_⟩
 ·by_cases h0:len=0
  ·subst h0;exact .inl rfl
  ·obtain⟨q0,c0,h00,_⟩:=hL 0 (by omega)
   have hs:a.spot=none:=by simpa[Addr.add] using(IM h00 (by decide)).1
   refine .inr ⟨a.block,a.off,by cases a;simp_all,⟨fun i l hi=> ?_⟩⟩
   simp only[List.getElem?_map,Option.map_eq_some_iff] at hi
   obtain⟨k,hk,rfl⟩:=hi
   have hk':i<len∧k=i:=by
    obtain⟨h1,h2⟩:=List.getElem?_eq_some_iff.1 hk
    simp at h1 h2
    exact⟨h1,h2.symm⟩
   obtain⟨h1,rfl⟩:=hk'
   obtain⟨q,c,h2,h3,_⟩:=hL k h1
   have:=(IM h2 (by decide)).2
   rw[SQ hs] at this
   exact⟨q,c,this,h3⟩
 ·intro l hl'
  simp only[List.mem_map,List.mem_range] at hl'
  obtain⟨i,hi,rfl⟩:=hl'
  obtain⟨_,_,_,_,h3,_⟩:=hL i hi
  exact h3
 ·have h1:=VT (fun i=>(L i).length) D (List.range len) fun i hi=>by
   obtain⟨_,_,_,_,_,h3⟩:=hL i (by simpa using hi)
   exact h3
  have h2:=LL ((List.range len).map D) ((List.range (m-len)).map fun j=>D (len+j))
  simp only[tot,List.map_map,List.length_map,List.length_range] at h1⊢
  have h3:(List.range len).map (List.length∘L)=(List.range len).map fun i=>(L i).length:=rfl
  rw[h3]
  show _≤Rows.uptoBulk (DataW.slice _ _)
  omega
end
section
variable {H:Type} {enc:TypeId×Value→H} {w:World} {base:Nat} {spare:Nat→Bool} {held:Bool} {v:Value} {d:DataW H} {ps:List MemPlace}
theorem UA {r:Reach} {b0:Nat} (hv:Value.okWide Tryz.prog w r b0 24 v) (h:DataW.Trod enc Tryz.prog w base spare held 24 v d ps):
  ∃(p:Option Addr) (cap:Nat) (rs:List (List Sd)),v=AX p rs.length cap∧AY w p rs∧(∀l∈rs, ∀s∈l,s.in64)∧tot rs+rs.length+2≤Rows.uptoBulk d:=by
 obtain⟨cs,rfl,hc⟩:=okWide_struct Tryz.underlying24 hv
 obtain⟨fuel,hf⟩:=h
 obtain⟨xs,m,rfl,hx,hl,hn,hg⟩:=DataW.trod_struct Tryz.underlying24 hf
 rw[c24] at hc
 obtain⟨y0,rfl⟩: ∃y,xs=[y]:=by
  match xs,hn with
  |[y],_=>exact⟨y,rfl⟩
 have h0:DataW.trod enc Tryz.prog w base spare held m 22 (List.take (Tryz.prog.cellsOf 22) (List.drop 0 cs.toList))=some y0:=hg 0 _ rfl
 rw[c22] at h0
 obtain⟨c0,rfl⟩: ∃c,cs= #[c]:=by
  obtain⟨l⟩:=cs
  match l,hc with
  |[c],_=>exact⟨c,rfl⟩
 obtain⟨p,cap,rs,e1,e2,e3,e4⟩:=RR h0
 simp only[Prod.mk.injEq] at hx
 obtain⟨rfl,_⟩:=hx
 refine⟨p,cap,rs, ?_,e2,e3, ?_⟩
 ·have:c0=slv p rs.length cap:=by simpa[Value.cells] using e1
  rw[this]
 ·simp only[List.map_cons,List.map_nil,Rows.uptoBulk,Rows.uptoBulkAll]
  have:y0.1=(y0:DataW H×List MemPlace).1:=rfl
  omega
end
end
section
open Go
noncomputable abbrev laidL:List (String×DataW Unit):=Rows.frontCornersRow.laid
end
section
open Go Go.RowKit Go.Am Go.ChangeShapes Go.WideShapes Go.Deep Go.ChangeAt
set_option maxRecDepth 100000
section
variable {H:Type} {enc:TypeId×Value→H} {w:World} {base:Nat} {spare:Nat→Bool} {held:Bool} {v:Value} {d:DataW H} {ps:List MemPlace}
end
theorem own:ownKnob Tryz.prog.godebug=none:=by kernel_rfl
theorem SW:laidOutB Tryz.prog=true:=by kernel_rfl
theorem I0:(laidL.all fun x=>x.2.handleName?.isNone)=true:=by kernel_rfl
theorem PI {W:World} (h:laidMetH Tryz.prog laidL W):Bd W:=by
 rw[MakeChecks.laidMetH_plain _ _ _ I0] at h
 exact Lib.tabIs_of_head (g:=1) (t:=318) (e:=263) (n:=20) (by kernel_rfl) (by kernel_rfl) (by kernel_rfl) (by kernel_rfl) (by kernel_rfl) (by kernel_rfl) h.tail.tail
theorem YH {W:World} (hS:W.ShapedOpen Tryz.prog):BN W:=
 cell_of_shapedOpen_int (g:=6) (t:=3) (zero:= #[.int .i64 0]) hS (of_decide_eq_true (by kernel_rfl)) (by kernel_rfl) rfl (by kernel_rfl) (by kernel_rfl) Tryz.underlying3
noncomputable def witW (os:Os):World:=World.laidAll Tryz.prog os laidL
theorem WO (os:Os) (args:Array Value):laidMetH Tryz.prog laidL ((witW os).forCall (fun _ _=>0) ⟨#[],args,[]⟩).memory:=by
 rw[MakeChecks.laidMetH_plain _ _ _ I0]
 exact laidMet_laidAll _ (by kernel_rfl) (by kernel_rfl)
theorem RV (os:Os) (args:Array Value):((witW os).forCall (fun _ _=>0) ⟨#[],args,[]⟩).Shaped Tryz.prog:=
 World.shaped_of_ZipB (by kernel_rfl) (by kernel_rfl)
theorem XQ {H:Type} {enc:TypeId×Value→H} (os:Os) {f:FuncId} {fn:Func} {s:OpenSpec} {conds:List PathCond} (args:Array Value)
  (hok:Input.okWideB Tryz.prog ((witW os).forCall (fun _ _=>0) ⟨#[],args,[]⟩) f ⟨#[],args,[]⟩=true)
  (hrow:s.preRow enc Tryz.prog fn conds false laidL ((witW os).forCall (fun _ _=>0) ⟨#[],args,[]⟩).memory args):
  ∃(w:World) (tape:Tape) (i:Input),w.os=os∧(w.forCall tape i).Shaped Tryz.prog∧i.vars=[]∧Input.okWide Tryz.prog (w.forCall tape i) .any w.heap.size f i∧
   s.preRow enc Tryz.prog fn conds false laidL (w.forCall tape i).memory i.args∧({}:Assume).holds Tryz.prog (lone (Frame.enter Tryz.prog f i.args .normal) [] (w.forCall tape i)):=
 ⟨witW os,fun _ _=>0,⟨#[],args,[]⟩,World.laidAll_os _ _ _,RV os args,(Input.okWide_of_okWideB (base:=0) hok).1,(Input.okWide_of_okWideB hok).2,hrow,by
  simp only[Assume.holds]
  exact⟨by simp,by simp,by simp,by simp,by simp,by simp⟩⟩
theorem ZV:Tryz.prog.cellsOf 176=2:=by kernel_rfl
theorem ZY:Tryz.prog.cellsOf 177=8:=by kernel_rfl
theorem ZU:Tryz.prog.cellsOf 4=1:=by kernel_rfl
theorem aT:Tryz.prog.cellsOf 3=1:=by kernel_rfl
section
variable {H:Type} {enc:TypeId×Value→H} {w:World} {base:Nat} {spare:Nat→Bool} {held:Bool} {fuel:Nat} {cs:List Value} {x:DataW H×List MemPlace}
theorem IP (h:DataW.trod enc Tryz.prog w base spare held fuel 176 cs=some x): ∃(b:Bool) (z:Int),cs=[.bool b, .int .i64 z]∧x.1= .agg [.lit (.bool b), .lit (.int .i64 z)]:=by
 obtain⟨xs,m,rfl,rfl,hl,hn,hg⟩:=DataW.trod_struct Tryz.underlying176 h
 rw[ZV] at hl
 match cs,hl with
 |[u,v],_=>
  match xs,hn with
  |[y0,y1],_=>
   have h0:DataW.trod enc Tryz.prog w base spare held m 4 (([u,v].drop 0).take (Tryz.prog.cellsOf 4))=some y0:=hg 0 _ rfl
   have h1:DataW.trod enc Tryz.prog w base spare held m 3 (([u,v].drop 1).take (Tryz.prog.cellsOf 3))=some y1:=hg 1 _ rfl
   rw[ZU] at h0
   rw[aT] at h1
   obtain⟨b,e0,f0⟩:=DataW.trod_bool Tryz.underlying4 h0
   obtain⟨z,e1,f1,_⟩:=DataW.trod_int Tryz.underlying3 h1
   refine⟨b,z, ?_, ?_⟩
   ·have a0:u= .bool b:=by simpa using e0
    have a1:v= .int .i64 z:=by simpa using e1
    rw[a0,a1]
   ·simp[f0,f1]
theorem T9 (h:DataW.trod enc Tryz.prog w base spare held fuel 177 cs=some x) (hx:x.1= .agg [.agg [.lit (.bool false), .lit (.int .i64 1)], .agg [.lit (.bool true), .lit (.int .i64 (-1))], .agg [.lit (.bool false), .lit (.int .i64 (-1))], .agg [.lit (.bool true), .lit (.int .i64 1)]]):cs=YR:=by
 obtain⟨xs,m,rfl,rfl,hl,hn,hg⟩:=DataW.trod_array Tryz.underlying177 h
 rw[ZY] at hl
 match cs,hl with
 |[a0,a1,a2,a3,a4,a5,a6,a7],_=>
  match xs,hn with
  |[y0,y1,y2,y3],_=>
   have h0:=hg 0 (by decide)
   have h1:=hg 1 (by decide)
   have h2:=hg 2 (by decide)
   have h3:=hg 3 (by decide)
   rw[ZV] at h0 h1 h2 h3
   obtain⟨b0,z0,e0,f0⟩:=IP (x:=y0) h0
   obtain⟨b1,z1,e1,f1⟩:=IP (x:=y1) h1
   obtain⟨b2,z2,e2,f2⟩:=IP (x:=y2) h2
   obtain⟨b3,z3,e3,f3⟩:=IP (x:=y3) h3
   simp only[List.map_cons,List.map_nil,f0,f1,f2,f3,DataW.agg.injEq,List.cons.injEq,DataW.lit.injEq,Lit.bool.injEq,Lit.int.injEq,true_and,and_true] at hx
   obtain⟨⟨rfl,rfl⟩,⟨rfl,rfl⟩,⟨rfl,rfl⟩,⟨rfl,rfl⟩⟩:=hx
   simp at e0 e1 e2 e3
   obtain⟨rfl,rfl⟩:=e0
   obtain⟨rfl,rfl⟩:=e1
   obtain⟨rfl,rfl⟩:=e2
   obtain⟨rfl,rfl⟩:=e3
   rfl
end
theorem Qs {W:World} (h:laidMetH Tryz.prog laidL W):I2 W:=by
 rw[MakeChecks.laidMetH_plain _ _ _ I0] at h
 obtain⟨ps,⟨g',t',cs,fuel,p,q,hg',ht',hvar,hd,_,_⟩,_⟩:=h.tail.tail.tail.tail.tail.tail
 obtain rfl := Option.some.inj ((show Tryz.prog.globalNamed "kingpost/front.directions" = some 0 by kernel_rfl).symm.trans hg')
 obtain rfl:=Option.some.inj ((show(Tryz.prog.globals[0]?).map (·.type)=some 177 by kernel_rfl).symm.trans ht')
 have e:=T9 hd rfl
 have hc: ∀i u,YR[i]? =some u→W.cell? ⟨0,i,none⟩=some u:=fun i u hu=>by
  rw[World.var?_cell hg' hvar i]
  rw[←e] at hu
  simpa using hu
 refine⟨?_,fun m u hu=> ?_⟩
 ·obtain⟨c,ty,fr,h1,_⟩:=Sort.cells_of_cell? (hc 0 _ rfl)
  exact(Array.getElem?_eq_some_iff.1 h1).1
 ·rw[Nat.zero_add]
  exact hc m u hu
end
end Go.Proofs.YtlagebbefnnnnaaGreatDoor
