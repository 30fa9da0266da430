/-
  Lemmas that the theorem convexMass_upto_card needs (part 7 of 7).
-/
import Derived.Test.YthndmdimmgkpgaaGreatDoorCmf
import Derived.Test.YthndmdimmgkpgaaGreatDoorRows
import Derived.Test.YthndmdimmgkpgaaGreatDoorCards
import Derived.Test.YthndmdimmgkpgaaGreatDoorTie
import Derived.Deep.Slices
import Derived.ChangeArms
import Derived.ChangeShapes
import Derived.WideShapes
import Derived.Carry
import Derived.ProofKit
import Derived.OpenShut
import Derived.Deep.DeepHandedRow
import Derived.Lib.LaidTab
import Derived.Stop.LaidErr
import Derived.Lay
import Derived.SevenTiedAt
import Derived.Shelf.Vars
import Derived.ChangeMaps5
set_option maxHeartbeats 64000000
namespace Go.Proofs.YthndmdimmgkpgaaGreatDoor
section
open Go Go.RowKit Go.Am Go.Lib
set_option maxRecDepth 10000
-- BOXES 15
-- CODE2
theorem Vx (q:Rat):(EZ q==0)=decide (q=0):=by
 have h2:q.num=0↔q=0:=Rat.num_eq_zero
 rw[Bool.eq_iff_iff,beq_iff_eq,decide_eq_true_iff, ←h2]
 unfold EZ
 split
 ·rename_i e
  exact⟨fun _=>e,fun _=>rfl⟩
 ·rename_i e
  split
  ·exact⟨fun h=>absurd h (by decide),fun h=>absurd h e⟩
  ·exact⟨fun h=>absurd h (by decide),fun h=>absurd h e⟩
theorem C9.keep {W W':World} {c g:Nat} (h:C9 W c) (hk:Gd W W' g) (hne:c≠g):C9 W' c:=(hk.at_ c hne (Array.getElem?_eq_some_iff.1 h).1).trans h
def Ev (f:Bn) (l:List Ah) (k:Nat):List Ah:=(KM (Ae l) k f).map (M2 (Ae l))
def Hb (f:Bn) (l:List Ah) (k:Nat):List Ah:=Ev f l k++(if f.at (Ae l k)=0 then[Ae l k] else[])
theorem Ta (f:Bn) (l:List Ah) (k:Nat):Ev f l (k+1)=Hb f l k++(if f.at (Ae l k)*f.at (Ae l (k+1))<0 then[Lr (f.at (Ae l k)/(f.at (Ae l k)-f.at (Ae l (k+1)))) (Ae l k) (Ae l (k+1))] else[]):=by
 unfold Ev Hb KM
 rw[List.range_succ,List.flatMap_append,List.map_append,List.flatMap_cons,List.flatMap_nil,List.append_nil,List.map_append, ←List.append_assoc]
 have e1:(if f.at (Ae l k)=0 then[((k,0):P7)] else[]).map (M2 (Ae l))=if f.at (Ae l k)=0 then[Ae l k] else[]:=by
  split
  ·show[Lr 0 (Ae l k) (Ae l (k+1))]=_
   rw[UN]
  ·rfl
 have e2:(if f.at (Ae l k)*f.at (Ae l (k+1))<0 then[((k,f.at (Ae l k)/(f.at (Ae l k)-f.at (Ae l (k+1)))):P7)] else[]).map (M2 (Ae l))=if f.at (Ae l k)*f.at (Ae l (k+1))<0 then[Lr (f.at (Ae l k)/(f.at (Ae l k)-f.at (Ae l (k+1)))) (Ae l k) (Ae l (k+1))] else[]:=by
  split
  ·rfl
  ·rfl
 rw[e1,e2]
 rfl
theorem Jn (f:Bn) (l:List Ah) (k:Nat):(Ev f l k).length≤k:=by unfold Ev;rw[List.length_map];exact PF _ _ _
theorem Uv (f:Bn) (l:List Ah) (k:Nat):(Hb f l k).length≤k+1:=by
 unfold Hb
 have:=Jn f l k
 rw[List.length_append]
 have a:(if f.at (Ae l k)=0 then[Ae l k] else[]).length≤1:=by split<;>simp
 omega
structure SeZ (f:Bn) (l:List Ah):Prop where
 v: ∀q∈l,WW f q
 c: ∀i,i<l.length→f.at (Ae l i)*f.at (Ae l (i+1))<0→WM (Ae l i) (Ae l (i+1)) (f.at (Ae l i)) (f.at (Ae l (i+1)))
 n2:(Fj f l).length≤2
 s: ∀x y,Fj f l=[x,y]→Sz2 y.1 x.1∧Sz2 y.2 x.2
def ptV (x:Ah):Value:= .agg #[str (Ad x.1),str (Ad x.2)]
def Sm (l:List Ah):Value:=match l with
 |[x,y]=> .tuple #[ptV (if Ca y x=true then y else x),ptV (if Ca y x=true then x else y), .bool true, .int .i64 0]
 |_=> .tuple #[.agg #[str [],str []], .agg #[str [],str []], .bool false, .int .i64 0]
section
variable {P:Program} {N:Nat} {D:List Deferred} {ops:List Oper} {o:Oper} {rest:List Oper} {env:Env} {A A2:World→Prop} {R:Act→World→Prop}
theorem Ql {d:Nat} {x:Operand} {a:Addr} (hg:A7 ops N env o=some true) (hd:o.dst=some d) (ho:o.op= .nilCheck x) (hx:evO N env x=some (.pointer (some a)))
  (h:WQ P N D ops A2 R rest ((d, .pointer (some a))::env) A):WQ P N D ops A2 R (o::rest) env A:=
 D6 hg hd (fun c e=>by rw[ho] at e;cases e) (fun _ W hρ _=>by simp[execOp,ho,hρ _ _ hx]) h
end
theorem Lw (f:Bn) (hf:TK f) (l:List Ah) (hz:SeZ f l) (p:Option Addr) (cap:Nat) (W:World) (h:Gi W p l):
  Aj Tryz.prog 24 #[slv p l.length cap,str (Ad f.a),str (Ad f.b),str (Ad f.c)] W (fun _:Unit=>Sm (Fj f l)) (fun _=>True) (fun _=>[]):=by
 have h3:=h.n3
 have hn:=h.n
 have hA:=h.m
 have hn0:0<l.length:=by omega
 have hzz:(l.length:Int)≠0:=by omega
 have hvl:(l.map f.at).length=l.length:=List.length_map _
 refine Ac (args:=[slv p l.length cap,str (Ad f.a),str (Ad f.b),str (Ad f.c)]) Tryz.func24 I I I ?_
 refine zA (zB ?_)
 (refine A5 rfl rfl rfl rfl ?_;intro)
 (refine Ag Tryz.hZ rfl rfl rfl rfl ?_;intro)
 (refine Ag Tryz.hZ rfl rfl rfl rfl ?_;intro)
 refine wP I (wP I (Aa ?_))
 rename_i b4 b8 b9
 refine zE (zA (zA (zB (wB 0 I I I (wP I (wP I (wP I ?_)))))))
 refine AD Tryz.hZ tH I I I I I I I I I I I fun bS=> ?_
 refine wC I I (fun W1 hp=>Iy l p cap f.a f.b f.c hf.a hf.b hf.c hf.n bS 3 W1 (h.hp hp) (Ak.of_bx hp 3 I I)) (wP I (Aa (zE (zA (zB (wP I (wP I (Aa (zE (zS I (zI (zE (zA ?_)))))))))))))
 refine zB ?_
 refine Ay Tryz.hZ tH I I I I I I I I ?_
 (refine A5 rfl rfl rfl rfl ?_;intro)
 (refine Ag Tryz.hZ rfl rfl rfl rfl ?_;intro)
 refine wS 5 I I I (Aa ?_)
 rename_i bC b13
 refine zE (A0 ?_)
 refine Bb (X:= { s:Nat×Vec//s.2.OK 1 l.length (vsC (l.map f.at)) }) [true,true,true,true,true,false,false,false,false] (fun s=>[(4,Ai b4),(8,Ai b8),(9,Ai b9),(10, .bool false),(11, .int .i64 0),(13,Ai b13),(14,Ai s.1.1)]) (fun s=>[lsB b4 (slv p l.length cap),ptB b8 [] [],ptB b9 [] [],caB bC,ckB b13 bC,nmB s.1.1 (s.1.2.val l.length),s.1.2.bx 23 (vsC (l.map f.at))])
  4 [lsB b4 (slv p l.length cap),ptB b8 [] [],ptB b9 [] [],⟨bS,23,[str (Ad f.a),str (Ad f.b),str (Ad f.c)],true,none⟩,caB bC,ckB b13 bC] Tryz.mixed (by kernel_rfl) ?_ ?_
 ·refine qB 0 I I I (qB 5 I I I (qP I (qP I (qP I (Ck (wX ?_))))))
  refine RS.cons ?_ (RS.cons ?_ (RS.nil))
  ·refine wD (X:=Nat×Nat×Nat×Nat) rfl rfl (fun W1 _=>Fe bC f W1) ?_;rintro⟨v4,v5,v6,v7⟩ _
   refine Aa (Ab (wX ?_))
   refine RS.cons ?_ (RS.cons ?_ (RS.nil))
   ·refine wD (X:=Vec) rfl rfl (fun W1 hp=>CH l f.at 132 [Ai v4,Ai v5,Ai v6,Ai v7] (by kernel_rfl) hn p cap W1 (hA.hp hp) (fun q hq W2 hb=>CL v4 v5 v6 v7 bC f q (hz.v q hq) W2 (Kb.below (by first|exact⟨Ak.of_bx hp 6 rfl rfl,Ak.of_bx hp 7 rfl rfl,Ak.of_bx hp 8 rfl rfl,Ak.of_bx hp 9 rfl rfl,Bu hp 4 rfl,h.v.hp hp,h.t.hp hp⟩|exact⟨Ak.of_bx hp 7 rfl rfl,Ak.of_bx hp 8 rfl rfl,Ak.of_bx hp 9 rfl rfl,Ak.of_bx hp 10 rfl rfl,Bu hp 4 rfl,h.v.hp hp,h.t.hp hp⟩) hb))) ?_;rintro⟨pV1,cV1,jV1⟩ hV1;obtain⟨gV1,rfl⟩: ∃g,pV1=some g:=Option.ne_none_iff_exists'.1 (fun e=>absurd (hV1.nil e) (by omega))
    refine Aa (Ab (wX (wZ ?_)))
    refine Ag Tryz.hZ rfl rfl rfl rfl ?_;intro b14
    refine Aa (Ab (wX (wZ (wS 11 I I I (Aa (Ab ?_))))))
    refine A8 I (by((repeat (first|refine AC.same ?_|refine AC.off I ?_));exact tO)) ?_
    exact Ar (⟨(b14,⟨some gV1,cV1,jV1⟩),hV1⟩: { s:Nat×Vec//s.2.OK 1 l.length (vsC (l.map f.at)) }) ⟨I,I,I,I,I,I,I,tO⟩ [0,1,2,4,5,11,10] (by decide) I
   ·refine Ag Tryz.hZ rfl rfl rfl rfl ?_;intro b14
    refine Aa (Ab (wX (wZ ?_)))
    refine wD (X:=Vec) rfl rfl (fun W1 hp=>CH l f.at 132 [Ai v4,Ai v5,Ai v6,Ai v7] (by kernel_rfl) hn p cap W1 (hA.hp hp) (fun q hq W2 hb=>CL v4 v5 v6 v7 bC f q (hz.v q hq) W2 (Kb.below (by first|exact⟨Ak.of_bx hp 6 rfl rfl,Ak.of_bx hp 7 rfl rfl,Ak.of_bx hp 8 rfl rfl,Ak.of_bx hp 9 rfl rfl,Bu hp 4 rfl,h.v.hp hp,h.t.hp hp⟩|exact⟨Ak.of_bx hp 7 rfl rfl,Ak.of_bx hp 8 rfl rfl,Ak.of_bx hp 9 rfl rfl,Ak.of_bx hp 10 rfl rfl,Bu hp 4 rfl,h.v.hp hp,h.t.hp hp⟩) hb))) ?_;rintro⟨pV1,cV1,jV1⟩ hV1;obtain⟨gV1,rfl⟩: ∃g,pV1=some g:=Option.ne_none_iff_exists'.1 (fun e=>absurd (hV1.nil e) (by omega))
    refine Aa (Ab (wX (wZ (wS 10 I I I (Aa (Ab ?_))))))
    refine A8 I (by((repeat (first|refine AC.same ?_|refine AC.off I ?_));exact tO)) ?_
    exact Ar (⟨(b14,⟨some gV1,cV1,jV1⟩),hV1⟩: { s:Nat×Vec//s.2.OK 1 l.length (vsC (l.map f.at)) }) ⟨I,I,I,I,I,I,I,tO⟩ [0,1,2,4,5,10,11] (by decide) I
  ·refine Ag Tryz.hZ rfl rfl rfl rfl ?_;intro b14
   refine Aa (Ab (wX (wZ ?_)))
   refine wD (X:=Nat×Nat×Nat×Nat) rfl rfl (fun W1 _=>Fe bC f W1) ?_;rintro⟨v4,v5,v6,v7⟩ _
   refine Aa (Ab (wX (wZ ?_)))
   refine wD (X:=Vec) rfl rfl (fun W1 hp=>CH l f.at 132 [Ai v4,Ai v5,Ai v6,Ai v7] (by kernel_rfl) hn p cap W1 (hA.hp hp) (fun q hq W2 hb=>CL v4 v5 v6 v7 bC f q (hz.v q hq) W2 (Kb.below (by first|exact⟨Ak.of_bx hp 6 rfl rfl,Ak.of_bx hp 7 rfl rfl,Ak.of_bx hp 8 rfl rfl,Ak.of_bx hp 9 rfl rfl,Bu hp 4 rfl,h.v.hp hp,h.t.hp hp⟩|exact⟨Ak.of_bx hp 7 rfl rfl,Ak.of_bx hp 8 rfl rfl,Ak.of_bx hp 9 rfl rfl,Ak.of_bx hp 10 rfl rfl,Bu hp 4 rfl,h.v.hp hp,h.t.hp hp⟩) hb))) ?_;rintro⟨pV1,cV1,jV1⟩ hV1;obtain⟨gV1,rfl⟩: ∃g,pV1=some g:=Option.ne_none_iff_exists'.1 (fun e=>absurd (hV1.nil e) (by omega))
   refine Aa (Ab (wX (wZ (wS 6 I I I (Aa (Ab ?_))))))
   refine A8 I (by((repeat (first|refine AC.same ?_|refine AC.off I ?_));exact tO)) ?_
   exact Ar (⟨(b14,⟨some gV1,cV1,jV1⟩),hV1⟩: { s:Nat×Vec//s.2.OK 1 l.length (vsC (l.map f.at)) }) ⟨I,I,I,I,I,I,I,tO⟩ [0,1,2,4,5,6,11] (by decide) I
 rintro⟨⟨b14,⟨pV,cV,jV⟩⟩,hV⟩
 obtain⟨gV,rfl⟩: ∃g,pV=some g:=by
  cases pV with
  |none=>have:=hV.nil rfl;omega
  |some g=>exact⟨g,rfl⟩
 have hcapV:=(hV.cap (by simp)).1
 refine zE (zA (zA (zB (wB 4 I I I ?_))))
 refine AL I I I I ?_
 refine wP I (wB 3 I I I (wP I (Aa (zE (zS I (zI (zE (zA (zB ?_)))))))))
 (refine Ag Tryz.hZ rfl rfl rfl rfl ?_;intro)
 refine Aa ?_
 rename_i b15
 refine zE (zA (zA (zB (wB 0 I I I ?_))))
 refine wD (X:=Nat) I I (fun W1 _=>DW p l.length cap W1) ?_
 intro bp _
 refine Aa (zE (zH ?_))
 refine Ey ?_
 refine Fp (X:=Nat×Vec) (fun x=>[lsB b4 (slv p l.length cap),ptB b8 [] [],ptB b9 [] [],caB bC,ckB b13 bC,nmB b14 (.slice (some ⟨gV,0,none⟩) l.length cV),⟨gV,23,vsC (l.map f.at)++jV,true,none⟩,lsB b15 (x.2.val (Ev f l x.1).length),lsB bp (slv p l.length cap),x.2.bx 35 (ptC (Ev f l x.1))])
  (fun j x=>x.1=j∧x.2.OK 2 (Ev f l x.1).length (ptC (Ev f l x.1))) (fun _ _=>False) (0,Vec.empty) rfl (by kernel_rfl) (EK l bp p cap (by omega)) (fun _=>rfl)
  ⟨rfl,Vec.OK.empty 2⟩ [] rfl (fun k x W1 _ hp=>⟨Ak.of_bx hp 8 rfl rfl,hA.hp hp⟩) ?_ ?_ (fun _ _ _ _ _ h=>h.elim)
 ·rintro k ⟨k',O⟩ d l' rec L hk ⟨e1,hO⟩ hrec
  obtain rfl:k'=k:=e1
  have hk:k'<l.length:=hk
  have hO:O.OK 2 (Ev f l k').length (ptC (Ev f l k')):=hO
  have hol:=Jn f l k'
  have hml:=Uv f l k'
  have hsl:=Jn f l (k'+1)
  have hk2:(k'+1)%l.length<l.length:=Nat.mod_lt _ hn0
  have ev: ∀i (hi:i<l.length),(l.map f.at)[i]'(by rw[hvl];exact hi)=f.at (Ae l i):=fun i hi=>by rw[List.getElem_map,AG hi]
  have hr1: ∀ {W0 W1:World} {bxs:List Bx} (hp:Hp W0 bxs W1) (m:Nat) (hm:nth bxs m=some ⟨gV,23,vsC (l.map f.at)++jV,true,none⟩),Ak W1 gV (0+k'*1) [str (Ad (f.at (Ae l k')))]:=fun hp m hm=>by
   have:=RT hp m hm (i:=k') (by rw[hvl];exact hk)
   rwa [ev k' hk] at this
  have hr2: ∀ {W0 W1:World} {bxs:List Bx} (hp:Hp W0 bxs W1) (m:Nat) (hm:nth bxs m=some ⟨gV,23,vsC (l.map f.at)++jV,true,none⟩),Ak W1 gV (0+((k'+1)%l.length)*1) [str (Ad (f.at (Ae l (k'+1))))]:=fun hp m hm=>by
   have:=RT hp m hm (i:=(k'+1)%l.length) (by rw[hvl];exact hk2)
   rwa [ev _ hk2,BH] at this
  obtain⟨u,hu⟩: ∃u,u=f.at (Ae l k'):=⟨_,rfl⟩
  obtain⟨v,hvv⟩: ∃v,v=f.at (Ae l (k'+1)):=⟨_,rfl⟩
  have hsu:=Ta f l k'
  have hmu:Hb f l k'=Ev f l k'++(if u=0 then[Ae l k'] else[]):=by rw[hu];rfl
  have hcz:=hz.c k' hk
  rw[←hu, ←hvv] at hsu hcz
  rw[←hu] at hr1
  rw[←hvv] at hr2
  refine zA (zB (wP I (Aa (zE (zB ?_)))))
  (refine Ag Tryz.hZ rfl rfl rfl rfl ?_;intro)
  refine wS 13 I I I (Aa ?_)
  rename_i b17
  refine Dc 12 hrec I ?_
  refine CF (zA (zU (qB 6 I I I (qP I ?_))))
  refine qJ ?_
  refine qL 0 I I (fun W1 hp=>hr1 hp 7 I) I (qC I I (fun W1 _=>ED u W1) (qB 6 I I I (qP I (qP I (qV 62 ((k'+1:Nat):Int) I (Az (by omega)) (qB 1 I I I (qP I ?_)))))))
  refine Ez I I I I I hzz ?_
  refine D9 65 (.int .i64 (((k'+1)%l.length:Nat):Int)) I I ?_
  refine qJ ?_
  refine qL 0 I I (fun W1 hp=>hr2 hp 7 I) I (qC I I (fun W1 _=>ED v W1) (qP I (qP I (AU (Aa (zE (zA (zA (zB (wP I (wP I (wU 70 (decide (u=0)) I (Vx u) (Aa ?_)))))))))))))
  refine AH ?_
  refine AF (X:=Vec) (fun _=>[(4,Ai b4),(8,Ai b8),(9,Ai b9),(10, .bool false),(11, .int .i64 0),(13,Ai b13),(14,Ai b14),(15,Ai b15),(16, .int .i64 (k':Nat)),(17,Ai b17),(18, .int .i64 (EZ u)),(19, .int .i64 (EZ v))])
   (fun O=>[AP L,lsB b4 (slv p l.length cap),ptB b8 [] [],ptB b9 [] [],caB bC,ckB b13 bC,nmB b14 (.slice (some ⟨gV,0,none⟩) l.length cV),⟨gV,23,vsC (l.map f.at)++jV,true,none⟩,lsB b15 (O.val (Hb f l k').length),lsB bp (slv p l.length cap),O.bx 35 (ptC (Hb f l k')),BD d,Bm l' rec .busy none,⟨b17,66,(sdV (Ae l k') (Ae l (k'+1))).cells.toList,true,none⟩])
   (fun O=>O.OK 2 (Hb f l k').length (ptC (Hb f l k'))) ?_ ?_
  ·refine Av I (fun hc1=> ?_) (fun hc1=> ?_)
   ·rw[if_pos (of_decide_eq_true hc1)] at hmu
    have hlm:(Ev f l k').length+1=(Hb f l k').length:=by rw[hmu,List.length_append];rfl
    refine zB (wB 8 I I I ?_)
    refine EX Tryz.underlying66 Tryz.sizeOf35 I I I I I ⟨by decide,by decide⟩ ?_
    refine wB 13 I I I ?_
    refine AD Tryz.hZ tH I I I I I I I I I I I fun bS=> ?_
    refine Bo (V:=O) (len:=(Ev f l k').length) (xs:=ptC (Ev f l k')) 10 14 Tryz.vec22 (Hb f l k').length (ptC (Hb f l k')) I I I I I I I I I I I hO I I hlm (by rw[hmu,BP];rfl) (by simp only[maxLen];omega) (by omega) I ?_
    intro gO cO jO hO1
    exact wS 8 I I I (Aa (Al ⟨some gO,cO,jO⟩ hO1 ⟨I,I,I,I,I,I,I,I,I,I,I,I,tO⟩ [_] I))
   ·rw[if_neg (of_decide_eq_false hc1),List.append_nil] at hmu
    exact zI (Al O (by rw[hmu];exact hO) ⟨I,I,I,I,I,I,I,I,I,I,I,I,tO⟩ [] (by rw[hmu];rfl))
  intro O1 hO1
  have hO1:O1.OK 2 (Hb f l k').length (ptC (Hb f l k')):=hO1
  refine zA (zB (wP I (wP I (wP I (wP I (wU 79 (decide (u*v<0)) I (S6 u v) (Aa (zE ?_))))))))
  refine Av I (fun hc2=> ?_) (fun hc2=> ?_)
  ·have hc2':u*v<0:=of_decide_eq_true hc2
   rw[if_pos hc2'] at hsu
   have hlm:(Hb f l k').length+1=(Ev f l (k'+1)).length:=by rw[hsu,List.length_append];rfl
   refine Bb (X:= { O:Vec//O.OK 2 (Ev f l (k'+1)).length (ptC (Ev f l (k'+1))) }) [true,true,true,true,true,true,true,true,true,true,true,true,true,true,true,true,true,true,true,false,false,false] (fun _=>[(4,Ai b4),(8,Ai b8),(9,Ai b9),(10, .bool false),(11, .int .i64 0),(13,Ai b13),(14,Ai b14),(15,Ai b15)])
    (fun O=>[AP L,lsB b4 (slv p l.length cap),ptB b8 [] [],ptB b9 [] [],caB bC,ckB b13 bC,nmB b14 (.slice (some ⟨gV,0,none⟩) l.length cV),⟨gV,23,vsC (l.map f.at)++jV,true,none⟩,lsB b15 (O.1.val (Ev f l (k'+1)).length),lsB bp (slv p l.length cap),O.1.bx 35 (ptC (Ev f l (k'+1))),BD d,Bm l' rec .busy none])
    3 [AP L,lsB b4 (slv p l.length cap),ptB b8 [] [],ptB b9 [] [],caB bC,ckB b13 bC,nmB b14 (.slice (some ⟨gV,0,none⟩) l.length cV),⟨gV,23,vsC (l.map f.at)++jV,true,none⟩,lsB b15 (O1.val (Hb f l k').length),lsB bp (slv p l.length cap),O1.bx 35 (ptC (Hb f l k')),BD d,Bm l' rec .busy none,⟨b17,66,(sdV (Ae l k') (Ae l (k'+1))).cells.toList,true,none⟩] Tryz.mixed (by kernel_rfl) ?_ ?_
   ·refine qB 8 I I I (qB 5 I I I ?_)
    refine B5 Tryz.underlying66 Tryz.sizeOf35 I I I I I ⟨by decide,by decide⟩ ?_
    refine qB 13 I I I ?_
    refine B5 Tryz.underlying66 Tryz.sizeOf35 I I I I I ⟨by decide,by decide⟩ ?_
    refine qB 13 I I I (qB 6 I I I (qP I ?_))
    refine qJ ?_
    refine qL 0 I I (fun W1 hp=>hr1 hp 7 I) I (qB 6 I I I (qP I (qP I (qV 92 ((k'+1:Nat):Int) I (Az (by omega)) (qB 1 I I I (qP I ?_))))))
    refine Ez I I I I I hzz ?_
    refine D9 95 (.int .i64 (((k'+1)%l.length:Nat):Int)) I I ?_
    refine qJ ?_
    refine qL 0 I I (fun W1 hp=>hr2 hp 7 I) I (qC I I (fun W1 hp=>L8 bC (Ae l k') (Ae l (k'+1)) u v (hcz hc2') W1 (Bu hp 4 I) (h.v.hp hp) (h.t.hp hp)) (Ck (wX (wZ ?_))))
    refine AD Tryz.hZ tH I I I I I I I I I I I fun bS=> ?_
    refine Aa (Ab (wX (wZ ?_)))
    refine Bo (V:=O1) (len:=(Hb f l k').length) (xs:=ptC (Hb f l k')) 10 14 Tryz.vec22 (Ev f l (k'+1)).length (ptC (Ev f l (k'+1))) rfl rfl rfl rfl rfl rfl rfl rfl rfl rfl rfl hO1 rfl rfl hlm (by rw[hsu,BP];rfl) (by simp only[maxLen];omega) (by omega) rfl ?_;intro gO cO jO hO2
    refine Aa (Ab (wY (wZ (wS 8 I I I (Aa (Ab ?_))))))
    refine AN I (by kernel_rfl) ?_
    exact Ar (⟨⟨some gO,cO,jO⟩,hO2⟩: { O:Vec//O.OK 2 (Ev f l (k'+1)).length (ptC (Ev f l (k'+1))) }) ⟨I,I,I,I,I,I,I,I,tO⟩ [0,1,2,3,4,5,6,7,8,9,10,11,12] (by decide) I
   rintro⟨O2,hO2⟩
   exact zN (Ct 12 (k'+1,O2) hrec I ⟨I,hO2⟩ [] I)
  ·rw[if_neg (of_decide_eq_false hc2),List.append_nil] at hsu
   exact zI (zN (Ct 12 (k'+1,O1) hrec I ⟨I,by show O1.OK 2 (Ev f l (k'+1)).length (ptC (Ev f l (k'+1)));rw[hsu];exact hO1⟩ [_] (by rw[hsu];rfl)))
 ·rintro⟨k',O⟩ d l' rec ⟨e1,hO⟩
  obtain rfl:k'=l.length:=e1
  have hoe:Ev f l l.length=Fj f l:=rfl
  have hO:O.OK 2 (Fj f l).length (ptC (Fj f l)):=hO
  have hol:=Jn f l l.length
  rw[hoe] at hol
  rw[hoe]
  have hn2:=hz.n2
  have hs:=hz.s
  generalize Fj f l=S at hO hol hn2 hs⊢
  obtain⟨q,cc,hval⟩: ∃q cc,O.val S.length= .slice q S.length cc:=by
   obtain⟨pO,cO,jO⟩:=O
   cases pO with
   |none=>
    have e:S.length=0:=hO.nil rfl
    exact⟨none,0,by rw[e];rfl⟩
   |some g=>exact⟨some ⟨g,0,none⟩,cO,rfl⟩
  refine zN (zE (zA (zA (zB (wB 4 I I I ?_)))))
  refine AL I I I I ?_
  refine wP I (wB 3 I I I (wP I ?_))
  refine Af 105 (.bool false) I I ?_
  refine wP I (wB 7 I I I ?_)
  refine Af 107 (.slice q S.length cc) I hval ?_
  refine wP I (wP I ?_)
  by_cases h2:S.length<2
  ·have eV:Sm S= .tuple #[.agg #[str [],str []], .agg #[str [],str []], .bool false, .int .i64 0]:=by
    match S,h2 with
    |[],_=>rfl
    |[_],_=>rfl
    |_::_::_,h2=>simp at h2;omega
   refine wU 109 true I (dT (by omega)) (wP I (Aa (zE (zR I (A0 ?_)))))
   refine Bb (X:=Unit) [true,true,true,true,true,true,false,false,false,false] (fun _=>[(8,Ai b8),(9,Ai b9),(10, .bool false),(11, .int .i64 0)]) (fun _=>[ptB b8 [] [],ptB b9 [] [],BD d])
    4 [lsB b4 (slv p l.length cap),⟨b8,35,[str [],str []],false,none⟩,⟨b9,35,[str [],str []],false,none⟩,caB bC,ckB b13 bC] Tryz.mixed (by kernel_rfl) ?_ ?_
   ·refine Il Tryz.hZ tH I I I I I I I I ?_
    refine Il Tryz.hZ tH I I I I I I I I ?_
    refine qB 4 I I I ?_
    refine Ql I I I I ?_
    refine qP I (qB 3 I I I (Ck (wX (wZ (wS 1 I I I (Aa (Ab (wX (wZ (wS 2 I I I (Aa (Ab (wX ?_)))))))))))))
    refine wZ (wP I (Aa (Ab (wX (wZ (wP I (Aa (Ab ?_))))))))
    refine A8 I (by((repeat (first|refine AC.same ?_|refine AC.off I ?_));exact tO)) ?_
    exact Ar () ⟨I,I,I,I,tO⟩ [1,2,10] (by decide) I
   intro _
   refine zE (zO (zP ?_))
   refine CN 2 I ?_
   exact KC tH I (.cell 0 I I I I I) (.cell 1 I I I I I) (.tmp I) (.tmp I) () eV.symm tO fun W _=>As.nil _ _
  ·obtain⟨x,y,rfl⟩: ∃x y,S=[x,y]:=by
    match S,h2,hn2 with
    |[x,y],_,_=>exact⟨x,y,rfl⟩
    |[],h2,_=>exact absurd Nat.zero_lt_two h2
    |[_],h2,_=>exact absurd (Nat.lt_succ_self 1) h2
    |_::_::_::_,_,hn2=>simp at hn2
   obtain⟨a,b,eab,eV⟩: ∃a b,Ed x y=[a,b]∧Sm [x,y]= .tuple #[ptV a,ptV b, .bool true, .int .i64 0]:=by
    show∃a b,(if Ca y x=true then[y,x] else[x,y])=[a,b]∧Value.tuple #[ptV (if Ca y x=true then y else x),ptV (if Ca y x=true then x else y), .bool true, .int .i64 0]=Value.tuple #[ptV a,ptV b, .bool true, .int .i64 0]
    cases Ca y x with
    |true=>exact⟨y,x,rfl,rfl⟩
    |false=>exact⟨x,y,rfl,rfl⟩
   obtain⟨hs1,hs2⟩:=hs x y rfl
   obtain⟨pO,cO,jO⟩:=O
   obtain⟨gO,rfl⟩: ∃g,pO=some g:=Option.ne_none_iff_exists'.1 (fun e=>absurd (hO.nil e) (by show¬2=0;decide))
   refine Af 109 (.bool false) I I ?_
   refine wP I (Aa (zE (zS I (zI (zE (zA (zB (wB 7 I I I (wB 4 I I I (wP I ?_))))))))))
   refine D0 (X:=Unit) (val:=fun _=> .tuple #[]) (Φ:=fun _=>True) (capt:=[]) 9 (B:=Bs gO [x,y] jO) (L1:=[]) (L2:=[]) (b:=gO) (ob:= .cells (ptC [x,y]++jO).toArray 35 (0,0)) (fun _=>Bs gO (Ed x y) jO) (g':=fun _=>gO) (o':=fun _=> .cells (ptC (Ed x y)++jO).toArray 35 (0,0))
    rfl rfl rfl rfl rfl rfl (by kernel_rfl) rfl rfl (fun _ _=>rfl) (fun W1 hp=> ?_) (fun _ _=> ?_)
   ·have hc:=hp.own.cell 9 _ rfl (gO, .cells (ptC [x,y]++jO).toArray 35 (0,0)) (List.mem_cons_self ..)
    have hne:bC≠gO:=hp.own.apart 3 9 _ _ rfl rfl (by decide) (bC,_) (List.mem_cons_self ..) (gO,_) (List.mem_cons_self ..)
    exact Pf bC W1 gO cO x y jO hc.1 ⟨fun W2 hk=>⟨(Bu hp 3 I).keep hk hne,h.v.below (hk.below hp.below hc.2),h.t.below (hk.below hp.below hc.2)⟩,hs1,hs2⟩
   rw[eab]
   refine Aa (zE (zA (zA (zB (wB 4 I I I ?_)))))
   refine AL I I I I ?_
   refine wP I (wB 3 I I I (wP I (Aa (zE (zS I (zI (zE (A0 ?_))))))))
   refine Bb (X:=Unit) [true,true,true,true,true,true,false,false,false,false] (fun _=>[(8,Ai b8),(9,Ai b9),(10, .bool true),(11, .int .i64 0)]) (fun _=>[ptB b8 (Ad a.1) (Ad a.2),ptB b9 (Ad b.1) (Ad b.2),BD d])
    4 [lsB b4 (slv p l.length cap),⟨b8,35,[str [],str []],false,none⟩,⟨b9,35,[str [],str []],false,none⟩,caB bC,ckB b13 bC,nmB b14 (.slice (some ⟨gV,0,none⟩) l.length cV),⟨gV,23,vsC (l.map f.at)++jV,true,none⟩,lsB b15 (.slice (some ⟨gO,0,none⟩) 2 cO),lsB bp (slv p l.length cap),Bs gO [a,b] jO] Tryz.mixed (by kernel_rfl) ?_ ?_
   ·refine qB 7 I I I (qI I I (by decide) (by decide) (qL 0 I I (fun W1 hp=>T7 hp 9 I) I (qB 7 I I I (qI I I (by decide) (by decide) (qL 0 I I (fun W1 hp=>Vb hp 9 I) I (Ck (wX (wZ (wS 1 I I I (Aa (Ab (wX (wZ ?_)))))))))))))
    refine wS 2 I I I (Aa (Ab (wX (wZ (wP I (Aa (Ab (wX (wZ (wP I (Aa (Ab ?_))))))))))))
    refine A8 I (by((repeat (first|refine AC.same ?_|refine AC.off I ?_));exact tO)) ?_
    exact Ar () ⟨I,I,I,I,tO⟩ [1,2,10] (by decide) I
   intro _
   refine zE (zO ?_)
   refine CN 2 I ?_
   exact KC tH I (.cell 0 I I I I I) (.cell 1 I I I I I) (.tmp I) (.tmp I) () eV.symm tO fun W _=>As.nil _ _
end
section
open Go Go.RowKit Go.Am Go.Lib
def sq4:List Ah:=[(0,0),(2,0),(2,2),(0,2)]
def tr3:List Ah:=[(0,0),(1,0),(0,1)]
def Ry:Bn:=⟨1,1,1⟩
def N5:Bn:=⟨1, -1,0⟩
theorem UM:Bh sq4:=by
 refine⟨by decide,by decide+kernel,fun i j k h1 h2 h3=> ?_⟩
 have h3:k<4:=h3
 have:(i=0∧j=1∧k=2)∨(i=0∧j=1∧k=3)∨(i=0∧j=2∧k=3)∨(i=1∧j=2∧k=3):=by omega
 rcases this with⟨rfl,rfl,rfl⟩|⟨rfl,rfl,rfl⟩|⟨rfl,rfl,rfl⟩|⟨rfl,rfl,rfl⟩<;>decide+kernel
theorem T4:Bh tr3:=by
 refine⟨by decide,by decide+kernel,fun i j k h1 h2 h3=> ?_⟩
 have h3:k<3:=h3
 obtain⟨rfl,rfl,rfl⟩:i=0∧j=1∧k=2:=by omega
 decide+kernel
theorem Wa:Dy Ry sq4=tr3:=by decide+kernel
theorem N8:Fj N5 sq4=[(0,0),(2,2)]:=by decide+kernel
theorem VC:Ca ((2,2):Ah) (0,0)=false:=by decide+kernel
theorem Wl:AS tr3/2=1/2:=by decide+kernel
theorem Wo:CT tr3/(3*AS tr3)=1/3:=by decide+kernel
theorem Wf:Da tr3/(3*AS tr3)=1/3:=by decide+kernel
theorem K9:Ad (0:Rat)=[48]:=CJ
theorem WP:Ad (1:Rat)=[49]:=by decide+kernel
theorem Dq:Ad (2:Rat)=[50]:=by decide+kernel
theorem X1:Ad (-1:Rat)=[45,49]:=by decide+kernel
theorem XA:Ad (1/2:Rat)=[49,47,50]:=by decide+kernel
theorem X6:Ad (1/3:Rat)=[49,47,51]:=by decide+kernel
theorem ID {x y:Int} (hx:x.natAbs<10^8) (hy:y.natAbs<10^8):Hm 8 ((x:Rat),(y:Rat)):=⟨x,y,1,by decide,hx,hy,by decide,Rat.mul_one _,Rat.mul_one _⟩
theorem Q9: ∀p∈sq4,Hm 8 p:=fun p hp=>by
 rcases List.mem_cons.1 hp with rfl|hp
 ·exact ID (x:=0) (y:=0) (by decide) (by decide)
 rcases List.mem_cons.1 hp with rfl|hp
 ·exact ID (x:=2) (y:=0) (by decide) (by decide)
 rcases List.mem_cons.1 hp with rfl|hp
 ·exact ID (x:=2) (y:=2) (by decide) (by decide)
 rw[List.mem_singleton.1 hp]
 exact ID (x:=0) (y:=2) (by decide) (by decide)
theorem QL: ∀p∈tr3,Hm 8 p:=fun p hp=>by
 rcases List.mem_cons.1 hp with rfl|hp
 ·exact ID (x:=0) (y:=0) (by decide) (by decide)
 rcases List.mem_cons.1 hp with rfl|hp
 ·exact ID (x:=1) (y:=0) (by decide) (by decide)
 rw[List.mem_singleton.1 hp]
 exact ID (x:=0) (y:=1) (by decide) (by decide)
theorem UG:LnH Ry:=⟨1,1,1,1,by decide,by decide,by decide,by decide,by decide,Rat.mul_one _,Rat.mul_one _,Rat.mul_one _⟩
theorem UX:LnH N5:=⟨1, -1,0,1,by decide,by decide,by decide,by decide,by decide,Rat.mul_one _,Rat.mul_one _,Rat.mul_one _⟩
theorem Va {f:Bn} (hf:LnH f) (n:f.a≠0∨f.b≠0):TK f:=⟨hf.sz.1.ok (by decide),hf.sz.2.1.ok (by decide),hf.sz.2.2.ok (by decide),n⟩
theorem Xu:TK Ry:=Va UG (.inl (by decide+kernel))
theorem WZ:TK N5:=Va UX (.inl (by decide+kernel))
theorem Hi.of_hm {e k:Nat} {l:List Ah} (hl: ∀p∈l,Hm e p) (h:e≤k):Hi k l:=fun p hp=>⟨(hl p hp).sz.1.mono h,(hl p hp).sz.2.mono h⟩
theorem s2 {q:Rat} (h:q.num.natAbs<10^2∧q.den<10^2):szQ q 2:=h
theorem ez2 {p q:Rat} (h:p.num.natAbs<10^2∧p.den<10^2) (h':q.num.natAbs<10^2∧q.den<10^2):Sz2 p q:=sz2 (s2 h) (s2 h') (by decide)
theorem Qn.of {p q:Ah} (hp:szQ p.1 8∧szQ p.2 8) (hq:szQ q.1 8∧szQ q.2 8):Qn p q:=⟨sz2 hp.1 hq.2 (by decide),sz2 hq.1 hp.2 (by decide),sz2 (hp.1.mul hq.2) (hq.1.mul hp.2) (by decide)⟩
theorem Wt (i:Nat):Qn (Ae tr3 i) (Ae tr3 (i+1)):=Qn.of ((Hi.of_hm QL (Nat.le_refl 8)).at_ (by decide) i) ((Hi.of_hm QL (Nat.le_refl 8)).at_ (by decide) (i+1))
theorem lt3 {i:Nat} (h:i<tr3.length):i=0∨i=1∨i=2:=by have h:i<3:=h;omega
theorem WB: ∀i,i<tr3.length→Sz2 (crK tr3 i) (Cn (Ae tr3 i) (Ae tr3 (i+1))):=fun i hi=>by
 rcases lt3 hi with rfl|rfl|rfl<;>exact ez2 (by decide+kernel) (by decide+kernel)
theorem WX:ArZ tr3:=⟨fun i _=>Wt i,WB,ez2 (by decide+kernel) (by decide+kernel)⟩
theorem Xb:CeZ tr3:=by
 refine⟨fun i _=>Wt i,WB,fun i hi=> ?_,fun i hi=> ?_,fun i hi=> ?_,fun i hi=> ?_,fun i hi=> ?_,fun i hi=> ?_,ez2 (by decide+kernel) (by decide+kernel),by decide+kernel,ez2 (by decide+kernel) (by decide+kernel),ez2 (by decide+kernel) (by decide+kernel)⟩<;>
  rcases lt3 hi with rfl|rfl|rfl<;>exact ez2 (by decide+kernel) (by decide+kernel)
theorem WH:SeZ N5 sq4:=by
 have h:=ClZ.of UX (by decide) Q9
 refine⟨h.v,h.c,by rw[N8];decide,fun x y e=> ?_⟩
 rw[N8] at e
 cases e
 exact⟨ez2 (by decide+kernel) (by decide+kernel),ez2 (by decide+kernel) (by decide+kernel)⟩
theorem UZ:Sm (Fj N5 sq4)= .tuple #[.agg #[str [48],str [48]], .agg #[str [50],str [50]], .bool true, .int .i64 0]:=by
 rw[N8]
 show Value.tuple #[ptV (if Ca ((2,2):Ah) (0,0)=true then _ else _),ptV (if Ca ((2,2):Ah) (0,0)=true then _ else _), .bool true, .int .i64 0]=_
 rw[VC]
 show Value.tuple #[.agg #[str (Ad 0),str (Ad 0)], .agg #[str (Ad 2),str (Ad 2)], .bool true, .int .i64 0]=_
 rw[K9,Dq]
theorem Xj:ptC sq4=[str [48],str [48],str [50],str [48],str [50],str [50],str [48],str [50]]:=by
 show[str (Ad 0),str (Ad 0),str (Ad 2),str (Ad 0),str (Ad 2),str (Ad 2),str (Ad 0),str (Ad 2)]=_
 rw[K9,Dq]
theorem Xa:ptC tr3=[str [48],str [48],str [49],str [48],str [48],str [49]]:=by
 show[str (Ad 0),str (Ad 0),str (Ad 1),str (Ad 0),str (Ad 0),str (Ad 1)]=_
 rw[K9,WP]
theorem Gs {W:World} {b off:Nat} {l:List Ah} (h:Ak W b off (ptC l)):Ch W (some ⟨b,off,none⟩) l:= .inr ⟨b,off,rfl,fun i hi=>by
 have e:ptC l=ptC (l.take i)++([str (Ad l[i].1),str (Ad l[i].2)]++ptC (l.drop (i+1))):=by
  have e0:l=l.take i++l[i]::l.drop (i+1):=by rw[←List.drop_eq_getElem_cons hi,List.take_append_drop]
  conv=>lhs;rw[e0]
  unfold ptC
  rw[List.flatMap_append,List.flatMap_cons]
 rw[e] at h
 have h1:=HT h
 rw[AQ,List.length_take,Nat.min_eq_left (by omega)] at h1
 have h2:=Cz h1
 exact h2⟩
end
section
open Go Go.RowKit Go.Am Go.Lib
set_option maxRecDepth 10000
-- BOXES 6
-- CODE2
theorem OZ {W:World} {p:Option Addr} (h:Ch W p sq4) (hv:BU W) (ht:AO W):Gi W p sq4:=⟨UM,by decide,by decide,Hi.of_hm Q9 (by decide),h,hv,ht⟩
theorem Pk {W:World} {p:Option Addr} (h:Ch W p tr3) (hv:BU W) (ht:AO W):Gi W p tr3:=⟨T4,by decide,by decide,Hi.of_hm QL (by decide),h,hv,ht⟩
abbrev X0 (b:Nat):Bx:=⟨b,35,ptC sq4,true,none⟩
theorem TW (p:Option Addr) (cap:Nat) (W:World) (h:Gi W p sq4):
  Aj Tryz.prog 12 #[slv p 4 cap,str [49],str [49],str [49]] W (fun V:Vec=> .tuple #[V.val 3, .int .i64 0]) (fun V=>V.OK 2 3 (ptC tr3)) (fun V=>[V.bx 35 (ptC tr3)]):=by
 have h1:=PP Ry Xu sq4 (ClZ.of UG (by decide) Q9) p cap W h
 rw[Wa] at h1
 have e:[Ad Ry.a,Ad Ry.b,Ad Ry.c]=[[49],[49],[49]]:=by show[Ad 1,Ad 1,Ad 1]=_;rw[WP]
 simp only[List.cons.injEq,and_true] at e
 obtain⟨e1,e2,e3⟩:=e
 rw[e1,e2,e3] at h1
 exact h1
theorem UI (p:Option Addr) (cap:Nat) (W:World) (h:Gi W p tr3):
  Aj Tryz.prog 15 #[slv p 3 cap] W (fun _:Unit=> .tuple #[str [49,47,50], .int .i64 0]) (fun _=>True) (fun _=>[]):=by
 have h1:=Hs tr3 WX p cap W h
 rw[Wl,XA] at h1
 exact h1
theorem Rl (p:Option Addr) (cap:Nat) (W:World) (h:Gi W p tr3):
  Aj Tryz.prog 35 #[slv p 3 cap] W (fun _:Unit=> .tuple #[.agg #[str [49,47,51],str [49,47,51]], .int .i64 0]) (fun _=>True) (fun _=>[]):=by
 have h1:=FY tr3 Xb p cap W h
 rw[Wo,Wf,X6] at h1
 exact h1
theorem OR (p:Option Addr) (cap:Nat) (W:World) (h:Gi W p sq4):
  Aj Tryz.prog 24 #[slv p 4 cap,str [49],str [45,49],str [48]] W (fun _:Unit=> .tuple #[.agg #[str [48],str [48]], .agg #[str [50],str [50]], .bool true, .int .i64 0]) (fun _=>True) (fun _=>[]):=by
 have h1:=Lw N5 WZ sq4 WH p cap W h
 rw[UZ] at h1
 have e:[Ad N5.a,Ad N5.b,Ad N5.c]=[[49],[45,49],[48]]:=by show[Ad 1,Ad (-1),Ad 0]=_;rw[WP,X1,K9]
 simp only[List.cons.injEq,and_true] at e
 obtain⟨e1,e2,e3⟩:=e
 rw[e1,e2,e3] at h1
 exact h1
theorem E7 (W:World) (hv:BU W) (ht:AO W):
  Aj Tryz.prog 11 #[] W (fun _:Unit=> .bool true) (fun _=>True) (fun _=>[]):=by
 refine Ac (args:=[]) Tryz.func11 I I I ?_
 refine zA (zB (wP I (Aa (zE (zA (zB ?_))))))
 iterate 4 refine Ay Tryz.hZ tH I I I I I I I I ?_
 refine AD Tryz.hZ tH I I I I I I I I I I I fun bS=> ?_
 refine wP I (Aa ?_)
 refine Rr (bxs':=[X0 bS]) (by show _=[(⟨bS,35,ptC sq4,true,none⟩:Bx)];rw[Xj];rfl) ?_
 refine zE (zA (zB (wP I ?_)))
 refine wD (X:=Vec) I I (fun W1 hp=>TW (some ⟨bS,0,none⟩) 4 W1 (OZ (Gs (Ak.of_bx hp 0 I I)) (hv.hp hp) (ht.hp hp))) ?_
 rintro⟨pV,cV,jV⟩ hV
 obtain⟨gV,rfl⟩: ∃g,pV=some g:=Option.ne_none_iff_exists'.1 (fun e=>absurd (hV.nil e) (by decide))
 iterate 5 refine wP I ?_
 refine Aa (zE (zA (zB (wP I (wC I I (fun W1 hp=>UI (some ⟨gV,0,none⟩) cV W1 (Pk (Gs (Cz (Ak.of_bx hp 1 I I:Ak W1 gV 0 (ptC tr3++jV)))) (hv.hp hp) (ht.hp hp))) ?_)))))
 iterate 5 refine wP I ?_
 refine Aa (zE (zA (zB (wP I (wC I I (fun W1 hp=>Rl (some ⟨gV,0,none⟩) cV W1 (Pk (Gs (Cz (Ak.of_bx hp 1 I I:Ak W1 gV 0 (ptC tr3++jV)))) (hv.hp hp) (ht.hp hp))) (wP I (wP I (wP I ?_))))))))
 (refine Ag Tryz.hZ rfl rfl rfl rfl ?_;intro)
 refine wS 2 I I I (wP I (Aa ?_))
 rename_i b6
 refine zE (zA (zB (wP I (wC I I (fun W1 hp=>OR (some ⟨bS,0,none⟩) 4 W1 (OZ (Gs (Ak.of_bx hp 0 I I)) (hv.hp hp) (ht.hp hp))) ?_))))
 iterate 5 refine wP I ?_
 (refine Ag Tryz.hZ rfl rfl rfl rfl ?_;intro)
 (refine Ag Tryz.hZ rfl rfl rfl rfl ?_;intro)
 refine wS 3 I I I (wS 4 I I I (wP I (wP I (Aa ?_))))
 rename_i b8 b9
 refine zE (A0 ?_)
 refine Bb (X:=Unit) [true,true,true,true,true,true,true,true,true,true,true,false,false,false,false,false,false,false,false,false,false,false,false,false,false,false,false,false,false,false,false,false,false,false,false,false,false,false,false,false,false] (fun _=>[(0, .bool true)]) (fun _=>[])
  30 [X0 bS,⟨gV,35,ptC tr3++jV,true,none⟩,ptB b6 [49,47,51] [49,47,51],ptB b8 [48] [48],ptB b9 [50] [50]] Tryz.mixed (by kernel_rfl) ?_ ?_
 ·refine qP I (qP I (qP I (qP I (qP I ?_))))
  refine D9 43 (.int .i64 0) I I ?_
  refine qP I ?_
  refine D9 44 (.bool true) I I ?_
  refine qP I (qP I ?_)
  iterate 3 refine Il Tryz.hZ tH I I I I I I I I ?_
  refine Ck (wX (wZ ?_))
  refine AD Tryz.hZ tH I I I I I I I I I I I fun bT=> ?_
  refine Aa (Ab (wX (wZ (wC I I (fun W1 hp=>IU tr3 (by decide) (some ⟨gV,0,none⟩) (some ⟨bT,0,none⟩) cV 3 W1 (Gs (Cz (Ak.of_bx hp 1 I I:Ak W1 gV 0 (ptC tr3++jV)))) (Gs (by have h:=Ak.of_bx hp 5 I I;rw[Xa];exact h))) (Aa (Ab (wX (wZ (wP I (Aa (Ab (wX (wZ ?_)))))))))))))
  refine wP I (Aa (Ab (wX (wZ (wP I (Aa (Ab (wX (wZ ?_)))))))))
  refine wP I ?_;refine wU 55 true I ((Be [49,47,50] [49,47,50]).trans (dT I)) ?_
  refine Aa (Ab (wX (wZ (wP I (Aa (Ab (wX (wZ (wP I (Aa (Ab (wX ?_))))))))))))
  refine RS.cons ?_ (RS.cons ?_ (RS.nil))
  ·refine wB 2 I I I (Aa (Ab (wX (wZ ?_))))
   refine Ay Tryz.hZ tH I I I I I I I I ?_
   refine Aa (Ab (wX (wZ ?_)))
   refine AT [49,47,51] [49,47,51] [49,47,51] [49,47,51] I I I I I ?_;refine Af 60 (.bool true) I I ?_
   refine Aa (Ab (wX (wZ (wP I (Aa (Ab (wX (wZ (wP I (Aa (Ab (wX (wZ ?_)))))))))))))
   refine wP I (Aa (Ab (wX (wZ (wP I (Aa (Ab (wX (wZ (wP I (Aa (Ab (wX ?_)))))))))))))
   refine RS.cons ?_ (RS.cons ?_ (RS.nil))
   ·refine wB 3 I I I (Aa (Ab (wX (wZ (wP I (Aa (Ab (wX (wZ (wI I I (by decide) (by decide) (Aa (Ab (wX ?_)))))))))))))
    refine wZ ?_
    refine wB 0 I I I ?_;refine Af 69 (.agg #[str [48],str [48]]) I (by rw[←K9];rfl) ?_
    refine Aa (Ab (wX (wZ ?_)))
    refine AT [48] [48] [48] [48] I I I I I ?_;refine Af 70 (.bool true) I I ?_
    refine Aa (Ab (wX (wZ (wP I (Aa (Ab (wX (wZ (wP I (Aa (Ab (wX ?_))))))))))))
    refine RS.cons ?_ (RS.cons ?_ (RS.nil))
    ·refine wB 4 I I I (Aa (Ab (wX (wZ (wP I (Aa (Ab (wX (wZ (wI I I (by decide) (by decide) (Aa (Ab (wX ?_)))))))))))))
     refine wZ ?_
     refine wB 0 I I I ?_;refine Af 76 (.agg #[str [50],str [50]]) I (by rw[←Dq];rfl) ?_
     refine Aa (Ab (wX (wZ ?_)))
     refine AT [50] [50] [50] [50] I I I I I ?_;refine Af 77 (.bool true) I I ?_
     refine Aa (Ab (wX (wZ (wP I (Aa (Ab (wX (wZ (wP I (Aa (Ab ?_)))))))))))
     refine A8 I (by((repeat (first|refine AC.same ?_|refine AC.off I ?_));exact tO)) ?_
     exact Ar () ⟨I,tO⟩ [] (by decide) I
    ·refine wP I (Aa (Ab (wX ?_)))
     refine RS.cons ?_ (RS.cons ?_ (RS.nil))
     ·refine wB 4 I I I (Aa (Ab (wX (wZ (wI I I (by decide) (by decide) (Aa (Ab (wX (wZ ?_)))))))))
      refine wB 0 I I I ?_;refine Af 76 (.agg #[str [50],str [50]]) I (by rw[←Dq];rfl) ?_
      refine Aa (Ab (wX (wZ ?_)))
      refine AT [50] [50] [50] [50] I I I I I ?_;refine Af 77 (.bool true) I I ?_
      refine Aa (Ab (wX (wZ (wP I (Aa (Ab (wX (wZ (wP I (Aa (Ab ?_)))))))))))
      refine A8 I (by((repeat (first|refine AC.same ?_|refine AC.off I ?_));exact tO)) ?_
      exact Ar () ⟨I,tO⟩ [] (by decide) I
     ·refine wI I I (by decide) (by decide) (Aa (Ab (wX ?_)))
      refine RS.cons ?_ (RS.cons ?_ (RS.nil))
      ·refine wB 4 I I I (Aa (Ab (wX (wZ ?_))))
       refine wB 0 I I I ?_;refine Af 76 (.agg #[str [50],str [50]]) I (by rw[←Dq];rfl) ?_
       refine Aa (Ab (wX (wZ ?_)))
       refine AT [50] [50] [50] [50] I I I I I ?_;refine Af 77 (.bool true) I I ?_
       refine Aa (Ab (wX (wZ (wP I (Aa (Ab (wX (wZ (wP I (Aa (Ab ?_)))))))))))
       refine A8 I (by((repeat (first|refine AC.same ?_|refine AC.off I ?_));exact tO)) ?_
       exact Ar () ⟨I,tO⟩ [] (by decide) I
      ·refine wB 0 I I I ?_;refine Af 76 (.agg #[str [50],str [50]]) I (by rw[←Dq];rfl) ?_
       refine Aa (Ab (wX (wZ (wB 4 I I I (Aa (Ab (wX (wZ ?_))))))))
       refine AT [50] [50] [50] [50] I I I I I ?_;refine Af 77 (.bool true) I I ?_
       refine Aa (Ab (wX (wZ (wP I (Aa (Ab (wX (wZ (wP I (Aa (Ab ?_)))))))))))
       refine A8 I (by((repeat (first|refine AC.same ?_|refine AC.off I ?_));exact tO)) ?_
       exact Ar () ⟨I,tO⟩ [] (by decide) I
   ·refine wP I (Aa (Ab (wX ?_)))
    refine RS.cons ?_ (RS.cons ?_ (RS.nil))
    ·refine wB 3 I I I (Aa (Ab (wX (wZ (wI I I (by decide) (by decide) (Aa (Ab (wX (wZ ?_)))))))))
     refine wB 0 I I I ?_;refine Af 69 (.agg #[str [48],str [48]]) I (by rw[←K9];rfl) ?_
     refine Aa (Ab (wX (wZ ?_)))
     refine AT [48] [48] [48] [48] I I I I I ?_;refine Af 70 (.bool true) I I ?_
     refine Aa (Ab (wX (wZ (wP I (Aa (Ab (wX (wZ (wP I (Aa (Ab (wX ?_))))))))))))
     refine RS.cons ?_ (RS.cons ?_ (RS.nil))
     ·refine wB 4 I I I (Aa (Ab (wX (wZ (wP I (Aa (Ab (wX (wZ (wI I I (by decide) (by decide) (Aa (Ab (wX ?_)))))))))))))
      refine wZ ?_
      refine wB 0 I I I ?_;refine Af 76 (.agg #[str [50],str [50]]) I (by rw[←Dq];rfl) ?_
      refine Aa (Ab (wX (wZ ?_)))
      refine AT [50] [50] [50] [50] I I I I I ?_;refine Af 77 (.bool true) I I ?_
      refine Aa (Ab (wX (wZ (wP I (Aa (Ab (wX (wZ (wP I (Aa (Ab ?_)))))))))))
      refine A8 I (by((repeat (first|refine AC.same ?_|refine AC.off I ?_));exact tO)) ?_
      exact Ar () ⟨I,tO⟩ [] (by decide) I
     ·refine wP I (Aa (Ab (wX ?_)))
      refine RS.cons ?_ (RS.cons ?_ (RS.nil))
      ·refine wB 4 I I I (Aa (Ab (wX (wZ (wI I I (by decide) (by decide) (Aa (Ab (wX (wZ ?_)))))))))
       refine wB 0 I I I ?_;refine Af 76 (.agg #[str [50],str [50]]) I (by rw[←Dq];rfl) ?_
       refine Aa (Ab (wX (wZ ?_)))
       refine AT [50] [50] [50] [50] I I I I I ?_;refine Af 77 (.bool true) I I ?_
       refine Aa (Ab (wX (wZ (wP I (Aa (Ab (wX (wZ (wP I (Aa (Ab ?_)))))))))))
       refine A8 I (by((repeat (first|refine AC.same ?_|refine AC.off I ?_));exact tO)) ?_
       exact Ar () ⟨I,tO⟩ [] (by decide) I
      ·refine wI I I (by decide) (by decide) (Aa (Ab (wX ?_)))
       refine RS.cons ?_ (RS.cons ?_ (RS.nil))
       ·refine wB 4 I I I (Aa (Ab (wX (wZ ?_))))
        refine wB 0 I I I ?_;refine Af 76 (.agg #[str [50],str [50]]) I (by rw[←Dq];rfl) ?_
        refine Aa (Ab (wX (wZ ?_)))
        refine AT [50] [50] [50] [50] I I I I I ?_;refine Af 77 (.bool true) I I ?_
        refine Aa (Ab (wX (wZ (wP I (Aa (Ab (wX (wZ (wP I (Aa (Ab ?_)))))))))))
        refine A8 I (by((repeat (first|refine AC.same ?_|refine AC.off I ?_));exact tO)) ?_
        exact Ar () ⟨I,tO⟩ [] (by decide) I
       ·refine wB 0 I I I ?_;refine Af 76 (.agg #[str [50],str [50]]) I (by rw[←Dq];rfl) ?_
        refine Aa (Ab (wX (wZ (wB 4 I I I (Aa (Ab (wX (wZ ?_))))))))
        refine AT [50] [50] [50] [50] I I I I I ?_;refine Af 77 (.bool true) I I ?_
        refine Aa (Ab (wX (wZ (wP I (Aa (Ab (wX (wZ (wP I (Aa (Ab ?_)))))))))))
        refine A8 I (by((repeat (first|refine AC.same ?_|refine AC.off I ?_));exact tO)) ?_
        exact Ar () ⟨I,tO⟩ [] (by decide) I
    ·refine wI I I (by decide) (by decide) (Aa (Ab (wX ?_)))
     refine RS.cons ?_ (RS.cons ?_ (RS.nil))
     ·refine wB 3 I I I (Aa (Ab (wX (wZ ?_))))
      refine wB 0 I I I ?_;refine Af 69 (.agg #[str [48],str [48]]) I (by rw[←K9];rfl) ?_
      refine Aa (Ab (wX (wZ ?_)))
      refine AT [48] [48] [48] [48] I I I I I ?_;refine Af 70 (.bool true) I I ?_
      refine Aa (Ab (wX (wZ (wP I (Aa (Ab (wX (wZ (wP I (Aa (Ab (wX ?_))))))))))))
      refine RS.cons ?_ (RS.cons ?_ (RS.nil))
      ·refine wB 4 I I I (Aa (Ab (wX (wZ (wP I (Aa (Ab (wX (wZ (wI I I (by decide) (by decide) (Aa (Ab (wX ?_)))))))))))))
       refine wZ ?_
       refine wB 0 I I I ?_;refine Af 76 (.agg #[str [50],str [50]]) I (by rw[←Dq];rfl) ?_
       refine Aa (Ab (wX (wZ ?_)))
       refine AT [50] [50] [50] [50] I I I I I ?_;refine Af 77 (.bool true) I I ?_
       refine Aa (Ab (wX (wZ (wP I (Aa (Ab (wX (wZ (wP I (Aa (Ab ?_)))))))))))
       refine A8 I (by((repeat (first|refine AC.same ?_|refine AC.off I ?_));exact tO)) ?_
       exact Ar () ⟨I,tO⟩ [] (by decide) I
      ·refine wP I (Aa (Ab (wX ?_)))
       refine RS.cons ?_ (RS.cons ?_ (RS.nil))
       ·refine wB 4 I I I (Aa (Ab (wX (wZ (wI I I (by decide) (by decide) (Aa (Ab (wX (wZ ?_)))))))))
        refine wB 0 I I I ?_;refine Af 76 (.agg #[str [50],str [50]]) I (by rw[←Dq];rfl) ?_
        refine Aa (Ab (wX (wZ ?_)))
        refine AT [50] [50] [50] [50] I I I I I ?_;refine Af 77 (.bool true) I I ?_
        refine Aa (Ab (wX (wZ (wP I (Aa (Ab (wX (wZ (wP I (Aa (Ab ?_)))))))))))
        refine A8 I (by((repeat (first|refine AC.same ?_|refine AC.off I ?_));exact tO)) ?_
        exact Ar () ⟨I,tO⟩ [] (by decide) I
       ·refine wI I I (by decide) (by decide) (Aa (Ab (wX ?_)))
        refine RS.cons ?_ (RS.cons ?_ (RS.nil))
        ·refine wB 4 I I I (Aa (Ab (wX (wZ ?_))))
         refine wB 0 I I I ?_;refine Af 76 (.agg #[str [50],str [50]]) I (by rw[←Dq];rfl) ?_
         refine Aa (Ab (wX (wZ ?_)))
         refine AT [50] [50] [50] [50] I I I I I ?_;refine Af 77 (.bool true) I I ?_
         refine Aa (Ab (wX (wZ (wP I (Aa (Ab (wX (wZ (wP I (Aa (Ab ?_)))))))))))
         refine A8 I (by((repeat (first|refine AC.same ?_|refine AC.off I ?_));exact tO)) ?_
         exact Ar () ⟨I,tO⟩ [] (by decide) I
        ·refine wB 0 I I I ?_;refine Af 76 (.agg #[str [50],str [50]]) I (by rw[←Dq];rfl) ?_
         refine Aa (Ab (wX (wZ (wB 4 I I I (Aa (Ab (wX (wZ ?_))))))))
         refine AT [50] [50] [50] [50] I I I I I ?_;refine Af 77 (.bool true) I I ?_
         refine Aa (Ab (wX (wZ (wP I (Aa (Ab (wX (wZ (wP I (Aa (Ab ?_)))))))))))
         refine A8 I (by((repeat (first|refine AC.same ?_|refine AC.off I ?_));exact tO)) ?_
         exact Ar () ⟨I,tO⟩ [] (by decide) I
     ·refine wB 0 I I I ?_;refine Af 69 (.agg #[str [48],str [48]]) I (by rw[←K9];rfl) ?_
      refine Aa (Ab (wX (wZ (wB 3 I I I (Aa (Ab (wX (wZ ?_))))))))
      refine AT [48] [48] [48] [48] I I I I I ?_;refine Af 70 (.bool true) I I ?_
      refine Aa (Ab (wX (wZ (wP I (Aa (Ab (wX (wZ (wP I (Aa (Ab (wX ?_))))))))))))
      refine RS.cons ?_ (RS.cons ?_ (RS.nil))
      ·refine wB 4 I I I (Aa (Ab (wX (wZ (wP I (Aa (Ab (wX (wZ (wI I I (by decide) (by decide) (Aa (Ab (wX ?_)))))))))))))
       refine wZ ?_
       refine wB 0 I I I ?_;refine Af 76 (.agg #[str [50],str [50]]) I (by rw[←Dq];rfl) ?_
       refine Aa (Ab (wX (wZ ?_)))
       refine AT [50] [50] [50] [50] I I I I I ?_;refine Af 77 (.bool true) I I ?_
       refine Aa (Ab (wX (wZ (wP I (Aa (Ab (wX (wZ (wP I (Aa (Ab ?_)))))))))))
       refine A8 I (by((repeat (first|refine AC.same ?_|refine AC.off I ?_));exact tO)) ?_
       exact Ar () ⟨I,tO⟩ [] (by decide) I
      ·refine wP I (Aa (Ab (wX ?_)))
       refine RS.cons ?_ (RS.cons ?_ (RS.nil))
       ·refine wB 4 I I I (Aa (Ab (wX (wZ (wI I I (by decide) (by decide) (Aa (Ab (wX (wZ ?_)))))))))
        refine wB 0 I I I ?_;refine Af 76 (.agg #[str [50],str [50]]) I (by rw[←Dq];rfl) ?_
        refine Aa (Ab (wX (wZ ?_)))
        refine AT [50] [50] [50] [50] I I I I I ?_;refine Af 77 (.bool true) I I ?_
        refine Aa (Ab (wX (wZ (wP I (Aa (Ab (wX (wZ (wP I (Aa (Ab ?_)))))))))))
        refine A8 I (by((repeat (first|refine AC.same ?_|refine AC.off I ?_));exact tO)) ?_
        exact Ar () ⟨I,tO⟩ [] (by decide) I
       ·refine wI I I (by decide) (by decide) (Aa (Ab (wX ?_)))
        refine RS.cons ?_ (RS.cons ?_ (RS.nil))
        ·refine wB 4 I I I (Aa (Ab (wX (wZ ?_))))
         refine wB 0 I I I ?_;refine Af 76 (.agg #[str [50],str [50]]) I (by rw[←Dq];rfl) ?_
         refine Aa (Ab (wX (wZ ?_)))
         refine AT [50] [50] [50] [50] I I I I I ?_;refine Af 77 (.bool true) I I ?_
         refine Aa (Ab (wX (wZ (wP I (Aa (Ab (wX (wZ (wP I (Aa (Ab ?_)))))))))))
         refine A8 I (by((repeat (first|refine AC.same ?_|refine AC.off I ?_));exact tO)) ?_
         exact Ar () ⟨I,tO⟩ [] (by decide) I
        ·refine wB 0 I I I ?_;refine Af 76 (.agg #[str [50],str [50]]) I (by rw[←Dq];rfl) ?_
         refine Aa (Ab (wX (wZ (wB 4 I I I (Aa (Ab (wX (wZ ?_))))))))
         refine AT [50] [50] [50] [50] I I I I I ?_;refine Af 77 (.bool true) I I ?_
         refine Aa (Ab (wX (wZ (wP I (Aa (Ab (wX (wZ (wP I (Aa (Ab ?_)))))))))))
         refine A8 I (by((repeat (first|refine AC.same ?_|refine AC.off I ?_));exact tO)) ?_
         exact Ar () ⟨I,tO⟩ [] (by decide) I
  ·refine Ay Tryz.hZ tH I I I I I I I I ?_
   refine Aa (Ab (wX (wZ (wB 2 I I I (Aa (Ab (wX (wZ ?_))))))))
   refine AT [49,47,51] [49,47,51] [49,47,51] [49,47,51] I I I I I ?_;refine Af 60 (.bool true) I I ?_
   refine Aa (Ab (wX (wZ (wP I (Aa (Ab (wX (wZ (wP I (Aa (Ab (wX (wZ ?_)))))))))))))
   refine wP I (Aa (Ab (wX (wZ (wP I (Aa (Ab (wX (wZ (wP I (Aa (Ab (wX ?_)))))))))))))
   refine RS.cons ?_ (RS.cons ?_ (RS.nil))
   ·refine wB 3 I I I (Aa (Ab (wX (wZ (wP I (Aa (Ab (wX (wZ (wI I I (by decide) (by decide) (Aa (Ab (wX ?_)))))))))))))
    refine wZ ?_
    refine wB 0 I I I ?_;refine Af 69 (.agg #[str [48],str [48]]) I (by rw[←K9];rfl) ?_
    refine Aa (Ab (wX (wZ ?_)))
    refine AT [48] [48] [48] [48] I I I I I ?_;refine Af 70 (.bool true) I I ?_
    refine Aa (Ab (wX (wZ (wP I (Aa (Ab (wX (wZ (wP I (Aa (Ab (wX ?_))))))))))))
    refine RS.cons ?_ (RS.cons ?_ (RS.nil))
    ·refine wB 4 I I I (Aa (Ab (wX (wZ (wP I (Aa (Ab (wX (wZ (wI I I (by decide) (by decide) (Aa (Ab (wX ?_)))))))))))))
     refine wZ ?_
     refine wB 0 I I I ?_;refine Af 76 (.agg #[str [50],str [50]]) I (by rw[←Dq];rfl) ?_
     refine Aa (Ab (wX (wZ ?_)))
     refine AT [50] [50] [50] [50] I I I I I ?_;refine Af 77 (.bool true) I I ?_
     refine Aa (Ab (wX (wZ (wP I (Aa (Ab (wX (wZ (wP I (Aa (Ab ?_)))))))))))
     refine A8 I (by((repeat (first|refine AC.same ?_|refine AC.off I ?_));exact tO)) ?_
     exact Ar () ⟨I,tO⟩ [] (by decide) I
    ·refine wP I (Aa (Ab (wX ?_)))
     refine RS.cons ?_ (RS.cons ?_ (RS.nil))
     ·refine wB 4 I I I (Aa (Ab (wX (wZ (wI I I (by decide) (by decide) (Aa (Ab (wX (wZ ?_)))))))))
      refine wB 0 I I I ?_;refine Af 76 (.agg #[str [50],str [50]]) I (by rw[←Dq];rfl) ?_
      refine Aa (Ab (wX (wZ ?_)))
      refine AT [50] [50] [50] [50] I I I I I ?_;refine Af 77 (.bool true) I I ?_
      refine Aa (Ab (wX (wZ (wP I (Aa (Ab (wX (wZ (wP I (Aa (Ab ?_)))))))))))
      refine A8 I (by((repeat (first|refine AC.same ?_|refine AC.off I ?_));exact tO)) ?_
      exact Ar () ⟨I,tO⟩ [] (by decide) I
     ·refine wI I I (by decide) (by decide) (Aa (Ab (wX ?_)))
      refine RS.cons ?_ (RS.cons ?_ (RS.nil))
      ·refine wB 4 I I I (Aa (Ab (wX (wZ ?_))))
       refine wB 0 I I I ?_;refine Af 76 (.agg #[str [50],str [50]]) I (by rw[←Dq];rfl) ?_
       refine Aa (Ab (wX (wZ ?_)))
       refine AT [50] [50] [50] [50] I I I I I ?_;refine Af 77 (.bool true) I I ?_
       refine Aa (Ab (wX (wZ (wP I (Aa (Ab (wX (wZ (wP I (Aa (Ab ?_)))))))))))
       refine A8 I (by((repeat (first|refine AC.same ?_|refine AC.off I ?_));exact tO)) ?_
       exact Ar () ⟨I,tO⟩ [] (by decide) I
      ·refine wB 0 I I I ?_;refine Af 76 (.agg #[str [50],str [50]]) I (by rw[←Dq];rfl) ?_
       refine Aa (Ab (wX (wZ (wB 4 I I I (Aa (Ab (wX (wZ ?_))))))))
       refine AT [50] [50] [50] [50] I I I I I ?_;refine Af 77 (.bool true) I I ?_
       refine Aa (Ab (wX (wZ (wP I (Aa (Ab (wX (wZ (wP I (Aa (Ab ?_)))))))))))
       refine A8 I (by((repeat (first|refine AC.same ?_|refine AC.off I ?_));exact tO)) ?_
       exact Ar () ⟨I,tO⟩ [] (by decide) I
   ·refine wP I (Aa (Ab (wX ?_)))
    refine RS.cons ?_ (RS.cons ?_ (RS.nil))
    ·refine wB 3 I I I (Aa (Ab (wX (wZ (wI I I (by decide) (by decide) (Aa (Ab (wX (wZ ?_)))))))))
     refine wB 0 I I I ?_;refine Af 69 (.agg #[str [48],str [48]]) I (by rw[←K9];rfl) ?_
     refine Aa (Ab (wX (wZ ?_)))
     refine AT [48] [48] [48] [48] I I I I I ?_;refine Af 70 (.bool true) I I ?_
     refine Aa (Ab (wX (wZ (wP I (Aa (Ab (wX (wZ (wP I (Aa (Ab (wX ?_))))))))))))
     refine RS.cons ?_ (RS.cons ?_ (RS.nil))
     ·refine wB 4 I I I (Aa (Ab (wX (wZ (wP I (Aa (Ab (wX (wZ (wI I I (by decide) (by decide) (Aa (Ab (wX ?_)))))))))))))
      refine wZ ?_
      refine wB 0 I I I ?_;refine Af 76 (.agg #[str [50],str [50]]) I (by rw[←Dq];rfl) ?_
      refine Aa (Ab (wX (wZ ?_)))
      refine AT [50] [50] [50] [50] I I I I I ?_;refine Af 77 (.bool true) I I ?_
      refine Aa (Ab (wX (wZ (wP I (Aa (Ab (wX (wZ (wP I (Aa (Ab ?_)))))))))))
      refine A8 I (by((repeat (first|refine AC.same ?_|refine AC.off I ?_));exact tO)) ?_
      exact Ar () ⟨I,tO⟩ [] (by decide) I
     ·refine wP I (Aa (Ab (wX ?_)))
      refine RS.cons ?_ (RS.cons ?_ (RS.nil))
      ·refine wB 4 I I I (Aa (Ab (wX (wZ (wI I I (by decide) (by decide) (Aa (Ab (wX (wZ ?_)))))))))
       refine wB 0 I I I ?_;refine Af 76 (.agg #[str [50],str [50]]) I (by rw[←Dq];rfl) ?_
       refine Aa (Ab (wX (wZ ?_)))
       refine AT [50] [50] [50] [50] I I I I I ?_;refine Af 77 (.bool true) I I ?_
       refine Aa (Ab (wX (wZ (wP I (Aa (Ab (wX (wZ (wP I (Aa (Ab ?_)))))))))))
       refine A8 I (by((repeat (first|refine AC.same ?_|refine AC.off I ?_));exact tO)) ?_
       exact Ar () ⟨I,tO⟩ [] (by decide) I
      ·refine wI I I (by decide) (by decide) (Aa (Ab (wX ?_)))
       refine RS.cons ?_ (RS.cons ?_ (RS.nil))
       ·refine wB 4 I I I (Aa (Ab (wX (wZ ?_))))
        refine wB 0 I I I ?_;refine Af 76 (.agg #[str [50],str [50]]) I (by rw[←Dq];rfl) ?_
        refine Aa (Ab (wX (wZ ?_)))
        refine AT [50] [50] [50] [50] I I I I I ?_;refine Af 77 (.bool true) I I ?_
        refine Aa (Ab (wX (wZ (wP I (Aa (Ab (wX (wZ (wP I (Aa (Ab ?_)))))))))))
        refine A8 I (by((repeat (first|refine AC.same ?_|refine AC.off I ?_));exact tO)) ?_
        exact Ar () ⟨I,tO⟩ [] (by decide) I
       ·refine wB 0 I I I ?_;refine Af 76 (.agg #[str [50],str [50]]) I (by rw[←Dq];rfl) ?_
        refine Aa (Ab (wX (wZ (wB 4 I I I (Aa (Ab (wX (wZ ?_))))))))
        refine AT [50] [50] [50] [50] I I I I I ?_;refine Af 77 (.bool true) I I ?_
        refine Aa (Ab (wX (wZ (wP I (Aa (Ab (wX (wZ (wP I (Aa (Ab ?_)))))))))))
        refine A8 I (by((repeat (first|refine AC.same ?_|refine AC.off I ?_));exact tO)) ?_
        exact Ar () ⟨I,tO⟩ [] (by decide) I
    ·refine wI I I (by decide) (by decide) (Aa (Ab (wX ?_)))
     refine RS.cons ?_ (RS.cons ?_ (RS.nil))
     ·refine wB 3 I I I (Aa (Ab (wX (wZ ?_))))
      refine wB 0 I I I ?_;refine Af 69 (.agg #[str [48],str [48]]) I (by rw[←K9];rfl) ?_
      refine Aa (Ab (wX (wZ ?_)))
      refine AT [48] [48] [48] [48] I I I I I ?_;refine Af 70 (.bool true) I I ?_
      refine Aa (Ab (wX (wZ (wP I (Aa (Ab (wX (wZ (wP I (Aa (Ab (wX ?_))))))))))))
      refine RS.cons ?_ (RS.cons ?_ (RS.nil))
      ·refine wB 4 I I I (Aa (Ab (wX (wZ (wP I (Aa (Ab (wX (wZ (wI I I (by decide) (by decide) (Aa (Ab (wX ?_)))))))))))))
       refine wZ ?_
       refine wB 0 I I I ?_;refine Af 76 (.agg #[str [50],str [50]]) I (by rw[←Dq];rfl) ?_
       refine Aa (Ab (wX (wZ ?_)))
       refine AT [50] [50] [50] [50] I I I I I ?_;refine Af 77 (.bool true) I I ?_
       refine Aa (Ab (wX (wZ (wP I (Aa (Ab (wX (wZ (wP I (Aa (Ab ?_)))))))))))
       refine A8 I (by((repeat (first|refine AC.same ?_|refine AC.off I ?_));exact tO)) ?_
       exact Ar () ⟨I,tO⟩ [] (by decide) I
      ·refine wP I (Aa (Ab (wX ?_)))
       refine RS.cons ?_ (RS.cons ?_ (RS.nil))
       ·refine wB 4 I I I (Aa (Ab (wX (wZ (wI I I (by decide) (by decide) (Aa (Ab (wX (wZ ?_)))))))))
        refine wB 0 I I I ?_;refine Af 76 (.agg #[str [50],str [50]]) I (by rw[←Dq];rfl) ?_
        refine Aa (Ab (wX (wZ ?_)))
        refine AT [50] [50] [50] [50] I I I I I ?_;refine Af 77 (.bool true) I I ?_
        refine Aa (Ab (wX (wZ (wP I (Aa (Ab (wX (wZ (wP I (Aa (Ab ?_)))))))))))
        refine A8 I (by((repeat (first|refine AC.same ?_|refine AC.off I ?_));exact tO)) ?_
        exact Ar () ⟨I,tO⟩ [] (by decide) I
       ·refine wI I I (by decide) (by decide) (Aa (Ab (wX ?_)))
        refine RS.cons ?_ (RS.cons ?_ (RS.nil))
        ·refine wB 4 I I I (Aa (Ab (wX (wZ ?_))))
         refine wB 0 I I I ?_;refine Af 76 (.agg #[str [50],str [50]]) I (by rw[←Dq];rfl) ?_
         refine Aa (Ab (wX (wZ ?_)))
         refine AT [50] [50] [50] [50] I I I I I ?_;refine Af 77 (.bool true) I I ?_
         refine Aa (Ab (wX (wZ (wP I (Aa (Ab (wX (wZ (wP I (Aa (Ab ?_)))))))))))
         refine A8 I (by((repeat (first|refine AC.same ?_|refine AC.off I ?_));exact tO)) ?_
         exact Ar () ⟨I,tO⟩ [] (by decide) I
        ·refine wB 0 I I I ?_;refine Af 76 (.agg #[str [50],str [50]]) I (by rw[←Dq];rfl) ?_
         refine Aa (Ab (wX (wZ (wB 4 I I I (Aa (Ab (wX (wZ ?_))))))))
         refine AT [50] [50] [50] [50] I I I I I ?_;refine Af 77 (.bool true) I I ?_
         refine Aa (Ab (wX (wZ (wP I (Aa (Ab (wX (wZ (wP I (Aa (Ab ?_)))))))))))
         refine A8 I (by((repeat (first|refine AC.same ?_|refine AC.off I ?_));exact tO)) ?_
         exact Ar () ⟨I,tO⟩ [] (by decide) I
     ·refine wB 0 I I I ?_;refine Af 69 (.agg #[str [48],str [48]]) I (by rw[←K9];rfl) ?_
      refine Aa (Ab (wX (wZ (wB 3 I I I (Aa (Ab (wX (wZ ?_))))))))
      refine AT [48] [48] [48] [48] I I I I I ?_;refine Af 70 (.bool true) I I ?_
      refine Aa (Ab (wX (wZ (wP I (Aa (Ab (wX (wZ (wP I (Aa (Ab (wX ?_))))))))))))
      refine RS.cons ?_ (RS.cons ?_ (RS.nil))
      ·refine wB 4 I I I (Aa (Ab (wX (wZ (wP I (Aa (Ab (wX (wZ (wI I I (by decide) (by decide) (Aa (Ab (wX ?_)))))))))))))
       refine wZ ?_
       refine wB 0 I I I ?_;refine Af 76 (.agg #[str [50],str [50]]) I (by rw[←Dq];rfl) ?_
       refine Aa (Ab (wX (wZ ?_)))
       refine AT [50] [50] [50] [50] I I I I I ?_;refine Af 77 (.bool true) I I ?_
       refine Aa (Ab (wX (wZ (wP I (Aa (Ab (wX (wZ (wP I (Aa (Ab ?_)))))))))))
       refine A8 I (by((repeat (first|refine AC.same ?_|refine AC.off I ?_));exact tO)) ?_
       exact Ar () ⟨I,tO⟩ [] (by decide) I
      ·refine wP I (Aa (Ab (wX ?_)))
       refine RS.cons ?_ (RS.cons ?_ (RS.nil))
       ·refine wB 4 I I I (Aa (Ab (wX (wZ (wI I I (by decide) (by decide) (Aa (Ab (wX (wZ ?_)))))))))
        refine wB 0 I I I ?_;refine Af 76 (.agg #[str [50],str [50]]) I (by rw[←Dq];rfl) ?_
        refine Aa (Ab (wX (wZ ?_)))
        refine AT [50] [50] [50] [50] I I I I I ?_;refine Af 77 (.bool true) I I ?_
        refine Aa (Ab (wX (wZ (wP I (Aa (Ab (wX (wZ (wP I (Aa (Ab ?_)))))))))))
        refine A8 I (by((repeat (first|refine AC.same ?_|refine AC.off I ?_));exact tO)) ?_
        exact Ar () ⟨I,tO⟩ [] (by decide) I
       ·refine wI I I (by decide) (by decide) (Aa (Ab (wX ?_)))
        refine RS.cons ?_ (RS.cons ?_ (RS.nil))
        ·refine wB 4 I I I (Aa (Ab (wX (wZ ?_))))
         refine wB 0 I I I ?_;refine Af 76 (.agg #[str [50],str [50]]) I (by rw[←Dq];rfl) ?_
         refine Aa (Ab (wX (wZ ?_)))
         refine AT [50] [50] [50] [50] I I I I I ?_;refine Af 77 (.bool true) I I ?_
         refine Aa (Ab (wX (wZ (wP I (Aa (Ab (wX (wZ (wP I (Aa (Ab ?_)))))))))))
         refine A8 I (by((repeat (first|refine AC.same ?_|refine AC.off I ?_));exact tO)) ?_
         exact Ar () ⟨I,tO⟩ [] (by decide) I
        ·refine wB 0 I I I ?_;refine Af 76 (.agg #[str [50],str [50]]) I (by rw[←Dq];rfl) ?_
         refine Aa (Ab (wX (wZ (wB 4 I I I (Aa (Ab (wX (wZ ?_))))))))
         refine AT [50] [50] [50] [50] I I I I I ?_;refine Af 77 (.bool true) I I ?_
         refine Aa (Ab (wX (wZ (wP I (Aa (Ab (wX (wZ (wP I (Aa (Ab ?_)))))))))))
         refine A8 I (by((repeat (first|refine AC.same ?_|refine AC.off I ?_));exact tO)) ?_
         exact Ar () ⟨I,tO⟩ [] (by decide) I
 intro _
 exact zE (zO (wR1 I I I))
-- BOXES 8
-- CODE2
def MZ (V:Vec):Option Addr:=V.p.map fun g=>⟨g,0,none⟩
def PH (V:Vec):Nat:=match V.p with
 |none=>0
 |some _=>V.cap
theorem Q0 {V:Vec} {l:List Ah} (h:V.OK 2 l.length (ptC l)):V.val l.length=slv (MZ V) l.length (PH V):=by
 obtain⟨p,c,j⟩:=V
 cases p with
 |none=>
  have e:l.length=0:=h.nil rfl
  rw[e];rfl
 |some g=>rfl
theorem Qv {W0 W:World} {bxs:List Bx} (hp:Hp W0 bxs W) (k:Nat) {V:Vec} {l:List Ah} (h:V.OK 2 l.length (ptC l)) (hk:nth bxs k=some (V.bx 35 (ptC l))):Ch W (MZ V) l:=by
 obtain⟨p,c,j⟩:=V
 cases p with
 |none=>
  have e:l.length=0:=h.nil rfl
  exact .inl (List.length_eq_zero_iff.1 e)
 |some g=>exact Ch.of_row (Ak.of_bx hp k hk rfl)
theorem GL.pts {W:World} {p:Option Addr} {l:List Ah} (h:GL W p (l.map cvS)):Ch W p l:=by
 rcases h with h|⟨b,off,e,h⟩
 ·exact .inl (by simpa using h)
 ·refine .inr ⟨b,off,e,fun i hi=> ?_⟩
  have:=h i (by rw[List.length_map];exact hi)
  rwa [List.getElem_map] at this
structure WE (e:Nat) (l:List Ah):Prop where
 poly:Bh l
 n:l.length≤4096
 hm: ∀p∈l,Hm e p
theorem WE.m {e:Nat} {l:List Ah} (h:WE e l) (he:e≤36) {W:World} {p:Option Addr} (hp:Ch W p l) (hv:BU W) (ht:AO W):Gi W p l:=⟨h.poly,h.poly.n3,h.n,Hi.of_hm h.hm he,hp,hv,ht⟩
-- BOXES 8
-- CODE2
structure Ju (l:List Ah) (k:Nat) (lo hi:Ah):Prop where
 le: ∀j,j<k→lo.1≤(Ae l j).1∧lo.2≤(Ae l j).2∧(Ae l j).1≤hi.1∧(Ae l j).2≤hi.2
 a1: ∃j,lo.1=(Ae l j).1
 a2: ∃j,lo.2=(Ae l j).2
 b1: ∃j,hi.1=(Ae l j).1
 b2: ∃j,hi.2=(Ae l j).2
def mnQ (x y:Rat):Rat:=if x<y then x else y
def mxQ (x y:Rat):Rat:=if y<x then x else y
theorem W7 (x y:Rat):mnQ x y≤x:=by unfold mnQ;split;exact Rat.le_refl;rename_i h;exact Rat.not_lt.1 h
theorem Wu (x y:Rat):mnQ x y≤y:=by unfold mnQ;split;rename_i h;exact Rat.le_of_lt h;exact Rat.le_refl
theorem Wr (x y:Rat):x≤mxQ x y:=by unfold mxQ;split;exact Rat.le_refl;rename_i h;exact Rat.not_lt.1 h
theorem Ww (x y:Rat):y≤mxQ x y:=by unfold mxQ;split;rename_i h;exact Rat.le_of_lt h;exact Rat.le_refl
theorem UQ (x y:Rat):mnQ x y=x∨mnQ x y=y:=by unfold mnQ;split;exact .inl rfl;exact .inr rfl
theorem Uf (x y:Rat):mxQ x y=x∨mxQ x y=y:=by unfold mxQ;split;exact .inl rfl;exact .inr rfl
theorem Ju.one (l:List Ah):Ju l 1 (Ae l 0) (Ae l 0):=⟨fun j hj=>by rw[show j=0 by omega];exact⟨Rat.le_refl,Rat.le_refl,Rat.le_refl,Rat.le_refl⟩,⟨0,rfl⟩,⟨0,rfl⟩,⟨0,rfl⟩,⟨0,rfl⟩⟩
theorem Ju.next {l:List Ah} {k:Nat} {lo hi:Ah} (h:Ju l k lo hi):Ju l (k+1) (mnQ (Ae l k).1 lo.1,mnQ (Ae l k).2 lo.2) (mxQ (Ae l k).1 hi.1,mxQ (Ae l k).2 hi.2):=by
 have ch: ∀ {m x y:Rat} {F:Ah→Rat},(m=x∨m=y)→x=F (Ae l k)→(∃j,y=F (Ae l j))→ ∃j,m=F (Ae l j):=fun ho hx hy=>by
  rcases ho with e|e
  ·exact⟨k,e.trans hx⟩
  ·obtain⟨j,hj⟩:=hy
   exact⟨j,e.trans hj⟩
 refine⟨fun j hj=> ?_,ch (UQ ..) I h.a1,ch (F:=(·.2)) (UQ ..) I h.a2,ch (Uf ..) I h.b1,ch (F:=(·.2)) (Uf ..) I h.b2⟩
 by_cases e:j=k
 ·subst e
  exact⟨W7 ..,W7 ..,Wr ..,Wr ..⟩
 ·obtain⟨x1,x2,x3,x4⟩:=h.le j (by omega)
  exact⟨Rat.le_trans (Wu ..) x1,Rat.le_trans (Wu ..) x2,Rat.le_trans x3 (Ww ..),Rat.le_trans x4 (Ww ..)⟩
theorem Ju.sz {l:List Ah} {k e:Nat} {lo hi:Ah} (h:Ju l k lo hi) (hs:Hi e l) (h0:0<l.length):szQ lo.1 e∧szQ lo.2 e∧szQ hi.1 e∧szQ hi.2 e:=by
 obtain⟨i,a1⟩:=h.a1
 obtain⟨j,a2⟩:=h.a2
 obtain⟨m,b1⟩:=h.b1
 obtain⟨n,b2⟩:=h.b2
 rw[a1,a2,b1,b2]
 exact⟨(hs.at_ h0 i).1,(hs.at_ h0 j).2,(hs.at_ h0 m).1,(hs.at_ h0 n).2⟩
theorem QY (l:List Ah) (p:Option Addr) (cap:Nat) (W:World) (h:Gi W p l) (hcap:l.length≤cap):
  Aj Tryz.prog 17 #[slv p l.length cap] W (fun x:Ah×Ah=> .tuple #[ptV x.1,ptV x.2, .int .i64 0]) (fun x=>Ju l l.length x.1 x.2) (fun _=>[]):=by
 have hn:=h.n
 have hn3:=h.n3
 have h0:0<l.length:=by omega
 have hsz:=h.sz
 refine Ac (args:=[slv p l.length cap]) Tryz.func17 I I I ?_
 refine zA (zB ?_)
 (refine Ag Tryz.hZ rfl rfl rfl rfl ?_;intro)
 (refine Ag Tryz.hZ rfl rfl rfl rfl ?_;intro)
 refine wP I (Aa ?_)
 rename_i b2 b3
 refine zE (zA (zA (zB (wP I (wC I I (fun W1 hp=>FU l p cap W1 (h.hp hp)) (wP I (Aa (zE (zA (zB (wP I (wP I (Aa ?_)))))))))))))
 refine zE (zS I (zI (zE (zA (zB ?_)))))
 refine Ay Tryz.hZ tH I I I I I I I I ?_
 (refine A5 rfl rfl rfl rfl ?_;intro)
 refine wP I (Aa ?_)
 rename_i bC
 obtain⟨g,off,e1,hrow0⟩:=h.m.at_ h0
 have hrow: ∀i,i<l.length→Ak W g (off+i*2) [str (Ad (Ae l i).1),str (Ad (Ae l i).2)]:=fun i hi=>by rw[AG hi];exact hrow0 i hi
 have hr0:=hrow 0 h0
 subst e1
 obtain⟨x0,hx0⟩: ∃x0,x0=Ae l 0:=⟨_,rfl⟩
 rw[←hx0] at hr0
 refine zE (A0 ?_)
 refine Bb (X:=Nat×Nat) [true,true,true,true,true,true,false,false,false,false] (fun s=>[(0,slv (some ⟨g,off,none⟩) l.length cap),(2,Ai b2),(3,Ai b3),(4, .int .i64 0),(6,Ai bC),(7,Ai s.1),(8,Ai s.2)]) (fun s=>[ptB b2 [] [],ptB b3 [] [],caB bC,ptB s.1 (Ad x0.1) (Ad x0.2),ptB s.2 (Ad x0.1) (Ad x0.2)])
  4 [ptB b2 [] [],ptB b3 [] [],caB bC] Tryz.mixed (by kernel_rfl) ?_ ?_
 ·refine qP I (qI I I (by decide) (by omega) (qL 0 I I (fun W1 hp=>hr0.hp hp) I (qP I (qI I I (by decide) (by omega) (qL 0 I I (fun W1 hp=>hr0.hp hp) I (Ck (wX ?_)))))))
  refine RS.cons ?_ (RS.cons ?_ (RS.nil))
  ·refine Ag Tryz.hZ rfl rfl rfl rfl ?_;intro b7
   refine Aa (Ab (wX (wZ ?_)))
   refine Ag Tryz.hZ rfl rfl rfl rfl ?_;intro b8
   refine Aa (Ab (wX (wZ (wS 3 I I I (Aa (Ab (wX (wZ (wS 4 I I I (Aa (Ab ?_)))))))))))
   refine A8 I (by((repeat (first|refine AC.same ?_|refine AC.off I ?_));exact tO)) ?_
   exact Ar (b7,b8) ⟨I,I,I,I,I,I,I,tO⟩ [0,1,2,3,4] (by decide) I
  ·refine Ag Tryz.hZ rfl rfl rfl rfl ?_;intro b8
   refine Aa (Ab (wX (wZ ?_)))
   refine Ag Tryz.hZ rfl rfl rfl rfl ?_;intro b7
   refine Aa (Ab (wX (wZ (wS 4 I I I (Aa (Ab (wX (wZ (wS 3 I I I (Aa (Ab ?_)))))))))))
   refine A8 I (by((repeat (first|refine AC.same ?_|refine AC.off I ?_));exact tO)) ?_
   exact Ar (b7,b8) ⟨I,I,I,I,I,I,I,tO⟩ [0,1,2,4,3] (by decide) I
 rintro⟨b7,b8⟩
 refine zE (zA (zA (zB (wP I ?_))))
 refine DD 1 tH I I I I I I I I (by omega) hcap ?_
 refine Af 27 (.slice (some ⟨g,off+1*2,none⟩) (l.length-1) (cap-1)) I (by rw[if_neg (by omega)]) ?_
 refine wP I (wP I (Aa (zE (zH ?_))))
 refine AA (X:=Nat×Ah×Ah) (fun s=>[(2,Ai b2),(3,Ai b3),(4, .int .i64 0),(6,Ai bC),(7,Ai b7),(8,Ai b8),(27, .slice (some ⟨g,off+1*2,none⟩) (l.length-1) (cap-1)),(28, .int .i64 ((l.length-1:Nat):Int)),(29, .int .i64 ((s.1:Nat):Int))])
  (fun s=>[ptB b2 [] [],ptB b3 [] [],caB bC,ptB b7 (Ad s.2.1.1) (Ad s.2.1.2),ptB b8 (Ad s.2.2.1) (Ad s.2.2.2)]) (fun s=>s.1≤l.length-1∧Ju l (s.1+1) s.2.1 s.2.2) (fun s=>l.length-1-s.1) (0,x0,x0) ⟨Nat.zero_le _,by rw[hx0];exact Ju.one l⟩ ⟨rfl,rfl,rfl,rfl,rfl,rfl,rfl,rfl,rfl,trivial⟩ [] rfl ?_
 rintro⟨i,lo,hi⟩ ⟨hi1,hB⟩
 have hi1:i≤l.length-1:=hi1
 have hB:Ju l (i+1) lo hi:=hB
 obtain⟨s1,s2,s3,s4⟩:=hB.sz hsz h0
 refine zA (zB (wP I ?_))
 by_cases hlt:i<l.length-1
 ·refine wU 30 true I (dT (by omega)) (Aa (zE (zA (zR I (zI (zE (zA (zH (zA (zB ?_))))))))))
  have hr:Ak W g (off+1*2+i*2) [str (Ad (Ae l (i+1)).1),str (Ad (Ae l (i+1)).2)]:=by
   have:=hrow (i+1) (by omega)
   rwa [show off+(i+1)*2=off+1*2+i*2 by omega] at this
  have hBn:=hB.next
  obtain⟨sx,sy⟩:=hsz.at_ h0 (i+1)
  generalize Ae l (i+1)=x at hr hBn sx sy
  refine wJ ?_
  refine wL 0 I I (fun W1 hp=>hr.hp hp) I ?_
  (refine Ag Tryz.hZ rfl rfl rfl rfl ?_;intro)
  refine wS 5 I I I (Aa ?_)
  rename_i b10
  refine zE (zA (zA (zB (wP I (wP I (wB 5 I I I (wP I (wB 3 I I I (wC I I (fun W1 hp=>Cc bC x.1 lo.1 (sz2 sx s1 (by decide)) W1 (Bu hp 2 I) (h.v.hp hp) (h.t.hp hp)) (wP I (wU 39 (decide (x.1<lo.1)) I (Jp _ _) (Aa (AH ?_)))))))))))))
  refine AF (X:=Unit) (fun _=>[(2,Ai b2),(3,Ai b3),(4, .int .i64 0),(6,Ai bC),(7,Ai b7),(8,Ai b8),(10,Ai b10),(27, .slice (some ⟨g,off+1*2,none⟩) (l.length-1) (cap-1)),(28, .int .i64 ((l.length-1:Nat):Int)),(29, .int .i64 ((i:Nat):Int))]) (fun _=>[ptB b2 [] [],ptB b3 [] [],caB bC,ptB b7 (Ad (mnQ x.1 lo.1)) (Ad lo.2),ptB b8 (Ad hi.1) (Ad hi.2),ptB b10 (Ad x.1) (Ad x.2)]) (fun _=>True) ?_ ?_
  ·refine Av I (fun hc=> ?_) (fun hc=> ?_)
   ·exact zB (wP I (wB 5 I I I (wP I (wS 3 I I I (Aa (Al () tO ⟨I,I,I,I,I,I,I,I,I,I,tO⟩ [] (by rw[mnQ,if_pos (of_decide_eq_true hc)];rfl)))))))
   ·exact zI (Al () tO ⟨I,I,I,I,I,I,I,I,I,I,tO⟩ [] (by rw[mnQ,if_neg (of_decide_eq_false hc)];rfl))
  intro _ _
  refine zA (zA (zB (wP I (wP I (wB 5 I I I (wP I (wB 3 I I I (wC I I (fun W1 hp=>Cc bC x.2 lo.2 (sz2 sy s2 (by decide)) W1 (Bu hp 2 I) (h.v.hp hp) (h.t.hp hp)) (wP I (wU 49 (decide (x.2<lo.2)) I (Jp _ _) (Aa (AH ?_))))))))))))
  refine AF (X:=Unit) (fun _=>[(2,Ai b2),(3,Ai b3),(4, .int .i64 0),(6,Ai bC),(7,Ai b7),(8,Ai b8),(10,Ai b10),(27, .slice (some ⟨g,off+1*2,none⟩) (l.length-1) (cap-1)),(28, .int .i64 ((l.length-1:Nat):Int)),(29, .int .i64 ((i:Nat):Int))]) (fun _=>[ptB b2 [] [],ptB b3 [] [],caB bC,ptB b7 (Ad (mnQ x.1 lo.1)) (Ad (mnQ x.2 lo.2)),ptB b8 (Ad hi.1) (Ad hi.2),ptB b10 (Ad x.1) (Ad x.2)]) (fun _=>True) ?_ ?_
  ·refine Av I (fun hc=> ?_) (fun hc=> ?_)
   ·exact zB (wP I (wB 5 I I I (wP I (wS 3 I I I (Aa (Al () tO ⟨I,I,I,I,I,I,I,I,I,I,tO⟩ [] (by rw[mnQ,mnQ,if_pos (of_decide_eq_true hc)];rfl)))))))
   ·exact zI (Al () tO ⟨I,I,I,I,I,I,I,I,I,I,tO⟩ [] (by rw[mnQ,mnQ,if_neg (of_decide_eq_false hc)];rfl))
  intro _ _
  refine zA (zA (zB (wP I (wP I (wB 5 I I I (wP I (wB 4 I I I (wC I I (fun W1 hp=>Cc bC x.1 hi.1 (sz2 sx s3 (by decide)) W1 (Bu hp 2 I) (h.v.hp hp) (h.t.hp hp)) (wP I (wU 59 (decide (hi.1<x.1)) I (HN _ _) (Aa (AH ?_))))))))))))
  refine AF (X:=Unit) (fun _=>[(2,Ai b2),(3,Ai b3),(4, .int .i64 0),(6,Ai bC),(7,Ai b7),(8,Ai b8),(10,Ai b10),(27, .slice (some ⟨g,off+1*2,none⟩) (l.length-1) (cap-1)),(28, .int .i64 ((l.length-1:Nat):Int)),(29, .int .i64 ((i:Nat):Int))]) (fun _=>[ptB b2 [] [],ptB b3 [] [],caB bC,ptB b7 (Ad (mnQ x.1 lo.1)) (Ad (mnQ x.2 lo.2)),ptB b8 (Ad (mxQ x.1 hi.1)) (Ad hi.2),ptB b10 (Ad x.1) (Ad x.2)]) (fun _=>True) ?_ ?_
  ·refine Av I (fun hc=> ?_) (fun hc=> ?_)
   ·exact zB (wP I (wB 5 I I I (wP I (wS 4 I I I (Aa (Al () tO ⟨I,I,I,I,I,I,I,I,I,I,tO⟩ [] (by rw[mxQ,if_pos (of_decide_eq_true hc)];rfl)))))))
   ·exact zI (Al () tO ⟨I,I,I,I,I,I,I,I,I,I,tO⟩ [] (by rw[mxQ,if_neg (of_decide_eq_false hc)];rfl))
  intro _ _
  refine zA (zB (wP I (wP I (wB 5 I I I (wP I (wB 4 I I I (wC I I (fun W1 hp=>Cc bC x.2 hi.2 (sz2 sy s4 (by decide)) W1 (Bu hp 2 I) (h.v.hp hp) (h.t.hp hp)) (wP I (wU 69 (decide (hi.2<x.2)) I (HN _ _) (Aa (zE ?_)))))))))))
  refine Av I (fun hc=> ?_) (fun hc=> ?_)
  ·exact zB (wP I (wB 5 I I I (wP I (wS 4 I I I (Aa (zN (zE (zB (wP I (wV 73 ((i+1:Nat):Int) I (Az (by omega)) (wP I (Aa (A6 (i+1,(mnQ x.1 lo.1,mnQ x.2 lo.2),(mxQ x.1 hi.1,mxQ x.2 hi.2)) ⟨hlt,hBn⟩ (by show l.length-1-(i+1)<l.length-1-i;omega) ⟨I,I,I,I,I,I,I,I,I,tO⟩ [_] (by rw[mxQ,mxQ,if_pos (of_decide_eq_true hc)];rfl))))))))))))))
  ·exact zI (zN (zE (zB (wP I (wV 73 ((i+1:Nat):Int) I (Az (by omega)) (wP I (Aa (A6 (i+1,(mnQ x.1 lo.1,mnQ x.2 lo.2),(mxQ x.1 hi.1,mxQ x.2 hi.2)) ⟨hlt,hBn⟩ (by show l.length-1-(i+1)<l.length-1-i;omega) ⟨I,I,I,I,I,I,I,I,I,tO⟩ [_] (by rw[mxQ,mxQ,if_neg (of_decide_eq_false hc)];rfl)))))))))
 ·obtain rfl:i=l.length-1:=by omega
  rw[Nat.sub_add_cancel (by omega)] at hB
  refine wU 30 false I (dF (by omega)) (Aa (zE (zA (zS I (zJ (zK (zK (zL (zE (zA (zA (zB (wP I ?_)))))))))))))
  refine AL I I I I ?_
  refine wP I (wB 2 I I I (wP I (Aa (zE (zS I (zI (zE (A0 ?_))))))))
  refine Bb (X:=Unit) [true,true,false,false,false] (fun _=>[(2,Ai b2),(3,Ai b3),(4, .int .i64 0)]) (fun _=>[ptB b2 (Ad lo.1) (Ad lo.2),ptB b3 (Ad hi.1) (Ad hi.2)])
   3 [⟨b2,35,[str [],str []],false,none⟩,⟨b3,35,[str [],str []],false,none⟩,caB bC,ptB b7 (Ad lo.1) (Ad lo.2),ptB b8 (Ad hi.1) (Ad hi.2)] Tryz.mixed (by kernel_rfl) ?_ ?_
  ·refine qB 3 I I I (qB 4 I I I (Ck (wX (wZ (wS 0 I I I (Aa (Ab (wX (wZ (wS 1 I I I (Aa (Ab (wX ?_)))))))))))))
   refine wZ (wP I (Aa (Ab ?_)))
   refine A8 I (by((repeat (first|refine AC.same ?_|refine AC.off I ?_));exact tO)) ?_
   exact Ar () ⟨I,I,I,tO⟩ [0,1] (by decide) I
  intro _
  exact zE (zO (RQ tH I (.cell 0 I I I I I) (.cell 1 I I I I I) (.tmp I) (lo,hi) I hB fun W _=>As.nil _ _))
-- BOXES 5
-- CODE2
theorem Jl {p q:Rat} (h:p≤q):Dv p q≤0:=of_decide_eq_true ((Ok p q).trans (dT h))
theorem LL (lo hi x:Ah) (z1:Sz2 lo.1 x.1) (z2:Sz2 x.1 hi.1) (z3:Sz2 lo.2 x.2) (z4:Sz2 x.2 hi.2) (h1:lo.1≤x.1) (h2:x.1≤hi.1) (h3:lo.2≤x.2) (h4:x.2≤hi.2) (W:World) (ht:AO W):
  Aj Tryz.prog 19 #[ptV lo,ptV hi,ptV x] W (fun _:Unit=> .bool true) (fun _=>True) (fun _=>[]):=by
 refine Ac (args:=[ptV lo,ptV hi,ptV x]) Tryz.func19 I I I ?_
 refine zA (zB ?_)
 (refine A5 rfl rfl rfl rfl ?_;intro)
 (refine A5 rfl rfl rfl rfl ?_;intro)
 (refine A5 rfl rfl rfl rfl ?_;intro)
 refine wP I (Aa ?_)
 rename_i b3 b4 b5
 refine zE (zA (zB (wP I (wB 0 I I I (wP I (wB 2 I I I (wC I I (fun W1 hp=>GZ lo.1 x.1 z1 W1 (ht.hp hp)) ?_)))))))
 iterate 5 refine wP I ?_
 refine Aa (zE (zA (zB (wP I (wB 2 I I I (wP I (wB 1 I I I (wC I I (fun W1 hp=>GZ x.1 hi.1 z2 W1 (ht.hp hp)) ?_))))))))
 iterate 5 refine wP I ?_
 refine Aa (zE (zA (zB (wP I (wB 0 I I I (wP I (wB 2 I I I (wC I I (fun W1 hp=>GZ lo.2 x.2 z3 W1 (ht.hp hp)) ?_))))))))
 iterate 5 refine wP I ?_
 refine Aa (zE (zA (zB (wP I (wB 2 I I I (wP I (wB 1 I I I (wC I I (fun W1 hp=>GZ x.2 hi.2 z4 W1 (ht.hp hp)) ?_))))))))
 iterate 5 refine wP I ?_
 refine Aa (zE (zA (zB ?_)))
 iterate 5 refine wP I ?_
 refine Af 51 (.int .i64 0) I I ?_
 refine wP I ?_
 refine Af 52 (.bool true) I I ?_
 iterate 6 refine wP I ?_
 have c1:=Jl h1
 have c2:=Jl h2
 have c3:=Jl h3
 have c4:=Jl h4
 exact wP I (wU 59 true I (dT (by split<;>split<;>split<;>omega)) (wP I (wP I (Aa (zE (zO (wR1 I I I)))))))
-- BOXES 5
-- CODE2
theorem K3.of {p q r:Ah} (h:WS p q r):K3 p q r:=
 ⟨Et.2 ⟨⟨h.s1.c1,h.s1.c2⟩,h.s1.sub,h.s1.d⟩,Et.2 ⟨⟨h.s2.c1,h.s2.c2⟩,h.s2.sub,h.s2.d⟩,Et.2 ⟨⟨h.s3.c1,h.s3.c2⟩,h.s3.sub,h.s3.d⟩,Et.2 ⟨⟨h.s4.c1,h.s4.c2⟩,h.s4.sub,h.s4.d⟩,⟨h.m1.n,h.m1.d⟩,⟨h.m2.n,h.m2.d⟩,⟨h.o.c1,h.o.c2⟩⟩
theorem Lb {l:List Ah} (h:Hi 36 l):DK l:=fun a ha b hb=>by
 have h0:0<l.length:=by omega
 have pa:=h.at_ h0 a
 have pb:=h.at_ h0 b
 have s1:=sz2 pa.1 pb.1 (by decide)
 have s2:=sz2 pa.2 pb.2 (by decide)
 exact⟨⟨s1.c1,s1.c2⟩,⟨s2.c1,s2.c2⟩,fun d _=>K3.of (So pa pb (h.at_ h0 d) (by decide))⟩
theorem MP {l m:List Ah} (hl:Bh l) (h1: ∀p∈l,p∈m) (h2: ∀x∈m,Dn l x):JQ m=B3 l:=
 PN hl (Nt (Lz m)).1 (fun p hp=>(Lf m p).2 (h1 p hp)) fun x hx=>h2 x ((Lf m x).1 hx)
theorem Mq (l:List Ah):(B3 l).length=l.length:=DF (G1 l)
theorem Pi.poly {l m:List Ah} (hl:Bh l) (h1: ∀p∈l,p∈m) (h2: ∀x∈m,Dn l x) (hok:DK m):Pi m (B3 l) 0:=
 .inl ⟨hok,by rw[MP hl h1 h2,Mq];exact hl.n3,(MP hl h1 h2).symm,rfl⟩
section
variable {r:Option Nat} {n:Nat} {P:Program} {W0:World} {N:Nat} {D:List Deferred} {Q:Exit→Act→World→Prop} {env:Env} {bxs:List Bx}
end
end
section
open Go Go.RowKit Go.Am Go.Lib
def Cx (W:Nat→Int):Nat→Int
 |0=>1
 |k+1=>Cx W k*W k
theorem Jz {W:Nat→Int} (h: ∀j,W j≠0): ∀k,Cx W k≠0
 |0=>show(1:Int)≠0 by decide
 |k+1=>Int.mul_ne_zero (Jz h k) (h k)
theorem Uq {p1 p2 q1 q2 A B X Y U V:Rat} (h1:p1*A=X) (h2:p2*A=Y) (h3:q1*B=U) (h4:q2*B=V):(p1*q2-q1*p2)*(A*B)=X*V-U*Y:=by
 subst h1 h2 h3 h4;grind
theorem TD {a b c d:Int} {e f s:Nat} {R:Int} (ha:a.natAbs<10^e) (hb:b.natAbs<10^f) (hc:c.natAbs<10^f) (hd:d.natAbs<10^e) (hR:R.natAbs≤10^s):((a*b-c*d)*R).natAbs≤2*10^(e+f+s):=by
 have h1:(a*b).natAbs≤10^(e+f):=by rw[Int.natAbs_mul,Nat.pow_add];exact Nat.mul_le_mul (Nat.le_of_lt ha) (Nat.le_of_lt hb)
 have h2:(c*d).natAbs≤10^(e+f):=by rw[Int.natAbs_mul,Nat.pow_add,Nat.mul_comm (10^e)];exact Nat.mul_le_mul (Nat.le_of_lt hc) (Nat.le_of_lt hd)
 have h3:(a*b-c*d).natAbs≤2*10^(e+f):=by omega
 rw[Int.natAbs_mul,Nat.pow_add _ _ s, ←Nat.mul_assoc]
 exact Nat.mul_le_mul h3 hR
def crN (P:Nat→Ah) (k:Nat):Rat:=Bd (fun i=>Cn (P i) (P (i+1))) k
theorem U1 (P:Nat→Ah) (k:Nat):crN P (k+1)=crN P k+Cn (P k) (P (k+1)):=rfl
end
section
open Go Go.RowKit Go.Am Go.Lib
set_option maxRecDepth 10000
-- BOXES 8
-- CODE2
theorem Ju.hull {l:List Ah} {lo hi x:Ah} (h:Ju l l.length lo hi) (hx:Dn l x):lo.1≤x.1∧x.1≤hi.1∧lo.2≤x.2∧x.2≤hi.2:=by
 have mem: ∀p∈l,lo.1≤p.1∧lo.2≤p.2∧p.1≤hi.1∧p.2≤hi.2:=fun p hp=>by
  obtain⟨j,hj,rfl⟩:=Cs hp
  exact h.le j hj
 have g1:=hx ⟨1,0,lo.1⟩ fun p hp=>by have:=(mem p hp).1;unfold Bn.at;grind
 have g2:=hx ⟨-1,0, -hi.1⟩ fun p hp=>by have:=(mem p hp).2.2.1;unfold Bn.at;grind
 have g3:=hx ⟨0,1,lo.2⟩ fun p hp=>by have:=(mem p hp).2.1;unfold Bn.at;grind
 have g4:=hx ⟨0, -1, -hi.2⟩ fun p hp=>by have:=(mem p hp).2.2.2;unfold Bn.at;grind
 unfold Bn.at at g1 g2 g3 g4
 simp only at g1 g2 g3 g4
 exact⟨by grind,by grind,by grind,by grind⟩
-- BOXES 8
-- CODE2
theorem Tp {l L:List Ah} (hr:Pi l L 0) (hok:DK l) (h0:0<l.length) (h12:l.length≤12) (hq: ∀p∈l,okP p) (p:Option Addr) (cap:Nat) (W:World) (hA:Ch W p l) (hv:BU W) (ht:AO W):
  Aj Tryz.prog 26 #[slv p l.length cap] W (fun V:Vec=> .tuple #[V.val L.length, .int .i64 0]) (fun V=>V.OK 2 L.length (ptC L)) (fun V=>[V.bx 35 (ptC L)]):=
 Ht l L 0 hr (.inl hok) h0 h12 hq p cap W hA hv ht
theorem szQ.okP {p:Ah} {k:Nat} (h:szQ p.1 k∧szQ p.2 k) (hk:k≤300):okP p:=⟨h.1.ok hk,h.2.ok hk⟩
end
section
open Go Go.RowKit Go.Am Go.Lib
structure HmU (P:Nat→Ah) (X Y W:Nat→Int) (x w:Nat):Prop where
 nz: ∀j,W j≠0
 fx: ∀j,(X j).natAbs<10^x
 fy: ∀j,(Y j).natAbs<10^x
 fw: ∀j,(W j).natAbs<10^w
 px: ∀j,(P j).1*(W j:Rat)=(X j:Rat)
 py: ∀j,(P j).2*(W j:Rat)=(Y j:Rat)
theorem FB {W:Nat→Int} {w:Nat} (h: ∀j,(W j).natAbs<10^w): ∀k,(Cx W k).natAbs≤10^(w*k)
 |0=>Nat.le_refl _
 |k+1=>by
  show(Cx W k*W k).natAbs≤10^(w*k+w)
  rw[Int.natAbs_mul,Nat.pow_add]
  exact Nat.mul_le_mul (FB h k) (Nat.le_of_lt (h k))
theorem HmU.part {P:Nat→Ah} {X Y W:Nat→Int} {x w:Nat} (h:HmU P X Y W x w): ∀k, ∃N:Int,crN P (k+1)*(Cx W (k+2):Rat)=(N:Rat)∧N.natAbs≤2*(k+1)*10^(2*x+w*k):=by
 have step: ∀k,(Cn (P k) (P (k+1)))*(Cx W (k+2):Rat)=(((X k*Y (k+1)-X (k+1)*Y k)*Cx W k:Int):Rat):=fun k=>by
  have c:=Uq (h.px k) (h.py k) (h.px (k+1)) (h.py (k+1))
  have e:Cx W (k+2)=Cx W k*W k*W (k+1):=rfl
  rw[e]
  simp only[Rat.intCast_mul,Rat.intCast_sub]
  rw[←c]
  unfold Cn
  grind
 have bd: ∀k,((X k*Y (k+1)-X (k+1)*Y k)*Cx W k).natAbs≤2*10^(2*x+w*k):=fun k=>by
  have:=TD (h.fx k) (h.fy (k+1)) (h.fx (k+1)) (h.fy k) (FB h.fw k)
  rwa [show x+x+w*k=2*x+w*k by omega] at this
 intro k
 induction k with
 |zero=>
  refine⟨_, ?_,bd 0⟩
  have:crN P (0+1)=Cn (P 0) (P 1):=by show 0+Cn (P 0) (P 1)=_;rw[Rat.zero_add]
  rw[this]
  exact step 0
 |succ k ih=>
  obtain⟨N,hN,hb⟩:=ih
  refine⟨N*W (k+2)+(X (k+1)*Y (k+1+1)-X (k+1+1)*Y (k+1))*Cx W (k+1), ?_, ?_⟩
  ·have e1:Cx W (k+1+2)=Cx W (k+2)*W (k+2):=rfl
   have s:=step (k+1)
   rw[Rat.intCast_add, ←s,Rat.intCast_mul, ←hN,U1 P (k+1),e1,Rat.intCast_mul]
   grind
  ·have b1:(N*W (k+2)).natAbs≤2*(k+1)*10^(2*x+w*k)*10^w:=by
    rw[Int.natAbs_mul];exact Nat.mul_le_mul hb (Nat.le_of_lt (h.fw _))
   have e:10^(2*x+w*(k+1))=10^(2*x+w*k)*10^w:=by rw[←Nat.pow_add];congr 1;rw[Nat.mul_add];omega
   rw[Nat.mul_assoc, ←e] at b1
   have b2:=bd (k+1)
   have e3:2*(k+1+1)*10^(2*x+w*(k+1))=2*(k+1)*10^(2*x+w*(k+1))+2*10^(2*x+w*(k+1)):=by rw[←Nat.add_mul];congr 1
   rw[e3]
   exact Nat.le_trans (Int.natAbs_add_le _ _) (Nat.add_le_add b1 b2)
def moN (P:Nat→Ah) (F:Ah→Rat) (k:Nat):Rat:=Bd (fun i=>(F (P i)+F (P (i+1)))*Cn (P i) (P (i+1))) k
theorem XC {u v p1 p2 q1 q2 A B X Y U V S T:Rat} (h1:p1*A=X) (h2:p2*A=Y) (h3:q1*B=U) (h4:q2*B=V) (h5:u*A=S) (h6:v*B=T):(u+v)*(p1*q2-q1*p2)*(A*B*(A*B))=(S*B+T*A)*(X*V-U*Y):=by
 subst h1 h2 h3 h4 h5 h6;grind
theorem HmU.mom {P:Nat→Ah} {X Y W:Nat→Int} {x w:Nat} (h:HmU P X Y W x w) (F:Ah→Rat) (Z:Nat→Int) (hZ: ∀j,(Z j).natAbs<10^x) (pz: ∀j,F (P j)*(W j:Rat)=(Z j:Rat)):
  ∀k, ∃N:Int,moN P F (k+1)*((Cx W (k+2)*Cx W (k+2):Int):Rat)=(N:Rat)∧N.natAbs≤4*(k+1)*10^(3*x+w+2*(w*k)):=by
 have step: ∀k,((F (P k)+F (P (k+1)))*Cn (P k) (P (k+1)))*((Cx W (k+2)*Cx W (k+2):Int):Rat)=(((Z k*W (k+1)+Z (k+1)*W k)*(X k*Y (k+1)-X (k+1)*Y k)*(Cx W k*Cx W k):Int):Rat):=fun k=>by
  have c:=XC (h.px k) (h.py k) (h.px (k+1)) (h.py (k+1)) (pz k) (pz (k+1))
  have e:Cx W (k+2)=Cx W k*W k*W (k+1):=rfl
  rw[e]
  simp only[Rat.intCast_mul,Rat.intCast_sub,Rat.intCast_add]
  rw[←c]
  unfold Cn
  grind
 have bd: ∀k,((Z k*W (k+1)+Z (k+1)*W k)*(X k*Y (k+1)-X (k+1)*Y k)*(Cx W k*Cx W k)).natAbs≤4*10^(3*x+w+2*(w*k)):=fun k=>by
  have m: ∀ {a b:Int} {s t:Nat},a.natAbs<10^s→b.natAbs<10^t→(a*b).natAbs≤10^(s+t):=fun {a b s t} ha hb=>by
   rw[Int.natAbs_mul,Nat.pow_add];exact Nat.mul_le_mul (Nat.le_of_lt ha) (Nat.le_of_lt hb)
  have h1:(Z k*W (k+1)+Z (k+1)*W k).natAbs≤2*10^(x+w):=by
   have a:=m (hZ k) (h.fw (k+1))
   have b:=m (hZ (k+1)) (h.fw k)
   omega
  have h2:(X k*Y (k+1)-X (k+1)*Y k).natAbs≤2*10^(x+x):=by
   have a:=m (h.fx k) (h.fy (k+1))
   have b:=m (h.fx (k+1)) (h.fy k)
   omega
  have h3:(Cx W k*Cx W k).natAbs≤10^(w*k+w*k):=by
   rw[Int.natAbs_mul,Nat.pow_add];exact Nat.mul_le_mul (FB h.fw k) (FB h.fw k)
  rw[Int.natAbs_mul,Int.natAbs_mul]
  refine Nat.le_trans (Nat.mul_le_mul (Nat.mul_le_mul h1 h2) h3) (Nat.le_of_eq ?_)
  have e:3*x+w+2*(w*k)=(x+w)+(x+x)+(w*k+w*k):=by omega
  rw[e,Nat.pow_add 10 (x+w+(x+x)),Nat.pow_add 10 (x+w) (x+x)]
  generalize 10^(x+w)=a
  generalize 10^(x+x)=b
  generalize 10^(w*k+w*k)=c
  rw[show 2*a*(2*b)=4*(a*b) by rw[Nat.mul_mul_mul_comm],Nat.mul_assoc]
 intro k
 induction k with
 |zero=>
  refine⟨_, ?_,bd 0⟩
  have:moN P F (0+1)=(F (P 0)+F (P 1))*Cn (P 0) (P 1):=by show 0+(F (P 0)+F (P 1))*Cn (P 0) (P 1)=_;rw[Rat.zero_add]
  rw[this]
  exact step 0
 |succ k ih=>
  obtain⟨N,hN,hb⟩:=ih
  refine⟨N*(W (k+2)*W (k+2))+(Z (k+1)*W (k+1+1)+Z (k+1+1)*W (k+1))*(X (k+1)*Y (k+1+1)-X (k+1+1)*Y (k+1))*(Cx W (k+1)*Cx W (k+1)), ?_, ?_⟩
  ·have e1:Cx W (k+1+2)=Cx W (k+2)*W (k+2):=rfl
   have s:=step (k+1)
   have e2:moN P F (k+1+1)=moN P F (k+1)+(F (P (k+1))+F (P (k+1+1)))*Cn (P (k+1)) (P (k+1+1)):=rfl
   rw[Rat.intCast_add, ←s,Rat.intCast_mul N, ←hN,e2,e1]
   simp only[Rat.intCast_mul]
   grind
  ·have b1:(N*(W (k+2)*W (k+2))).natAbs≤4*(k+1)*10^(3*x+w+2*(w*k))*10^(w+w):=by
    rw[Int.natAbs_mul]
    refine Nat.mul_le_mul hb ?_
    rw[Int.natAbs_mul,Nat.pow_add]
    exact Nat.mul_le_mul (Nat.le_of_lt (h.fw _)) (Nat.le_of_lt (h.fw _))
   have e:10^(3*x+w+2*(w*(k+1)))=10^(3*x+w+2*(w*k))*10^(w+w):=by rw[←Nat.pow_add];congr 1;rw[Nat.mul_add];omega
   rw[Nat.mul_assoc, ←e] at b1
   have b2:=bd (k+1)
   have e3:4*(k+1+1)*10^(3*x+w+2*(w*(k+1)))=4*(k+1)*10^(3*x+w+2*(w*(k+1)))+4*10^(3*x+w+2*(w*(k+1))):=by rw[←Nat.add_mul];congr 1
   rw[e3]
   exact Nat.le_trans (Int.natAbs_add_le _ _) (Nat.add_le_add b1 b2)
theorem Ws (k:Nat):szQ 0 (k+1):=szQ.mono (k:=1) (by unfold szQ;decide+kernel) (by omega)
theorem NX {q:Rat} {N Q:Int} {s k:Nat} (hQ:Q≠0) (h:q*(Q:Rat)=(N:Rat)) (hN:N.natAbs≤k*10^s) (hk:k<100) (hW:Q.natAbs≤10^(s+1)):szQ q (s+2):=by
 have p:10^(s+2)=100*10^s:=by rw[Nat.pow_add,Nat.mul_comm]
 have p1:10^(s+1)=10*10^s:=by rw[Nat.pow_add,Nat.mul_comm]
 have p0:0<10^s:=Nat.pow_pos (by decide)
 refine FZ hQ h ?_ ?_
 ·rw[p]
  exact Nat.lt_of_le_of_lt hN (Nat.mul_lt_mul_of_pos_right hk p0)
 ·rw[p];omega
theorem HmU.cr_sz {P:Nat→Ah} {X Y W:Nat→Int} {x w:Nat} (h:HmU P X Y W x w) (hw:2*w≤2*x+1) (k:Nat) (hk:k≤8):szQ (crN P k) (2*x+w*7+2):=by
 cases k with
 |zero=>exact Ws _
 |succ k=>
  obtain⟨N,hN,hb⟩:=h.part k
  have hm:w*k≤w*7:=Nat.mul_le_mul_left w (by omega)
  refine(NX (s:=2*x+w*k) (Jz h.nz _) hN hb (by omega) (Nat.le_trans (FB h.fw _) (Nat.pow_le_pow_right (by decide) ?_))).mono (by omega)
  rw[Nat.mul_add];omega
theorem HmU.mo_sz {P:Nat→Ah} {X Y W:Nat→Int} {x w:Nat} (h:HmU P X Y W x w) (hw:3*w≤3*x+1) (F:Ah→Rat) (Z:Nat→Int) (hZ: ∀j,(Z j).natAbs<10^x) (pz: ∀j,F (P j)*(W j:Rat)=(Z j:Rat)) (k:Nat) (hk:k≤8):szQ (moN P F k) (3*x+w+w*14+2):=by
 cases k with
 |zero=>exact Ws _
 |succ k=>
  obtain⟨N,hN,hb⟩:=h.mom F Z hZ pz k
  have hm:w*k≤w*7:=Nat.mul_le_mul_left w (by omega)
  have h14:w*14=w*7+w*7:=by omega
  refine(NX (s:=3*x+w+2*(w*k)) (Int.mul_ne_zero (Jz h.nz _) (Jz h.nz _)) hN hb (by omega) ?_).mono (by omega)
  rw[Int.natAbs_mul]
  refine Nat.le_trans (Nat.mul_le_mul (FB h.fw _) (FB h.fw _)) ?_
  rw[←Nat.pow_add]
  refine Nat.pow_le_pow_right (by decide) ?_
  rw[Nat.mul_add];omega
theorem HmU.pt {P:Nat→Ah} {X Y W:Nat→Int} {x w:Nat} (h:HmU P X Y W x w) (hw:w≤x) (j:Nat):szQ (P j).1 x∧szQ (P j).2 x:=by
 have hp:=Nat.pow_le_pow_right (show 0<10 by decide) hw
 have hW:=h.fw j
 exact⟨FZ (h.nz j) (h.px j) (h.fx j) (by omega),FZ (h.nz j) (h.py j) (h.fy j) (by omega)⟩
theorem CeZ.of {l:List Ah} (hP:Bh l) (h8:l.length≤8) {X Y W:Nat→Int} {x w t:Nat} (h:HmU (Ae l) X Y W x w) (hw:w≤x) (hx:x≤15) (hw2:w≤12) (ht:szQ (AS l) t) (hs:3*x+w*15+2+t+1+1≤300):
  CeZ l∧ArZ l∧szQ (CT l) (3*x+w+w*14+2)∧szQ (Da l) (3*x+w+w*14+2):=by
 have pt:=h.pt hw
 have dz: ∀i,Qn (Ae l i) (Ae l (i+1)):=fun i=>by
  obtain⟨a1,a2⟩:=pt i
  obtain⟨b1,b2⟩:=pt (i+1)
  exact⟨sz2 a1 b2 (by omega),sz2 b1 a2 (by omega),sz2 (a1.mul b2) (b1.mul a2) (by omega)⟩
 have sc: ∀i,szQ (Cn (Ae l i) (Ae l (i+1))) (2*x+2):=fun i=>by
  have c:=Uq (h.px i) (h.py i) (h.px (i+1)) (h.py (i+1))
  rw[←Rat.intCast_mul, ←Rat.intCast_mul, ←Rat.intCast_mul, ←Rat.intCast_sub] at c
  have b:=TD (h.fx i) (h.fy (i+1)) (h.fx (i+1)) (h.fy i) (R:=1) (s:=0) (Nat.le_refl _)
  rw[Int.mul_one,show x+x+0=2*x by omega] at b
  refine NX (s:=2*x) (k:=2) (Int.mul_ne_zero (h.nz i) (h.nz (i+1))) c b (by decide) ?_
  rw[Int.natAbs_mul]
  refine Nat.le_trans (Nat.mul_le_mul (Nat.le_of_lt (h.fw i)) (Nat.le_of_lt (h.fw (i+1)))) ?_
  rw[←Nat.pow_add]
  exact Nat.pow_le_pow_right (by decide) (by omega)
 have sm: ∀(F:Ah→Rat) (Z:Nat→Int),(∀j,(Z j).natAbs<10^x)→(∀j,F (Ae l j)*(W j:Rat)=(Z j:Rat))→ ∀i,szQ (F (Ae l i)+F (Ae l (i+1))) (x+w+2):=fun F Z hZ pz i=>by
  have e:(F (Ae l i)+F (Ae l (i+1)))*((W i*W (i+1):Int):Rat)=((Z i*W (i+1)+Z (i+1)*W i:Int):Rat):=by
   simp only[Rat.intCast_mul,Rat.intCast_add]
   rw[←pz i, ←pz (i+1)];grind
  refine NX (s:=x+w) (k:=2) (Int.mul_ne_zero (h.nz i) (h.nz (i+1))) e ?_ (by decide) ?_
  ·have m: ∀ {a b:Int},a.natAbs<10^x→b.natAbs<10^w→(a*b).natAbs≤10^(x+w):=fun {a b} ha hb=>by
    rw[Int.natAbs_mul,Nat.pow_add];exact Nat.mul_le_mul (Nat.le_of_lt ha) (Nat.le_of_lt hb)
   have a:=m (hZ i) (h.fw (i+1))
   have b:=m (hZ (i+1)) (h.fw i)
   omega
  ·rw[Int.natAbs_mul]
   refine Nat.le_trans (Nat.mul_le_mul (Nat.le_of_lt (h.fw i)) (Nat.le_of_lt (h.fw (i+1)))) ?_
   rw[←Nat.pow_add]
   exact Nat.pow_le_pow_right (by decide) (by omega)
 have kx:=fun k hk=>h.mo_sz (by omega) (·.1) X h.fx h.px k hk
 have ky:=fun k hk=>h.mo_sz (by omega) (·.2) Y h.fy h.py k hk
 have kc:=fun k hk=>h.cr_sz (by omega) k hk
 have sx:=sm (·.1) X h.fx h.px
 have sy:=sm (·.2) Y h.fy h.py
 have s3:szQ (3:Rat) 1:=by unfold szQ;decide+kernel
 have s2:szQ (2:Rat) 1:=by unfold szQ;decide+kernel
 have nz:(3*AS l).num≠0:=by
  have:=GM hP
  exact Rk (by grind)
 have ex:CT l=moN (Ae l) (·.1) l.length:=rfl
 have ey:Da l=moN (Ae l) (·.2) l.length:=rfl
 refine⟨⟨fun i _=>dz i,fun i hi=>sz2 (kc i (by omega)) (sc i) (by omega),fun i _=>sz2 (pt i).1 (pt (i+1)).1 (by omega),fun i _=>sz2 (sx i) (sc i) (by omega),fun i hi=>sz2 (kx i (by omega)) ((sx i).mul (sc i)) (by omega),fun i _=>sz2 (pt i).2 (pt (i+1)).2 (by omega),fun i _=>sz2 (sy i) (sc i) (by omega),fun i hi=>sz2 (ky i (by omega)) ((sy i).mul (sc i)) (by omega),sz2 s3 ht (by omega),nz, ?_, ?_⟩,⟨fun i _=>dz i,fun i hi=>sz2 (kc i (by omega)) (sc i) (by omega),sz2 ht s2 (by omega)⟩,kx _ h8,ky _ h8⟩
 ·rw[ex];exact sz2 (kx _ h8) (s3.mul ht) (by omega)
 ·rw[ey];exact sz2 (ky _ h8) (s3.mul ht) (by omega)
end
section
open Go Go.RowKit Go.Am Go.Lib
set_option maxRecDepth 10000
-- BOXES 9
-- CODE2
theorem HS {q:Rat} {k:Nat} (hk:0<k) (h:(Ad q).length≤k):szQ q k:=by
 have hi:(itoa q.num).length≤k∧(decDigits q.den).length≤k:=by
  unfold Ad EP at h
  split at h
  ·rename_i e
   exact⟨h,by rw[e];exact Nat.le_trans (Dd 1 1 (by decide) (by decide)) hk⟩
  ·rw[List.length_append,List.length_cons] at h
   omega
 have h2:(decDigits q.num.natAbs).length≤k:=by
  have h1:=hi.1
  rw[BL,List.length_append] at h1
  omega
 exact⟨Nat.lt_of_lt_of_le (CP _) (Nat.pow_le_pow_right (by decide) h2),Nat.lt_of_lt_of_le (CP _) (Nat.pow_le_pow_right (by decide) hi.2)⟩
theorem OH {l:List Ah}:DK l∨(l.map ptS).any Hd=true:=by
 cases h:(l.map ptS).any Hd with
 |true=>exact .inr rfl
 |false=>
  refine .inl (Lb fun x hx=> ?_)
  have h1:=List.any_eq_false.1 h (ptS x) (List.mem_map_of_mem hx)
  have h2:Hd (ptS x)=false:=by
   cases e:Hd (ptS x) with
   |true=>exact absurd e h1
   |false=>rfl
  unfold Hd at h2
  rw[Bool.or_eq_false_iff] at h2
  have a: ¬30<(Ad x.1).length:=of_decide_eq_false h2.1
  have b: ¬30<(Ad x.2).length:=of_decide_eq_false h2.2
  exact⟨HS (by decide) (by omega),HS (by decide) (by omega)⟩
theorem HmU.of5 {l:List Ah} (h0:0<l.length) (h: ∀p∈l,(Ad p.1).length≤5∧(Ad p.2).length≤5):
  HmU (Ae l) (fun j=>(Ae l j).1.num*((Ae l j).2.den:Nat)) (fun j=>(Ae l j).2.num*((Ae l j).1.den:Nat)) (fun j=>((Ae l j).1.den:Nat)*((Ae l j).2.den:Nat)) 8 6:=by
 have g:=fun j=>h _ (AX h0 j)
 have n1:=fun j=>To (g j).1
 have n2:=fun j=>To (g j).2
 have d1: ∀j,(((Ae l j).1.den:Nat):Int).natAbs<10^3:=fun j=>by rw[Int.natAbs_natCast];exact(n1 j).2
 have d2: ∀j,(((Ae l j).2.den:Nat):Int).natAbs<10^3:=fun j=>by rw[Int.natAbs_natCast];exact(n2 j).2
 refine⟨fun j=> ?_,fun j=>AM (n1 j).1 (d2 j),fun j=>AM (n2 j).1 (d1 j),fun j=>AM (d1 j) (d2 j),fun j=> ?_,fun j=> ?_⟩
 ·have:=(Ae l j).1.den_pos;have:=(Ae l j).2.den_pos
  exact Int.mul_ne_zero (by omega) (by omega)
 ·have:=HW (Ae l j).1
  rw[Rat.intCast_mul,Rat.intCast_mul, ←this];grind
 ·have:=HW (Ae l j).2
  rw[Rat.intCast_mul,Rat.intCast_mul, ←this];grind
theorem HmU.mv {l:List Ah} (h0:0<l.length) {X Y W:Nat→Int} (h:HmU (Ae l) X Y W 8 6) {d:Ah} (h1:(Ad d.1).length≤5) (h2:(Ad d.2).length≤5):
  ∃X' Y' W',HmU (Ae (l.map (EG d))) X' Y' W' 15 12:=by
 obtain⟨a,b⟩:=To h1
 obtain⟨c,e⟩:=To h2
 have b':((d.1.den:Nat):Int).natAbs<10^3:=by rw[Int.natAbs_natCast];exact b
 have e':((d.2.den:Nat):Int).natAbs<10^3:=by rw[Int.natAbs_natCast];exact e
 have hD:=AM b' e'
 have hx:=AM a e'
 have hy:=AM c b'
 have mx:=HW d.1
 have my:=HW d.2
 have dn0:((d.1.den:Nat):Int)*((d.2.den:Nat):Int)≠0:=by
  have:=d.1.den_pos;have:=d.2.den_pos
  exact Int.mul_ne_zero (by omega) (by omega)
 refine⟨fun j=>X j*((d.1.den:Nat)*(d.2.den:Nat))+W j*(d.1.num*(d.2.den:Nat)),fun j=>Y j*((d.1.den:Nat)*(d.2.den:Nat))+W j*(d.2.num*(d.1.den:Nat)),fun j=>W j*((d.1.den:Nat)*(d.2.den:Nat)),fun j=>Int.mul_ne_zero (h.nz j) dn0,fun j=> ?_,fun j=> ?_,fun j=>AM (h.fw j) hD,fun j=> ?_,fun j=> ?_⟩
 ·exact F6 (a:=14) (AM (h.fx j) hD) (AM (h.fw j) hx)
 ·exact F6 (a:=14) (AM (h.fy j) hD) (AM (h.fw j) hy)
 ·rw[CU d h0]
  have p:=h.px j
  simp only[Rat.intCast_mul,Rat.intCast_add]
  rw[←p, ←mx]
  unfold EG
  grind
 ·rw[CU d h0]
  have p:=h.py j
  simp only[Rat.intCast_mul,Rat.intCast_add]
  rw[←p, ←my]
  unfold EG
  grind
theorem Rc (l:List PtS) (a1 a2:List UInt8) (p:Option Addr) (cap:Nat) (W:World) (hA:GL W p l) (hn:l.length<4611686018427387904) (hcap:l.length≤cap) (hv:BU W) (ht:AO W):
  Aj Tryz.prog 8 #[slv p l.length cap,str a1,str a2] W (fun _:Unit=> .bool true) (fun _=>True) (fun _=>[]):=by
 obtain⟨n,hnl⟩: ∃n,n=l.length:=⟨_,rfl⟩
 rw[←hnl]
 refine Ac (args:=[slv p n cap,str a1,str a2]) Tryz.func8 I I I ?_
 refine zA (zB (wP I (Aa (zE (zA (zA (zB (wP I ?_))))))))
 refine AD Tryz.hZ tH I I I I I I I I I I I fun bS=> ?_
 refine wD (X:=Bool) I I (fun W1 hp=>QH [(p,cap,l)] (by show 1≤100000;decide) (fun y hy=>by rw[List.mem_singleton.1 hy];exact hn) bS 0 1 W1 ⟨by have h:=Ak.of_bx hp 0 I I;rw[hnl] at h;exact h,fun y hy=>by rw[List.mem_singleton.1 hy];exact hA.hp hp⟩ (ht.hp hp)) ?_
 intro b1 hb1
 have hb1:b1=true→ ∀x∈[((p,cap,l):Ls)],Nx x.2.2:=hb1
 cases b1 with
 |false=>
  refine wP I (wP I ?_)
  iterate 4 refine An I I ?_
  refine wP I (Aa (zE (zR I (zA (zB ?_)))))
  refine Br (capt:=[]) I I I I I I (by kernel_rfl) (fun W1 hp=>E7 W1 (hv.hp hp) (ht.hp hp)) ?_
  exact wP I (Aa (zE (zO (zP (wR1 I I I)))))
 |true=>
 have hF:=hb1 rfl (p,cap,l) (List.mem_singleton.2 rfl)
 refine wP I (wP I (wP I (wP I ?_)))
 refine wD (X:=Bool) I I (fun W1 hp=>RA a1 a2 [48] W1 (ht.hp hp)) ?_
 intro b2 hb2
 have hb2:b2=true→W4 a1 a2 [48]:=hb2
 cases b2 with
 |false=>
  refine wP I (wP I (Aa (zE (zR I (zA (zB ?_))))))
  refine Br (capt:=[]) I I I I I I (by kernel_rfl) (fun W1 hp=>E7 W1 (hv.hp hp) (ht.hp hp)) ?_
  exact wP I (Aa (zE (zO (zP (wR1 I I I)))))
 |true=>
 refine wP I (wP I (Aa ?_))
 obtain⟨m,rfl,h3,h8,h5,hP⟩:Nx l:=hF
 have hpts:=hA.pts
 obtain rfl:n=m.length:=by rw[hnl,List.length_map]
 rw[List.length_map] at hcap
 obtain⟨A1,A2,A3,rfl,rfl,_,o1,o2,o3,n1,n2,n3,hne⟩:=hb2 rfl
 have h0:0<m.length:=by omega
 have hm:WE 8 m:=⟨hP,by omega,fun x hx=>hm5 (h5 x hx).2.1 (h5 x hx).2.2⟩
 have hU:=HmU.of5 h0 fun x hx=>⟨(h5 x hx).2.1,(h5 x hx).2.2⟩
 obtain⟨X',Y',W',hU'⟩:=hU.mv h0 (d:=(A1,A2)) n1 n2
 have s1:szQ A1 5:=HS (by decide) n1
 have s2:szQ A2 5:=HS (by decide) n2
 have hsh:szQ (AS m) 60:=hU.cr_sz (by decide) m.length h8
 obtain⟨M,hM⟩: ∃M,M=m.map (EG (A1,A2)):=⟨_,rfl⟩
 have hMl:M.length=m.length:=by rw[hM,List.length_map]
 have hPM:Bh M:=by rw[hM];exact SO _ hP
 have hshM:AS M=AS m:=by rw[hM];exact Nh _ m
 have hcenM:Hh M=EG (A1,A2) (Hh m):=by rw[hM];exact UK _ hP
 rw[←hM] at hU'
 obtain⟨ce,ar,sx,sy⟩:=CeZ.of hP h8 hU (by decide) (by decide) (by decide) hsh (by decide)
 obtain⟨ceM,arM,_,_⟩:=CeZ.of hPM (by rw[hMl];exact h8) hU' (by decide) (by decide) (by decide) (by rw[hshM];exact hsh) (by decide)
 obtain⟨C,hC⟩: ∃C,C=Hh m:=⟨_,rfl⟩
 have s3:szQ (3:Rat) 1:=by unfold szQ;decide+kernel
 have nz:(3*AS m).num≠0:=by have:=GM hP;exact Rk (by grind)
 have hCs:szQ C.1 181∧szQ C.2 181:=by
  rw[hC]
  exact⟨(sx.div (s3.mul hsh) nz).mono (by decide),(sy.div (s3.mul hsh) nz).mono (by decide)⟩
 have hszm:Hi 36 m:=Hi.of_hm hm.hm (by decide)
 have hszM:Hi 36 M:=fun x hx=>by
  obtain⟨j,hj,rfl⟩:=Cs hx
  have:=hU'.pt (by decide) j
  exact⟨this.1.mono (by decide),this.2.mono (by decide)⟩
 have hokm: ∀x∈m,okP x:=fun x hx=>(h5 x hx).1
 have hCh:Dn m C:=by rw[hC];exact R5 hP
 have hmem: ∀x∈m++[C],Dn m x:=fun x hx=>by
  rcases List.mem_append.1 hx with h|h
  ·exact Dn.mem h
  ·obtain rfl:=List.mem_singleton.1 h;exact hCh
 have hokc: ∀x∈m++[C],okP x:=fun x hx=>by
  rcases List.mem_append.1 hx with h|h
  ·exact hokm x h
  ·obtain rfl:=List.mem_singleton.1 h;exact szQ.okP hCs (by decide)
 obtain⟨H,hH⟩: ∃H,H=B3 m:=⟨_,rfl⟩
 have hHl:H.length≤8:=by rw[hH,Mq];exact h8
 have hR2:Pi m H 0:=by rw[hH];exact Pi.poly hP (fun p hp=>hp) (fun x hx=>Dn.mem hx) (Lb hszm)
 obtain⟨L,e,hR1,hcase⟩: ∃L e,Pi (m++[C]) L e∧(L=[]∧e=4∨L=H∧e=0):=by
  by_cases hk:DK (m++[C])
  ·exact⟨H,0,by rw[hH];exact Pi.poly hP (fun p hp=>List.mem_append_left _ hp) hmem hk, .inr ⟨I,I⟩⟩
  ·exact⟨[],4, .inr (.inr ⟨hk,I,I⟩), .inl ⟨I,I⟩⟩
 have lmc:(m++[C]).length=m.length+1:=by rw[List.length_append];rfl
 have hmne:m≠[]:=fun h=>by rw[h] at h0;exact absurd h0 (by decide)
 have zx:Sz2 C.1 A1:=sz2 hCs.1 s1 (by decide)
 have zy:Sz2 C.2 A2:=sz2 hCs.2 s2 (by decide)
 refine zE (zS I (zI (zE (zA (zB (wP I (Aa (zE (zA (zA (zB (wP I (wP I (wP I ?_))))))))))))))
 refine Aa (zE (zH ?_))
 obtain⟨bS0,hbS0⟩: ∃x:Bx,x=⟨bS,22,[slv p m.length cap],true,none⟩:=⟨_,rfl⟩
 refine Ey ?_
 refine AA (X:=Nat×Vec) (fun s=>[(0,slv p m.length cap),(1,str (Ad A1)),(2,str (Ad A2)),(7,s.2.val s.1),(44,slv p m.length cap),(45, .int .i64 (m.length:Nat)),(46, .int .i64 (s.1:Nat))])
  (fun s=>[bS0,s.2.bx 35 (ptC (M.take s.1))]) (fun s=>s.1≤m.length∧s.2.OK 2 s.1 (ptC (M.take s.1))) (fun s=>m.length-s.1) (0,Vec.empty) ⟨Nat.zero_le _,Vec.OK.empty 2⟩ ⟨rfl,rfl,rfl,rfl,rfl,rfl,rfl,trivial⟩ [] (by rw[hbS0];rfl) ?_
 rintro⟨i,V⟩ ⟨hi1,hV⟩
 have hi1:i≤m.length:=hi1
 have hV:V.OK 2 i (ptC (M.take i)):=hV
 refine zA (zB (wP I ?_))
 by_cases hi:i<m.length
 ·refine wU 47 true I (dT (by omega)) (Aa (zE (zA (zR I (zI (zE (zA (zH (zA (zB ?_))))))))))
  obtain⟨g,off,hpe,hrow⟩:=hpts.at_ hi
  have hrow:=hrow i hi
  have hx5:=h5 _ (List.getElem_mem hi)
  have hMi:M[i]'(by rw[hMl];exact hi)=EG (A1,A2) m[i]:=by simp only[hM,List.getElem_map]
  have hsu:M.take (i+1)=M.take i++[EG (A1,A2) m[i]]:=by
   rw[List.take_add_one,List.getElem?_eq_getElem (by rw[hMl];exact hi),hMi];rfl
  obtain⟨x,hx⟩: ∃x,x=m[i]:=⟨_,rfl⟩
  rw[←hx] at hrow hx5 hsu
  have sx1:szQ x.1 5:=HS (by decide) hx5.2.1
  have sx2:szQ x.2 5:=HS (by decide) hx5.2.2
  subst hpe
  refine wJ ?_
  refine wL 0 I I (fun W1 hp=>hrow.hp hp) I ?_
  (refine Ag Tryz.hZ rfl rfl rfl rfl ?_;intro)
  refine wS 2 I I I (Aa ?_)
  rename_i b9
  refine zE (zA (zB (wP I (wB 2 I I I (wP I (wC I I (fun W1 hp=>Fu x.1 A1 (sz2 sx1 s1 (by decide)) W1 (hv.hp hp) (ht.hp hp)) ?_))))))
  iterate 5 refine wP I ?_
  refine Aa (zE (zA (zB (wP I (wB 2 I I I (wP I (wC I I (fun W1 hp=>Fu x.2 A2 (sz2 sx2 s2 (by decide)) W1 (hv.hp hp) (ht.hp hp)) ?_)))))))
  iterate 5 refine wP I ?_
  refine Aa (zE (zA (zA (zB ?_))))
  iterate 6 refine wP I ?_
  refine Aa (zE (zS I (zI (zE (zB (wP I (wP I (wP I ?_))))))))
  refine Ay Tryz.hZ tH I I I I I I I I ?_
  refine AD Tryz.hZ tH I I I I I I I I I I I fun bR=> ?_
  refine Bo (V:=V) (len:=i) (xs:=ptC (M.take i)) 1 3 Tryz.vec22 (i+1) (ptC (M.take (i+1))) I I I I I I I I I I I hV I I I (by rw[hsu,BP];rfl) (by simp only[maxLen];omega) (by omega) I ?_
  intro gV cV jV hV1
  exact wP I (Aa (zN (zE (zB (wP I (wV 76 ((i+1:Nat):Int) I (Az (by omega)) (wP I (Aa (A6 (i+1,(⟨some gV,cV,jV⟩:Vec)) ⟨hi,hV1⟩ (by show m.length-(i+1)<m.length-i;omega) ⟨I,I,I,I,I,I,I,tO⟩ [_,_] I)))))))))
 obtain rfl:i=m.length:=by omega
 rw[List.take_of_length_le (Nat.le_of_eq hMl)] at hV
 rw[List.take_of_length_le (Nat.le_of_eq hMl)]
 obtain⟨pV,cV,jV⟩:=V
 obtain⟨gV,rfl⟩: ∃g,pV=some g:=Option.ne_none_iff_exists'.1 (fun e=>absurd (hV.nil e) (by omega))
 refine wU 47 false I (dF (by omega)) (Aa (zE (zA (zS I (zJ (zK (zK (zL (zE (zA (zB ?_)))))))))))
 have pm: ∀ {W1:World} {bs:List Bx},Hp W bs W1→Gi W1 p m:=fun hp=>hm.m (by decide) (hpts.hp hp) (hv.hp hp) (ht.hp hp)
 have pM: ∀ {W1:World} {bs:List Bx} (k:Nat),Hp W bs W1→nth bs k=some (Bs gV M jV)→Gi W1 (some ⟨gV,0,none⟩) M:=fun k hp hk=>⟨hPM,by omega,by omega,hszM,Ch.of_row (Ak.of_bx hp k hk rfl),hv.hp hp,ht.hp hp⟩
 refine wP I (wC I I (fun W1 hp=>(FY m ce p cap W1 (pm hp)).cast (v':= .tuple #[.agg #[str (Ad C.1),str (Ad C.2)], .int .i64 0]) (by rw[hC];rfl)) (wP I (wP I (wP I ?_))))
 (refine Ag Tryz.hZ rfl rfl rfl rfl ?_;intro)
 refine wS 2 I I I (wP I (Aa ?_))
 rename_i b14
 refine zE (zA (zB (wP I ?_)))
 refine wC I I (fun W1 hp=>(by
  have h1:=(FY M ceM (some ⟨gV,0,none⟩) cV W1 (pM 1 hp rfl)).cast (v':= .tuple #[.agg #[str (Ad (C.1+A1)),str (Ad (C.2+A2))], .int .i64 0]) (by
   have h2:Hh M=(C.1+A1,C.2+A2):=by rw[hcenM, ←hC];rfl
   have h3:CT M/(3*AS M)=C.1+A1:=congrArg Prod.fst h2
   have h4:Da M/(3*AS M)=C.2+A2:=congrArg Prod.snd h2
   rw[h3,h4])
  rwa [hMl] at h1)) ?_
 refine wP I (wP I (wP I ?_))
 (refine Ag Tryz.hZ rfl rfl rfl rfl ?_;intro)
 refine wS 3 I I I (wP I (Aa ?_))
 rename_i b16
 refine zE (zA (zB (wP I (wC I I (fun W1 hp=>Hs m ar p cap W1 (pm hp)) ?_))))
 iterate 5 refine wP I ?_
 refine Aa (zE (zA (zB (wP I ?_))))
 refine wC I I (fun W1 hp=>(by
  have h1:=(Hs M arM (some ⟨gV,0,none⟩) cV W1 (pM 1 hp rfl)).cast (v':= .tuple #[str (Ad (AS m/2)), .int .i64 0]) (by rw[hshM])
  rwa [hMl] at h1)) ?_
 iterate 5 refine wP I ?_
 refine Aa (zE (zA (zA (zB ?_))))
 iterate 5 refine wP I ?_
 refine Af 101 (.int .i64 0) I I ?_
 refine wP I (Aa (zE (zS I (zI (zE (zA (zB (wP I (wB 2 I I I (wP I (wC I I (fun W1 hp=>Fu C.1 A1 zx W1 (hv.hp hp) (ht.hp hp)) ?_)))))))))))
 iterate 5 refine wP I ?_
 refine Aa (zE (zA (zB (wP I (wB 2 I I I (wP I (wC I I (fun W1 hp=>Fu C.2 A2 zy W1 (hv.hp hp) (ht.hp hp)) ?_)))))))
 iterate 5 refine wP I ?_
 refine Aa (zE (zA (zB (wP I ?_))))
 refine wD (X:=Ah×Ah) I I (fun W1 hp=>QY m p cap W1 (pm hp) hcap) ?_
 rintro⟨lo,hi⟩ hbox
 have hbox:Ju m m.length lo hi:=hbox
 obtain⟨z1,z2,z3,z4⟩:=hbox.sz (fun x hx=>(hm.hm x hx).sz) h0
 obtain⟨u1,u2,u3,u4⟩:=hbox.hull hCh
 refine wP I (wP I (wP I (wP I ?_)))
 (refine Ag Tryz.hZ rfl rfl rfl rfl ?_;intro)
 (refine Ag Tryz.hZ rfl rfl rfl rfl ?_;intro)
 refine wS 4 I I I (wS 5 I I I (wP I (Aa ?_)))
 rename_i b26 b27
 refine zE (A0 ?_)
 refine Bb (X:= { V:Vec//V.OK 2 L.length (ptC L) }) [true,false,true,false,false,false,false,false,false,false,false] (fun V=>[(0,slv p m.length cap),(14,Ai b14),(15, .int .i64 0),(16,Ai b16),(17, .int .i64 0),(18,str (Ad (AS m/2))),(19, .int .i64 0),(20,str (Ad (AS m/2))),(21, .int .i64 0),(22,str (Ad (C.1+A1))),(23, .int .i64 0),(24,str (Ad (C.2+A2))),(25, .int .i64 0),(26,Ai b26),(27,Ai b27),(28, .int .i64 0),(29,V.1.val L.length),(30, .int .i64 e)])
  (fun V=>[bS0,Bs gV M jV,ptB b14 (Ad C.1) (Ad C.2),ptB b16 (Ad (C.1+A1)) (Ad (C.2+A2)),ptB b26 (Ad lo.1) (Ad lo.2),ptB b27 (Ad hi.1) (Ad hi.2),V.1.bx 35 (ptC L)])
  9 [bS0,Bs gV M jV,ptB b14 (Ad C.1) (Ad C.2),ptB b16 (Ad (C.1+A1)) (Ad (C.2+A2)),ptB b26 (Ad lo.1) (Ad lo.2),ptB b27 (Ad hi.1) (Ad hi.2)] Tryz.mixed (by kernel_rfl) ?_ ?_
 ·refine qP I (qB 2 I I I (Ck (wX ?_)))
  refine RS.cons ?_ (RS.cons ?_ (RS.nil))
  ·refine wD (X:=Vec) rfl rfl (fun W1 hp=>FW W1 p cap m (by omega) (hpts.hp hp) hmne) ?_;rintro⟨pK,cK,jK⟩ ⟨hVK,hpK⟩;obtain⟨gK,rfl⟩: ∃g,pK=some g:=Option.ne_none_iff_exists'.1 hpK
   refine Aa (Ab (wX (wZ ?_)))
   refine AD Tryz.hZ tH I I I I I I I I I I I fun bR=> ?_
   refine Aa (Ab (wX (wZ ?_)))
   (first|refine Bo (V:=⟨some gK,cK,jK⟩) (len:=m.length) (xs:=ptC m) 6 7 Tryz.vec22 (m++[C]).length (ptC (m++[C])) rfl rfl rfl rfl rfl rfl rfl rfl rfl rfl rfl hVK rfl rfl lmc.symm (by rw[BP];rfl) (by simp only[maxLen];omega) (by omega) rfl ?_|refine Bo (V:=⟨some gK,cK,jK⟩) (len:=m.length) (xs:=ptC m) 7 6 Tryz.vec22 (m++[C]).length (ptC (m++[C])) rfl rfl rfl rfl rfl rfl rfl rfl rfl rfl rfl hVK rfl rfl lmc.symm (by rw[BP];rfl) (by simp only[maxLen];omega) (by omega) rfl ?_);intro gX cX jX hVX
   refine Aa (Ab (wX (wZ ?_)))
   refine wD (X:=Vec) rfl rfl (fun W1 hp=>Ht (m++[C]) L e hR1 OH (by rw[lmc];omega) (by rw[lmc];omega) hokc (some ⟨gX,0,none⟩) cX W1 (by first|exact Ch.of_row (Ak.of_bx hp 6 rfl rfl:Ak W1 gX 0 (ptC (m++[C])++jX))|exact Ch.of_row (Ak.of_bx hp 7 rfl rfl:Ak W1 gX 0 (ptC (m++[C])++jX))) (hv.hp hp) (ht.hp hp)) ?_;intro V1 hV1
   refine Aa (Ab (wX (wZ (wP I (Aa (Ab (wX ?_)))))))
   refine RS.cons ?_ (RS.cons ?_ (RS.nil))
   ·refine wP I (Aa (Ab (wX ?_)))
    refine RS.cons ?_ (RS.cons ?_ (RS.nil))
    ·refine wP I (Aa (Ab (wX (wZ (wP I (Aa (Ab (wX (wZ (wP I (Aa (Ab ?_))))))))))))
     refine A8 I (by((repeat (first|refine AC.same ?_|refine AC.off I ?_));exact tO)) ?_
     exact Ar (⟨V1,hV1⟩: { V:Vec//V.OK 2 L.length (ptC L) }) ⟨I,I,I,I,I,I,I,I,I,I,I,I,I,I,I,I,I,I,tO⟩ [0,1,2,3,4,5,8] (by decide) I
    ·refine wP I (Aa (Ab (wX (wZ (wP I (Aa (Ab (wX (wZ (wP I (Aa (Ab ?_))))))))))))
     refine A8 I (by((repeat (first|refine AC.same ?_|refine AC.off I ?_));exact tO)) ?_
     exact Ar (⟨V1,hV1⟩: { V:Vec//V.OK 2 L.length (ptC L) }) ⟨I,I,I,I,I,I,I,I,I,I,I,I,I,I,I,I,I,I,tO⟩ [0,1,2,3,4,5,8] (by decide) I
   ·refine wP I (Aa (Ab (wX (wZ (wP I (Aa (Ab (wX (wZ (wP I (Aa (Ab (wX ?_)))))))))))))
    refine wZ (wP I (Aa (Ab ?_)))
    refine A8 I (by((repeat (first|refine AC.same ?_|refine AC.off I ?_));exact tO)) ?_
    exact Ar (⟨V1,hV1⟩: { V:Vec//V.OK 2 L.length (ptC L) }) ⟨I,I,I,I,I,I,I,I,I,I,I,I,I,I,I,I,I,I,tO⟩ [0,1,2,3,4,5,8] (by decide) I
  ·refine AD Tryz.hZ tH I I I I I I I I I I I fun bR=> ?_
   refine Aa (Ab (wX (wZ ?_)))
   refine wD (X:=Vec) rfl rfl (fun W1 hp=>FW W1 p cap m (by omega) (hpts.hp hp) hmne) ?_;rintro⟨pK,cK,jK⟩ ⟨hVK,hpK⟩;obtain⟨gK,rfl⟩: ∃g,pK=some g:=Option.ne_none_iff_exists'.1 hpK
   refine Aa (Ab (wX (wZ ?_)))
   (first|refine Bo (V:=⟨some gK,cK,jK⟩) (len:=m.length) (xs:=ptC m) 6 7 Tryz.vec22 (m++[C]).length (ptC (m++[C])) rfl rfl rfl rfl rfl rfl rfl rfl rfl rfl rfl hVK rfl rfl lmc.symm (by rw[BP];rfl) (by simp only[maxLen];omega) (by omega) rfl ?_|refine Bo (V:=⟨some gK,cK,jK⟩) (len:=m.length) (xs:=ptC m) 7 6 Tryz.vec22 (m++[C]).length (ptC (m++[C])) rfl rfl rfl rfl rfl rfl rfl rfl rfl rfl rfl hVK rfl rfl lmc.symm (by rw[BP];rfl) (by simp only[maxLen];omega) (by omega) rfl ?_);intro gX cX jX hVX
   refine Aa (Ab (wX (wZ ?_)))
   refine wD (X:=Vec) rfl rfl (fun W1 hp=>Ht (m++[C]) L e hR1 OH (by rw[lmc];omega) (by rw[lmc];omega) hokc (some ⟨gX,0,none⟩) cX W1 (by first|exact Ch.of_row (Ak.of_bx hp 6 rfl rfl:Ak W1 gX 0 (ptC (m++[C])++jX))|exact Ch.of_row (Ak.of_bx hp 7 rfl rfl:Ak W1 gX 0 (ptC (m++[C])++jX))) (hv.hp hp) (ht.hp hp)) ?_;intro V1 hV1
   refine Aa (Ab (wX (wZ (wP I (Aa (Ab (wX ?_)))))))
   refine RS.cons ?_ (RS.cons ?_ (RS.nil))
   ·refine wP I (Aa (Ab (wX ?_)))
    refine RS.cons ?_ (RS.cons ?_ (RS.nil))
    ·refine wP I (Aa (Ab (wX (wZ (wP I (Aa (Ab (wX (wZ (wP I (Aa (Ab ?_))))))))))))
     refine A8 I (by((repeat (first|refine AC.same ?_|refine AC.off I ?_));exact tO)) ?_
     exact Ar (⟨V1,hV1⟩: { V:Vec//V.OK 2 L.length (ptC L) }) ⟨I,I,I,I,I,I,I,I,I,I,I,I,I,I,I,I,I,I,tO⟩ [0,1,2,3,4,5,8] (by decide) I
    ·refine wP I (Aa (Ab (wX (wZ (wP I (Aa (Ab (wX (wZ (wP I (Aa (Ab ?_))))))))))))
     refine A8 I (by((repeat (first|refine AC.same ?_|refine AC.off I ?_));exact tO)) ?_
     exact Ar (⟨V1,hV1⟩: { V:Vec//V.OK 2 L.length (ptC L) }) ⟨I,I,I,I,I,I,I,I,I,I,I,I,I,I,I,I,I,I,tO⟩ [0,1,2,3,4,5,8] (by decide) I
   ·refine wP I (Aa (Ab (wX (wZ (wP I (Aa (Ab (wX (wZ (wP I (Aa (Ab (wX ?_)))))))))))))
    refine wZ (wP I (Aa (Ab ?_)))
    refine A8 I (by((repeat (first|refine AC.same ?_|refine AC.off I ?_));exact tO)) ?_
    exact Ar (⟨V1,hV1⟩: { V:Vec//V.OK 2 L.length (ptC L) }) ⟨I,I,I,I,I,I,I,I,I,I,I,I,I,I,I,I,I,I,tO⟩ [0,1,2,3,4,5,8] (by decide) I
 rintro⟨V1,hV1⟩
 have hV1:V1.OK 2 L.length (ptC L):=hV1
 refine zE (zA (zB (wP I ?_)))
 refine wD (X:=Vec) I I (fun W1 hp=>Tp hR2 (Lb hszm) h0 (by omega) hokm p cap W1 (hpts.hp hp) (hv.hp hp) (ht.hp hp)) ?_
 intro V2 hV2
 have hV2:V2.OK 2 H.length (ptC H):=hV2
 iterate 5 refine wP I ?_
 refine Aa ?_
 rcases hcase with⟨rfl,rfl⟩|⟨rfl,rfl⟩
 ·refine zE (zA (zA (zB (wP I (wP I (Aa (zE (zR I (zA (zB ?_))))))))))
  refine Br (capt:=[]) I I I I I I (by kernel_rfl) (fun W1 hp=>E7 W1 (hv.hp hp) (ht.hp hp)) ?_
  exact wP I (Aa (zE (zO (zP (wR1 I I I)))))
 refine zE (zA (zA (zB (wP I (wP I (Aa (zE (zS I (zI (zE (zA (zB ?_))))))))))))
 iterate 10 refine wP I ?_
 refine Af 150 (.int .i64 0) I I ?_
 refine wP I ?_
 refine Af 151 (.bool true) I I ?_
 refine wP I (wP I (wP I (wP I (wU 155 true I ((Be _ _).trans (dT I)) (wP I (wP I (wB 3 I I I (wP I (wP I ?_)))))))))
 refine Ay Tryz.hZ tH I I I I I I I I ?_
 refine AT (Ad (C.1+A1)) (Ad (C.2+A2)) (Ad (C.1+A1)) (Ad (C.2+A2)) I I I I I ?_
 refine wU 162 true I (dT ⟨I,I⟩) (wP I (wP I (wB 4 I I I (wB 5 I I I (wB 2 I I I (wC I I (fun W1 hp=>LL lo hi C (sz2 z1 hCs.1 (by decide)) (sz2 hCs.1 z3 (by decide)) (sz2 z2 hCs.2 (by decide)) (sz2 hCs.2 z4 (by decide)) u1 u2 u3 u4 W1 (ht.hp hp)) (wP I (wP I (wP I ?_)))))))))
 refine Af 171 (slv (MZ V1) L.length (PH V1)) I (Q0 hV1) ?_
 refine wP I ?_
 refine Af 172 (slv (MZ V2) L.length (PH V2)) I (Q0 hV2) ?_
 refine wC I I (fun W1 hp=>IU L (by omega) (MZ V1) (MZ V2) (PH V1) (PH V2) W1 (Qv hp 6 hV1 I) (Qv hp 7 hV2 I)) (wP I (wP I ?_))
 refine Br (capt:=[]) I I I I I I (by kernel_rfl) (fun W1 hp=>E7 W1 (hv.hp hp) (ht.hp hp)) ?_
 exact wP I (wP I (Aa (zE (zO (wR1 I I I)))))
end
section
open Go
noncomputable abbrev laidL:List (String×DataW Unit):=Rows.convexDividedRow.laid
end
section
open Go Go.RowKit Go.Am Go.ChangeShapes Go.WideShapes Go.Deep Go.ChangeAt
set_option maxRecDepth 100000
section
variable {H:Type} {enc:TypeId×Value→H} {w:World} {base:Nat} {spare:Nat→Bool} {held:Bool} {v:Value} {d:DataW H} {ps:List MemPlace}
end
theorem own:ownKnob Tryz.prog.godebug=none:=by kernel_rfl
theorem RP:laidOutB Tryz.prog=true:=by kernel_rfl
theorem Le:(laidL.all fun x=>x.2.handleName?.isNone)=true:=by kernel_rfl
theorem PQ {W:World} (h:laidMetH Tryz.prog laidL W):AO W:=by
 rw[MakeChecks.laidMetH_plain _ _ _ Le] at h
 exact Lib.tabIs_of_head (g:=2) (t:=263) (e:=198) (n:=20) (by kernel_rfl) (by kernel_rfl) (by kernel_rfl) (by kernel_rfl) (by kernel_rfl) (by kernel_rfl) h.tail.tail
theorem Xk {W:World} (hS:W.ShapedOpen Tryz.prog):BU W:=
 cell_of_shapedOpen_int (g:=3) (t:=3) (zero:= #[.int .i64 0]) hS (of_decide_eq_true (by kernel_rfl)) (by kernel_rfl) rfl (by kernel_rfl) (by kernel_rfl) Tryz.underlying3
noncomputable def witW (os:Os):World:=World.laidAll Tryz.prog os laidL
theorem TR (os:Os) (args:Array Value):laidMetH Tryz.prog laidL ((witW os).forCall (fun _ _=>0) ⟨#[],args,[]⟩).memory:=by
 rw[MakeChecks.laidMetH_plain _ _ _ Le]
 exact laidMet_laidAll _ (by kernel_rfl) (by kernel_rfl)
theorem Re (os:Os) (args:Array Value):((witW os).forCall (fun _ _=>0) ⟨#[],args,[]⟩).Shaped Tryz.prog:=
 World.shaped_of_ZipB (by kernel_rfl) (by kernel_rfl)
theorem Wd {H:Type} {enc:TypeId×Value→H} (os:Os) {f:FuncId} {fn:Func} {s:OpenSpec} {conds:List PathCond} (args:Array Value)
  (hok:Input.okWideB Tryz.prog ((witW os).forCall (fun _ _=>0) ⟨#[],args,[]⟩) f ⟨#[],args,[]⟩=true)
  (hrow:s.preRow enc Tryz.prog fn conds false laidL ((witW os).forCall (fun _ _=>0) ⟨#[],args,[]⟩).memory args):
  ∃(w:World) (tape:Tape) (i:Input),w.os=os∧(w.forCall tape i).Shaped Tryz.prog∧i.vars=[]∧Input.okWide Tryz.prog (w.forCall tape i) .any w.heap.size f i∧
   s.preRow enc Tryz.prog fn conds false laidL (w.forCall tape i).memory i.args∧({}:Assume).holds Tryz.prog (lone (Frame.enter Tryz.prog f i.args .normal) [] (w.forCall tape i)):=
 ⟨witW os,fun _ _=>0,⟨#[],args,[]⟩,World.laidAll_os _ _ _,Re os args,(Input.okWide_of_okWideB (base:=0) hok).1,(Input.okWide_of_okWideB hok).2,hrow,by
  simp only[Assume.holds]
  exact⟨by simp,by simp,by simp,by simp,by simp,by simp⟩⟩
end
section
open Go Go.RowKit Go.Am Go.ChangeShapes Go.WideShapes Go.Deep
set_option maxRecDepth 10000
theorem XB:Tryz.prog.cellsOf 23=1:=by kernel_rfl
theorem Qz {H:Type} (d:DataW H):1≤Rows.uptoBulk d:=by
 cases d with
 |lit l=>cases l<;>simp[Rows.uptoBulk]
 |nil=>simp[Rows.uptoBulk]
 |ptr d=>simp[Rows.uptoBulk]
 |slice elems spare=>simp[Rows.uptoBulk]
 |agg parts=>simp[Rows.uptoBulk]
 |iface t d=>simp[Rows.uptoBulk]
 |map entries=>simp[Rows.uptoBulk]
 |held h=>simp[Rows.uptoBulk]
theorem UH {H:Type} (l:List (DataW H)):l.length≤Rows.uptoBulkAll l:=by
 induction l with
 |nil=>simp[Rows.uptoBulkAll]
 |cons x r ih=>have:=Qz x;simp only[Rows.uptoBulkAll,List.length_cons];omega
theorem QO {H:Type} (e s:List (DataW H)):Rows.uptoBulkAll e+1≤Rows.uptoBulk (.slice e s):=by
 simp only[Rows.uptoBulk];omega
theorem Rn {w:World} {a:Addr} {v:Value} (h:w.cell? a=some v):a.spot=none∧a.block<w.heap.size:=by
 unfold World.cell? at h
 split at h
 ·rename_i hb
  refine⟨?_, ?_⟩
  ·cases hs:a.spot with
   |none=>rfl
   |some k=>simp[hs] at h
  ·exact(Array.getElem?_eq_some_iff.1 hb).1
 ·cases h
theorem Pn {w:World} {base n:Nat} {a:Addr} {cs:List Value} (h:w.cells? base a n=some cs) (hn:0<n):a.spot=none∧Ak w a.block a.off cs:=by
 obtain⟨_,hl,hg⟩:=World.cells?_some h
 have h0:=hg 0 hn
 have hv:cs[0]? =some cs[0]:=List.getElem?_eq_getElem (by omega)
 rw[hv] at h0
 have hp:=Rn h0
 have hs:a.spot=none:=by simpa[Addr.add] using hp.1
 refine⟨hs,⟨by simpa[Addr.add] using hp.2,fun j x hx=> ?_⟩⟩
 have hj:j<n:=by rw[←hl];exact(List.getElem?_eq_some_iff.1 hx).1
 rw[←hx, ←hg j hj]
 congr 1
 unfold Addr.add
 split
 ·subst_vars;cases a;simp_all
 ·rfl
theorem VA {a:Addr} (hs:a.spot=none) (n:Nat):a.add n=⟨a.block,a.off+n,none⟩:=by
 unfold Addr.add
 split
 ·subst_vars;cases a;simp_all
 ·rfl
section
variable {H:Type} {enc:TypeId×Value→H} {w:World} {base:Nat} {spare:Nat→Bool} {held:Bool} {fuel:Nat}
theorem Sf {u:Value} {x:DataW H×List MemPlace} (h:DataW.trod enc Tryz.prog w base spare held fuel 23 [u]=some x): ∃b:List UInt8,u=str b∧Rows.uptoBulk x.1=b.length+1:=by
 obtain⟨s,e,hx,_⟩:=DataW.trod_string Tryz.underlying23 h
 refine⟨s.data.toList, ?_, ?_⟩
 ·have:u= .string s:=by simpa using e
  rw[this]
 ·rw[hx];simp[Rows.uptoBulk]
end
theorem cPt:Tryz.prog.cellsOf 35=2:=by kernel_rfl
section
variable {H:Type} {enc:TypeId×Value→H} {w:World} {base:Nat} {spare:Nat→Bool} {held:Bool} {fuel:Nat} {cs:List Value} {x:DataW H×List MemPlace}
theorem Vg (h:DataW.trod enc Tryz.prog w base spare held fuel 35 cs=some x): ∃f:List UInt8×List UInt8,cs=[str f.1,str f.2]:=by
 obtain⟨xs,m,rfl,hx,hl,hn,hg⟩:=DataW.trod_struct Tryz.underlying35 h
 rw[cPt] at hl
 obtain⟨x0,x1,rfl⟩: ∃x0 x1,xs=[x0,x1]:=by
  match xs,hn with
  |[a,b],_=>exact⟨a,b,rfl⟩
 match cs,hl with
 |[v0,v1],_=>
  have h0:DataW.trod enc Tryz.prog w base spare held m 23 (List.take (Tryz.prog.cellsOf 23) [v0,v1])=some x0:=hg 0 _ rfl
  have h1:DataW.trod enc Tryz.prog w base spare held m 23 (List.take (Tryz.prog.cellsOf 23) [v1])=some x1:=hg 1 _ rfl
  rw[XB] at h0 h1
  obtain⟨s,rfl,_⟩:=Sf h0
  obtain⟨t,rfl,_⟩:=Sf h1
  exact⟨(s,t),I⟩
theorem SI (h:DataW.trod enc Tryz.prog w base spare held fuel 22 cs=some x):
  ∃(p:Option Addr) (cap:Nat) (l:List (List UInt8×List UInt8)),cs=[.slice p l.length cap]∧GL w p l∧l.length+1≤Rows.uptoBulk x.1:=by
 rcases open_slice Tryz.underlying22 h with⟨rfl,rfl⟩|⟨a,len,cap,m,n,D,Pl,rfl,_,hl,_,hm,rfl,hx⟩
 ·exact⟨none,0,[],I, .inl I,Qz _⟩
 have hlm:len≤m:=by rw[hm];split<;>omega
 obtain⟨S,hS⟩:=choose_lt (α:=List UInt8×List UInt8) (n:=len) (p:=fun i s=>w.cells? base (a.add (i*2)) 2=some [str s.1,str s.2]) fun i hi=>by
  obtain⟨cs',h1,h2⟩:=hx i (by omega)
  rw[cPt] at h1
  obtain⟨f,rfl⟩:=Vg h2
  exact⟨f,h1⟩
 refine⟨some a,cap,(List.range len).map S,by simp, ?_, ?_⟩
 ·by_cases h0:len=0
  ·subst h0;exact .inl rfl
  ·have hs:a.spot=none:=by simpa[Addr.add] using(Pn (hS 0 (by omega)) (by decide)).1
   refine .inr ⟨a.block,a.off,by cases a;simp_all,fun i hi=> ?_⟩
   have h1:i<len:=by simpa using hi
   have:=(Pn (hS i h1) (by decide)).2
   rw[VA hs] at this
   simpa using this
 ·have h1:=UH ((List.range len).map D)
  have h2:=QO ((List.range len).map D) ((List.range (m-len)).map fun j=>D (len+j))
  simp only[List.length_map,List.length_range] at h1⊢
  omega
end
section
variable {H:Type} {enc:TypeId×Value→H} {w:World} {base:Nat} {spare:Nat→Bool} {held:Bool} {v:Value} {d:DataW H} {ps:List MemPlace}
theorem OJ {r:Reach} {b0:Nat} (hv:Value.okWide Tryz.prog w r b0 22 v) (h:DataW.Trod enc Tryz.prog w base spare held 22 v d ps):
  ∃(p:Option Addr) (m:Nat) (l:List PtS),v=slv p l.length m∧GL w p l∧l.length+1≤Rows.uptoBulk d:=by
 obtain⟨p0,n0,c0,rfl⟩:=okWide_slice Tryz.underlying22 hv
 obtain⟨fuel,hf⟩:=h
 obtain⟨p,cap,l,e,hl,hb⟩:=SI hf
 refine⟨p,cap,l, ?_,hl,hb⟩
 simpa[Value.cells] using e
theorem V5 {p:Option Addr} {n cap:Nat} (h:DataW.Trod enc Tryz.prog w base spare held 22 (slv p n cap) d ps):n≤cap:=by
 obtain⟨fuel,hf⟩:=h
 rcases open_slice Tryz.underlying22 hf with⟨e,_⟩|⟨a,len,cap',m,n',D,Pl,e,_,hl,_⟩
 ·have e:[slv p n cap]=[Value.slice none 0 0]:=by simpa[Value.cells] using e
  cases e
  exact Nat.le_refl _
 ·have e:[slv p n cap]=[Value.slice (some a) len cap']:=by simpa[Value.cells] using e
  cases e
  exact hl
end
end
end Go.Proofs.YthndmdimmgkpgaaGreatDoor
