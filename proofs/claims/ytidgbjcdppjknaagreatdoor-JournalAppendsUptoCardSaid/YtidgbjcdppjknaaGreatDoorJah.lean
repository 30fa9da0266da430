/-
  Lemmas that the theorem journalAppends_upto_card needs (part 8 of 8).
-/
import Derived.Test.YtidgbjcdppjknaaGreatDoorJag
import Derived.Test.YtidgbjcdppjknaaGreatDoorRows
import Derived.Test.YtidgbjcdppjknaaGreatDoorCards
import Derived.Test.YtidgbjcdppjknaaGreatDoorTie
import Derived.Deep.Slices
import Derived.ChangeArms
import Derived.ChangeShapes
import Derived.WideShapes
import Derived.Carry
import Derived.ProofKit
import Derived.OpenShut
import Derived.Deep.DeepHandedRow
import Derived.Lib.LaidTab
import Derived.Stop.LaidErr
import Derived.Lay
import Derived.SevenTiedAt
import Derived.Shelf.Vars
import Derived.ChangeMaps5
set_option maxHeartbeats 64000000
namespace Go.Proofs.YtidgbjcdppjknaaGreatDoor
section
open Go Go.RowKit Go.Am Go.Lib
set_option maxRecDepth 10000
section
variable {r:Option Nat} {n:Nat} {P:Program} {N:Nat} {D:List Deferred} {ops:List Oper} {Q:Exit->Act->World->Prop} {o:Oper} {rest:List Oper} {env:Env} {A:World->Prop}
theorem L4 {W:World} {t ty e:TypeId} {size bytes:Nat} {z:Value} (hty:VecTy P t e size bytes z) {b:Option Addr} {k c c':Nat} (hk:k<=c):
  (Builtin.append_ #[t,t] ty #[.slice b k c, .slice none 0 c']).run P W= .ok (.slice b k c) W:=by
 obtain⟨i,hi,hz,hsz,hby⟩:=hty.hi
 have hs:(Go.sizeOf e).run P W= .ok i.size W:=by simp[sizeOf,typeInfo,hi]
 cases b<;>simp[Builtin.append_,run_underlying hty.ht,hs,hk,Builtin.lenOf,Builtin.firstCells,storeCells]
theorem Jf {d:Nat} {t e:TypeId} {size bytes:Nat} {z:Value} (hty:VecTy P t e size bytes z) {c:Call} {s x:Operand} {b:Option Addr} {k cp cp':Nat}
  (hg:Ak ops N env o=some true) (hd:o.dst=some d) (ho:o.op= .call c) (hc:c.callee= .builtin .append) (ha:c.args= #[s,x]) (hat:c.argTypes= #[t,t])
  (hs:evO N env s=some (.slice b k cp)) (hx:evO N env x=some (.slice none 0 cp')) (hk:k<=cp)
  (h:WL r n P N D ops Q rest ((d, .slice b k cp)::env) A):WL r n P N D ops Q (o::rest) env A:= .mk fun act W h2 h3 hp=>by
 refine B8 hg h2 (fun c e=>by rw[ho] at e;cases e) ?_
 have hr:=L4 (P:=P) (W:=W) (ty:=o.type) hty (b:=b) (c':=cp') hk
 have e1:c.args.map (ov env act).eval= #[.slice b k cp, .slice none 0 cp']:=by rw[ha];simp[A5 h2 _ _ hs,A5 h2 _ _ hx]
 have:(execOp (ov env act).eval o).run P W= .ok (.value (.slice b k cp)) W:=by
  simp only[execOp,ho,resolve,hc,invoke,builtin,e1,hat,Sem.run_bind,Sem.run_pure,Result.andThen_ok,hr]
 rw[this]
 simp only[Oper.uponIn,hd]
 exact h.out act W h2 h3 hp
end
def aS (V:Vec):Option Addr:=V.p.map fun g=>⟨g,0,none⟩
def YX (V:Vec):Nat:=match V.p with
 |none=>0
 |some _=>V.cap
theorem KS {V:Vec} {size n:Nat} {xs:List Value} (h:V.OK size n xs):V.val n= .slice (aS V) n (YX V):=by
 obtain⟨p,cap,junk⟩:=V
 cases p with
 |none=>rw[h.nil rfl];rfl
 |some g=>rfl
theorem W7 {V:Vec} {size n:Nat} {xs:List Value} (h:V.OK size n xs):n<=YX V:=by
 obtain⟨p,cap,junk⟩:=V
 cases p with
 |none=>rw[h.nil rfl];exact Nat.le_refl _
 |some g=>exact(h.cap (by simp)).1
def LM (W:World) (p:Option Addr) (cs:List Value):Prop:=cs=[]\/ ∃b off,p=some ⟨b,off,none⟩/\Al W b off cs
theorem LM.none {W:World} {l:List Value} (h:LM W none l):l=[]:=by
 rcases h with h|⟨b,off,e,_⟩
 ·exact h
 ·cases e
def T2e (n0 n1:Nat):Nat->Nat
 |0=>0
 |1=>n0
 |_=>n0+n1
def C2e (c0 c1:List Value):Nat->List Value
 |0=>[]
 |1=>c0
 |_=>c0++c1
theorem Oz (W:World) (m:Nat) (hm:m<=1000000):Ag Tryz.prog 23 #[.slice none 0 0, .int .i64 (m:Nat)] W (fun V:Vec=>V.val 0) (fun V=>V.OK 2 0 []/\(0<m->V.p≠none)) (fun V=>[V.bx 31 []]):=by
 refine Ab Tryz.func23 I I I<|xb<|wP I<|xa<|xd<|Aa I<|xa<|zS I<|zI<|zE<|xd<|?_
 iterate 8 refine wP I ?_
 refine xg<|Aa I<|xa<|?_
 have e14:w64 ((m:Int)-w64 (0-0))=m:=by
  have:w64 (0-0)=0:=rfl
  rw[this];exact(AB (by omega) (by omega)).trans (by omega)
 refine Bh 16 _ I (show Value.bool (decide (w64 ((m:Int)-w64 (0-0))>0))= .bool (decide (0<m)) by rw[e14];congr 1;simp) ?_
 refine Av I (fun h=> ?_) (fun h=> ?_)
 ·have h:0<m:=by simpa using h
  refine zB<|Ae I<|Dh 0 tH I I I I I I I I (Nat.le_refl _) ?_
  refine wP I ?_
  refine Ho Tryz.vec22 (ku:= .i64) (by kernel_rfl) m I I I I I I I I e14 h (by simp only[maxLen];omega) (by omega) ?_
  intro V hV hp hj
  refine Aa I<|?_
  obtain⟨p,cap,junk⟩:=V
  cases p with
  |none=>exact absurd rfl hp
  |some g=>
  refine Dh (a:=some ⟨g,0,none⟩) (len:=m) (cap:=cap) 0 tH I I I I I I I I (Nat.zero_le _) ?_
  refine wP I<|xg<|Aa I<|xc<|?_
  obtain⟨h1,h2,h3⟩:=hV.cap (by simp)
  refine Ap tH rfl (.tmp rfl) (⟨some g,cap,Dc [.int .i64 0, .string ⟨#[]⟩] m++junk⟩:Vec) rfl ⟨⟨rfl,(fun h=>by cases h),fun _=>⟨Nat.zero_le _,h2, ?_⟩⟩,fun _=>by simp⟩ fun W hp=>As.of_hp1 hp 0 rfl
  show 0+(Dc _ m++junk).length=cap*2
  rw[List.length_append,Nat.zero_add]
  exact h3
 ·have h:m=0:=by simp at h;omega
  subst h
  exact zI<|xf<|wP rfl<|wP rfl<|xc<|Ap tH rfl (.tmp rfl) Vec.empty rfl ⟨Vec.OK.empty 2,fun h=>absurd h (Nat.lt_irrefl _)⟩ fun W hp=>Own.one (fun p hp=>by cases hp) List.nodup_nil
theorem Lt (W:World) (b cap:Nat) (p0 p1:Option Addr) (n0 n1 k0 k1:Nat) (c0 c1:List Value) (hrow:Al W b 0 [.slice p0 n0 k0, .slice p1 n1 k1]) (h0:LM W p0 c0) (h1:LM W p1 c1) (l0:c0.length=n0*2) (l1:c1.length=n1*2)
  (o0: ∀u∈c0,u.oneCell'=true) (o1: ∀u∈c1,u.oneCell'=true) (b0:n0<=100000) (b1:n1<=100000):
  Ag Tryz.prog 13 #[.slice (some ⟨b,0,none⟩) 2 cap] W (fun V:Vec=>V.val (n0+n1)) (fun V=>V.OK 2 (n0+n1) (c0++c1)) (fun V=>[V.bx 31 (c0++c1)]):=by
 refine Ab Tryz.func13 I I I<|xb<|wP I<|xg<|wP I<|xa<|xd<|Ae I<|xa<|zH<|?_
 refine A3 (X:=Nat) (fun k=>[(0, .slice (some ⟨b,0,none⟩) 2 cap),(3, .int .i64 (T2e n0 n1 k:Nat)),(9, .slice (some ⟨b,0,none⟩) 2 cap),(10, .int .i64 2),(11, .int .i64 (k:Nat))]) (fun _=>[])
  (fun k=>k<=2) (fun k=>2-k) 0 (Nat.zero_le _) ⟨rfl,rfl,rfl,rfl,rfl,trivial⟩ [] rfl ?_
 intro i hi
 have hi:i=0\/i=1\/i=2:=by have:i<=2:=hi;omega
 rcases hi with rfl|rfl|rfl
 ·refine xb<|wP I<|xa<|zA<|zR I<|xh<|wJ ?_
  refine wL 0 I I (fun W hp=>hrow.hp hp) I<|wP I<|xg<|A4 I<|wV 18 (T2e n0 n1 1:Nat) I (show w64 ((T2e n0 n1 0:Nat)+(n0:Nat))=(T2e n0 n1 1:Nat) by have hT0:T2e n0 n1 0=0:=I;have hT1:T2e n0 n1 1=n0:=I;rw[AB (by omega) (by omega)];omega)<|wP I<|xg<|Aa I<|xa<|zS I<|zI<|zN<|zE<|?_
  exact zB<|Aa I<|zC<|At 1 (by decide) (by decide) ⟨I,I,I,I,I,tO⟩ [] I
 ·refine xb<|wP I<|xa<|zA<|zR I<|xh<|wJ ?_
  refine wL 1 I I (fun W hp=>hrow.hp hp) I<|wP I<|xg<|A4 I<|wV 18 (T2e n0 n1 2:Nat) I (show w64 ((T2e n0 n1 1:Nat)+(n1:Nat))=(T2e n0 n1 2:Nat) by have hT0:T2e n0 n1 1=n0:=I;have hT1:T2e n0 n1 2=n0+n1:=I;rw[AB (by omega) (by omega)];omega)<|wP I<|xg<|Aa I<|xa<|zS I<|zI<|zN<|zE<|?_
  exact zB<|Aa I<|zC<|At 2 (by decide) (by decide) ⟨I,I,I,I,I,tO⟩ [] I
 refine xb<|wP I<|xa<|zA<|zS I<|xe<|xf<|wP I<|wD (X:=Vec) I I (fun W _=>Oz W (n0+n1) (by omega)) ?_
 rintro V0 ⟨hV0,hV0p⟩
 refine wP I<|xa<|xd<|Ae I<|xa<|zH<|?_
 refine A3 (X:=Nat×Vec) (fun x=>[(6,x.2.val (T2e n0 n1 x.1)),(25, .slice (some ⟨b,0,none⟩) 2 cap),(26, .int .i64 2),(27, .int .i64 (x.1:Nat))]) (fun x=>[x.2.bx 31 (C2e c0 c1 x.1)])
  (fun x=>x.1<=2/\x.2.OK 2 (T2e n0 n1 x.1) (C2e c0 c1 x.1)) (fun x=>2-x.1) (0,V0) ⟨Nat.zero_le _,hV0⟩ ⟨rfl,rfl,rfl,rfl,trivial⟩ [] rfl ?_
 rintro⟨i,V⟩ ⟨hi,hV⟩
 have hi:i=0\/i=1\/i=2:=by have:i<=2:=hi;omega
 rcases hi with rfl|rfl|rfl
 ·have hV:V.OK 2 (T2e n0 n1 0) (C2e c0 c1 0):=hV
  have hT0:T2e n0 n1 0=0:=rfl
  have hT1:T2e n0 n1 1=n0:=rfl
  refine xb<|wP I<|xa<|zA<|zR I<|xh<|wJ ?_
  refine wL 0 I I (fun W hp=>hrow.hp hp) I<|wP I<|xa<|zB<|Aa I<|?_
  cases p0 with
  |none=>
   have hc:=h0.none
   have hn0:n0=0:=by rw[hc,List.length_nil] at l0;omega
   refine Ao 31 (.slice (aS V) (T2e n0 n1 0) (YX V)) I (KS hV)<|Ao 32 (.slice none 0 k0) I (by rw[hn0])<|Jf Tryz.vec22 I I I I I I I I (W7 hV) ?_
   refine Ao 33 (V.val (T2e n0 n1 0)) I (KS hV).symm ?_
   have eT:T2e n0 n1 0=T2e n0 n1 1:=by omega
   have eC:C2e c0 c1 0=C2e c0 c1 1:=by show[]=c0;rw[hc]
   rw[eT,eC] at hV
   rw[eT,eC]
   exact wP I<|zC<|xj<|Aa I<|zC<|At (1,V) ⟨by show 1<=2;decide,hV⟩ (by show 2-1<2-0;decide) ⟨I,I,I,I,tO⟩ [] I
  |some a=>
   refine Ik (len:=T2e n0 n1 0) (V:=V) 0 Tryz.vec22 I I I I I I I I I hV l0 (fun W hp j u hj=> ?_) o0 (by simp only[maxLen];omega) (by omega) ?_
   ·obtain⟨ab,ao,asp⟩:=a
    rcases h0 with h|⟨b',off',e,h⟩
    ·rw[h] at hj;simp at hj
    ·cases e
     rw[Addr.add_none]
     exact(h.hp hp).get j u hj
   intro V' hV' _
   have eT:T2e n0 n1 0+n0=T2e n0 n1 1:=by omega
   have eC:C2e c0 c1 0++c0=C2e c0 c1 1:=rfl
   rw[eT,eC] at hV'
   rw[eT,eC]
   exact wP I<|zC<|xj<|Aa I<|zC<|At (1,V') ⟨by show 1<=2;decide,hV'⟩ (by show 2-1<2-0;decide) ⟨I,I,I,I,tO⟩ [] I
 ·have hV:V.OK 2 (T2e n0 n1 1) (C2e c0 c1 1):=hV
  have hT0:T2e n0 n1 1=n0:=rfl
  have hT1:T2e n0 n1 2=n0+n1:=rfl
  refine xb<|wP I<|xa<|zA<|zR I<|xh<|wJ ?_
  refine wL 1 I I (fun W hp=>hrow.hp hp) I<|wP I<|xa<|zB<|Aa I<|?_
  cases p1 with
  |none=>
   have hc:=h1.none
   have hn0:n1=0:=by rw[hc,List.length_nil] at l1;omega
   refine Ao 31 (.slice (aS V) (T2e n0 n1 1) (YX V)) I (KS hV)<|Ao 32 (.slice none 0 k1) I (by rw[hn0])<|Jf Tryz.vec22 I I I I I I I I (W7 hV) ?_
   refine Ao 33 (V.val (T2e n0 n1 1)) I (KS hV).symm ?_
   have eT:T2e n0 n1 1=T2e n0 n1 2:=by omega
   have eC:C2e c0 c1 1=C2e c0 c1 2:=by show c0=c0++c1;rw[hc];simp
   rw[eT,eC] at hV
   rw[eT,eC]
   exact wP I<|zC<|xj<|Aa I<|zC<|At (2,V) ⟨by show 2<=2;decide,hV⟩ (by show 2-2<2-1;decide) ⟨I,I,I,I,tO⟩ [] I
  |some a=>
   refine Ik (len:=T2e n0 n1 1) (V:=V) 0 Tryz.vec22 I I I I I I I I I hV l1 (fun W hp j u hj=> ?_) o1 (by simp only[maxLen];omega) (by omega) ?_
   ·obtain⟨ab,ao,asp⟩:=a
    rcases h1 with h|⟨b',off',e,h⟩
    ·rw[h] at hj;simp at hj
    ·cases e
     rw[Addr.add_none]
     exact(h.hp hp).get j u hj
   intro V' hV' _
   have eT:T2e n0 n1 1+n1=T2e n0 n1 2:=by omega
   have eC:C2e c0 c1 1++c1=C2e c0 c1 2:=rfl
   rw[eT,eC] at hV'
   rw[eT,eC]
   exact wP I<|zC<|xj<|Aa I<|zC<|At (2,V') ⟨by show 2<=2;decide,hV'⟩ (by show 2-2<2-1;decide) ⟨I,I,I,I,tO⟩ [] I
 exact xb<|wP I<|xa<|zA<|zS I<|xe<|xf<|Aa I<|xc<|Ap tH I (.tmp I) V I hV fun W hp=>As.of_hp1 hp 0 I
theorem Me {α:Type} {k:Nat} {c:α->List Value} (hk: ∀x,(c x).length=k) (h0:0<k) {W:World} {p:Option Addr} {l:List α} (h:AA k c W p l):LM W p (l.flatMap c):=by
 rcases h with h|⟨b,off,e,hr⟩
 ·subst h;exact .inl rfl
 ·cases l with
  |nil=>exact .inl rfl
  |cons x l=>
  refine .inr ⟨b,off,e,(hr 0 (by simp)).lt,fun j v hj=> ?_⟩
  obtain⟨hlt,_⟩:=List.getElem?_eq_some_iff.1 hj
  rw[HY hk] at hlt
  have hi:j/k<(x::l).length:=Nat.div_lt_of_lt_mul (by rw[Nat.mul_comm];exact hlt)
  have hm:=Nat.mod_lt j h0
  have hd:(j/k)*k+j%k=j:=Nat.div_add_mod' j k
  rw[<-hd,Kl hk hi hm] at hj
  have:=(hr (j/k) hi).get (j%k) v hj
  rwa [Nat.add_assoc,hd] at this
theorem YA {t:List UInt8} (h:Et t):chkE ⟨4,t⟩=0:=by
 have hl:t.length<=16:=h.2.2
 unfold chkE
 rw[if_neg (by intro h;exact h ⟨show(1:Int)<=4 by decide,show(4:Int)<=6 by decide⟩),if_neg (show¬65536<t.length by omega),if_neg (show¬(4:Int)=1 by decide),if_neg (show¬(4:Int)=2 by decide),if_neg (show¬(4:Int)=3 by decide),if_pos (show(4:Int)=4 from rfl),if_pos h]
def exE:EnS:=⟨4,[67,49]⟩
theorem WO:chkE exE=0:=YA (by decide)
theorem Lb:Bd [exE]=[50,58,52,58,67,49,10]:=by
 have e1:itoa (([67,49]:List UInt8).length:Nat)=[50]:=Y0
 have e2:itoa 4=[52]:=F1 (n:=4) (by decide)
 show Db exE++[]=_
 unfold Db exE
 rw[e1,e2]
 rfl
theorem QT:DO [51,58,52,58,67]=(noE,0,1):=by
 have e1:itoa (([67,49,50]:List UInt8).length:Nat)=[51]:=F1 (n:=3) (by decide)
 have e2:itoa 4=[52]:=F1 (n:=4) (by decide)
 have h:Db ⟨4,[67,49,50]⟩=[51,58,52,58,67,49,50,10]:=by
  unfold Db
  rw[e1,e2]
  rfl
 have:=Yk (x:=⟨4,[67,49,50]⟩) (m:=5) (show(1:Int)<=4 by decide) (show(4:Int)<=6 by decide) (show[67,49,50].length<=65536 by decide) (by decide) (by rw[h];decide)
 rwa [h] at this
theorem aZ: ∀x∈[exE],Hg x:=fun x hx=>by
 obtain rfl:=List.mem_singleton.1 hx
 exact .inl (by decide)
theorem UN: ∀x∈[exE],chkE x=0:=fun x hx=>by
 obtain rfl:=List.mem_singleton.1 hx
 exact WO
theorem WF:readJ [50,58,52,58,67,49,10,51,58,52,58,67]=([exE],7,0):=by
 have:=Kj (l:=[exE]) (r:=[51,58,52,58,67]) (.inr QT) UN (by rw[Lb];decide)
 rw[Lb] at this
 exact this
theorem YH:Md [50,58,52,58,67,49,10,51,58,52,58,67]:=by
 have:=IE (l:=[exE]) (r:=[51,58,52,58,67]) (.inr QT) UN aZ
 rw[Lb] at this
 exact this
theorem Ze:Md []:=fun y hy=>by cases hy
theorem Z0:appJ [] exE=([50,58,52,58,67,49,10],0):=by
 have:=WB (l:=[]) (x:=exE) (fun x hx=>by cases hx) (fun x hx=>by cases hx) (.inl (by decide)) (by decide) WO
 rw[show Bd ([]++[exE])=Bd [exE] from rfl,Lb] at this
 exact this
theorem I6 (W:World) (hv:AP W) (ht:Ba W) (hw:Bp W):Ag Tryz.prog 7 #[] W (fun _:Unit=> .bool true) (fun _=>True) (fun _=>[]):=by
 refine Ab Tryz.func7 I I I<|xb<|wP I<|xg<|Aj Tryz.hZ tH I I I I I I I I ?_
 refine BX (v:= .tuple #[str [50,58,52,58,67,49,10], .int .i64 0]) I I I I I I (by kernel_rfl) (fun W1 hp=>by
  have:=Hk [] (by decide) Ze exE (.inl (by decide)) (by decide) W1 (hv.hp hp) (ht.hp hp) (hw.hp hp)
  rw[Z0] at this
  exact this) ?_
 refine A6 I<|xg<|wP I<|Cu (a:=[50,58,52,58,67,49,10]) (b:=[51,58,52,58,67]) I I I I I (by decide) (by decide) ?_
 refine wD (X:=Vec) I I (fun W1 hp=>Fj [50,58,52,58,67,49,10,51,58,52,58,67] (by decide) YH W1 (hv.hp hp) (ht.hp hp) (hw.hp hp)) ?_
 intro V hV
 rw[WF] at hV⊢
 have hV:V.OK 2 1 ([exE].flatMap enC):=hV
 refine AY I<|wP I<|xg<|?_
 iterate 9 refine wP I ?_
 refine wU 26 true I ((Hi _ _).trans (dT I))<|AY I<|wP I<|Aj Tryz.hZ tH I I I I I I I I ?_
 (refine Ai Tryz.hZ tH rfl rfl rfl rfl rfl rfl rfl rfl rfl rfl rfl ?_;intro)
 rename_i bs
 exact wC I I (fun W1 hp=>G7 [exE] [exE] (AO V) (some ⟨bs,0,none⟩) (AR V) 1 (by decide) W1 (Dd DC hp 0 hV I) (AA.of_row (junk:=[]) DC (Al.of_bx hp 1 I I)))<|wU 36 true I (dT I)<|Aa I<|xc<|wR1 I I I
theorem Li (l:List EnS) (p:Option Addr) (cap:Nat) (hn:l.length<=10) (ho: ∀x∈l,Hg x) (hl: ∀x∈l,x.t.length<=1000000000) (W:World) (hA:AA 2 enC W p l) (hv:AP W) (ht:Ba W) (hw:Bp W):
  Ag Tryz.prog 8 #[slv p l.length cap] W (fun V:Vec=> .tuple #[str (Bd (okL l)),slv (AO V) (okL l).length (AR V)]) (fun V=>V.OK 2 (okL l).length ((okL l).flatMap enC)) (fun V=>[V.bx 31 ((okL l).flatMap enC)]):=by
 refine Ab Tryz.func8 I I I<|xb<|Aa I<|xg<|wP I<|xg<|wP I<|xa<|xd<|Ae I<|zC<|?_
 refine zE<|zH<|Be ?_
 refine A3 (X:=Nat×Vec) (fun x=>[(4,str (Bd (okL (l.take x.1)))),(5,slv (AO x.2) (okL (l.take x.1)).length (AR x.2)),(10,slv p l.length cap),(11, .int .i64 (l.length:Nat)),(12, .int .i64 (x.1:Nat))]) (fun x=>[x.2.bx 31 ((okL (l.take x.1)).flatMap enC)])
  (fun x=>x.1<=l.length/\x.2.OK 2 (okL (l.take x.1)).length ((okL (l.take x.1)).flatMap enC)) (fun x=>l.length-x.1) (0,Vec.empty) ⟨Nat.zero_le _,Vec.OK.empty 2⟩ ⟨rfl,rfl,rfl,rfl,rfl,trivial⟩ [] rfl ?_
 rintro⟨i,V⟩ ⟨hi,hV⟩
 have hi:i<=l.length:=hi
 have hV:V.OK 2 (okL (l.take i)).length ((okL (l.take i)).flatMap enC):=hV
 refine xb<|wP I<|?_
 by_cases hlt:i<l.length
 rotate_left
 ·have e:i=l.length:=by omega
  subst e
  refine wU 13 false I (dF (by omega))<|zC<|?_
  rw[List.take_length] at hV
  exact zE<|zA<|zS I<|xe<|xf<|A4 I<|xc<|An tH I (.tmp I) (.tmp I) V (by rw[List.take_length]) hV fun W1 hp=>by rw[List.take_length] at hp;exact hp.own
 refine wU 13 true I (dT (show((i:Nat):Int)<(l.length:Nat) by omega))<|xa<|zA<|zR I<|xh<|?_
 obtain⟨b,off,rfl,hrow⟩:=hA.row hlt
 have hri:=hrow i hlt
 have hxo:=ho _ (List.getElem_mem hlt)
 have hxl:=hl _ (List.getElem_mem hlt)
 have hS:okL (l.take (i+1))=if chkE l[i]=0 then okL (l.take i)++[l[i]] else okL (l.take i):=by rw[List.take_succ_eq_append_getElem hlt,WR]
 have hcO: ∀y∈okL (l.take i),chkE y=0:=fun y hy=>(HW.1 hy).2
 have hoO: ∀y∈okL (l.take i),Hg y:=fun y hy=>ho y (List.mem_of_mem_take (HW.1 hy).1)
 have hnO:(okL (l.take i)).length<=10:=by
  have h1:=P7 (l.take i)
  rw[List.length_take] at h1
  omega
 obtain⟨x,hx⟩: ∃x,x=l[i]:=⟨_,rfl⟩
 obtain⟨own,hown⟩: ∃o,o=okL (l.take i):=⟨_,rfl⟩
 rw[<-hx] at hri hxo hxl hS
 rw[<-hown] at hS hcO hoO hnO hV⊢
 have hY:Md (Bd own):=by
  have:=IE Lg hcO hoO
  rwa [List.append_nil] at this
 have hL:=HR hcO hoO
 refine wJ ?_
 refine wL 0 I I (fun W1 hp=>hri.hp hp) I<|wG I I fun _=>wS 1 I I I<|xg<|wP I<|wB 1 I I I<|wC I I (fun W1 hp=>Hk (Bd own) (by omega) hY x hxo hxl W1 (hv.hp hp) (ht.hp hp) (hw.hp hp))<|?_
 by_cases hc:chkE x=0
 ·rw[if_pos hc] at hS
  rw[WB hcO hoO hxo (by omega) hc]
  refine A6 I<|xg<|Aa I<|xa<|zR I<|zB<|Aa I<|wB 1 I I I<|?_
  (refine Ai Tryz.hZ tH rfl rfl rfl rfl rfl rfl rfl rfl rfl rfl rfl ?_;intro)
  refine A9 (V:=V) (len:=own.length) (xs:=own.flatMap enC) 0 2 Tryz.vec22 (own++[x]).length ((own++[x]).flatMap enC) I I I I I I I I I (congrArg some (Bo hV).symm) I hV I I (by rw[List.length_append];rfl) (by rw[CS];rfl) (by rw[List.length_append,List.length_singleton];simp only[maxLen];omega) (by rw[List.length_append,List.length_singleton];omega) I ?_
  intro g1 c1 j1 hV1
  refine Aa I<|zC<|xj<|wP I<|wV 29 ((i+1:Nat):Int) I (Az (by omega))<|wP I<|zC<|?_
  rw[<-hS] at hV1⊢
  exact At (i+1,⟨some g1,c1,j1⟩) ⟨hlt,hV1⟩ (by show l.length-(i+1)<l.length-i;omega) ⟨I,I,I,I,I,tO⟩ [_,_] I
 ·rw[if_neg hc] at hS
  rw[dN hc]
  refine A6 I<|xg<|Aa I<|wU 23 false I (beq_eq_false_iff_ne.2 hc)<|xa<|zS I<|zI<|xj<|wP I<|wV 29 ((i+1:Nat):Int) I (Az (by omega))<|wP I<|zC<|?_
  rw[<-hS] at hV⊢
  exact At (i+1,V) ⟨hlt,hV⟩ (by show l.length-(i+1)<l.length-i;omega) ⟨I,I,I,I,I,tO⟩ [_] I
theorem W8 (l:List EnS): ∀u∈l.flatMap enC,u.oneCell'=true:=fun u hu=>by
 obtain⟨x,_,h⟩:=List.mem_flatMap.1 hu
 rcases List.mem_cons.1 h with rfl|h
 ·rfl
 ·obtain rfl:=List.mem_singleton.1 h
  rfl
theorem Sq (l:List EnS):(l.flatMap enC).length=l.length*2:=HY DC l
theorem Sl {l:List EnS} (h: ¬Ks l) (hn:l.length<=10): ∀x∈l,Hg x/\x.t.length<=65538:=fun x hx=>by
 obtain⟨i,hi,rfl⟩:=List.getElem_of_mem hx
 have h1: ¬grT (l.getD i default).t.length:=fun hg=>h (.inr ⟨i,hi,by omega,hg⟩)
 have e:l.getD i default=l[i]:=by rw[List.getD_eq_getElem?_getD,List.getElem?_eq_getElem hi];rfl
 rw[e] at h1
 unfold grT at h1
 exact⟨by unfold Hg;omega,by omega⟩
theorem UB {l:List EnS} (ho: ∀x∈l,Hg x/\x.t.length<=65538):(∀x∈okL l,chkE x=0)/\(∀x∈okL l,Hg x):=⟨fun _ hx=>(HW.1 hx).2,fun x hx=>(ho x (HW.1 hx).1).1⟩
theorem Sw {l:List EnS} (hc: ∀x∈l,chkE x=0) (ho: ∀x∈l,Hg x):Md (Bd l):=by
 have:=IE Lg hc ho
 rwa [List.append_nil] at this
theorem NY {l:List EnS} (hc: ∀x∈l,chkE x=0) (ho: ∀x∈l,Hg x) (hn:l.length<=20):readJ (Bd l)=(l,(Bd l).length,0):=by
 have hl:=HR hc ho
 have:=Kj (l:=l) Lg hc (by rw[List.append_nil];omega)
 rwa [List.append_nil] at this
abbrev KJ (V:Vec) (l:List EnS):Bx:=V.bx 31 (l.flatMap enC)
theorem Nx (l m:List EnS) (p q:Option Addr) (cap cap2:Nat) (hn:l.length<=2000000) (hn2:m.length<=2000000) (W:World) (hA:AA 2 enC W p l) (hB:AA 2 enC W q m) (hv:AP W) (ht:Ba W) (hw:Bp W):
  Ag Tryz.prog 3 #[slv p l.length cap,slv q m.length cap2] W (fun _:Unit=> .bool true) (fun _=>True) (fun _=>[]):=by
 refine Ab Tryz.func3 I I I<|xb<|wP I<|xa<|zA<|zA<|Bw (X:=Bool) (fun x=>[(0,slv p l.length cap),(1,slv q m.length cap2),(32, .bool x)]) (fun _=>[]) (fun x=>x=false->(¬Ks l/\ ¬Ks m)/\l.length<=10/\m.length<=10) ?_ ?_
 ·refine zB<|wP I<|wD (X:=Bool) I I (fun W1 hp=>Iu l p cap hn W1 (hA.hp hp)) ?_
  intro g1 hg1
  cases g1 with
  |true=>
   refine wP I ?_
   iterate 2 refine Ac I I ?_
   refine Aa I<|?_
   iterate 3 refine Ac I I ?_
   refine Aa I<|?_
   iterate 3 refine Ac I I ?_
   exact wP rfl<|zC<|Aw true (fun h=>by cases h) ⟨rfl,rfl,rfl,trivial⟩ [] rfl
  |false=>
  refine Aa I<|wD (X:=Bool) I I (fun W1 hp=>Iu m q cap2 hn2 W1 (hB.hp hp)) ?_
  intro g2 hg2
  cases g2 with
  |true=>
   refine Aa I<|?_
   iterate 3 refine Ac I I ?_
   refine Aa I<|?_
   iterate 3 refine Ac I I ?_
   exact wP rfl<|zC<|Aw true (fun h=>by cases h) ⟨rfl,rfl,rfl,trivial⟩ [] rfl
  |false=>
  refine A6 I<|?_
  by_cases c1:10<l.length
  ·refine wU 26 true I (dT (show((l.length:Nat):Int)>10 by omega))<|Aa I<|?_
   iterate 3 refine Ac I I ?_
   exact wP rfl<|zC<|Aw true (fun h=>by cases h) ⟨rfl,rfl,rfl,trivial⟩ [] rfl
  refine wU 26 false I (dF (show¬((l.length:Nat):Int)>10 by omega))<|A6 I<|?_
  by_cases c2:10<m.length
  ·exact wU 31 true rfl (dT (show((m.length:Nat):Int)>10 by omega))<|wP rfl<|zC<|Aw true (fun h=>by cases h) ⟨rfl,rfl,rfl,trivial⟩ [] rfl
  exact wU 31 false rfl (dF (show¬((m.length:Nat):Int)>10 by omega))<|wP rfl<|zC<|Aw false (fun _=>⟨⟨fun h=>(by have:=hg1.2 h;cases this),fun h=>(by have:=hg2.2 h;cases this)⟩,by omega,by omega⟩) ⟨rfl,rfl,rfl,trivial⟩ [] rfl
 intro x hx
 cases x with
 |true=>
  exact zR I<|xb<|wC I I (fun W1 hp=>I6 W1 (hv.hp hp) (ht.hp hp) (hw.hp hp))<|wP I<|xc<|zP<|wR1 I I I
 |false=>
 obtain⟨⟨g1,g2⟩,n1,n2⟩:=hx rfl
 have s1:=Sl g1 n1
 have s2:=Sl g2 n2
 obtain⟨x1,x2⟩:=UB s1
 obtain⟨y1,y2⟩:=UB s2
 have nx:(okL l).length<=10:=Nat.le_trans (P7 l) n1
 have ny:(okL m).length<=10:=Nat.le_trans (P7 m) n2
 have lx:=HR x1 x2
 have ly:=HR y1 y2
 have z1: ∀x∈okL l++okL m,chkE x=0:=fun x hx=>(List.mem_append.1 hx).elim (x1 x) (y1 x)
 have z2: ∀x∈okL l++okL m,Hg x:=fun x hx=>(List.mem_append.1 hx).elim (x2 x) (y2 x)
 have nz:(okL l++okL m).length=(okL l).length+(okL m).length:=List.length_append
 have eR1:=NY x1 x2 (by omega)
 have eR2:=NY z1 z2 (by omega)
 have eY2:=Sw z1 z2
 rw[VB] at eR2 eY2
 have hmem: ∀u∈l,(u∈okL l↔chkE u=0):=fun u hu=>⟨fun h=>(HW.1 h).2,fun h=>HW.2 ⟨hu,h⟩⟩
 obtain⟨X,hX⟩: ∃X,X=okL l:=⟨_,rfl⟩
 obtain⟨Y,hY⟩: ∃Y,Y=okL m:=⟨_,rfl⟩
 refine zS I<|zI<|xf<|wP I<|wD (X:=Vec) I I (fun W1 hp=>Li l p cap n1 (fun x hx=>(s1 x hx).1) (fun x hx=>Nat.le_trans (s1 x hx).2 (by decide)) W1 (hA.hp hp) (hv.hp hp) (ht.hp hp) (hw.hp hp)) ?_
 intro V1 hV1
 refine A6 I<|xg<|wP I<|wD (X:=Vec) I I (fun W1 hp=>Li m q cap2 n2 (fun x hx=>(s2 x hx).1) (fun x hx=>Nat.le_trans (s2 x hx).2 (by decide)) W1 (hB.hp hp) (hv.hp hp) (ht.hp hp) (hw.hp hp)) ?_
 intro V2 hV2
 refine A6 I<|zC<|?_
 rw[<-hX] at x1 x2 nx lx eR1 eR2 eY2 hmem hV1 z1 z2 nz⊢
 rw[<-hY] at y1 y2 ny ly eR2 eY2 hV2 z1 z2 nz⊢
 refine xf<|wP I<|wD (X:=Vec) I I (fun W1 hp=>Fj (Bd X) (by omega) (Sw x1 x2) W1 (hv.hp hp) (ht.hp hp) (hw.hp hp)) ?_
 intro V3 hV3
 rw[eR1] at hV3⊢
 have hV3:V3.OK 2 X.length (X.flatMap enC):=hV3
 refine AY I<|wP I<|xg<|Aa I<|Cu (a:=Bd X) (b:=Bd Y) I I I I I (by omega) (by omega) ?_
 refine wD (X:=Vec) I I (fun W1 hp=>Fj (Bd X++Bd Y) (by rw[List.length_append];omega) eY2 W1 (hv.hp hp) (ht.hp hp) (hw.hp hp)) ?_
 intro V4 hV4
 rw[eR2] at hV4⊢
 have hV4:V4.OK 2 (X++Y).length ((X++Y).flatMap enC):=hV4
 refine AY I<|wP I<|zC<|AL (bs':=[KJ V1 X,KJ V2 Y,KJ V3 X,KJ V4 (X++Y)]) I ?_
 refine zE<|xd<|Ae I<|xa<|Bw (X:=Unit) (fun _=>[(5,str (Bd X)),(6,slv (AO V1) X.length (AR V1)),(7,str (Bd Y)),(8,slv (AO V2) Y.length (AR V2)),(9,slv (AO V3) X.length (AR V3)),(10, .int .i64 ((Bd X).length:Nat)),(11, .int .i64 0),(12,slv (AO V4) (X++Y).length (AR V4)),(13, .int .i64 ((Bd X++Bd Y).length:Nat)),(14, .int .i64 0)]) (fun _=>[KJ V1 X,KJ V2 Y,KJ V3 X,KJ V4 (X++Y)]) (fun _=>True) ?_ ?_
 ·refine zH<|A3 (X:=Nat) (fun i=>[(5,str (Bd X)),(6,slv (AO V1) X.length (AR V1)),(7,str (Bd Y)),(8,slv (AO V2) Y.length (AR V2)),(9,slv (AO V3) X.length (AR V3)),(10, .int .i64 ((Bd X).length:Nat)),(11, .int .i64 0),(12,slv (AO V4) (X++Y).length (AR V4)),(13, .int .i64 ((Bd X++Bd Y).length:Nat)),(14, .int .i64 0),(58,slv p l.length cap),(59, .int .i64 (l.length:Nat)),(60, .int .i64 (i:Nat))]) (fun _=>[KJ V1 X,KJ V2 Y,KJ V3 X,KJ V4 (X++Y)]) (fun i=>i<=l.length) (fun i=>l.length-i) 0 (Nat.zero_le _) ⟨I,I,I,I,I,I,I,I,I,I,I,I,I,tO⟩ [] I ?_
  intro i hi
  have hi:i<=l.length:=hi
  refine xb<|wP I<|?_
  by_cases hlt:i<l.length
  rotate_left
  ·exact wU 61 false I (dF (by omega))<|xa<|zA<|zS I<|xe<|Aw () tO ⟨I,I,I,I,I,I,I,I,I,I,tO⟩ [] I
  refine wU 61 true I (dT (show((i:Nat):Int)<(l.length:Nat) by omega))<|xa<|zA<|zR I<|xh<|?_
  obtain⟨b,off,rfl,hrow⟩:=hA.row hlt
  have hri:=hrow i hlt
  have hxo:=s1 _ (List.getElem_mem hlt)
  have hxm:=hmem _ (List.getElem_mem hlt)
  obtain⟨x,hx⟩: ∃x,x=l[i]:=⟨_,rfl⟩
  rw[<-hx] at hri hxo hxm
  refine wJ ?_
  refine wL 0 I I (fun W1 hp=>hri.hp hp) I<|wG I I fun _=>wS 4 I I I<|xa<|zA<|zU<|qB 4 I I I<|qC I I (fun W1 hp=>FQ x hxo.1 (by omega) W1 (hv.hp hp) (ht.hp hp) (hw.hp hp))<|qP I<|qU 66 (decide (chkE x=0)) I (Bool.eq_iff_iff.2 (by rw[beq_iff_eq,decide_eq_true_iff]))<|qP I<|qB 4 I I I<|qC I I (fun W1 hp=>Kg x X (AO V1) (AR V1) (by omega) W1 (Dd DC hp 0 hV1 I))<|qU 69 (decide (chkE x=0)) I (decide_eq_decide.2 hxm)<|?_
  refine Yr (c:=false) Tryz.underlying4 rfl rfl rfl rfl rfl (by cases decide (chkE x=0)<;>rfl) ?_
  exact zD<|xa<|zS I<|zI<|xj<|wP I<|wV 71 ((i+1:Nat):Int) I (Az (by omega))<|wP I<|zC<|At (i+1) hlt (by show l.length-(i+1)<l.length-i;omega) ⟨I,I,I,I,I,I,I,I,I,I,I,I,I,tO⟩ [_] I
 intro _ _
 refine xb<|?_
 iterate 10 refine wP I ?_
 refine Ao 81 (.int .i64 ((Bd X).length:Nat)) I (congrArg (fun n:Nat=>Value.int .i64 (n:Int)) (A8 _))<|wP I<|wU 82 true I (beq_iff_eq.2 I)<|A6 I<|Ao 87 (.int .i64 ((Bd X).length:Nat)) I (congrArg (fun n:Nat=>Value.int .i64 (n:Int)) (A8 _))<|Aa I<|Ao 89 (.int .i64 ((Bd Y).length:Nat)) I (congrArg (fun n:Nat=>Value.int .i64 (n:Int)) (A8 _))<|wP I<|wV 90 ((Bd X++Bd Y).length:Nat) I ((AB (by omega) (by omega)).trans (by rw[List.length_append];omega))<|wP I<|wU 91 true I (beq_iff_eq.2 I)<|A4 I<|wC I I (fun W1 hp=>G7 X X (AO V3) (AO V1) (AR V3) (AR V1) (by omega) W1 (Dd DC hp 2 hV3 I) (Dd DC hp 0 hV1 I))<|wU 96 true I (dT I)<|A6 I<|?_
 (refine Ai Tryz.hZ tH rfl rfl rfl rfl rfl rfl rfl rfl rfl rfl rfl ?_;intro)
 rename_i bs
 refine wD (X:=Vec) I I (fun W1 hp=>Lt W1 bs 2 (AO V1) (AO V2) X.length Y.length (AR V1) (AR V2) (X.flatMap enC) (Y.flatMap enC) (Al.of_bx hp 4 I I) (Me DC (by decide) (Dd DC hp 0 hV1 I)) (Me DC (by decide) (Dd DC hp 1 hV2 I)) (Sq X) (Sq Y) (W8 X) (W8 Y) (by omega) (by omega)) ?_
 intro V5 hV5
 have eXY:(X++Y).flatMap enC=X.flatMap enC++Y.flatMap enC:=List.flatMap_append
 have hV5:V5.OK 2 (X++Y).length ((X++Y).flatMap enC):=by rw[eXY,List.length_append];exact hV5
 exact Ao 103 (slv (AO V5) (X++Y).length (AR V5)) I (by have:=Bo hV5;rw[List.length_append] at this⊢;exact this)<|wC I I (fun W1 hp=>G7 (X++Y) (X++Y) (AO V4) (AO V5) (AR V4) (AR V5) (by omega) W1 (Dd DC hp 3 hV4 I) (Dd DC hp 5 hV5 (by show some (V5.bx 31 (X.flatMap enC++Y.flatMap enC))=_;rw[eXY])))<|wU 104 true I (dT I)<|Aa I<|wC I I (fun W1 hp=>I6 W1 (hv.hp hp) (ht.hp hp) (hw.hp hp))<|Aa I<|xc<|wR1 I I I
end
section
open Go
noncomputable abbrev laidL:List (String×DataW Unit):=Rows.journalAppendsRow.laid
end
section
open Go Go.RowKit Go.Am Go.ChangeShapes Go.WideShapes Go.Deep Go.ChangeAt
set_option maxRecDepth 100000
section
variable {H:Type} {enc:TypeId×Value->H} {w:World} {base:Nat} {spare:Nat->Bool} {held:Bool} {v:Value} {d:DataW H} {ps:List MemPlace}
end
theorem own:ownKnob Tryz.prog.godebug=none:=by kernel_rfl
theorem O3:laidOutB Tryz.prog=true:=by kernel_rfl
theorem GP:(laidL.all fun x=>x.2.handleName?.isNone)=true:=by kernel_rfl
theorem R6 {W:World} (h:laidMetH Tryz.prog laidL W):Ba W:=by
 rw[MakeChecks.laidMetH_plain _ _ _ GP] at h
 exact Lib.tabIs_of_head (g:=4) (t:=290) (e:=252) (n:=20) (by kernel_rfl) (by kernel_rfl) (by kernel_rfl) (by kernel_rfl) (by kernel_rfl) (by kernel_rfl) h.tail.tail
theorem bL {W:World} (hS:W.ShapedOpen Tryz.prog):DM W:=
 cell_of_shapedOpen_int (g:=0) (t:=3) (zero:= #[.int .i64 0]) hS (of_decide_eq_true (by kernel_rfl)) (by kernel_rfl) rfl (by kernel_rfl) (by kernel_rfl) Tryz.underlying3
noncomputable def witW (os:Os):World:=World.laidAll Tryz.prog os laidL
theorem Yn (os:Os) (args:Array Value):laidMetH Tryz.prog laidL ((witW os).forCall (fun _ _=>0) ⟨#[],args,[]⟩).memory:=by
 rw[MakeChecks.laidMetH_plain _ _ _ GP]
 exact laidMet_laidAll _ (by kernel_rfl) (by kernel_rfl)
theorem T4 (os:Os) (args:Array Value):((witW os).forCall (fun _ _=>0) ⟨#[],args,[]⟩).Shaped Tryz.prog:=
 World.shaped_of_ZipB (by kernel_rfl) (by kernel_rfl)
theorem Zu {H:Type} {enc:TypeId×Value->H} (os:Os) {f:FuncId} {fn:Func} {s:OpenSpec} {conds:List PathCond} (args:Array Value)
  (hok:Input.okWideB Tryz.prog ((witW os).forCall (fun _ _=>0) ⟨#[],args,[]⟩) f ⟨#[],args,[]⟩=true)
  (hrow:s.preRow enc Tryz.prog fn conds false laidL ((witW os).forCall (fun _ _=>0) ⟨#[],args,[]⟩).memory args):
  ∃(w:World) (tape:Tape) (i:Input),w.os=os/\(w.forCall tape i).Shaped Tryz.prog/\i.vars=[]/\Input.okWide Tryz.prog (w.forCall tape i) .any w.heap.size f i/\
   s.preRow enc Tryz.prog fn conds false laidL (w.forCall tape i).memory i.args/\({}:Assume).holds Tryz.prog (lone (Frame.enter Tryz.prog f i.args .normal) [] (w.forCall tape i)):=
 ⟨witW os,fun _ _=>0,⟨#[],args,[]⟩,World.laidAll_os _ _ _,T4 os args,(Input.okWide_of_okWideB (base:=0) hok).1,(Input.okWide_of_okWideB hok).2,hrow,by
  simp only[Assume.holds]
  exact⟨by simp,by simp,by simp,by simp,by simp,by simp⟩⟩
end
section
open Go Go.RowKit Go.Am Go.ChangeShapes Go.WideShapes Go.Deep
set_option maxRecDepth 10000
theorem QC {H:Type} (d:DataW H):1<=Rows.uptoBulk d:=by
 cases d with
 |lit l=>cases l<;>simp[Rows.uptoBulk]
 |nil=>simp[Rows.uptoBulk]
 |ptr d=>simp[Rows.uptoBulk]
 |slice elems spare=>simp[Rows.uptoBulk]
 |agg parts=>simp[Rows.uptoBulk]
 |iface t d=>simp[Rows.uptoBulk]
 |map entries=>simp[Rows.uptoBulk]
 |held h=>simp[Rows.uptoBulk]
theorem Yv {H:Type} (l:List (DataW H)):l.length<=Rows.uptoBulkAll l:=by
 induction l with
 |nil=>simp[Rows.uptoBulkAll]
 |cons x r ih=>have:=QC x;simp only[Rows.uptoBulkAll,List.length_cons];omega
theorem Tz {H:Type} (e s:List (DataW H)):Rows.uptoBulkAll e+1<=Rows.uptoBulk (.slice e s):=by
 simp only[Rows.uptoBulk];omega
theorem SB {w:World} {a:Addr} {v:Value} (h:w.cell? a=some v):a.spot=none/\a.block<w.heap.size:=by
 unfold World.cell? at h
 split at h
 ·rename_i hb
  refine⟨?_, ?_⟩
  ·cases hs:a.spot with
   |none=>rfl
   |some k=>simp[hs] at h
  ·exact(Array.getElem?_eq_some_iff.1 hb).1
 ·cases h
theorem Qz {w:World} {base n:Nat} {a:Addr} {cs:List Value} (h:w.cells? base a n=some cs) (hn:0<n):a.spot=none/\Al w a.block a.off cs:=by
 obtain⟨_,hl,hg⟩:=World.cells?_some h
 have h0:=hg 0 hn
 have hv:cs[0]? =some cs[0]:=List.getElem?_eq_getElem (by omega)
 rw[hv] at h0
 have hp:=SB h0
 have hs:a.spot=none:=by simpa[Addr.add] using hp.1
 refine⟨hs,⟨by simpa[Addr.add] using hp.2,fun j x hx=> ?_⟩⟩
 have hj:j<n:=by rw[<-hl];exact(List.getElem?_eq_some_iff.1 hx).1
 rw[<-hx, <-hg j hj]
 congr 1
 unfold Addr.add
 split
 ·subst_vars;cases a;simp_all
 ·rfl
theorem Zs {a:Addr} (hs:a.spot=none) (n:Nat):a.add n=⟨a.block,a.off+n,none⟩:=by
 unfold Addr.add
 split
 ·subst_vars;cases a;simp_all
 ·rfl
section
variable {H:Type} {enc:TypeId×Value->H} {w:World} {base:Nat} {spare:Nat->Bool} {held:Bool} {fuel:Nat}
end
end
section
open Go Go.RowKit Go.Am Go.ChangeShapes Go.WideShapes Go.Deep Go.ChangeAt
set_option maxRecDepth 100000
theorem St : "*" ++ "errors.errorString" = "*errors.errorString" := by decide
theorem WA (u : TypeId) (h : Tryz.prog.typeName? 3 u = some "*errors.errorString") : u = 300 :=
 typeName_ptr_named (nm := "errors.errorString") (by rw [St]; kernel_rfl) (by kernel_rfl) (by decide) u (by rw [St]; exact h)
theorem ZL {W:World} (hL:laidMetH Tryz.prog laidL W) (hS:W.ShapedOpen Tryz.prog):AP W:=by
 have hM:=bL hS
 rw[MakeChecks.laidMetH_plain _ _ _ GP] at hL
 refine⟨hM, ?_, ?_⟩
 ·have g2 : Tryz.prog.globalNamed "strconv.ErrSyntax" = some 2 := by kernel_rfl
  obtain⟨a,s,hv,_⟩:=laid_sentinel hL.tail.tail.tail.tail.tail g2 (show(Tryz.prog.globals[2]?).map (·.type)=some 104 by kernel_rfl) Tryz.underlying104 WA Tryz.underlying300 Tryz.underlying302 rfl rfl Tryz.underlying9 (by kernel_rfl) (by kernel_rfl)
  exact⟨_,by simpa using World.var?_cell g2 hv 0, .inr ⟨_,_,I⟩⟩
 ·have g3 : Tryz.prog.globalNamed "strconv.ErrRange" = some 3 := by kernel_rfl
  obtain⟨a,s,hv,_⟩:=laid_sentinel hL.tail.tail.tail.tail g3 (show(Tryz.prog.globals[3]?).map (·.type)=some 104 by kernel_rfl) Tryz.underlying104 WA Tryz.underlying300 Tryz.underlying302 rfl rfl Tryz.underlying9 (by kernel_rfl) (by kernel_rfl)
  exact⟨_,by simpa using World.var?_cell g3 hv 0, .inr ⟨_,_,I⟩⟩
theorem aI:Tryz.prog.cellsOf 9=1:=by kernel_rfl
theorem d9:Tryz.prog.cellsOf 3=1:=by kernel_rfl
theorem bV:Tryz.prog.cellsOf 217=13:=by kernel_rfl
theorem eL:Tryz.prog.cellsOf 31=2:=by kernel_rfl
section
variable {H:Type} {enc:TypeId×Value->H} {w:World} {base:Nat} {spare:Nat->Bool} {held:Bool} {fuel:Nat} {cs:List Value} {x:DataW H×List MemPlace}
theorem Tt (h:DataW.trod enc Tryz.prog w base spare held fuel 217 cs=some x) (hx:x.1= .agg (Bb.map fun s=> .lit (.string s))):cs=Bb.map str:=by
 obtain⟨xs,m,rfl,rfl,hl,hn,hg⟩:=DataW.trod_array Tryz.underlying217 h
 rw[bV] at hl
 injection hx with hx
 have hwl:Bb.length=13:=rfl
 refine List.ext_getElem (by rw[hl,List.length_map,hwl]) fun i h1 h2=> ?_
 have hi:i<13:=by omega
 have hgi:=hg i hi
 rw[aI,Nat.mul_one] at hgi
 have hxi:xs[i]? =some xs[i]:=List.getElem?_eq_getElem (by omega)
 rw[hxi] at hgi
 obtain⟨s,e1,e2,_⟩:=DataW.trod_string Tryz.underlying9 hgi
 have e3:cs[i]? =some (.string s):=by
  have:(cs.drop i)[0]? =some (.string s):=by
   have:=congrArg (fun l:List Value=>l[0]?) e1
   rwa [show((cs.drop i).take 1)[0]? =(cs.drop i)[0]? from List.getElem?_take_of_lt (by decide)] at this
  rwa [List.getElem?_drop,Nat.add_zero] at this
 have e4:(xs.map (·.1))[i]? =some (.lit (.string s.data.toList)):=by rw[List.getElem?_map,hxi,e2];rfl
 rw[hx,List.getElem?_map,List.getElem?_eq_getElem (show i<Bb.length by omega)] at e4
 injection e4 with e4
 injection e4 with e4
 injection e4 with e4
 rw[List.getElem?_eq_getElem h1] at e3
 injection e3 with e3
 rw[e3,List.getElem_map,e4]
theorem Z1 (h:DataW.trod enc Tryz.prog w base spare held fuel 31 cs=some x): ∃f:EnS,cs=enC f:=by
 obtain⟨xs,m,rfl,hx,hl,hn,hg⟩:=DataW.trod_struct Tryz.underlying31 h
 rw[eL] at hl
 obtain⟨x0,x1,rfl⟩: ∃x0 x1,xs=[x0,x1]:=by
  match xs,hn with
  |[a,b],_=>exact⟨a,b,rfl⟩
 match cs,hl with
 |[v0,v1],_=>
  have h0:DataW.trod enc Tryz.prog w base spare held m 3 (List.take (Tryz.prog.cellsOf 3) [v0,v1])=some x0:=hg 0 _ rfl
  have h1:DataW.trod enc Tryz.prog w base spare held m 9 (List.take (Tryz.prog.cellsOf 9) [v1])=some x1:=hg 1 _ rfl
  rw[d9] at h0
  rw[aI] at h1
  obtain⟨a,e0,_⟩:=DataW.trod_int Tryz.underlying3 h0
  obtain⟨s,e1,_⟩:=DataW.trod_string Tryz.underlying9 h1
  have e0:v0= .int .i64 a:=by simpa using e0
  have e1:v1= .string s:=by simpa using e1
  subst e0 e1
  exact⟨⟨a,s.data.toList⟩,by cases s;rfl⟩
theorem VF (h:DataW.trod enc Tryz.prog w base spare held fuel 22 cs=some x):
  ∃(p:Option Addr) (cap:Nat) (l:List EnS),cs=[.slice p l.length cap]/\AA 2 enC w p l/\l.length+1<=Rows.uptoBulk x.1:=by
 rcases open_slice Tryz.underlying22 h with⟨rfl,rfl⟩|⟨a,len,cap,m,n,D,Pl,rfl,_,hl,_,hm,rfl,hx⟩
 ·exact⟨none,0,[],I, .inl I,QC _⟩
 have hlm:len<=m:=by rw[hm];split<;>omega
 obtain⟨S,hS⟩:=choose_lt (α:=EnS) (n:=len) (p:=fun i s=>w.cells? base (a.add (i*2)) 2=some (enC s)) fun i hi=>by
  obtain⟨cs',h1,h2⟩:=hx i (by omega)
  rw[eL] at h1
  obtain⟨f,rfl⟩:=Z1 h2
  exact⟨f,h1⟩
 refine⟨some a,cap,(List.range len).map S,by simp, ?_, ?_⟩
 ·by_cases h0:len=0
  ·subst h0;exact .inl rfl
  ·have hs:a.spot=none:=by simpa[Addr.add] using(Qz (hS 0 (by omega)) (by decide)).1
   refine .inr ⟨a.block,a.off,by cases a;simp_all,fun i hi=> ?_⟩
   have h1:i<len:=by simpa using hi
   have:=(Qz (hS i h1) (by decide)).2
   rw[Zs hs] at this
   simpa using this
 ·have h1:=Yv ((List.range len).map D)
  have h2:=Tz ((List.range len).map D) ((List.range (m-len)).map fun j=>D (len+j))
  simp only[List.length_map,List.length_range] at h1⊢
  omega
end
section
variable {H:Type} {enc:TypeId×Value->H} {w:World} {base:Nat} {spare:Nat->Bool} {held:Bool} {v:Value} {d:DataW H} {ps:List MemPlace}
theorem RD {r:Reach} {b0:Nat} (hv:Value.okWide Tryz.prog w r b0 22 v) (h:DataW.Trod enc Tryz.prog w base spare held 22 v d ps):
  ∃(p:Option Addr) (m:Nat) (l:List EnS),v=slv p l.length m/\AA 2 enC w p l/\l.length+1<=Rows.uptoBulk d:=by
 obtain⟨p0,n0,c0,rfl⟩:=okWide_slice Tryz.underlying22 hv
 obtain⟨fuel,hf⟩:=h
 obtain⟨p,cap,l,e,hl,hb⟩:=VF hf
 refine⟨p,cap,l, ?_,hl,hb⟩
 simpa[Value.cells] using e
end
theorem XX {W:World} (h:laidMetH Tryz.prog laidL W):Bp W:=by
 rw[MakeChecks.laidMetH_plain _ _ _ GP] at h
 obtain⟨ps,⟨g',t',cs,fuel,p,q,hg',ht',hvar,hd,_,_⟩,_⟩:=h.tail.tail.tail.tail.tail.tail
 obtain rfl := Option.some.inj ((show Tryz.prog.globalNamed "kingpost/timber.words" = some 1 by kernel_rfl).symm.trans hg')
 obtain rfl:=Option.some.inj ((show(Tryz.prog.globals[1]?).map (·.type)=some 217 by kernel_rfl).symm.trans ht')
 have e:=Tt hd rfl
 have ef:Bb.flatMap IB++[]=Bb.map str:=by rw[List.append_nil];rfl
 have hc: ∀i u,(Bb.map str)[i]? =some u->W.cell? ⟨1,i,none⟩=some u:=fun i u hu=>by
  rw[World.var?_cell hg' hvar i]
  rw[<-e] at hu
  simpa using hu
 refine⟨?_,fun m u hu=> ?_⟩
 ·obtain⟨c,ty,fr,h1,_⟩:=Sort.cells_of_cell? (hc 0 _ rfl)
  exact(Array.getElem?_eq_some_iff.1 h1).1
 ·rw[Nat.zero_add]
  rw[ef] at hu
  exact hc m u hu
end
end Go.Proofs.YtidgbjcdppjknaaGreatDoor
