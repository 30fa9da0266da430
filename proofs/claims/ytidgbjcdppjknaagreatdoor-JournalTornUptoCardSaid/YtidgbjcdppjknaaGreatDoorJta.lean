/-
  Lemmas that the theorem journalTorn_upto_card needs (part 1 of 1).
-/
import Derived.Test.YtidgbjcdppjknaaGreatDoorJdh
set_option maxHeartbeats 64000000
namespace Go.Proofs.YtidgbjcdppjknaaGreatDoor
section
open Go Go.RowKit Go.Am Go.Lib
set_option maxRecDepth 10000
theorem A2 {m:Nat}: ∀(l:List (Nat×EnS×Int)) (out:List EnS) (n:Nat),n<=m->(∀y∈l,y.1<=m)->(readL l out n).2.1<=m
 |[],_,_,h,_=>h
 |y::r,out,n,h,hl=>by
  unfold readL
  split
  ·exact h
  ·split
   ·exact Nat.zero_le _
   ·exact A2 r _ _ (hl y (List.mem_cons_self ..)) fun z hz=>hl z (List.mem_cons_of_mem _ hz)
theorem Ds {s:List UInt8}: ∀ {f n:Nat},n<=s.length-> ∀y∈Fk s f n,y.1<=s.length
 |0,_,_,_,h=>by cases h
 |f+1,n,hn,y,h=>by
  unfold Fk at h
  split at h
  ·rename_i hlt
   have hle:n+(BY (s.drop n)).2.1<=s.length:=by
    rcases Lm (s.drop n) with⟨_,_,h3,_⟩|e|e
    ·rw[List.length_drop] at h3;omega
    ·rw[e];exact hn
    ·rw[e];exact hn
   rcases List.mem_cons.1 h with rfl|h
   ·exact hle
   ·split at h
    ·exact Ds hle y h
    ·cases h
  ·cases h
theorem Hp (s:List UInt8):(readJ s).2.1<=s.length:=by
 unfold readJ
 split
 ·exact Nat.zero_le _
 ·exact A2 _ _ _ (Nat.zero_le _) (Ds (Nat.zero_le _))
noncomputable def repJ (s:List UInt8):List UInt8×Int:=if (readJ s).2.2≠0 then([],(readJ s).2.2) else(s.take (readJ s).2.1,0)
theorem A1 (s:List UInt8) (hs:s.length<=1000000000) (W:World) (hv:AQ W) (ht:AZ W) (hw:Bo W):
  Ag Tryz.prog 14 #[str s] W (fun _:Unit=> .tuple #[str (repJ s).1, .int .i64 (repJ s).2]) (fun _=>True) (fun _=>[]):=by
 have hR:repJ s=if (readJ s).2.2≠0 then([],(readJ s).2.2) else(s.take (readJ s).2.1,0):=rfl
 have hle:=Hp s
 refine Ab Tryz.func14 I I I<|zA<|zB<|Aa I<|zC<|zE<|zA<|zB<|wP I<|wD (X:=Vec) I I (fun W1 hp=>GH s hs W1 (hv.hp hp) (ht.hp hp) (hw.hp hp)) ?_
 intro V _
 refine Bb I<|wP I<|zC<|zE<|zA<|zA<|zB<|Aa I<|?_
 by_cases c1:(readJ s).2.2=0
 rotate_left
 ·rw[if_pos c1] at hR
  exact wU 14 true I (bne_iff_ne.2 c1)<|zC<|zE<|zR I<|zA<|zB<|Ae I<|zC<|zE<|zO<|zP<|wR2 I I (by rw[hR])
 rw[if_neg (fun h=>h c1)] at hR
 refine wU 14 false I (by rw[c1];rfl)<|zC<|zE<|zS I<|zI<|zE<|zA<|zB<|Aa I<|RD (readJ s).2.1 tH I I I I I I I I hle ?_
 exact Aa I<|zC<|zE<|zO<|wR2 I I (by rw[hR])
theorem Aq: ∀(l:List EnS) (k:Nat),k<=(A7 l).length-> ∃j r,j<=l.length/\(A7 l).take k=A7 (l.take j)++r/\(r=[]\/ ∃x,l[j]? =some x/\ ∃m,r=(Bv x).take m/\0<m/\m<(Bv x).length)
 |[],k,h=>⟨0,[],Nat.le_refl _,by simp[A7], .inl rfl⟩
 |x::l,k,h=>by
  have e:A7 (x::l)=Bv x++A7 l:=rfl
  rw[e] at h⊢
  rw[List.length_append] at h
  by_cases hk:k<(Bv x).length
  ·by_cases h0:k=0
   ·exact⟨0,[],Nat.zero_le _,by rw[h0];rfl, .inl I⟩
   ·exact⟨0,(Bv x).take k,Nat.zero_le _,by rw[List.take_append_of_le_length (by omega)];rfl, .inr ⟨x,I,k,I,by omega,hk⟩⟩
  ·obtain⟨j,r,h1,h2,h3⟩:=Aq l (k-(Bv x).length) (by omega)
   refine⟨j+1,r,by rw[List.length_cons];omega, ?_, ?_⟩
   ·rw[List.take_append,List.take_of_length_le (by omega),h2,List.take_succ_cons, <-List.append_assoc]
    rfl
   ·rcases h3 with h3|⟨y,hy,h4⟩
    ·exact .inl h3
    ·exact .inr ⟨y,by rw[List.getElem?_cons_succ];exact hy,h4⟩
theorem Fw {l:List EnS} (hc: ∀x∈l,chkE x=0) (ho: ∀x∈l,KO x) (hn:l.length<=20):readJ (A7 l)=(l,(A7 l).length,0):=by
 have hl:=Js hc ho
 have:=NQ (l:=l) YX hc (by rw[List.append_nil];omega)
 rwa [List.append_nil] at this
def aE_:EnS:=⟨4,[97]⟩
theorem Jx:chkE aE_=0:=WW (by decide)
structure J0 (X:List EnS) (j:Nat) (r:List UInt8):Prop where
 le:j<=X.length
 torn:WI r
 next: ∀h:j<X.length,r.length<(Bv X[j]).length/\ ∃t,Bv X[j]=r++t
theorem Jm {X:List EnS} (hc: ∀x∈X,chkE x=0) {k:Nat} (hk:k<=(A7 X).length): ∃j r,J0 X j r/\(A7 X).take k=A7 (X.take j)++r:=by
 obtain⟨j,r,h1,h2,h3⟩:=Aq X k hk
 refine⟨j,r,⟨h1, ?_,fun h=> ?_⟩,h2⟩
 ·rcases h3 with h3|⟨x,hx,m,e,m1,m2⟩
  ·exact .inl h3
  ·obtain⟨⟨k1,k2⟩,htl⟩:=GG (hc x (List.mem_of_getElem? hx))
   exact .inr (by rw[e];exact Y0 k1 k2 htl m1 m2)
 ·rcases h3 with h3|⟨x,hx,m,e,m1,m2⟩
  ·obtain⟨⟨k1,k2⟩,htl⟩:=GG (hc X[j] (List.getElem_mem h))
   obtain⟨_,_,_,e⟩:=IR k1 k2
   exact⟨by rw[h3,e];simp;omega,_,by rw[h3,List.nil_append]⟩
  ·rw[List.getElem?_eq_getElem h] at hx
   injection hx with hx
   subst hx
   refine⟨by rw[e,List.length_take];omega,(Bv X[j]).drop m, ?_⟩
   rw[e,List.take_append_drop]
theorem BSq (l:List EnS) (p:Option Addr) (cap:Nat) (hn:l.length<=2000000) (at':Nat) (W:World) (hA:AB 2 enC W p l) (hat:at'<65536) (hv:AQ W) (ht:AZ W) (hw:Bo W):
  Ag Tryz.prog 4 #[slv p l.length cap, .int .u16 (at':Nat)] W (fun _:Unit=> .bool true) (fun _=>True) (fun _=>[]):=by
 refine Ab Tryz.func4 I I I<|zA<|zB<|wP I<|zC<|zE<|zA<|zA<|Bz (X:=Bool) (fun x=>[(0,slv p l.length cap),(1, .int .u16 (at':Nat)),(26, .bool x)]) (fun _=>[]) (fun x=>x=false-> ¬Mt l/\l.length<=10) ?_ ?_
 ·refine zB<|wP I<|wD (X:=Bool) I I (fun W1 hp=>Nf l p cap hn W1 (hA.hp hp)) ?_
  intro g1 hg1
  cases g1 with
  |true=>
   refine wP I ?_
   iterate 3 refine Ac I I ?_
   exact wP rfl<|zC<|Au true (fun h=>by cases h) ⟨rfl,rfl,rfl,trivial⟩ [] rfl
  |false=>
  refine A3 I<|?_
  by_cases c1:10<l.length
  ·exact wU 25 true rfl (dT (show((l.length:Nat):Int)>10 by omega))<|wP rfl<|zC<|Au true (fun h=>by cases h) ⟨rfl,rfl,rfl,trivial⟩ [] rfl
  exact wU 25 false rfl (dF (show¬((l.length:Nat):Int)>10 by omega))<|wP rfl<|zC<|Au false (fun _=>⟨fun h=>(by have:=hg1.2 h;cases this),by omega⟩) ⟨rfl,rfl,rfl,trivial⟩ [] rfl
 intro x hx
 cases x with
 |true=>
  exact zR I<|zA<|zB<|wC I I (fun W1 hp=>FY W1 (hv.hp hp) (ht.hp hp) (hw.hp hp))<|wP I<|zC<|zE<|zO<|zP<|wR1 I I I
 |false=>
 obtain⟨g1,n1⟩:=hx rfl
 have s1:=XZ g1 n1
 obtain⟨x1,x2⟩:=Za s1
 have nx:(okL l).length<=10:=Nat.le_trans (U6 l) n1
 obtain⟨X,hX⟩: ∃X,X=okL l:=⟨_,rfl⟩
 have lx:=Js x1 x2
 rw[<-hX] at x1 x2 nx lx
 obtain⟨k,hk⟩: ∃k,k=at'%((A7 X).length+1):=⟨_,rfl⟩
 have hkl:k<=(A7 X).length:=by rw[hk];have:=Nat.mod_lt at' (show 0<(A7 X).length+1 by omega);omega
 obtain⟨j,r,hT,htk⟩:=Jm x1 hkl
 have hj:=hT.le
 obtain⟨P,hP⟩: ∃P,P=X.take j:=⟨_,rfl⟩
 have hPl:P.length=j:=by rw[hP,List.length_take];exact Nat.min_eq_left hj
 have p1: ∀x∈P,chkE x=0:=fun x hx=>x1 x (List.mem_of_mem_take (hP▸hx))
 have p2: ∀x∈P,KO x:=fun x hx=>x2 x (List.mem_of_mem_take (hP▸hx))
 rw[<-hP] at htk
 have lp:=Js p1 p2
 obtain⟨T,hTT⟩: ∃T,T=(A7 X).take k:=⟨_,rfl⟩
 have hTl:T.length<=(A7 X).length:=by rw[hTT,List.length_take];omega
 rw[<-hTT] at htk
 have hSl:(A7 P).length+r.length=T.length:=by rw[htk,List.length_append]
 have eR_:readJ T=(P,(A7 P).length,0):=by
  have:=NQ (l:=P) (r:=r) hT.torn p1 (by rw[<-htk];omega)
  rwa [<-htk] at this
 have eS:repJ T=(A7 P,0):=by
  unfold repJ
  rw[eR_,if_neg (fun h=>h rfl)]
  show(T.take (A7 P).length,(0:Int))=_
  rw[htk,List.take_left']
  rfl
 have eTk:T.take (A7 P).length=A7 P:=by rw[htk,List.take_left'];rfl
 have eR2:=Fw p1 p2 (by omega)
 obtain⟨S,hS⟩: ∃S,S=A7 P:=⟨_,rfl⟩
 rw[<-hS] at eR_ eS eTk eR2 lp hSl
 refine zS I<|zI<|zE<|zA<|zB<|wP I<|wD (X:=Vec) I I (fun W1 hp=>I6 l p cap n1 (fun x hx=>(s1 x hx).1) (fun x hx=>Nat.le_trans (s1 x hx).2 (by decide)) W1 (hA.hp hp) (hv.hp hp) (ht.hp hp) (hw.hp hp)) ?_
 intro V1 hV1
 rw[<-hX] at hV1⊢
 refine A8 I<|zC<|zE<|zA<|zB<|Aa I<|XP Tryz.underlying36 Tryz.underlying3 I I I I ?_
 refine wV 35 (at':Nat) I (AC (by omega) (by omega))<|Aa I<|Ao 37 (.int .i64 ((A7 X).length:Nat)) I (congrArg (fun n:Nat=>Value.int .i64 (n:Int)) (A5 _))<|wP I<|wV 38 (((A7 X).length+1:Nat):Int) I (Az (by omega))<|Ks I I I I I (by omega) ?_
 refine wV 39 (k:Nat) I (by rw[hk];rfl)<|RD k tH I I I I I I I I hkl ?_
 refine Ao 40 (str T) I (by rw[hTT])<|wP I<|zC<|zE<|zA<|zB<|wP I<|wD (X:=Vec) I I (fun W1 hp=>GH T (by omega) W1 (hv.hp hp) (ht.hp hp) (hw.hp hp)) ?_
 intro V2 hV2
 rw[eR_] at hV2⊢
 have hV2:V2.OK 2 P.length (P.flatMap enC):=hV2
 refine Bb I<|wP I<|zC<|zE<|zA<|zB<|wP I<|?_
 refine BK (v:= .tuple #[str S, .int .i64 0]) I I I I I I (by kernel_rfl) (fun W1 hp=>by
  have:=A1 T (by omega) W1 (hv.hp hp) (ht.hp hp) (hw.hp hp)
  rw[eS] at this
  exact this) ?_
 refine A8 I<|zC<|AM (bs':=[GB V1 X,GB V2 P]) I ?_
 refine zE<|zA<|zA<|zB<|?_
 iterate 9 refine wP I ?_
 refine wU 60 false I (dF (show¬((S.length:Nat):Int)<0 by omega))<|A8 I<|Ao 65 (.int .i64 (T.length:Nat)) I (congrArg (fun n:Nat=>Value.int .i64 (n:Int)) (A5 _))<|wP I<|wU 66 false I (dF (show¬((S.length:Nat):Int)>(T.length:Nat) by omega))<|A8 I<|RD S.length tH I I I I I I I I (by omega) ?_
 refine Ao 72 (str S) I (by rw[eTk])<|wP I<|Ao 73 (.bool false) I (congrArg (fun c:Bool=>Value.bool (!c)) ((Hk _ _).trans (dT I)))<|Bb I<|wP I<|wU 80 false I (dF (show¬((P.length:Nat):Int)>(X.length:Nat) by omega))<|Bb I<|De P.length tH I I I I I I I I (Nat.le_trans (by omega) (LK hV1)) ?_
 refine wC I I (fun W1 hp=>Pm P P (AU V2) (AU V1) (Bd V2) (Bd V1) (by omega) W1 (EI Ij hp 1 hV2 I) (by rw[hP];exact QQ (EI Ij hp 0 hV1 I) j))<|wU 88 true I (dT I)<|Aa I<|zC<|zE<|zS I<|zI<|zE<|zA<|zB<|wP I<|wD (X:=Vec) I I (fun W1 hp=>GH S (by omega) W1 (hv.hp hp) (ht.hp hp) (hw.hp hp)) ?_
 intro V3 hV3
 rw[eR2] at hV3⊢
 have hV3:V3.OK 2 P.length (P.flatMap enC):=hV3
 refine Bb I<|wP I<|zC<|zE<|zA<|zA<|zB<|Bb I<|Ao 102 (.int .i64 (S.length:Nat)) I (congrArg (fun n:Nat=>Value.int .i64 (n:Int)) (A5 _))<|wP I<|Ao 103 (.bool false) I (congrArg (fun c:Bool=>Value.bool (!c)) (beq_iff_eq.2 I))<|A3 I<|?_
 refine wC I I (fun W1 hp=>Pm P P (AU V3) (AU V2) (Bd V3) (Bd V2) (by omega) W1 (EI Ij hp 2 hV3 I) (EI Ij hp 1 hV2 I))<|wU 108 true I (dT I)<|Aa I<|zC<|AM (bs':=[GB V1 X,GB V2 P,GB V3 P]) I ?_
 refine zE<|zS I<|zI<|zE<|zA<|zA<|zB<|A8 I<|wU 115 (decide (j<X.length)) I (decide_eq_decide.2 ⟨fun h=>by have h:((P.length:Nat):Int)<(X.length:Nat):=h;omega,fun h=>by show((P.length:Nat):Int)<(X.length:Nat);omega⟩)<|zC<|zE<|Bz (X:=Unit) (fun _=>[(7,str T),(9, .int .i64 (S.length:Nat))]) (fun _=>[GB V1 X,GB V2 P,GB V3 P]) (fun _=>True) ?_ ?_
 ·by_cases hjl:j<X.length
  rotate_left
  ·refine Bi 115 (.bool false) I (congrArg Value.bool (dF hjl)) ?_
   exact zS I<|zI<|Au () tO ⟨I,I,tO⟩ [] I
  refine Bi 115 (.bool true) I (congrArg Value.bool (dT hjl)) ?_
  obtain⟨hlt,t,het⟩:=hT.next hjl
  have hxe:X[j]∈X:=List.getElem_mem hjl
  have hch:=x1 _ hxe
  have hen:=x2 _ hxe
  obtain⟨x,hx⟩: ∃x,x=X[j]:=⟨_,rfl⟩
  rw[<-hx] at hlt het hch hen
  have hxl:x.t.length<=65536:=(GG hch).2
  have eA_:appJ S x=(S++Bv x,0):=by
   have:=XL (l:=P) (x:=x) p1 p2 hen (by omega) hch
   rw[Mo, <-hS] at this
   exact this
  have hX2: ∀W1,AB 2 enC W1 (AU V1) X-> ∃b off,AU V1=some ⟨b,off,none⟩/\Al W1 b (off+j*2) (enC x):=fun W1 h=>by
   obtain⟨b,off,e,h⟩:=h.row hjl
   exact⟨b,off,e,by rw[hx];exact h j hjl⟩
  obtain⟨b,e0⟩: ∃b,V1.p=some b:=by
   cases e:V1.p with
   |none=>have:=hV1.nil e;omega
   |some g=>exact⟨g,rfl⟩
  have e1:AU V1=some ⟨b,0,none⟩:=by unfold AU;rw[e0];rfl
  have hX3: ∀W1,AB 2 enC W1 (AU V1) X->Al W1 b (0+P.length*2) (enC x):=fun W1 h=>by
   obtain⟨b',off',e',h⟩:=hX2 W1 h
   rw[e1] at e'
   cases e'
   rw[hPl]
   exact h
  refine zR I<|zA<|zB<|A3 I<|Ao 118 (slv (some ⟨b,0,none⟩) X.length (Bd V1)) I (by rw[e1])<|wI I I (by show(0:Int)<=(P.length:Nat);omega) (by show((P.length:Nat):Int)<(X.length:Nat);omega)<|wL 0 I I (fun W1 hp=>hX3 W1 (EI Ij hp 0 hV1 I)) I<|?_
  refine BK (v:= .tuple #[str (S++Bv x), .int .i64 0]) I I I I I I (by kernel_rfl) (fun W1 hp=>by
   have:=HH S (by omega) x (by omega) W1 (hv.hp hp) (ht.hp hp) (hw.hp hp)
   rw[eA_] at this
   exact this) ?_
  refine A8 I<|zC<|zE<|zA<|zB<|A8 I<|Ao 130 (.int .i64 ((S++Bv x).length:Nat)) I (congrArg (fun n:Nat=>Value.int .i64 (n:Int)) (A5 _))<|Aa I<|Ao 132 (.int .i64 (T.length:Nat)) I (congrArg (fun n:Nat=>Value.int .i64 (n:Int)) (A5 _))<|wP I<|wU 133 false I (dF (show¬(((S++Bv x).length:Nat):Int)<=(T.length:Nat) by rw[List.length_append];omega))<|A3 I<|?_
  refine BK (v:= .bool true) I I I I I I (by kernel_rfl) (fun W1 _=>by
   have:=Jo (S++Bv x) T W1
   rw[show hasPrefix (S++Bv x) T=true by rw[htk, <-hS,het, <-List.append_assoc];exact SV _ _] at this
   exact this) ?_
  exact Aa I<|zC<|zE<|zS I<|zI<|Au () tO ⟨I,I,tO⟩ [] I
 intro _ _
 refine zA<|zB<|wP I<|Ak Tryz.hZ tH I I I I I I I I ?_
 refine wC I I (fun W1 hp=>HH T (by omega) aE_ (by decide) W1 (hv.hp hp) (ht.hp hp) (hw.hp hp)) ?_
 have eA_:appJ T aE_=if S.length<T.length then([],29) else if 1048576<(T++Bv aE_).length then([],4) else(T++Bv aE_,0):=by
  unfold appJ
  rw[if_neg (fun h=>h Jx),eR_,if_neg (fun h=>h rfl)]
 by_cases c1:S.length<T.length
 ·rw[if_pos c1] at eA_
  rw[eA_]
  refine A8 I<|zC<|zE<|zA<|zB<|A8 I<|Ao 151 (.int .i64 (T.length:Nat)) I (congrArg (fun n:Nat=>Value.int .i64 (n:Int)) (A5 _))<|wP I<|wU 152 false I (beq_eq_false_iff_ne.2 (show((S.length:Nat):Int)≠(T.length:Nat) by omega))<|Kf Tryz.underlying4 I I I I I I ?_
  iterate 9 refine wP I ?_
  exact wC I I (fun W1 hp=>FY W1 (hv.hp hp) (ht.hp hp) (hw.hp hp))<|Aa I<|zC<|zE<|zO<|wR1 I I I
 ·have hra:(Bv aE_).length<=45:=Mk aE_ (by decide) (by decide) (by decide)
  rw[if_neg c1,if_neg (by rw[List.length_append];omega)] at eA_
  rw[eA_]
  refine A8 I<|zC<|zE<|zA<|zB<|A8 I<|Ao 151 (.int .i64 (T.length:Nat)) I (congrArg (fun n:Nat=>Value.int .i64 (n:Int)) (A5 _))<|wP I<|wU 152 true I (beq_iff_eq.2 (show((S.length:Nat):Int)=(T.length:Nat) by omega))<|Kf Tryz.underlying4 I I I I I I ?_
  refine A3 I<|?_
  iterate 2 refine Ac I I ?_
  exact Ae I<|wC I I (fun W1 hp=>FY W1 (hv.hp hp) (ht.hp hp) (hw.hp hp))<|Aa I<|zC<|zE<|zO<|wR1 I I I
end
end Go.Proofs.YtidgbjcdppjknaaGreatDoor
