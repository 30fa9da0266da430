/-
  Lemmas that the theorem openingDisjoint_upto_card needs (part 7 of 8).
-/
import Derived.Test.YtndkgionklmdfaaGreatDoorOjf
import Derived.Test.YtndkgionklmdfaaGreatDoorRows
import Derived.Deep.Slices
import Derived.ChangeArms
import Derived.ChangeShapes
import Derived.WideShapes
import Derived.Carry
import Derived.ChangeMaps5
set_option maxHeartbeats 64000000
namespace Go.Proofs.YtndkgionklmdfaaGreatDoor
section
open Go Go.RowKit Go.Am Go.Lib
set_option maxRecDepth 10000
-- BOXES 6
-- CODE2
def CR (P:Nat→Ar):Nat→List Ar
 |0=>[]
 |k+1=>P k::Cl (P k) (CR P k)
theorem Ik (p:Ar):Cl p []=[]:=by simp[Cl]
theorem Il (p b:Ar):Cl p [b]=[b]:=by simp[Cl]
theorem Ii {p a b:Ar} {t:List Ar} (h:Ew a b p≤0):Cl p (b::a::t)=Cl p (a::t):=by rw[Cl,if_pos h]
theorem GX {p a b:Ar} {t:List Ar} (h: ¬Ew a b p≤0):Cl p (b::a::t)=b::a::t:=by rw[Cl,if_neg h]
theorem Ip (p:Ar): ∀r,(Cl p r).length≤r.length
 |[]=>by rw[Ik];exact Nat.le_refl _
 |[b]=>by rw[Il];exact Nat.le_refl _
 |b::a::t=>by
  by_cases h:Ew a b p≤0
  ·rw[Ii h]
   have:=Ip p (a::t)
   simp only[List.length_cons] at this⊢
   omega
  ·rw[GX h];exact Nat.le_refl _
theorem Lf {p x:Ar}: ∀ {r:List Ar},x∈Cl p r→x∈r
 |[],h=>by rwa [Ik] at h
 |[b],h=>by rwa [Il] at h
 |b::a::t,h=>by
  by_cases c:Ew a b p≤0
  ·rw[Ii c] at h
   exact List.mem_cons_of_mem _ (Lf h)
  ·rwa [GX c] at h
theorem GR (P:Nat→Ar): ∀k,(CR P k).length≤k
 |0=>Nat.le_refl _
 |k+1=>by
  have h1:=GR P k
  have h2:=Ip (P k) (CR P k)
  show(Cl (P k) (CR P k)).length+1≤k+1
  omega
theorem PD {P:Nat→Ar} {x:Ar}: ∀ {k:Nat},x∈CR P k→ ∃i,i<k∧x=P i
 |0,h=>absurd h List.not_mem_nil
 |k+1,h=>by
  rcases List.mem_cons.1 h with rfl|h
  ·exact⟨k,by omega,I⟩
  ·obtain⟨i,hi,e⟩:=PD (Lf h)
   exact⟨i,by omega,e⟩
theorem N4 (l:List Ar): ∀(P:Nat→Ar),(∀i (h:i<l.length),P i=l[i])→CR P l.length=DI l:=by
 have key: ∀(m:List Ar) (r:List Ar) (P:Nat→Ar) (j:Nat),CR P j=r→(∀i (h:i<m.length),P (j+i)=m[i])→CR P (j+m.length)=m.foldl (fun r p=>p::Cl p r) r:=by
  intro m
  induction m with
  |nil=>exact fun r P j h _=>h
  |cons x m ih=>
   intro r P j h hP
   have e0:P j=x:=hP 0 (by simp)
   rw[List.length_cons,show j+(m.length+1)=j+1+m.length by omega]
   rw[List.foldl_cons]
   refine ih _ P (j+1) ?_ fun i hi=> ?_
   ·show P j::Cl (P j) (CR P j)=_
    rw[e0,h]
   ·have:=hP (i+1) (by rw[List.length_cons];omega)
    rw[show j+1+i=j+(i+1) by omega,this];rfl
 intro P hP
 have:=key l [] P 0 rfl (fun i h=>by rw[Nat.zero_add];exact hP i h)
 rwa [Nat.zero_add] at this
theorem QD (l:List Ar):CR (Av l) l.length=DI l:=N4 l _ fun _ h=>CT h
theorem Pq (l:List Ar):CR (fun k=>Av l (l.length-1-k)) l.length=DI l.reverse:=by
 have:=N4 l.reverse (fun k=>Av l (l.length-1-k)) fun i h=>by
  rw[List.length_reverse] at h
  show Av l (l.length-1-i)=_
  rw[CT (by omega),List.getElem_reverse]
 rwa [List.length_reverse] at this
theorem Wp (p q r:Ar):decide (Rr p q r≤0)=decide (Ew p q r≤0):=by
 unfold Rr
 rw[NQ]
 exact decide_eq_decide.2 (by unfold Ew;constructor<;>intro h<;>grind)
abbrev JI (c:Nat) (x y z:Ar) (W:World):Prop:=Ad Tryz.prog 325 #[Af c,cvV x,cvV y,cvV z] W (fun _:Unit=> .int .i64 (Rr x y z)) (fun _=>True) (fun _=>[])
theorem Sf (a b:Ar) (t:List Ar) (j:List Value):ptC (b::a::t).reverse++j=ptC t.reverse++([str (Ac a.1),str (Ac a.2)]++([str (Ac b.1),str (Ac b.2)]++j)):=by
 rw[List.reverse_cons,List.reverse_cons,C1,C1,List.append_assoc,List.append_assoc];rfl
theorem Sp (b:Ar) (t:List Ar) (j:List Value):ptC t.reverse++(ptC [b]++j)=ptC (b::t).reverse++j:=by
 rw[List.reverse_cons,C1,List.append_assoc]
theorem St {g cap:Nat} {j:List Value} {b:Ar} {t:List Ar} (h:(⟨some g,cap,j⟩:Vec).OK 2 (b::t).length (ptC (b::t).reverse)):(⟨some g,cap,ptC [b]++j⟩:Vec).OK 2 t.length (ptC t.reverse):=by
 obtain⟨h1,h2,h3⟩:=h.cap (by simp)
 refine⟨by rw[B1,List.length_reverse],(fun e=>by cases e),fun _=>⟨?_,h2, ?_⟩⟩
 ·have h1:t.length+1≤cap:=h1
  show t.length≤cap
  omega
 ·rw[B1,List.length_reverse] at h3
  show(ptC t.reverse).length+(ptC [b]++j).length=cap*2
  have h3:(t.length+1)*2+j.length=cap*2:=h3
  rw[B1,List.length_reverse,List.length_append]
  show t.length*2+(2+j.length)=cap*2
  omega
theorem Kf (bk c gf:Nat) (lb:List Value) (hE:AN Tryz.prog gf=true) (m:Nat) (ix:Nat→Nat) (P:Nat→Ar) (Need:Nat→World→Prop) (hI:N1 Tryz.prog gf lb m (TQ ix P) Need) (h0:0<m) (hm:m≤4096) (W:World) (hk:Ai W bk 0 [Af c])
  (hN: ∀k W1,Below W.heap.size W W1→Need k W1) (hL: ∀i j k,i<m→j<m→k<m→ ∀W1,Below W.heap.size W W1→JI c (P i) (P j) (P k) W1):
  Ad Tryz.prog 324 #[.func (.func gf) #[] lb.toArray,Af bk] W (fun V:Vec=>V.val ((CR P m).length-1)) (fun V=>V.OK 2 ((CR P m).length-1) (ptC (CR P m).tail.reverse)∧V.p≠none) (fun V=>[V.bx 62 (ptC (CR P m).tail.reverse)]):=by
 obtain⟨S,hS⟩: ∃S,S=CR P m:=⟨_,rfl⟩
 rw[←hS]
 refine Ab (args:=[.func (.func gf) #[] lb.toArray,Af bk]) Tryz.func324 I I I ?_
 refine zA (zB (wP I (Aa (zE (zA (zB ?_))))))
 (refine Ae Tryz.hZ rfl rfl rfl rfl ?_;intro)
 refine Aa ?_
 rename_i b4
 refine zE (zA (zA (zB (wP I (Aa (zE (zH ?_)))))))
 refine Cp ?_
 refine Eh (X:=Nat×Vec) (fun x=>[lsB b4 (x.2.val (CR P x.1).length),x.2.bx 62 (ptC (CR P x.1).reverse)])
  (fun j x=>x.1=j∧x.2.OK 2 (CR P x.1).length (ptC (CR P x.1).reverse)) (fun _ _=>False) (0,Vec.empty) rfl hE hI (fun _=>rfl)
  ⟨rfl,Vec.OK.empty 2⟩ [] rfl (fun k x W1 _ hp=>hN k W1 hp.below) ?_ ?_ (fun _ _ _ _ _ h=>h.elim)
 ·rintro k ⟨k',O⟩ d l' rec L hk1 ⟨e1,hO⟩ hrec
  obtain rfl:k'=k:=e1
  have hk1:k'<m:=hk1
  have hO:O.OK 2 (CR P k').length (ptC (CR P k').reverse):=hO
  have hlen:=GR P k'
  have hsu:CR P (k'+1)=P k'::Cl (P k') (CR P k'):=rfl
  have hmem: ∀x∈CR P k', ∃i,i<m∧x=P i:=fun x hx=>by
   obtain⟨i,hi,e⟩:=PD hx
   exact⟨i,by omega,e⟩
  obtain⟨r1,hr1⟩: ∃r1,r1=Cl (P k') (CR P k'):=⟨_,rfl⟩
  have hlr:r1.length≤(CR P k').length:=by rw[hr1];exact Ip _ _
  rw[←hr1] at hsu
  refine zB ?_
  (refine Ae Tryz.hZ rfl rfl rfl rfl ?_;intro)
  refine wS 5 I I I (Aa ?_)
  rename_i b6
  refine B4 4 hrec I ?_
  refine B6 ?_
  refine FC (X:=Vec) (fun _=>[(1,Af bk),(4,Af b4),(6,Af b6)]) (fun O=>[AS L,lsB b4 (O.val r1.length),O.bx 62 (ptC r1.reverse),Bz d,Bb l' rec .busy none,ptB b6 (Ac (P k').1) (Ac (P k').2)]) (fun O=>O.OK 2 r1.length (ptC r1.reverse)) ?_ ?_
  ·refine zH ?_
   refine Aw (X:=List Ar×Vec) (fun _=>[(1,Af bk),(4,Af b4),(6,Af b6)]) (fun s=>[AS L,lsB b4 (s.2.val s.1.length),s.2.bx 62 (ptC s.1.reverse),Bz d,Bb l' rec .busy none,ptB b6 (Ac (P k').1) (Ac (P k').2)])
    (fun s=>Cl (P k') s.1=r1∧(∀x∈s.1,x∈CR P k')∧s.1.length≤4096∧s.2.OK 2 s.1.length (ptC s.1.reverse)) (fun s=>s.1.length) (CR P k',O) ⟨hr1.symm,fun _ h=>h,by show(CR P k').length≤4096;omega,hO⟩ ⟨rfl,rfl,rfl,trivial⟩ [] rfl ?_
   rintro⟨r,⟨pO,cO,jO⟩⟩ ⟨i1,i2,i3,i4⟩
   have i1:Cl (P k') r=r1:=i1
   have i2: ∀x∈r,x∈CR P k':=i2
   have i3:r.length≤4096:=i3
   have i4:(⟨pO,cO,jO⟩:Vec).OK 2 r.length (ptC r.reverse):=i4
   rcases r with _|⟨b,_|⟨a,t⟩⟩
   ·obtain rfl:r1=[]:=by rw[←i1,Ik]
    cases pO with
    |none=>
     refine zA (zA (zU (qB 1 I I I (qP I (qP I ?_)))))
     refine Eg 12 (.bool false) I I ?_
     refine qP I ?_
     iterate 16 refine EL I I ?_
     exact qP I (AB (Aa (zE (zS I (zJ (zK (zK (zL (An (⟨none,cO,jO⟩:Vec) i4 ⟨I,I,I,tO⟩ [] I)))))))))
    |some g=>
     refine zA (zA (zU (qB 1 I I I (qP I (qP I ?_)))))
     refine Eg 12 (.bool false) I I ?_
     refine qP I ?_
     iterate 16 refine EL I I ?_
     exact qP I (AB (Aa (zE (zS I (zJ (zK (zK (zL (An (⟨some g,cO,jO⟩:Vec) i4 ⟨I,I,I,tO⟩ [] I)))))))))
   ·obtain rfl:r1=[b]:=by rw[←i1,Il]
    cases pO with
    |none=>exact absurd (i4.nil rfl) (by simp)
    |some g=>
    refine zA (zA (zU (qB 1 I I I (qP I (qP I ?_)))))
    refine Eg 12 (.bool false) I I ?_
    refine qP I ?_
    iterate 16 refine EL I I ?_
    exact qP I (AB (Aa (zE (zS I (zJ (zK (zK (zL (An (⟨some g,cO,jO⟩:Vec) i4 ⟨I,I,I,tO⟩ [] I)))))))))
   ·cases pO with
    |none=>exact absurd (i4.nil rfl) (by simp)
    |some g=>
    have i3:t.length+1+1≤4096:=i3
    have el:(b::a::t).length=t.length+2:=rfl
    obtain⟨ia,ha,ea⟩:=hmem a (i2 a (by simp))
    obtain⟨ib,hb,eb⟩:=hmem b (i2 b (by simp))
    have hleft: ∀W1,Below W.heap.size W W1→JI c a b (P k') W1:=fun W1 h=>by rw[ea,eb];exact hL ia ib k' ha hb hk1 W1 h
    have hA:(ptC t.reverse).length=t.length*2:=by rw[B1,List.length_reverse]
    refine zA (zA (zU (qB 1 I I I (qP I (qP I (qU 12 true I (dT (by rw[el];omega)) (qP I (qL 0 I I (fun W1 hp=>hk.hp hp) I (qB 1 I I I (qB 1 I I I (qP I (qP I (qV 18 ((t.length:Nat):Int) I (show w64 (((b::a::t).length:Int)-2)=_ by rw[el,Ap (by omega) (by omega)];omega) ?_)))))))))))))
    refine qI I I (by omega) (by rw[el];omega) (qL 0 I I (fun W1 hp=>show Ai W1 g (0+t.length*2) [str (Ac a.1),str (Ac a.2)] from G6 hp 2 (A:=ptC t.reverse) (C:=[str (Ac b.1),str (Ac b.2)]++jO) I (Sf a b t jO) (by rw[hA];omega)) I (qB 1 I I I (qB 1 I I I (qP I (qP I (qV 24 ((t.length+1:Nat):Int) I (show w64 (((b::a::t).length:Int)-1)=_ by rw[el,Ap (by omega) (by omega)];omega) (qI I I (by omega) (by rw[el];omega) (qL 0 I I (fun W1 hp=>show Ai W1 g (0+(t.length+1)*2) [str (Ac b.1),str (Ac b.2)] from G6 hp 2 (A:=ptC t.reverse++[str (Ac a.1),str (Ac a.2)]) (C:=jO) I ((Sf a b t jO).trans (by rw[List.append_assoc])) (by rw[List.length_append,hA];show 0+(t.length+1)*2=t.length*2+2;omega)) I (qB 5 I I I (qC I I (fun W1 hp=>hleft W1 hp.below) (qP I (qU 29 (decide (Ew a b (P k')≤0)) I (Wp a b (P k')) (qP I ?_)))))))))))))
    refine AB (Aa (zE ?_))
    refine Aj I (fun hc=> ?_) (fun hc=> ?_)
    ·have hc':Ew a b (P k')≤0:=of_decide_eq_true hc
     refine zI (zE (zH (zB (wB 1 I I I (wB 1 I I I (wP I (wP I (wV 34 ((t.length+1:Nat):Int) I (show w64 (((b::a::t).length:Int)-1)=_ by rw[el,Ap (by omega) (by omega)];omega) ?_))))))))
     refine Bm (t.length+1) tH I I I I I I I I (by have h2:t.length+2≤cO:=(i4.cap (by simp)).1;show t.length+1≤cO;omega) ?_
     refine wS 1 I I I (Aa (zN ?_))
     exact Al (a::t,(⟨some g,cO,ptC [b]++jO⟩:Vec)) ⟨by rw[←i1,Ii hc'],fun x hx=>i2 x (List.mem_cons_of_mem _ hx),by show t.length+1≤4096;omega,St i4⟩ (by show t.length+1<t.length+1+1;omega) ⟨I,I,I,tO⟩ []
      (by show _=[AS L,lsB b4 (.slice (some ⟨g,0,none⟩) (t.length+1) cO),(⟨g,62,ptC (a::t).reverse++(ptC [b]++jO),true,none⟩:Bx),Bz d,Bb l' rec .busy none,ptB b6 (Ac (P k').1) (Ac (P k').2)];rw[Sp];rfl)
    ·have hc': ¬Ew a b (P k')≤0:=of_decide_eq_false hc
     obtain rfl:r1=b::a::t:=by rw[←i1,GX hc']
     exact zJ (zK (zK (zL (An (⟨some g,cO,jO⟩:Vec) i4 ⟨I,I,I,tO⟩ [] I))))
  ·intro O1 hO1
   have hO1:O1.OK 2 r1.length (ptC r1.reverse):=hO1
   refine zB (wB 1 I I I (wB 5 I I I ?_))
   refine At Tryz.hZ tH I I I I I I I I I I I fun bS=> ?_
   refine AH (V:=O1) (len:=r1.length) (xs:=ptC r1.reverse) 2 6 Tryz.vec210 (r1.length+1) (ptC (P k'::r1).reverse) I I I I I I I I I I I hO1 I I I (by rw[List.reverse_cons,C1];rfl) (by simp only[maxLen];omega) (by omega) I ?_
   intro gO cO jO hO2
   exact wS 1 I I I (Aa (zN (Bg 4 (k'+1,(⟨some gO,cO,jO⟩:Vec)) hrec I ⟨I,by show(⟨some gO,cO,jO⟩:Vec).OK 2 (CR P (k'+1)).length (ptC (CR P (k'+1)).reverse);rw[hsu];exact hO2⟩ [_,_] (by rw[hsu];rfl))))
 ·rintro⟨k',⟨pO,cO,jO⟩⟩ d l' rec ⟨e1,hO⟩
  obtain rfl:k'=m:=e1
  have hO:(⟨pO,cO,jO⟩:Vec).OK 2 (CR P k').length (ptC (CR P k').reverse):=hO
  have hlen:=GR P k'
  have hne:S≠[]:=by
   obtain⟨j,rfl⟩: ∃j,k'=j+1:=⟨k'-1,by omega⟩
   rw[hS]
   exact List.cons_ne_nil _ _
  rw[←hS] at hO hlen
  rw[←hS]
  clear hS
  obtain⟨b,t,rfl⟩: ∃b t,S=b::t:=by
   cases S with
   |nil=>exact absurd rfl hne
   |cons b t=>exact⟨b,t,rfl⟩
  cases pO with
  |none=>exact absurd (hO.nil rfl) (by simp)
  |some g=>
  have hlen:t.length+1≤k':=hlen
  have el:(b::t).length=t.length+1:=rfl
  refine zN (zE (zA (zB (wB 0 I I I (wB 0 I I I (wP I (wP I (wV 43 (t.length:Nat) I (show w64 (((b::t).length:Int)-1)=_ by rw[el,Ap (by omega) (by omega)];omega) ?_))))))))
  refine Bm t.length tH I I I I I I I I (by have h2:t.length+1≤cO:=(hO.cap (by simp)).1;show t.length≤cO;omega) ?_
  refine wP I (Aa (zE (zO ?_)))
  refine BK 2 I ?_
  exact Ay tH I (.tmp I) (⟨some g,cO,ptC [b]++jO⟩:Vec) I ⟨St hO,by simp⟩ fun W1 hp=>by
   have h1:=hp.pick (l:=[(⟨g,62,ptC (b::t).reverse++jO,true,none⟩:Bx)]) [1] (by decide) rfl
   rw[←Sp] at h1
   exact As.of_hp h1
-- BOXES 5
theorem K0 (p q:Rat) (hkp:okQ p) (hkq:okQ q) (h:BC p q) (W0:World) (hv:AL W0) (ht:AA W0):
  Ad Tryz.prog 159 #[str (Ac p),str (Ac q)] W0 (fun _:Unit=> .tuple #[.int .i64 (FN (p.num*(q.den:Nat)) (q.num*(p.den:Nat))), .int .i64 0]) (fun _=>True) (fun _=>[]):=by
 have hlp:=AQ hkp
 have hlq:=AQ hkq
 refine Ab (args:=[str (Ac p),str (Ac q)]) Tryz.func159 I I I ?_
 repeat (first|refine zA ?_|refine zB ?_|refine zC ?_|refine zD ?_|refine zE ?_|refine zF ?_|refine zG ?_|refine zH ?_|refine zI ?_|refine zJ ?_|refine zK ?_|refine zL ?_|refine zM rfl ?_|refine zN ?_|refine zO ?_|refine zP ?_|refine zQ ?_|refine zR rfl ?_|refine zS rfl ?_|refine zU ?_)
 refine wP I (wP I (Aa (A8 (Az ?_))))
 refine AC (X:=Unit) (fun _=>[(0,str (Ac p)),(1,str (Ac q)),(4, .int .i64 0),(5, .int .i64 0)]) (fun _=>[]) (fun _=>True) ?_ ?_
 ·repeat (first|refine zA ?_|refine zB ?_|refine zC ?_|refine zD ?_|refine zE ?_|refine zF ?_|refine zG ?_|refine zH ?_|refine zI ?_|refine zJ ?_|refine zK ?_|refine zL ?_|refine zM rfl ?_|refine zN ?_|refine zO ?_|refine zP ?_|refine zQ ?_|refine zR rfl ?_|refine zS rfl ?_|refine zU ?_)
  refine wP I ?_
  by_cases hp:smQ p
  ·refine wC I I (fun W _=>(AM (Ac p) (by omega) W).cast ((B7 p).trans (if_pos hp))) (wP I (wP I (wP I ?_)))
   (refine Ae Tryz.hZ rfl rfl rfl rfl ?_;intro)
   (first|refine wS 0 rfl rfl rfl ?_|refine wS 1 rfl rfl rfl ?_|refine wS 2 rfl rfl rfl ?_|refine wS 3 rfl rfl rfl ?_|refine wS 4 rfl rfl rfl ?_)
   refine wP I (Aa ?_)
   rename_i b6
   repeat (first|refine zA ?_|refine zB ?_|refine zC ?_|refine zD ?_|refine zE ?_|refine zF ?_|refine zG ?_|refine zH ?_|refine zI ?_|refine zJ ?_|refine zK ?_|refine zL ?_|refine zM rfl ?_|refine zN ?_|refine zO ?_|refine zP ?_|refine zQ ?_|refine zR rfl ?_|refine zS rfl ?_|refine zU ?_)
   refine wP I (Aa ?_)
   repeat (first|refine zA ?_|refine zB ?_|refine zC ?_|refine zD ?_|refine zE ?_|refine zF ?_|refine zG ?_|refine zH ?_|refine zI ?_|refine zJ ?_|refine zK ?_|refine zL ?_|refine zM rfl ?_|refine zN ?_|refine zO ?_|refine zP ?_|refine zQ ?_|refine zR rfl ?_|refine zS rfl ?_|refine zU ?_)
   refine wP I ?_
   by_cases hq:smQ q
   ·refine wC I I (fun W _=>(AM (Ac q) (by omega) W).cast ((B7 q).trans (if_pos hq))) (wP I (wP I (wP I ?_)))
    (refine Ae Tryz.hZ rfl rfl rfl rfl ?_;intro)
    (first|refine wS 0 rfl rfl rfl ?_|refine wS 1 rfl rfl rfl ?_|refine wS 2 rfl rfl rfl ?_|refine wS 3 rfl rfl rfl ?_|refine wS 4 rfl rfl rfl ?_)
    refine wP I (Aa ?_)
    rename_i b8
    repeat (first|refine zA ?_|refine zB ?_|refine zC ?_|refine zD ?_|refine zE ?_|refine zF ?_|refine zG ?_|refine zH ?_|refine zI ?_|refine zJ ?_|refine zK ?_|refine zL ?_|refine zM rfl ?_|refine zN ?_|refine zO ?_|refine zP ?_|refine zQ ?_|refine zR rfl ?_|refine zS rfl ?_|refine zU ?_)
    refine wP I (Aa ?_)
    repeat (first|refine zA ?_|refine zB ?_|refine zC ?_|refine zD ?_|refine zE ?_|refine zF ?_|refine zG ?_|refine zH ?_|refine zI ?_|refine zJ ?_|refine zK ?_|refine zL ?_|refine zM rfl ?_|refine zN ?_|refine zO ?_|refine zP ?_|refine zQ ?_|refine zR rfl ?_|refine zS rfl ?_|refine zU ?_)
    refine wP I ?_
    (first|refine wB 0 rfl rfl rfl ?_|refine wB 1 rfl rfl rfl ?_|refine wB 2 rfl rfl rfl ?_|refine wB 3 rfl rfl rfl ?_|refine wB 4 rfl rfl rfl ?_)
    refine wP I ?_
    (first|refine wB 0 rfl rfl rfl ?_|refine wB 1 rfl rfl rfl ?_|refine wB 2 rfl rfl rfl ?_|refine wB 3 rfl rfl rfl ?_|refine wB 4 rfl rfl rfl ?_)
    refine wP I (wV 31 (p.num*(q.den:Nat)) I (Ci hp.1 (CB q hq)) (wP I ?_))
    (first|refine wB 0 rfl rfl rfl ?_|refine wB 1 rfl rfl rfl ?_|refine wB 2 rfl rfl rfl ?_|refine wB 3 rfl rfl rfl ?_|refine wB 4 rfl rfl rfl ?_)
    refine wP I ?_
    (first|refine wB 0 rfl rfl rfl ?_|refine wB 1 rfl rfl rfl ?_|refine wB 2 rfl rfl rfl ?_|refine wB 3 rfl rfl rfl ?_|refine wB 4 rfl rfl rfl ?_)
    refine wP I (wV 36 (q.num*(p.den:Nat)) I (Ci hq.1 (CB p hp)) (wC I I (fun W _=>Io _ _ W) (wP I (wP I (Aa ?_)))))
    repeat (first|refine zA ?_|refine zB ?_|refine zC ?_|refine zD ?_|refine zE ?_|refine zF ?_|refine zG ?_|refine zH ?_|refine zI ?_|refine zJ ?_|refine zK ?_|refine zL ?_|refine zM rfl ?_|refine zN ?_|refine zO ?_|refine zP ?_|refine zQ ?_|refine zR rfl ?_|refine zS rfl ?_|refine zU ?_)
    exact wR2 I I I
   ·refine wC I I (fun W _=>(AM (Ac q) (by omega) W).cast ((B7 q).trans (if_neg hq))) (wP I (wP I (wP I ?_)))
    (refine Ae Tryz.hZ rfl rfl rfl rfl ?_;intro)
    (first|refine wS 0 rfl rfl rfl ?_|refine wS 1 rfl rfl rfl ?_|refine wS 2 rfl rfl rfl ?_|refine wS 3 rfl rfl rfl ?_|refine wS 4 rfl rfl rfl ?_)
    refine wP I (Aa ?_)
    repeat (first|refine zA ?_|refine zB ?_|refine zC ?_|refine zD ?_|refine zE ?_|refine zF ?_|refine zG ?_|refine zH ?_|refine zI ?_|refine zJ ?_|refine zK ?_|refine zL ?_|refine zM rfl ?_|refine zN ?_|refine zO ?_|refine zP ?_|refine zQ ?_|refine zR rfl ?_|refine zS rfl ?_|refine zU ?_)
    refine wP I (Aa ?_)
    repeat (first|refine zA ?_|refine zB ?_|refine zC ?_|refine zD ?_|refine zE ?_|refine zF ?_|refine zG ?_|refine zH ?_|refine zI ?_|refine zJ ?_|refine zK ?_|refine zL ?_|refine zM rfl ?_|refine zN ?_|refine zO ?_|refine zP ?_|refine zQ ?_|refine zR rfl ?_|refine zS rfl ?_|refine zU ?_)
    exact An () tO ⟨I,I,I,I,tO⟩ _ I
  ·refine wC I I (fun W _=>(AM (Ac p) (by omega) W).cast ((B7 p).trans (if_neg hp))) (wP I (wP I (wP I ?_)))
   (refine Ae Tryz.hZ rfl rfl rfl rfl ?_;intro)
   (first|refine wS 0 rfl rfl rfl ?_|refine wS 1 rfl rfl rfl ?_|refine wS 2 rfl rfl rfl ?_|refine wS 3 rfl rfl rfl ?_|refine wS 4 rfl rfl rfl ?_)
   refine wP I (Aa ?_)
   repeat (first|refine zA ?_|refine zB ?_|refine zC ?_|refine zD ?_|refine zE ?_|refine zF ?_|refine zG ?_|refine zH ?_|refine zI ?_|refine zJ ?_|refine zK ?_|refine zL ?_|refine zM rfl ?_|refine zN ?_|refine zO ?_|refine zP ?_|refine zQ ?_|refine zR rfl ?_|refine zS rfl ?_|refine zU ?_)
   refine wP I (Aa ?_)
   repeat (first|refine zA ?_|refine zB ?_|refine zC ?_|refine zD ?_|refine zE ?_|refine zF ?_|refine zG ?_|refine zH ?_|refine zI ?_|refine zJ ?_|refine zK ?_|refine zL ?_|refine zM rfl ?_|refine zN ?_|refine zO ?_|refine zP ?_|refine zQ ?_|refine zR rfl ?_|refine zS rfl ?_|refine zU ?_)
   exact An () tO ⟨I,I,I,I,tO⟩ _ I
 ·intro _ _
  repeat (first|refine zA ?_|refine zB ?_|refine zC ?_|refine zD ?_|refine zE ?_|refine zF ?_|refine zG ?_|refine zH ?_|refine zI ?_|refine zJ ?_|refine zK ?_|refine zL ?_|refine zM rfl ?_|refine zN ?_|refine zO ?_|refine zP ?_|refine zQ ?_|refine zR rfl ?_|refine zS rfl ?_|refine zU ?_)
  refine wP I (wC I I (fun W hp=>(BL (Ac p) (by omega) W (hv.hp hp) (ht.hp hp)).cast (Gz hkp)) (wP I (wP I (wP I ?_))))
  (refine Ae Tryz.hZ rfl rfl rfl rfl ?_;intro)
  (first|refine wS 0 rfl rfl rfl ?_|refine wS 1 rfl rfl rfl ?_|refine wS 2 rfl rfl rfl ?_|refine wS 3 rfl rfl rfl ?_|refine wS 4 rfl rfl rfl ?_)
  refine wP I (Aa ?_)
  rename_i b10
  repeat (first|refine zA ?_|refine zB ?_|refine zC ?_|refine zD ?_|refine zE ?_|refine zF ?_|refine zG ?_|refine zH ?_|refine zI ?_|refine zJ ?_|refine zK ?_|refine zL ?_|refine zM rfl ?_|refine zN ?_|refine zO ?_|refine zP ?_|refine zQ ?_|refine zR rfl ?_|refine zS rfl ?_|refine zU ?_)
  refine wP I (wP I (Aa ?_))
  repeat (first|refine zA ?_|refine zB ?_|refine zC ?_|refine zD ?_|refine zE ?_|refine zF ?_|refine zG ?_|refine zH ?_|refine zI ?_|refine zJ ?_|refine zK ?_|refine zL ?_|refine zM rfl ?_|refine zN ?_|refine zO ?_|refine zP ?_|refine zQ ?_|refine zR rfl ?_|refine zS rfl ?_|refine zU ?_)
  refine wP I (wC I I (fun W hp=>(BL (Ac q) (by omega) W (hv.hp hp) (ht.hp hp)).cast (Gz hkq)) (wP I (wP I (wP I ?_))))
  (refine Ae Tryz.hZ rfl rfl rfl rfl ?_;intro)
  (first|refine wS 0 rfl rfl rfl ?_|refine wS 1 rfl rfl rfl ?_|refine wS 2 rfl rfl rfl ?_|refine wS 3 rfl rfl rfl ?_|refine wS 4 rfl rfl rfl ?_)
  refine wP I (Aa ?_)
  rename_i b12
  repeat (first|refine zA ?_|refine zB ?_|refine zC ?_|refine zD ?_|refine zE ?_|refine zF ?_|refine zG ?_|refine zH ?_|refine zI ?_|refine zJ ?_|refine zK ?_|refine zL ?_|refine zM rfl ?_|refine zN ?_|refine zO ?_|refine zP ?_|refine zQ ?_|refine zR rfl ?_|refine zS rfl ?_|refine zU ?_)
  refine wP I (wP I (Aa ?_))
  repeat (first|refine zA ?_|refine zB ?_|refine zC ?_|refine zD ?_|refine zE ?_|refine zF ?_|refine zG ?_|refine zH ?_|refine zI ?_|refine zJ ?_|refine zK ?_|refine zL ?_|refine zM rfl ?_|refine zN ?_|refine zO ?_|refine zP ?_|refine zQ ?_|refine zR rfl ?_|refine zS rfl ?_|refine zU ?_)
  (first|refine wB 0 rfl rfl rfl ?_|refine wB 1 rfl rfl rfl ?_|refine wB 2 rfl rfl rfl ?_|refine wB 3 rfl rfl rfl ?_|refine wB 4 rfl rfl rfl ?_)
  (first|refine wB 0 rfl rfl rfl ?_|refine wB 1 rfl rfl rfl ?_|refine wB 2 rfl rfl rfl ?_|refine wB 3 rfl rfl rfl ?_|refine wB 4 rfl rfl rfl ?_)
  refine wC I I (fun W hp=>CD p q hkp hkq h.1 h.2 W (ht.hp hp)) ?_
  iterate 7 refine wP I ?_
  refine Aa ?_
  repeat (first|refine zA ?_|refine zB ?_|refine zC ?_|refine zD ?_|refine zE ?_|refine zF ?_|refine zG ?_|refine zH ?_|refine zI ?_|refine zJ ?_|refine zK ?_|refine zL ?_|refine zM rfl ?_|refine zN ?_|refine zO ?_|refine zP ?_|refine zQ ?_|refine zR rfl ?_|refine zS rfl ?_|refine zU ?_)
  refine wP I (wP I (Aa ?_))
  repeat (first|refine zA ?_|refine zB ?_|refine zC ?_|refine zD ?_|refine zE ?_|refine zF ?_|refine zG ?_|refine zH ?_|refine zI ?_|refine zJ ?_|refine zK ?_|refine zL ?_|refine zM rfl ?_|refine zN ?_|refine zO ?_|refine zP ?_|refine zQ ?_|refine zR rfl ?_|refine zS rfl ?_|refine zU ?_)
  refine wP I (wP I (wC I I (fun W _=>Hs _ _ h.1 h.2 W) (wP I (wP I (wP I (wP I (Aa ?_)))))))
  repeat (first|refine zA ?_|refine zB ?_|refine zC ?_|refine zD ?_|refine zE ?_|refine zF ?_|refine zG ?_|refine zH ?_|refine zI ?_|refine zJ ?_|refine zK ?_|refine zL ?_|refine zM rfl ?_|refine zN ?_|refine zO ?_|refine zP ?_|refine zQ ?_|refine zR rfl ?_|refine zS rfl ?_|refine zU ?_)
  exact wR2 I I I
theorem K6 (p q:Rat) (hkp:okQ p) (hkq:okQ q) (hno: ¬BC p q) (W0:World) (hv:AL W0) (ht:AA W0):
  Ad Tryz.prog 159 #[str (Ac p),str (Ac q)] W0 (fun _:Unit=> .tuple #[.int .i64 0, .int .i64 4]) (fun _=>True) (fun _=>[]):=by
 obtain⟨s,hs⟩:=H2 p q hkp hkq hno
 have hlp:=AQ hkp
 have hlq:=AQ hkq
 refine Ab (args:=[str (Ac p),str (Ac q)]) Tryz.func159 I I I ?_
 repeat (first|refine zA ?_|refine zB ?_|refine zC ?_|refine zD ?_|refine zE ?_|refine zF ?_|refine zG ?_|refine zH ?_|refine zI ?_|refine zJ ?_|refine zK ?_|refine zL ?_|refine zM rfl ?_|refine zN ?_|refine zO ?_|refine zP ?_|refine zQ ?_|refine zR rfl ?_|refine zS rfl ?_|refine zU ?_)
 refine wP I (wP I (Aa (A8 (Az ?_))))
 refine AC (X:=Unit) (fun _=>[(0,str (Ac p)),(1,str (Ac q)),(4, .int .i64 0),(5, .int .i64 0)]) (fun _=>[]) (fun _=>True) ?_ ?_
 ·repeat (first|refine zA ?_|refine zB ?_|refine zC ?_|refine zD ?_|refine zE ?_|refine zF ?_|refine zG ?_|refine zH ?_|refine zI ?_|refine zJ ?_|refine zK ?_|refine zL ?_|refine zM rfl ?_|refine zN ?_|refine zO ?_|refine zP ?_|refine zQ ?_|refine zR rfl ?_|refine zS rfl ?_|refine zU ?_)
  refine wP I ?_
  by_cases hp:smQ p
  ·refine wC I I (fun W _=>(AM (Ac p) (by omega) W).cast ((B7 p).trans (if_pos hp))) (wP I (wP I (wP I ?_)))
   (refine Ae Tryz.hZ rfl rfl rfl rfl ?_;intro)
   (first|refine wS 0 rfl rfl rfl ?_|refine wS 1 rfl rfl rfl ?_|refine wS 2 rfl rfl rfl ?_|refine wS 3 rfl rfl rfl ?_|refine wS 4 rfl rfl rfl ?_)
   refine wP I (Aa ?_)
   rename_i b6
   repeat (first|refine zA ?_|refine zB ?_|refine zC ?_|refine zD ?_|refine zE ?_|refine zF ?_|refine zG ?_|refine zH ?_|refine zI ?_|refine zJ ?_|refine zK ?_|refine zL ?_|refine zM rfl ?_|refine zN ?_|refine zO ?_|refine zP ?_|refine zQ ?_|refine zR rfl ?_|refine zS rfl ?_|refine zU ?_)
   refine wP I (Aa ?_)
   repeat (first|refine zA ?_|refine zB ?_|refine zC ?_|refine zD ?_|refine zE ?_|refine zF ?_|refine zG ?_|refine zH ?_|refine zI ?_|refine zJ ?_|refine zK ?_|refine zL ?_|refine zM rfl ?_|refine zN ?_|refine zO ?_|refine zP ?_|refine zQ ?_|refine zR rfl ?_|refine zS rfl ?_|refine zU ?_)
   refine wP I ?_
   by_cases hq:smQ q
   ·exact absurd (Rk ⟨hp,hq⟩).2.2.2 hno
   ·refine wC I I (fun W _=>(AM (Ac q) (by omega) W).cast ((B7 q).trans (if_neg hq))) (wP I (wP I (wP I ?_)))
    (refine Ae Tryz.hZ rfl rfl rfl rfl ?_;intro)
    (first|refine wS 0 rfl rfl rfl ?_|refine wS 1 rfl rfl rfl ?_|refine wS 2 rfl rfl rfl ?_|refine wS 3 rfl rfl rfl ?_|refine wS 4 rfl rfl rfl ?_)
    refine wP I (Aa ?_)
    repeat (first|refine zA ?_|refine zB ?_|refine zC ?_|refine zD ?_|refine zE ?_|refine zF ?_|refine zG ?_|refine zH ?_|refine zI ?_|refine zJ ?_|refine zK ?_|refine zL ?_|refine zM rfl ?_|refine zN ?_|refine zO ?_|refine zP ?_|refine zQ ?_|refine zR rfl ?_|refine zS rfl ?_|refine zU ?_)
    refine wP I (Aa ?_)
    repeat (first|refine zA ?_|refine zB ?_|refine zC ?_|refine zD ?_|refine zE ?_|refine zF ?_|refine zG ?_|refine zH ?_|refine zI ?_|refine zJ ?_|refine zK ?_|refine zL ?_|refine zM rfl ?_|refine zN ?_|refine zO ?_|refine zP ?_|refine zQ ?_|refine zR rfl ?_|refine zS rfl ?_|refine zU ?_)
    exact An () tO ⟨I,I,I,I,tO⟩ _ I
  ·refine wC I I (fun W _=>(AM (Ac p) (by omega) W).cast ((B7 p).trans (if_neg hp))) (wP I (wP I (wP I ?_)))
   (refine Ae Tryz.hZ rfl rfl rfl rfl ?_;intro)
   (first|refine wS 0 rfl rfl rfl ?_|refine wS 1 rfl rfl rfl ?_|refine wS 2 rfl rfl rfl ?_|refine wS 3 rfl rfl rfl ?_|refine wS 4 rfl rfl rfl ?_)
   refine wP I (Aa ?_)
   repeat (first|refine zA ?_|refine zB ?_|refine zC ?_|refine zD ?_|refine zE ?_|refine zF ?_|refine zG ?_|refine zH ?_|refine zI ?_|refine zJ ?_|refine zK ?_|refine zL ?_|refine zM rfl ?_|refine zN ?_|refine zO ?_|refine zP ?_|refine zQ ?_|refine zR rfl ?_|refine zS rfl ?_|refine zU ?_)
   refine wP I (Aa ?_)
   repeat (first|refine zA ?_|refine zB ?_|refine zC ?_|refine zD ?_|refine zE ?_|refine zF ?_|refine zG ?_|refine zH ?_|refine zI ?_|refine zJ ?_|refine zK ?_|refine zL ?_|refine zM rfl ?_|refine zN ?_|refine zO ?_|refine zP ?_|refine zQ ?_|refine zR rfl ?_|refine zS rfl ?_|refine zU ?_)
   exact An () tO ⟨I,I,I,I,tO⟩ _ I
 ·intro _ _
  repeat (first|refine zA ?_|refine zB ?_|refine zC ?_|refine zD ?_|refine zE ?_|refine zF ?_|refine zG ?_|refine zH ?_|refine zI ?_|refine zJ ?_|refine zK ?_|refine zL ?_|refine zM rfl ?_|refine zN ?_|refine zO ?_|refine zP ?_|refine zQ ?_|refine zR rfl ?_|refine zS rfl ?_|refine zU ?_)
  refine wP I (wC I I (fun W hp=>(BL (Ac p) (by omega) W (hv.hp hp) (ht.hp hp)).cast (Gz hkp)) (wP I (wP I (wP I ?_))))
  (refine Ae Tryz.hZ rfl rfl rfl rfl ?_;intro)
  (first|refine wS 0 rfl rfl rfl ?_|refine wS 1 rfl rfl rfl ?_|refine wS 2 rfl rfl rfl ?_|refine wS 3 rfl rfl rfl ?_|refine wS 4 rfl rfl rfl ?_)
  refine wP I (Aa ?_)
  rename_i b10
  repeat (first|refine zA ?_|refine zB ?_|refine zC ?_|refine zD ?_|refine zE ?_|refine zF ?_|refine zG ?_|refine zH ?_|refine zI ?_|refine zJ ?_|refine zK ?_|refine zL ?_|refine zM rfl ?_|refine zN ?_|refine zO ?_|refine zP ?_|refine zQ ?_|refine zR rfl ?_|refine zS rfl ?_|refine zU ?_)
  refine wP I (wP I (Aa ?_))
  repeat (first|refine zA ?_|refine zB ?_|refine zC ?_|refine zD ?_|refine zE ?_|refine zF ?_|refine zG ?_|refine zH ?_|refine zI ?_|refine zJ ?_|refine zK ?_|refine zL ?_|refine zM rfl ?_|refine zN ?_|refine zO ?_|refine zP ?_|refine zQ ?_|refine zR rfl ?_|refine zS rfl ?_|refine zU ?_)
  refine wP I (wC I I (fun W hp=>(BL (Ac q) (by omega) W (hv.hp hp) (ht.hp hp)).cast (Gz hkq)) (wP I (wP I (wP I ?_))))
  (refine Ae Tryz.hZ rfl rfl rfl rfl ?_;intro)
  (first|refine wS 0 rfl rfl rfl ?_|refine wS 1 rfl rfl rfl ?_|refine wS 2 rfl rfl rfl ?_|refine wS 3 rfl rfl rfl ?_|refine wS 4 rfl rfl rfl ?_)
  refine wP I (Aa ?_)
  rename_i b12
  repeat (first|refine zA ?_|refine zB ?_|refine zC ?_|refine zD ?_|refine zE ?_|refine zF ?_|refine zG ?_|refine zH ?_|refine zI ?_|refine zJ ?_|refine zK ?_|refine zL ?_|refine zM rfl ?_|refine zN ?_|refine zO ?_|refine zP ?_|refine zQ ?_|refine zR rfl ?_|refine zS rfl ?_|refine zU ?_)
  refine wP I (wP I (Aa ?_))
  repeat (first|refine zA ?_|refine zB ?_|refine zC ?_|refine zD ?_|refine zE ?_|refine zF ?_|refine zG ?_|refine zH ?_|refine zI ?_|refine zJ ?_|refine zK ?_|refine zL ?_|refine zM rfl ?_|refine zN ?_|refine zO ?_|refine zP ?_|refine zQ ?_|refine zR rfl ?_|refine zS rfl ?_|refine zU ?_)
  (first|refine wB 0 rfl rfl rfl ?_|refine wB 1 rfl rfl rfl ?_|refine wB 2 rfl rfl rfl ?_|refine wB 3 rfl rfl rfl ?_|refine wB 4 rfl rfl rfl ?_)
  (first|refine wB 0 rfl rfl rfl ?_|refine wB 1 rfl rfl rfl ?_|refine wB 2 rfl rfl rfl ?_|refine wB 3 rfl rfl rfl ?_|refine wB 4 rfl rfl rfl ?_)
  refine wC I I (fun W hp=>hs W (ht.hp hp)) ?_
  iterate 7 refine wP I ?_
  refine Aa ?_
  repeat (first|refine zA ?_|refine zB ?_|refine zC ?_|refine zD ?_|refine zE ?_|refine zF ?_|refine zG ?_|refine zH ?_|refine zI ?_|refine zJ ?_|refine zK ?_|refine zL ?_|refine zM rfl ?_|refine zN ?_|refine zO ?_|refine zP ?_|refine zQ ?_|refine zR rfl ?_|refine zS rfl ?_|refine zU ?_)
  refine wP I (wP I (Aa ?_))
  repeat (first|refine zA ?_|refine zB ?_|refine zC ?_|refine zD ?_|refine zE ?_|refine zF ?_|refine zG ?_|refine zH ?_|refine zI ?_|refine zJ ?_|refine zK ?_|refine zL ?_|refine zM rfl ?_|refine zN ?_|refine zO ?_|refine zP ?_|refine zQ ?_|refine zR rfl ?_|refine zS rfl ?_|refine zU ?_)
  refine wP I (wP I (wP I (Aa ?_)))
  repeat (first|refine zA ?_|refine zB ?_|refine zC ?_|refine zD ?_|refine zE ?_|refine zF ?_|refine zG ?_|refine zH ?_|refine zI ?_|refine zJ ?_|refine zK ?_|refine zL ?_|refine zM rfl ?_|refine zN ?_|refine zO ?_|refine zP ?_|refine zQ ?_|refine zR rfl ?_|refine zS rfl ?_|refine zU ?_)
  exact wR2 I I I
theorem K3 (p q:Rat) (hkp:okQ p) (hkq:okQ q) (W0:World) (hv:AL W0) (ht:AA W0):
  Ad Tryz.prog 159 #[str (Ac p),str (Ac q)] W0 (fun _:Unit=>cmV p q) (fun _=>True) (fun _=>[]):=by
 by_cases h:BC p q
 ·exact(K0 p q hkp hkq h W0 hv ht).cast (by rw[cmV,if_pos h,JP])
 ·exact(K6 p q hkp hkq h W0 hv ht).cast (by rw[cmV,if_neg h])
-- BOXES 8
-- CODE2
def erI:Bool→Int
 |true=>4
 |false=>0
abbrev caE (c:Nat) (s:Bool):Bx:=⟨c,317,[.int .i64 (erI s)],true,none⟩
abbrev caO (s:Bool):Obj:= .cells #[.int .i64 (erI s)] 317 (0,0)
structure KcP (c:Nat) (s:Bool) (W:World):Prop where
 o:W.heap[c]? =some (caO s)
 k: ∀W',GL W W' c→AL W'∧AA W'
theorem GL.refl (W:World) (g:Nat):GL W W g:=⟨rfl,rfl,rfl,Nat.le_refl _,fun _ _ _=>rfl⟩
theorem KcP.v {c:Nat} {s:Bool} {W:World} (h:KcP c s W):AL W:=(h.k W (GL.refl W c)).1
theorem KcP.t {c:Nat} {s:Bool} {W:World} (h:KcP c s W):AA W:=(h.k W (GL.refl W c)).2
theorem KcP.at_ {c:Nat} {s s1:Bool} {W W1:World} {bs:List Bx} (h:KcP c s W) (hp:Hp (Ba W) (AS (A3 W c)::caE c s1::bs) W1):KcP c s1 W1:=
 ⟨(hp.own.cell 1 (caE c s1) rfl (c,caO s1) (List.mem_cons_self ..)).1,fun _ h2=>h.k _ ((IW h.o ⟨_,List.mem_cons_self ..⟩ (Hp.take (bxs:=[AS (A3 W c),caE c s1]) (nb:=bs) hp)).trans h2)⟩
theorem KcP.of {c:Nat} {s:Bool} {W0 W:World} {bxs:List Bx} (hp:Hp W0 bxs W) (k:Nat) (hk:nth bxs k=some (caE c s)) (hv:AL W0) (ht:AA W0):KcP c s W:=by
 rw[Be] at hk
 have hc:=hp.own.cell k _ hk (c,caO s) (List.mem_cons_self ..)
 exact⟨hc.1,fun W2 h2=>⟨hv.below (h2.below hp.below hc.2),ht.below (h2.below hp.below hc.2)⟩⟩
theorem FG {c:Nat} {s1:Bool} {W W1:World} {bs:List Bx} (hp:Hp (Ba W) (AS (A3 W c)::caE c s1::bs) W1):As (Ba W) W1 [AS (A3 W c),caE c s1]:=
 (Hp.take (bxs:=[AS (A3 W c),caE c s1]) (nb:=bs) hp).own
structure BY (g:Nat) (vs:List Value) (c:Nat) {X:Type} (st:X→Bool) (val:X→Value) (Φ:X→Prop) (W:World):Prop where
 out:Calls Tryz.prog g vs.toArray W fun e W'=> ∃x,e= .returned (val x)∧Φ x∧KW W W' c c (caO (st x))
theorem BY.enter {N c:Nat} {s:Bool} {f:Nat} {fn:Func} {cd:Code} {args:List Value} {X:Type} {st:X→Bool} {val:X→Value} {Φ:X→Prop} {W:World} (h:KcP c s W) (hf:Tryz.prog.funcs[f]? =some fn) (hb:fn.body=some cd) (hN:fn.ntmps=N) (hl:Nat.ble args.length N=true)
  (hw:WC none 0 Tryz.prog N [] cd (Gd Tryz.prog fn (Ba W) val Φ (fun x=>[AS (A3 W c),caE c (st x)])) (J5 0 args) (Hp (Ba W) [AS (A3 W c),caE c s])):BY f args c st val Φ W:=by
 have key:=C6 (X:=X) (val:=val) (Φ:=Φ) (nb:=fun x=>[AS (A3 W c),caE c (st x)]) (Hp.enterT (B:=caE c s) rfl h.o) hf hb hN hl hw
 refine⟨key.mono ?_⟩
 rintro e W' ⟨x,he,hx,hb,hn⟩
 exact⟨x,he,hx,Gm h.o I hb hn⟩
theorem BY.same {g c:Nat} {vs:List Value} {s:Bool} {v:Value} {W:World} (h:BY g vs c (fun _:Unit=>s) (fun _=>v) (fun _=>True) W) (ho:W.heap[c]? =some (caO s)):Ad Tryz.prog g vs.toArray W (fun _:Unit=>v) (fun _=>True) (fun _=>[]):=by
 refine⟨h.out.mono ?_⟩
 rintro e W' ⟨x,he,_,hn⟩
 refine⟨x,he,tO,⟨hn.os,hn.tape,hn.output,hn.size,fun i hi=> ?_⟩,As.nil _ _⟩
 by_cases e:i=c
 ·subst e;exact hn.new.trans ho.symm
 ·exact hn.old i e hi
section
variable {r:Option Nat} {n:Nat} {W0:World} {N:Nat} {D:List Deferred} {ops:List Oper} {Q:Exit→Act→World→Prop} {o:Oper} {rest:List Oper} {env:Env} {bxs:List Bx}
theorem Qp (k c:Nat) {s:Bool} {cl:Call} {f:Operand} {g d:Nat} {vs:List Value} {X:Type} {st:X→Bool} {val:X→Value} {Φ:X→Prop} (hg:A0 ops N env o=some true) (hd:o.dst=some d) (ho:o.op= .call cl) (hc:cl.callee= .value f) (hf:evO N env f=some (.func (.func g) #[] #[])) (ha:BH (evO N env) cl.args.toList=some vs) (hE:AN Tryz.prog g=true)
  (hk:nth bxs k=some (caE c s)) (hC: ∀W,Hp W0 bxs W→BY g vs c st val Φ W)
  (h: ∀x,Φ x→WL r n Tryz.prog N D ops Q rest ((d,val x)::env) (Hp W0 (bxs.set k (caE c (st x))))):WL r n Tryz.prog N D ops Q (o::rest) env (Hp W0 bxs):=
 Er (X:=X) (val:=val) (Φ:=Φ) (capt:=[]) k (B:=caE c s) (L1:=[]) (L2:=[]) (b:=c) (ob:=caO s) (fun x=>caE c (st x)) (g':=fun _=>c) (o':=fun x=>caO (st x))
  hg hd ho hc hf ha hE hk rfl (fun _ _=>rfl) (fun W hp=>by rw[List.append_nil];exact(hC W hp).out) h
theorem Ca (k c:Nat) {s s':Bool} {v:Value} {cl:Call} {f:Operand} {g d:Nat} {vs:List Value} (hg:A0 ops N env o=some true) (hd:o.dst=some d) (ho:o.op= .call cl) (hc:cl.callee= .value f) (hf:evO N env f=some (.func (.func g) #[] #[])) (ha:BH (evO N env) cl.args.toList=some vs) (hE:AN Tryz.prog g=true)
  (hk:nth bxs k=some (caE c s)) (hC: ∀W,Hp W0 bxs W→BY g vs c (fun _:Unit=>s') (fun _=>v) (fun _=>True) W)
  (h:WL r n Tryz.prog N D ops Q rest ((d,v)::env) (Hp W0 (bxs.set k (caE c s')))):WL r n Tryz.prog N D ops Q (o::rest) env (Hp W0 bxs):=
 Qp k c hg hd ho hc hf ha hE hk hC (fun _ _=>h)
end
@[irreducible] def opR (ok : Prop) [Decidable ok] (r : Rat) (s : Bool) : Rat × Bool := match s with
 |true=>(0,true)
 |false=>if ok then(r,false) else(0,true)
theorem Vx {ok:Prop} [Decidable ok] {r:Rat}:opR ok r true=(0,true):=by unfold opR;rfl
theorem ES {ok:Prop} [Decidable ok] {r:Rat} (h:ok):opR ok r false=(r,false):=by unfold opR;exact if_pos h
theorem Ut {ok:Prop} [Decidable ok] {r:Rat} (h: ¬ok):opR ok r false=(0,true):=by unfold opR;exact if_neg h
theorem WV:okQ 0:=by
 have h:szQ 0 1:=by unfold szQ;decide+kernel
 exact h.ok (by decide)
theorem UB {ok:Prop} [Decidable ok] {r:Rat} {s:Bool} (h:ok→okQ r):okQ (opR ok r s).1:=by
 cases s with
 |true=>rw[Vx];exact WV
 |false=>
  by_cases c:ok
  ·rw[ES c];exact h c
  ·rw[Ut c];exact WV
def kSb (s:Bool) (p q:Rat):Rat×Bool:=opR (Ks p q) (p-q) s
def kMu (s:Bool) (p q:Rat):Rat×Bool:=opR (GG p q) (p*q) s
theorem Ot (s:Bool) (p q:Rat):okQ (kSb s p q).1:=UB SY
theorem UZ (s:Bool) (p q:Rat):okQ (kMu s p q).1:=UB TL
@[irreducible] def kOr (s : Bool) (p q : Rat) : Int × Bool := match s with
 |true=>(0,true)
 |false=>if BC p q then(Cw p q,false) else(0,true)
theorem WO {p q:Rat}:kOr true p q=(0,true):=by unfold kOr;rfl
theorem RY {p q:Rat} (h:BC p q):kOr false p q=(Cw p q,false):=by unfold kOr;exact if_pos h
theorem WR {p q:Rat} (h: ¬BC p q):kOr false p q=(0,true):=by unfold kOr;exact if_neg h
theorem To (c g:Nat) (a b:List UInt8) (W:World) (h:KcP c true W):
  BY 329 [Af c, .func (.func g) #[] #[],str a,str b] c (fun _:Unit=>true) (fun _=>str [48]) (fun _=>True) W:=by
 refine BY.enter h Tryz.func329 I I I ?_
 refine zA (zB (wP I (Aa (zE (zA (zA (zB (wP I ?_))))))))
 refine AK I I I I ?_
 exact wP I (wB 1 I I I (wP I (Aa (zE (zR I (zA (zB (wP I (Aa (zE (zO (zP (Ay tH I (.tmp I) () I tO fun W1 hp=>FG hp)))))))))))))
theorem Qy (c g:Nat) (a b v:List UInt8) (z:Bool) (W:World) (h:KcP c false W) (hE:AN Tryz.prog g=true)
  (hg: ∀W1,AL W1→AA W1→Ad Tryz.prog g #[str a,str b] W1 (fun _:Unit=> .tuple #[str v, .int .i64 (erI z)]) (fun _=>True) (fun _=>[])):
  BY 329 [Af c, .func (.func g) #[] #[],str a,str b] c (fun _:Unit=>z) (fun _=>if z=true then str [48] else str v) (fun _=>True) W:=by
 refine BY.enter h Tryz.func329 I I I ?_
 refine zA (zB (wP I (Aa (zE (zA (zA (zB (wP I ?_))))))))
 refine AK I I I I ?_
 refine wP I (wB 1 I I I (wP I (Aa (zE (zS I (zI (zE (zA (zB (wP I (wP I (wP I ?_))))))))))))
 refine Bh (capt:=[]) I I I I I I hE (fun W1 hp=>hg W1 (h.at_ (bs:=[]) hp).v (h.at_ (bs:=[]) hp).t) ?_
 iterate 5 refine wP I ?_
 refine Aa (zE (zA (zA (zB (wP I (wP I ?_))))))
 refine AK I I I I ?_
 refine wP I (wS 1 I I I (Aa (zE (zA (zB ?_)))))
 cases z with
 |true=>
  exact wP I (wP I (Aa (zE (zR I (zA (zB (wP I (Aa (zE (zO (zP (Ay tH I (.tmp I) () I tO fun W1 hp=>FG hp))))))))))))
 |false=>
  exact wP I (wP I (Aa (zE (zS I (zI (zE (zA (zB (wP I (wP I (Aa (zE (zO (Ay tH I (.tmp I) () I tO fun W1 hp=>FG hp))))))))))))))
theorem LT (c g:Nat) (a b:List UInt8) (ok:Prop) [Decidable ok] (r:Rat) (s:Bool) (W:World) (h:KcP c s W) (hE:AN Tryz.prog g=true)
  (hg: ∀W1,AL W1→AA W1→Ad Tryz.prog g #[str a,str b] W1 (fun _:Unit=>opV ok r) (fun _=>True) (fun _=>[])):
  BY 329 [Af c, .func (.func g) #[] #[],str a,str b] c (fun _:Unit=>(opR ok r s).2) (fun _=>str (Ac (opR ok r s).1)) (fun _=>True) W:=by
 cases s with
 |true=>
  rw[Vx]
  show BY _ _ c _ (fun _=>str (Ac 0)) _ W
  rw[Cs]
  exact To c g a b W h
 |false=>
  by_cases k:ok
  ·rw[ES k]
   exact Qy c g a b (Ac r) false W h hE fun W1 hv ht=>(hg W1 hv ht).cast (LU k)
  ·rw[Ut k]
   show BY _ _ c _ (fun _=>str (Ac 0)) _ W
   rw[Cs]
   exact Qy c g a b [] true W h hE fun W1 hv ht=>(hg W1 hv ht).cast (Rm k)
abbrev H3 (g:Nat) (vs:List Value) (c:Nat) (x:Rat×Bool) (W:World):Prop:=BY g vs c (fun _:Unit=>x.2) (fun _=>str (Ac x.1)) (fun _=>True) W
theorem Fq (c:Nat) (s:Bool) (p q:Rat) (hp:okQ p) (hq:okQ q) (W:World) (h:KcP c s W):H3 283 [Af c,str (Ac p),str (Ac q)] c (kSb s p q) W:=by
 refine BY.enter h Tryz.func283 I I I ?_
 refine zA (zB (wP I (Aa (zE (zA (zB (wP I (wP I (wP I ?_)))))))))
 refine Ca 1 c I I I I I I (by kernel_rfl) I (fun W1 hp1=>LT c 21 (Ac p) (Ac q) (Ks p q) (p-q) s W1 (h.at_ (bs:=[]) hp1) (by kernel_rfl) (fun W2 hv ht=>Q2 p q hp hq W2 hv ht)) ?_
 exact wP I (Aa (zE (zO (Ay tH I (.tmp I) () I tO fun W1 hp=>FG hp))))
theorem Kj (c:Nat) (s:Bool) (p q:Rat) (hp:okQ p) (hq:okQ q) (W:World) (h:KcP c s W):H3 286 [Af c,str (Ac p),str (Ac q)] c (kMu s p q) W:=by
 refine BY.enter h Tryz.func286 I I I ?_
 refine zA (zB (wP I (Aa (zE (zA (zB (wP I (wP I (wP I ?_)))))))))
 refine Ca 1 c I I I I I I (by kernel_rfl) I (fun W1 hp1=>LT c 18 (Ac p) (Ac q) (GG p q) (p*q) s W1 (h.at_ (bs:=[]) hp1) (by kernel_rfl) (fun W2 hv ht=>Qa p q hp hq W2 hv ht)) ?_
 exact wP I (Aa (zE (zO (Ay tH I (.tmp I) () I tO fun W1 hp=>FG hp))))
abbrev I0 (g:Nat) (vs:List Value) (c:Nat) (x:Int×Bool) (W:World):Prop:=BY g vs c (fun _:Unit=>x.2) (fun _=> .int .i64 x.1) (fun _=>True) W
theorem Ep (c:Nat) (s:Bool) (p q:Rat) (hp:okQ p) (hq:okQ q) (W:World) (h:KcP c s W):I0 356 [Af c,str (Ac p),str (Ac q)] c (kOr s p q) W:=by
 cases s with
 |true=>
  rw[WO]
  refine BY.enter h Tryz.func356 I I I ?_
  refine zA (zB (wP I (Aa (zE (zA (zA (zB (wP I ?_))))))))
  refine AK I I I I ?_
  exact wP I (wB 1 I I I (wP I (Aa (zE (zR I (zA (zB (wP I (Aa (zE (zO (zP (Ay tH I (.tmp I) () I tO fun W1 hp=>FG hp)))))))))))))
 |false=>
  have one: ∀(v:Int) (z:Bool),cmV p q= .tuple #[.int .i64 v, .int .i64 (erI z)]→I0 356 [Af c,str (Ac p),str (Ac q)] c (v,z) W:=fun v z hvz=>by
   refine BY.enter h Tryz.func356 I I I ?_
   refine zA (zB (wP I (Aa (zE (zA (zA (zB (wP I ?_))))))))
   refine AK I I I I ?_
   refine wP I (wB 1 I I I (wP I (Aa (zE (zS I (zI (zE (zA (zB (wP I (wP I (wC I I (fun W1 hp1=>(K3 p q hp hq W1 (h.at_ (bs:=[]) hp1).v (h.at_ (bs:=[]) hp1).t).cast hvz) ?_))))))))))))
   iterate 5 refine wP I ?_
   refine Aa (zE (zA (zB (wP I (wP I ?_)))))
   refine AK I I I I ?_
   exact wP I (wS 1 I I I (Aa (zE (zA (zB (wP I (wP I (Aa (zE (zO (Ay tH I (.tmp I) () I tO fun W1 hp=>FG hp)))))))))))
  by_cases k:BC p q
  ·rw[RY k]
   exact one (Cw p q) false (if_pos k)
  ·rw[WR k]
   exact one 0 true (if_neg k)
-- BOXES 4
-- CODE2
theorem Td {α:Type} {F:α→Bool} {l:List α} {i:Nat} (h:i<l.length):(l.drop i).any F=(F l[i]||(l.drop (i+1)).any F):=by
 rw[List.drop_eq_getElem_cons h,List.any_cons]
theorem MK (g:Nat) (hE:AN Tryz.prog g=true) (F:PtS→Bool) (hg: ∀x W,Ad Tryz.prog g #[.agg #[str x.1,str x.2]] W (fun _:Unit=> .bool (F x)) (fun _=>True) (fun _=>[])) (xs:List PtS) (hn:xs.length≤100000) (p:Option Addr) (cap:Nat) (W:World) (hS:QS W p xs):
  Ad Tryz.prog 372 #[slv p xs.length cap, .func (.func g) #[] #[]] W (fun z:Int=> .int .i64 z) (fun z=>0≤z↔xs.any F=true) (fun _=>[]):=by
 refine Ab (args:=[slv p xs.length cap, .func (.func g) #[] #[]]) Tryz.func372 I I I ?_
 repeat (first|refine zA ?_|refine zB ?_|refine zC ?_|refine zD ?_|refine zE ?_|refine zF ?_|refine zG ?_|refine zH ?_|refine zI ?_|refine zJ ?_|refine zK ?_|refine zL ?_|refine zM rfl ?_|refine zN ?_|refine zO ?_|refine zP ?_|refine zQ ?_|refine zR rfl ?_|refine zS rfl ?_|refine zU ?_)
 refine wP I (Aa ?_)
 repeat (first|refine zA ?_|refine zB ?_|refine zC ?_|refine zD ?_|refine zE ?_|refine zF ?_|refine zG ?_|refine zH ?_|refine zI ?_|refine zJ ?_|refine zK ?_|refine zL ?_|refine zM rfl ?_|refine zN ?_|refine zO ?_|refine zP ?_|refine zQ ?_|refine zR rfl ?_|refine zS rfl ?_|refine zU ?_)
 refine wP I (wP I (wP I (Aa ?_)))
 repeat (first|refine zA ?_|refine zB ?_|refine zC ?_|refine zD ?_|refine zE ?_|refine zF ?_|refine zG ?_|refine zH ?_|refine zI ?_|refine zJ ?_|refine zK ?_|refine zL ?_|refine zM rfl ?_|refine zN ?_|refine zO ?_|refine zP ?_|refine zQ ?_|refine zR rfl ?_|refine zS rfl ?_|refine zU ?_)
 refine Aw (X:=Nat) (fun i=>[(0,slv p xs.length cap),(1, .func (.func g) #[] #[]),(6,slv p xs.length cap),(7, .int .i64 (xs.length:Nat)),(8, .int .i64 (i:Nat))]) (fun _=>[]) (fun i=>i≤xs.length∧xs.any F=(xs.drop i).any F) (fun i=>xs.length-i) 0 ⟨Nat.zero_le _,by rw[List.drop_zero]⟩ ⟨I,I,I,I,I,tO⟩ [] I ?_
 intro i hi
 obtain⟨hi,hA⟩:i≤xs.length∧xs.any F=(xs.drop i).any F:=hi
 repeat (first|refine zA ?_|refine zB ?_|refine zC ?_|refine zD ?_|refine zE ?_|refine zF ?_|refine zG ?_|refine zH ?_|refine zI ?_|refine zJ ?_|refine zK ?_|refine zL ?_|refine zM rfl ?_|refine zN ?_|refine zO ?_|refine zP ?_|refine zQ ?_|refine zR rfl ?_|refine zS rfl ?_|refine zU ?_)
 refine wP I ?_
 by_cases hlt:i<xs.length
 rotate_left
 ·refine wU 9 false I (dF (by omega)) (Aa ?_)
  repeat (first|refine zA ?_|refine zB ?_|refine zC ?_|refine zD ?_|refine zE ?_|refine zF ?_|refine zG ?_|refine zH ?_|refine zI ?_|refine zJ ?_|refine zK ?_|refine zL ?_|refine zM rfl ?_|refine zN ?_|refine zO ?_|refine zP ?_|refine zQ ?_|refine zR rfl ?_|refine zS rfl ?_|refine zU ?_)
  refine wP I (Aa ?_)
  repeat (first|refine zA ?_|refine zB ?_|refine zC ?_|refine zD ?_|refine zE ?_|refine zF ?_|refine zG ?_|refine zH ?_|refine zI ?_|refine zJ ?_|refine zK ?_|refine zL ?_|refine zM rfl ?_|refine zN ?_|refine zO ?_|refine zP ?_|refine zQ ?_|refine zR rfl ?_|refine zS rfl ?_|refine zU ?_)
  rw[List.drop_of_length_le (by omega)] at hA
  exact Ay tH I (.tmp I) (-1:Int) I (by rw[hA];exact⟨fun h=>absurd h (by decide),fun h=>absurd (show false=true from h) (by decide)⟩) fun W _=>As.nil _ _
 refine wU 9 true I (dT (by omega)) (Aa ?_)
 repeat (first|refine zA ?_|refine zB ?_|refine zC ?_|refine zD ?_|refine zE ?_|refine zF ?_|refine zG ?_|refine zH ?_|refine zI ?_|refine zJ ?_|refine zK ?_|refine zL ?_|refine zM rfl ?_|refine zN ?_|refine zO ?_|refine zP ?_|refine zQ ?_|refine zR rfl ?_|refine zS rfl ?_|refine zU ?_)
 obtain⟨b,off,rfl,hrow⟩: ∃b off,p=some ⟨b,off,none⟩∧ ∀i (hi:i<xs.length),Ai W b (off+i*2) [str xs[i].1,str xs[i].2]:=by
  rcases hS with h|h
  ·rw[h] at hlt;exact absurd hlt (by simp)
  ·exact h
 have hr:=hrow i hlt
 rw[Td hlt] at hA
 obtain⟨x,hq⟩: ∃x,x=xs[i]:=⟨_,rfl⟩
 rw[←hq] at hr hA
 repeat (first|refine zA ?_|refine zB ?_|refine zC ?_|refine zD ?_|refine zE ?_|refine zF ?_|refine zG ?_|refine zH ?_|refine zI ?_|refine zJ ?_|refine zK ?_|refine zL ?_|refine zM rfl ?_|refine zN ?_|refine zO ?_|refine zP ?_|refine zQ ?_|refine zR rfl ?_|refine zS rfl ?_|refine zU ?_)
 refine wP I (wP I (Aa ?_))
 repeat (first|refine zA ?_|refine zB ?_|refine zC ?_|refine zD ?_|refine zE ?_|refine zF ?_|refine zG ?_|refine zH ?_|refine zI ?_|refine zJ ?_|refine zK ?_|refine zL ?_|refine zM rfl ?_|refine zN ?_|refine zO ?_|refine zP ?_|refine zQ ?_|refine zR rfl ?_|refine zS rfl ?_|refine zU ?_)
 refine wP I (wP I (wP I ?_))
 (first|refine wJ ?_|refine qJ ?_)
 (first|refine wL 0 rfl rfl (fun W1 hp=>hr.hp hp) rfl ?_|refine wL 1 rfl rfl (fun W1 hp=>hr.hp hp) rfl ?_|refine wL 2 rfl rfl (fun W1 hp=>hr.hp hp) rfl ?_|refine wL 3 rfl rfl (fun W1 hp=>hr.hp hp) rfl ?_|refine wL 4 rfl rfl (fun W1 hp=>hr.hp hp) rfl ?_|refine wL 5 rfl rfl (fun W1 hp=>hr.hp hp) rfl ?_|refine wL 6 rfl rfl (fun W1 hp=>hr.hp hp) rfl ?_|refine wL 7 rfl rfl (fun W1 hp=>hr.hp hp) rfl ?_|refine qL 0 rfl rfl (fun W1 hp=>hr.hp hp) rfl ?_|refine qL 1 rfl rfl (fun W1 hp=>hr.hp hp) rfl ?_|refine qL 2 rfl rfl (fun W1 hp=>hr.hp hp) rfl ?_|refine qL 3 rfl rfl (fun W1 hp=>hr.hp hp) rfl ?_|refine qL 4 rfl rfl (fun W1 hp=>hr.hp hp) rfl ?_|refine qL 5 rfl rfl (fun W1 hp=>hr.hp hp) rfl ?_|refine qL 6 rfl rfl (fun W1 hp=>hr.hp hp) rfl ?_|refine qL 7 rfl rfl (fun W1 hp=>hr.hp hp) rfl ?_)
 refine Bh (capt:=[]) I I I I I I hE (fun W1 _=>hg x W1) ?_
 refine Aa ?_
 repeat (first|refine zA ?_|refine zB ?_|refine zC ?_|refine zD ?_|refine zE ?_|refine zF ?_|refine zG ?_|refine zH ?_|refine zI ?_|refine zJ ?_|refine zK ?_|refine zL ?_|refine zM rfl ?_|refine zN ?_|refine zO ?_|refine zP ?_|refine zQ ?_|refine zR rfl ?_|refine zS rfl ?_|refine zU ?_)
 refine Aj I (fun hc=> ?_) (fun hc=> ?_)
 ·have hc:F x=true:=hc
  repeat (first|refine zA ?_|refine zB ?_|refine zC ?_|refine zD ?_|refine zE ?_|refine zF ?_|refine zG ?_|refine zH ?_|refine zI ?_|refine zJ ?_|refine zK ?_|refine zL ?_|refine zM rfl ?_|refine zN ?_|refine zO ?_|refine zP ?_|refine zQ ?_|refine zR rfl ?_|refine zS rfl ?_|refine zU ?_)
  refine wP I (wP I (Aa ?_))
  repeat (first|refine zA ?_|refine zB ?_|refine zC ?_|refine zD ?_|refine zE ?_|refine zF ?_|refine zG ?_|refine zH ?_|refine zI ?_|refine zJ ?_|refine zK ?_|refine zL ?_|refine zM rfl ?_|refine zN ?_|refine zO ?_|refine zP ?_|refine zQ ?_|refine zR rfl ?_|refine zS rfl ?_|refine zU ?_)
  exact Ay tH I (.tmp I) ((i:Nat):Int) I ⟨fun _=>by rw[hA,hc];rfl,fun _=>by omega⟩ fun W _=>As.nil _ _
 ·have hc:F x=false:=hc
  rw[hc,Bool.false_or] at hA
  repeat (first|refine zA ?_|refine zB ?_|refine zC ?_|refine zD ?_|refine zE ?_|refine zF ?_|refine zG ?_|refine zH ?_|refine zI ?_|refine zJ ?_|refine zK ?_|refine zL ?_|refine zM rfl ?_|refine zN ?_|refine zO ?_|refine zP ?_|refine zQ ?_|refine zR rfl ?_|refine zS rfl ?_|refine zU ?_)
  refine wP I (wV 18 ((i+1:Nat):Int) I (Ax (by omega)) (wP I (Aa ?_)))
  repeat (first|refine zA ?_|refine zB ?_|refine zC ?_|refine zD ?_|refine zE ?_|refine zF ?_|refine zG ?_|refine zH ?_|refine zI ?_|refine zJ ?_|refine zK ?_|refine zL ?_|refine zM rfl ?_|refine zN ?_|refine zO ?_|refine zP ?_|refine zQ ?_|refine zR rfl ?_|refine zS rfl ?_|refine zU ?_)
  exact Al (i+1) ⟨hlt,hA⟩ (by show xs.length-(i+1)<xs.length-i;omega) ⟨I,I,I,I,I,tO⟩ [] I
theorem JS (g:Nat) (hE:AN Tryz.prog g=true) (F:PtS→Bool) (hg: ∀x W,Ad Tryz.prog g #[.agg #[str x.1,str x.2]] W (fun _:Unit=> .bool (F x)) (fun _=>True) (fun _=>[])) (xs:List PtS) (hn:xs.length≤100000) (p:Option Addr) (cap:Nat) (W:World) (hS:QS W p xs):
  Ad Tryz.prog 354 #[slv p xs.length cap, .func (.func g) #[] #[]] W (fun _:Unit=> .bool (xs.any F)) (fun _=>True) (fun _=>[]):=by
 refine Ab (args:=[slv p xs.length cap, .func (.func g) #[] #[]]) Tryz.func354 I I I ?_
 repeat (first|refine zA ?_|refine zB ?_|refine zC ?_|refine zD ?_|refine zE ?_|refine zF ?_|refine zG ?_|refine zH ?_|refine zI ?_|refine zJ ?_|refine zK ?_|refine zL ?_|refine zM rfl ?_|refine zN ?_|refine zO ?_|refine zP ?_|refine zQ ?_|refine zR rfl ?_|refine zS rfl ?_|refine zU ?_)
 refine wP I (Aa ?_)
 repeat (first|refine zA ?_|refine zB ?_|refine zC ?_|refine zD ?_|refine zE ?_|refine zF ?_|refine zG ?_|refine zH ?_|refine zI ?_|refine zJ ?_|refine zK ?_|refine zL ?_|refine zM rfl ?_|refine zN ?_|refine zO ?_|refine zP ?_|refine zQ ?_|refine zR rfl ?_|refine zS rfl ?_|refine zU ?_)
 refine wP I (wP I ?_)
 refine wD (X:=Int) I I (fun W1 hp=>MK g hE F hg xs hn p cap W1 (hS.hp hp)) ?_
 intro z hz
 have hz:0≤z↔xs.any F=true:=hz
 refine wP I ?_
 refine Ao 8 (.bool (xs.any F)) I (congrArg Value.bool (by
  cases h:xs.any F with
  |true=>exact dT (hz.2 h)
  |false=>exact dF fun h2=>by rw[hz.1 h2] at h;cases h)) ?_
 refine wP I (Aa ?_)
 repeat (first|refine zA ?_|refine zB ?_|refine zC ?_|refine zD ?_|refine zE ?_|refine zF ?_|refine zG ?_|refine zH ?_|refine zI ?_|refine zJ ?_|refine zK ?_|refine zL ?_|refine zM rfl ?_|refine zN ?_|refine zO ?_|refine zP ?_|refine zQ ?_|refine zR rfl ?_|refine zS rfl ?_|refine zU ?_)
 exact wR1 I I I
-- BOXES 8
-- CODE2
abbrev caF (c:Nat) (s:Bool):Bx:=⟨c,317,[.int .i64 (erI s)],false,none⟩
def kLf (s:Bool) (p q r:Ar):Int×Bool:=
 kOr (kMu (kMu (kSb (kSb (kSb (kSb s q.1 p.1).2 r.2 p.2).2 q.2 p.2).2 r.1 p.1).2 (kSb s q.1 p.1).1 (kSb (kSb s q.1 p.1).2 r.2 p.2).1).2 (kSb (kSb (kSb s q.1 p.1).2 r.2 p.2).2 q.2 p.2).1 (kSb (kSb (kSb (kSb s q.1 p.1).2 r.2 p.2).2 q.2 p.2).2 r.1 p.1).1).2
  (kMu (kSb (kSb (kSb (kSb s q.1 p.1).2 r.2 p.2).2 q.2 p.2).2 r.1 p.1).2 (kSb s q.1 p.1).1 (kSb (kSb s q.1 p.1).2 r.2 p.2).1).1
  (kMu (kMu (kSb (kSb (kSb (kSb s q.1 p.1).2 r.2 p.2).2 q.2 p.2).2 r.1 p.1).2 (kSb s q.1 p.1).1 (kSb (kSb s q.1 p.1).2 r.2 p.2).1).2 (kSb (kSb (kSb s q.1 p.1).2 r.2 p.2).2 q.2 p.2).1 (kSb (kSb (kSb (kSb s q.1 p.1).2 r.2 p.2).2 q.2 p.2).2 r.1 p.1).1).1
structure M2 (p q r:Ar):Prop where
 a:Ks q.1 p.1
 b:Ks r.2 p.2
 c:Ks q.2 p.2
 d:Ks r.1 p.1
 m:GG (q.1-p.1) (r.2-p.2)
 n:GG (q.2-p.2) (r.1-p.1)
 o:BC ((q.1-p.1)*(r.2-p.2)) ((q.2-p.2)*(r.1-p.1))
theorem Nl {ok:Prop} [Decidable ok] {r:Rat} {s:Bool}:(opR ok r s).2=false↔s=false∧ok:=by
 cases s with
 |true=>rw[Vx];simp
 |false=>
  by_cases c:ok
  ·rw[ES c];simp[c]
  ·rw[Ut c];simp[c]
theorem Vo {s:Bool} {p q:Rat}:(kOr s p q).2=false↔s=false∧BC p q:=by
 cases s with
 |true=>rw[WO];simp
 |false=>
  by_cases c:BC p q
  ·rw[RY c];simp[c]
  ·rw[WR c];simp[c]
theorem WJ {p q r:Ar} (h:M2 p q r):kLf false p q r=(Rr p q r,false):=by
 have a:kSb false q.1 p.1=(q.1-p.1,false):=ES h.a
 have b:kSb false r.2 p.2=(r.2-p.2,false):=ES h.b
 have c:kSb false q.2 p.2=(q.2-p.2,false):=ES h.c
 have d:kSb false r.1 p.1=(r.1-p.1,false):=ES h.d
 unfold kLf
 simp only[a,b,c,d]
 have m:kMu false (q.1-p.1) (r.2-p.2)=((q.1-p.1)*(r.2-p.2),false):=ES h.m
 have n:kMu false (q.2-p.2) (r.1-p.1)=((q.2-p.2)*(r.1-p.1),false):=ES h.n
 simp only[m,n]
 rw[RY h.o];rfl
theorem Yj {s:Bool} {p q r:Ar}:(kLf s p q r).2=false↔s=false∧M2 p q r:=by
 constructor
 ·intro h
  unfold kLf at h
  have h7:=Vo.1 h
  have h6:=Nl.1 h7.1
  have h5:=Nl.1 h6.1
  have h4:=Nl.1 h5.1
  have h3:=Nl.1 h4.1
  have h2:=Nl.1 h3.1
  have h1:=Nl.1 h2.1
  obtain⟨rfl,a⟩:=h1
  have ea:kSb false q.1 p.1=(q.1-p.1,false):=ES a
  have b:=h2.2
  have c:=h3.2
  have d:=h4.2
  have eb:kSb false r.2 p.2=(r.2-p.2,false):=ES b
  have ec:kSb false q.2 p.2=(q.2-p.2,false):=ES c
  have ed:kSb false r.1 p.1=(r.1-p.1,false):=ES d
  have m:=h5.2
  have n:=h6.2
  have o:=h7.2
  simp only[ea,eb,ec,ed] at m n o
  have em:kMu false (q.1-p.1) (r.2-p.2)=((q.1-p.1)*(r.2-p.2),false):=ES m
  have en:kMu false (q.2-p.2) (r.1-p.1)=((q.2-p.2)*(r.1-p.1),false):=ES n
  simp only[em,en] at o
  exact⟨I,a,b,c,d,m,n,o⟩
 ·rintro⟨rfl,h⟩
  rw[WJ h]
theorem Jj (c:Nat) (s:Bool) (p q r:Ar) (hp:okP p) (hq:okP q) (hr:okP r) (W:World) (h:KcP c s W):I0 325 [Af c,cvV p,cvV q,cvV r] c (kLf s p q r) W:=by
 obtain⟨x1,e1⟩: ∃x,x=kSb s q.1 p.1:=⟨_,rfl⟩
 obtain⟨x2,e2⟩: ∃x,x=kSb x1.2 r.2 p.2:=⟨_,rfl⟩
 obtain⟨x3,e3⟩: ∃x,x=kSb x2.2 q.2 p.2:=⟨_,rfl⟩
 obtain⟨x4,e4⟩: ∃x,x=kSb x3.2 r.1 p.1:=⟨_,rfl⟩
 obtain⟨x5,e5⟩: ∃x,x=kMu x4.2 x1.1 x2.1:=⟨_,rfl⟩
 obtain⟨x6,e6⟩: ∃x,x=kMu x5.2 x3.1 x4.1:=⟨_,rfl⟩
 obtain⟨x7,e7⟩: ∃x,x=kOr x6.2 x5.1 x6.1:=⟨_,rfl⟩
 have eL:kLf s p q r=x7:=by rw[e7,e6,e5,e4,e3,e2,e1];rfl
 have o1:okQ x1.1:=by rw[e1];exact Ot _ _ _
 have o2:okQ x2.1:=by rw[e2];exact Ot _ _ _
 have o3:okQ x3.1:=by rw[e3];exact Ot _ _ _
 have o4:okQ x4.1:=by rw[e4];exact Ot _ _ _
 have o5:okQ x5.1:=by rw[e5];exact UZ _ _ _
 have o6:okQ x6.1:=by rw[e6];exact UZ _ _ _
 have c1: ∀W1,KcP c s W1→H3 283 [Af c,str (Ac q.1),str (Ac p.1)] c x1 W1:=fun W1 h=>by rw[e1];exact Fq c s _ _ hq.1 hp.1 W1 h
 have c2: ∀W1,KcP c x1.2 W1→H3 283 [Af c,str (Ac r.2),str (Ac p.2)] c x2 W1:=fun W1 h=>by rw[e2];exact Fq c _ _ _ hr.2 hp.2 W1 h
 have c3: ∀W1,KcP c x2.2 W1→H3 283 [Af c,str (Ac q.2),str (Ac p.2)] c x3 W1:=fun W1 h=>by rw[e3];exact Fq c _ _ _ hq.2 hp.2 W1 h
 have c4: ∀W1,KcP c x3.2 W1→H3 283 [Af c,str (Ac r.1),str (Ac p.1)] c x4 W1:=fun W1 h=>by rw[e4];exact Fq c _ _ _ hr.1 hp.1 W1 h
 have c5: ∀W1,KcP c x4.2 W1→H3 286 [Af c,str (Ac x1.1),str (Ac x2.1)] c x5 W1:=fun W1 h=>by rw[e5];exact Kj c _ _ _ o1 o2 W1 h
 have c6: ∀W1,KcP c x5.2 W1→H3 286 [Af c,str (Ac x3.1),str (Ac x4.1)] c x6 W1:=fun W1 h=>by rw[e6];exact Kj c _ _ _ o3 o4 W1 h
 have c7: ∀W1,KcP c x6.2 W1→I0 356 [Af c,str (Ac x5.1),str (Ac x6.1)] c x7 W1:=fun W1 h=>by rw[e7];exact Ep c _ _ _ o5 o6 W1 h
 rw[eL]
 clear eL e1 e2 e3 e4 e5 e6 e7
 refine BY.enter h Tryz.func325 I I I ?_
 refine zA (zB ?_)
 (refine Ak rfl rfl rfl rfl ?_;intro)
 (refine Ak rfl rfl rfl rfl ?_;intro)
 (refine Ak rfl rfl rfl rfl ?_;intro)
 refine wP I (Aa ?_)
 rename_i b5 b6 b7
 refine zE (Az ?_)
 refine AV (X:=Unit) [true,true,true,true,true,false,true,true,true,true,true,false,false,false] (fun _=>[(0,Af c),(5,Af b5),(6,Af b6),(7,Af b7),(9,str (Ac x1.1)),(10,str (Ac x2.1))]) (fun _=>[AS (A3 W c),caE c x2.2,ptB b5 (Ac p.1) (Ac p.2),ptB b6 (Ac q.1) (Ac q.2),ptB b7 (Ac r.1) (Ac r.2)])
  4 [AS (A3 W c),caF c s,ptB b5 (Ac p.1) (Ac p.2),ptB b6 (Ac q.1) (Ac q.2),ptB b7 (Ac r.1) (Ac r.2)] Tryz.mixed (by kernel_rfl) ?_ ?_
 ·refine qP I (qP I (qB 3 I I I (qP I (qB 2 I I I (qP I (qP I (qB 4 I I I (qP I (qB 2 I I I (BU (wX (wZ ?_))))))))))))
  refine Ca 1 c I I I I I I (by kernel_rfl) I (fun W1 hp1=>c1 W1 (h.at_ (bs:=[ptB b5 (Ac p.1) (Ac p.2),ptB b6 (Ac q.1) (Ac q.2),ptB b7 (Ac r.1) (Ac r.2)]) hp1)) ?_
  refine Aa (Ag (wX (wZ ?_)))
  refine Ca 1 c I I I I I I (by kernel_rfl) I (fun W1 hp1=>c2 W1 (h.at_ (bs:=[ptB b5 (Ac p.1) (Ac p.2),ptB b6 (Ac q.1) (Ac q.2),ptB b7 (Ac r.1) (Ac r.2)]) hp1)) ?_
  refine Aa (Ag (wX (wZ (wP I (Aa (Ag (wX (wZ (wP I (Aa (Ag ?_)))))))))))
  refine AG I (by((repeat (first|refine AI.same ?_|refine AI.off I ?_));exact tO)) ?_
  exact A6 () ⟨I,I,I,I,I,I,tO⟩ [0,1,2,3,4] (by decide) I
 intro _
 refine zE (Az ?_)
 refine AV (X:=Unit) [true,true,true,true,true,false,true,true,true,true,true,false,false,false] (fun _=>[(0,Af c),(9,str (Ac x1.1)),(10,str (Ac x2.1)),(11,str (Ac x3.1)),(12,str (Ac x4.1))]) (fun _=>[AS (A3 W c),caE c x4.2])
  4 [AS (A3 W c),caF c x2.2,ptB b5 (Ac p.1) (Ac p.2),ptB b6 (Ac q.1) (Ac q.2),ptB b7 (Ac r.1) (Ac r.2)] Tryz.mixed (by kernel_rfl) ?_ ?_
 ·refine qP I (qP I (qB 3 I I I (qP I (qB 2 I I I (qP I (qP I (qB 4 I I I (qP I (qB 2 I I I (BU (wX (wZ ?_))))))))))))
  refine Ca 1 c I I I I I I (by kernel_rfl) I (fun W1 hp1=>c3 W1 (h.at_ (bs:=[ptB b5 (Ac p.1) (Ac p.2),ptB b6 (Ac q.1) (Ac q.2),ptB b7 (Ac r.1) (Ac r.2)]) hp1)) ?_
  refine Aa (Ag (wX (wZ ?_)))
  refine Ca 1 c I I I I I I (by kernel_rfl) I (fun W1 hp1=>c4 W1 (h.at_ (bs:=[ptB b5 (Ac p.1) (Ac p.2),ptB b6 (Ac q.1) (Ac q.2),ptB b7 (Ac r.1) (Ac r.2)]) hp1)) ?_
  refine Aa (Ag (wX (wZ (wP I (Aa (Ag (wX (wZ (wP I (Aa (Ag ?_)))))))))))
  refine AG I (by((repeat (first|refine AI.same ?_|refine AI.off I ?_));exact tO)) ?_
  exact A6 () ⟨I,I,I,I,I,tO⟩ [0,1] (by decide) I
 intro _
 refine zE (zA (zB (wP I (wP I (wP I (wP I ?_))))))
 refine Ca 1 c I I I I I I (by kernel_rfl) I (fun W1 hp1=>c5 W1 (h.at_ (bs:=[]) hp1)) ?_
 refine wP I (wP I (wP I ?_))
 refine Ca 1 c I I I I I I (by kernel_rfl) I (fun W1 hp1=>c6 W1 (h.at_ (bs:=[]) hp1)) ?_
 refine Ca 1 c I I I I I I (by kernel_rfl) I (fun W1 hp1=>c7 W1 (h.at_ (bs:=[]) hp1)) ?_
 exact wP I (Aa (zE (zO (Ay tH I (.tmp I) () I tO fun W1 hp=>FG hp))))
theorem JI.of {c:Nat} {p q r:Ar} (hp:okP p) (hq:okP q) (hr:okP r) (h:M2 p q r) {W:World} (hk:KcP c false W):JI c p q r W:=by
 have:=Jj c false p q r hp hq hr W hk
 rw[WJ h] at this
 exact this.same hk.o
theorem G8 {c:Nat} {p q:Rat} (hp:okQ p) (hq:okQ q) (h:BC p q) {W:World} (hk:KcP c false W):Ad Tryz.prog 356 #[Af c,str (Ac p),str (Ac q)] W (fun _:Unit=> .int .i64 (Cw p q)) (fun _=>True) (fun _=>[]):=by
 have:=Ep c false p q hp hq W hk
 rw[RY h] at this
 exact this.same hk.o
theorem KcP.below {c:Nat} {s:Bool} {W W':World} (h:KcP c s W) (hb:Below W.heap.size W W'):KcP c s W':=
 ⟨(hb.block c (Array.getElem?_eq_some_iff.1 h.o).1).trans h.o,fun _ h2=>h.k _ (GL.trans ⟨hb.os,hb.tape,hb.output,hb.size,fun x _ hx=>hb.block x hx⟩ h2)⟩
theorem KcP.hp {c:Nat} {s:Bool} {W0 W:World} {bxs:List Bx} (h:KcP c s W0) (hp:Hp W0 bxs W):KcP c s W:=h.below hp.below
theorem JO.of {c:Nat} {p q:Ar} (hp:okP p) (hq:okP q) (h1:BC p.1 q.1) (h2:BC p.2 q.2) {W:World} (hk:KcP c false W):JO c p q W:=by
 refine Ab (args:=[Af c,cvV p,cvV q]) Tryz.func323 I I I ?_
 refine zA (zB ?_)
 (refine Ak rfl rfl rfl rfl ?_;intro)
 (refine Ak rfl rfl rfl rfl ?_;intro)
 refine wP I (Aa (zE (zA (zA (zB (wP I (wP I (wB 0 I I I (wP I (wB 1 I I I ?_))))))))))
 rcases Gr p.1 q.1 with e|e|e
 ·refine wC I I (fun W hp1=>(G8 hp.1 hq.1 h1 (hk.hp hp1)).cast (congrArg (Value.int .i64) e)) (wP I (Aa (zE (zA (zB (wP I (wP I (Aa (zE (zR I (zA (zB (wP I (wP I ?_))))))))))))))
  exact Aa (zE (zO (zP (wR1 I I (by rw[Jv,e,if_neg (by decide)])))))
 ·refine wC I I (fun W hp1=>(G8 hp.1 hq.1 h1 (hk.hp hp1)).cast (congrArg (Value.int .i64) e)) (wP I (Aa (zE (zA (zB (wP I (wP I (Aa (zE (zS I (zI (zE (zA ?_)))))))))))))
  exact zB (wP I (wP I (wB 0 I I I (wP I (wB 1 I I I (wC I I (fun W hp1=>G8 hp.2 hq.2 h2 (hk.hp hp1)) (wP I (Aa (zE (zO (wR1 I I (by rw[Jv,if_pos e]))))))))))))
 ·refine wC I I (fun W hp1=>(G8 hp.1 hq.1 h1 (hk.hp hp1)).cast (congrArg (Value.int .i64) e)) (wP I (Aa (zE (zA (zB (wP I (wP I (Aa (zE (zR I (zA (zB (wP I (wP I ?_))))))))))))))
  exact Aa (zE (zO (zP (wR1 I I (by rw[Jv,e,if_neg (by decide)])))))
-- BOXES 8
-- CODE2
theorem BG.keep {W W1:World} {p:Option Addr} {l:List Ar} {c:Nat} {s:Bool} (h:BG W p l) (ho:W.heap[c]? =some (caO s)) (hK:GL W W1 c):BG W1 p l:=by
 rcases h with h|⟨b,off,e,h⟩
 ·exact .inl h
 refine .inr ⟨b,off,e,fun i hi=> ?_⟩
 have hr:=h i hi
 have hne:b≠c:=fun e=>by
  subst e
  have h0:=hr.get 0 (str (Ac l[i].1)) rfl
  simp only[World.cell?,ho] at h0
  generalize off+i*2+0=k at h0
  cases k with
  |zero=>simp at h0
  |succ k=>simp at h0
 refine⟨Nat.lt_of_lt_of_le hr.lt hK.size,fun j u hu=> ?_⟩
 have h1:=hr.get j u hu
 have h2:=hK.at_ b hne hr.lt
 simp only[World.cell?] at h1⊢
 rw[h2]
 exact h1
theorem BG.kc {W W1:World} {p:Option Addr} {l:List Ar} {c:Nat} {s s1:Bool} {bs:List Bx} (h:BG W p l) (ho:W.heap[c]? =some (caO s)) (hp:Hp (Ba W) (AS (A3 W c)::caE c s1::bs) W1):BG W1 p l:=
 h.keep ho (IW ho ⟨_,List.mem_cons_self ..⟩ (Hp.take (bxs:=[AS (A3 W c),caE c s1]) (nb:=bs) hp))
structure UE (l:List Ar) (a b:Nat):Prop where
 x:BC (Av l a).1 (Av l b).1
 y:BC (Av l a).2 (Av l b).2
 t: ∀d,d<l.length→M2 (Av l a) (Av l b) (Av l d)
def Eb (l:List Ar):Prop:= ∀a,a<l.length→ ∀b,b<l.length→UE l a b
theorem ME (c:Nat) (l:List Ar) (h0:0<l.length) (hn:l.length≤4096) (hq: ∀p∈l,okP p) (p:Option Addr) (cap:Nat) (W:World) (hA:BG W p l) (h:KcP c false W):
  BY 320 [Af c,slv p l.length cap] c (fun s:Bool=>s) (fun s=> .int .i64 (erI s)) (fun s=>s=false↔Eb l) W:=by
 obtain⟨g,off,hpe,_⟩:=hA.at_ h0
 have hrow: ∀ {W1:World} {s1:Bool} {bs:List Bx},Hp (Ba W) (AS (A3 W c)::caE c s1::bs) W1→ ∀j,j<l.length→Ai W1 g (off+j*2) [str (Ac (Av l j).1),str (Ac (Av l j).2)]:=fun hp j hj=>by
  obtain⟨g',off',e',h2⟩:=(hA.kc h.o hp).at_ hj
  rw[hpe] at e'
  cases e'
  rw[CT hj]
  exact h2 j hj
 have ok: ∀j,okP (Av l j):=fun j=>hq _ (H6 h0 j)
 subst hpe
 refine BY.enter h Tryz.func320 I I I ?_
 refine zA (zB (wP I (Aa (zE (zA (zA (zB (wP I (wP I (wP I (Aa (zE (zH ?_)))))))))))))
 refine Aw (X:=Nat) (fun i=>[(0,Af c),(1,slv (some ⟨g,off,none⟩) l.length cap),(11,slv (some ⟨g,off,none⟩) l.length cap),(12, .int .i64 (l.length:Nat)),(13, .int .i64 (i:Nat))]) (fun _=>[AS (A3 W c),caE c false]) (fun i=>i≤l.length∧ ∀a,a<i→ ∀b,b<l.length→UE l a b) (fun i=>l.length-i) 0 ⟨Nat.zero_le _,fun _ h=>absurd h (Nat.not_lt_zero _)⟩ ⟨I,I,I,I,I,tO⟩ [] I ?_
 rintro i ⟨hi1,hi2⟩
 have hi1:i≤l.length:=hi1
 have hi2: ∀a,a<i→ ∀b,b<l.length→UE l a b:=hi2
 refine zA (zB (wP I ?_))
 by_cases hi:i<l.length
 rotate_left
 ·obtain rfl:i=l.length:=by omega
  refine wU 14 false I (dF (by omega)) (Aa (zE (zA (zS I (zJ (zK (zK (zL (zE (zA (zB (wP I (Aa ?_)))))))))))))
  exact zE (zO (Ay tH I (.tmp I) false I ⟨fun _=>hi2,fun _=>rfl⟩ fun W1 hp=>FG hp))
 refine wU 14 true I (dT (by omega)) (Aa (zE (zA (zR I (zI (zE (zA (zH (zA (zB ?_))))))))))
 obtain⟨P,hP⟩: ∃P,P=Av l i:=⟨_,rfl⟩
 have okPP:okP P:=hP▸ok i
 have rP: ∀ {W1:World} {s1:Bool} {bs:List Bx},Hp (Ba W) (AS (A3 W c)::caE c s1::bs) W1→Ai W1 g (off+i*2) [str (Ac P.1),str (Ac P.2)]:=fun hp=>by rw[hP];exact hrow hp i hi
 refine wJ ?_
 refine wL 0 I I (fun W1 hp=>rP (s1:=false) (bs:=[]) hp) I ?_
 (refine Ae Tryz.hZ rfl rfl rfl rfl ?_;intro)
 refine wS 2 I I I (Aa ?_)
 rename_i b6
 refine zE (zA (zB (wP I (wP I (wP I (Aa (zE (zH ?_))))))))
 refine Aw (X:=Nat) (fun k=>[(0,Af c),(1,slv (some ⟨g,off,none⟩) l.length cap),(6,Af b6),(11,slv (some ⟨g,off,none⟩) l.length cap),(12, .int .i64 (l.length:Nat)),(13, .int .i64 (i:Nat)),(17,slv (some ⟨g,off,none⟩) l.length cap),(18, .int .i64 (l.length:Nat)),(19, .int .i64 (k:Nat))]) (fun _=>[AS (A3 W c),caE c false,ptB b6 (Ac P.1) (Ac P.2)]) (fun k=>k≤l.length∧ ∀b,b<k→UE l i b) (fun k=>l.length-k) 0 ⟨Nat.zero_le _,fun _ h=>absurd h (Nat.not_lt_zero _)⟩ ⟨I,I,I,I,I,I,I,I,I,tO⟩ [] I ?_
 rintro k ⟨hk1,hk2⟩
 have hk1:k≤l.length:=hk1
 have hk2: ∀b,b<k→UE l i b:=hk2
 refine zA (zB (wP I ?_))
 by_cases hk:k<l.length
 rotate_left
 ·obtain rfl:k=l.length:=by omega
  refine wU 20 false I (dF (by omega)) (Aa (zE (zA (zS I (zJ (zK (zK (zL (zN (zE (zB (wP I (wV 57 ((i+1:Nat):Int) I (Ax (by omega)) ?_)))))))))))))
  refine wP I (Aa ?_)
  exact Al (i+1) ⟨hi,fun a ha=>by
   by_cases e:a=i
   ·subst e;exact hk2
   ·exact hi2 a (by omega)⟩ (by show l.length-(i+1)<l.length-i;omega) ⟨I,I,I,I,I,tO⟩ [_] I
 refine wU 20 true I (dT (by omega)) (Aa (zE (zA (zR I (zI (zE (zA (zH (zA (zB ?_))))))))))
 obtain⟨Q,hQ⟩: ∃Q,Q=Av l k:=⟨_,rfl⟩
 have okQQ:okP Q:=hQ▸ok k
 have rQ: ∀ {W1:World} {s1:Bool} {bs:List Bx},Hp (Ba W) (AS (A3 W c)::caE c s1::bs) W1→Ai W1 g (off+k*2) [str (Ac Q.1),str (Ac Q.2)]:=fun hp=>by rw[hQ];exact hrow hp k hk
 refine wJ ?_
 refine wL 0 I I (fun W1 hp=>rQ (s1:=false) (bs:=[ptB b6 (Ac P.1) (Ac P.2)]) hp) I ?_
 (refine Ae Tryz.hZ rfl rfl rfl rfl ?_;intro)
 refine wS 3 I I I (Aa ?_)
 rename_i b8
 obtain⟨x1,e1⟩: ∃x,x=kOr false P.1 Q.1:=⟨_,rfl⟩
 obtain⟨x2,e2⟩: ∃x,x=kOr x1.2 P.2 Q.2:=⟨_,rfl⟩
 have c1: ∀W1,KcP c false W1→I0 356 [Af c,str (Ac P.1),str (Ac Q.1)] c x1 W1:=fun W1 h=>by rw[e1];exact Ep c _ _ _ okPP.1 okQQ.1 W1 h
 have c2: ∀W1,KcP c x1.2 W1→I0 356 [Af c,str (Ac P.2),str (Ac Q.2)] c x2 W1:=fun W1 h=>by rw[e2];exact Ep c _ _ _ okPP.2 okQQ.2 W1 h
 have hx:x2.2=false↔BC P.1 Q.1∧BC P.2 Q.2:=by
  rw[e2,Vo,e1,Vo]
  exact⟨fun h=>⟨h.1.2,h.2⟩,fun h=>⟨⟨I,h.1⟩,h.2⟩⟩
 refine zE (zA (zB (wP I (wP I (wB 2 I I I (wP I (wB 3 I I I ?_)))))))
 refine Ca 1 c I I I I I I (by kernel_rfl) I (fun W1 hp1=>c1 W1 (h.at_ (bs:=[ptB b6 (Ac P.1) (Ac P.2),ptB b8 (Ac Q.1) (Ac Q.2)]) hp1)) ?_
 refine Aa (zE (zA (zB (wP I (wP I (wB 2 I I I (wP I (wB 3 I I I ?_))))))))
 refine Ca 1 c I I I I I I (by kernel_rfl) I (fun W1 hp1=>c2 W1 (h.at_ (bs:=[ptB b6 (Ac P.1) (Ac P.2),ptB b8 (Ac Q.1) (Ac Q.2)]) hp1)) ?_
 refine Aa (zE (zA (zB (wP I (wP I (wP I (Aa (zE (zH ?_)))))))))
 refine Aw (X:=Nat×Bool) (fun s=>[(0,Af c),(1,slv (some ⟨g,off,none⟩) l.length cap),(6,Af b6),(8,Af b8),(11,slv (some ⟨g,off,none⟩) l.length cap),(12, .int .i64 (l.length:Nat)),(13, .int .i64 (i:Nat)),(17,slv (some ⟨g,off,none⟩) l.length cap),(18, .int .i64 (l.length:Nat)),(19, .int .i64 (k:Nat)),(35,slv (some ⟨g,off,none⟩) l.length cap),(36, .int .i64 (l.length:Nat)),(37, .int .i64 (s.1:Nat))]) (fun s=>[AS (A3 W c),caE c s.2,ptB b6 (Ac P.1) (Ac P.2),ptB b8 (Ac Q.1) (Ac Q.2)])
  (fun s=>s.1≤l.length∧(0<s.1→s.2=false)∧(s.2=false↔BC P.1 Q.1∧BC P.2 Q.2∧ ∀d,d<s.1→M2 P Q (Av l d))) (fun s=>l.length-s.1) (0,x2.2) ⟨Nat.zero_le _,fun h=>absurd h (Nat.not_lt_zero _),hx.trans ⟨fun h=>⟨h.1,h.2,fun _ hd=>absurd hd (Nat.not_lt_zero _)⟩,fun h=>⟨h.1,h.2.1⟩⟩⟩ ⟨rfl,rfl,rfl,rfl,rfl,rfl,rfl,rfl,rfl,rfl,rfl,rfl,rfl,trivial⟩ [] rfl ?_
 rintro⟨j,s⟩ ⟨hj1,hj2,hj3⟩
 have hj1:j≤l.length:=hj1
 have hj2:0<j→s=false:=hj2
 have hj3:s=false↔BC P.1 Q.1∧BC P.2 Q.2∧ ∀d,d<j→M2 P Q (Av l d):=hj3
 refine zA (zB (wP I ?_))
 by_cases hj:j<l.length
 rotate_left
 ·obtain rfl:j=l.length:=by omega
  obtain rfl:s=false:=hj2 h0
  have hall:=hj3.1 rfl
  refine wU 38 false I (dF (by omega)) (Aa (zE (zA (zS I (zJ (zK (zK (zL (zN (zE (zB (wP I (wV 56 ((k+1:Nat):Int) I (Ax (by omega)) ?_)))))))))))))
  refine wP I (Aa ?_)
  exact Al (k+1) ⟨hk,fun b hb=>by
   by_cases e:b=k
   ·subst e;exact⟨by rw[←hP, ←hQ];exact hall.1,by rw[←hP, ←hQ];exact hall.2.1,by rw[←hP, ←hQ];exact hall.2.2⟩
   ·exact hk2 b (by omega)⟩ (by show l.length-(k+1)<l.length-k;omega) ⟨I,I,I,I,I,I,I,I,I,tO⟩ [_] I
 refine wU 38 true I (dT (by omega)) (Aa (zE (zA (zR I (zI (zE (zA (zH (zA (zB ?_))))))))))
 obtain⟨Z,hZ⟩: ∃Z,Z=Av l j:=⟨_,rfl⟩
 have okZZ:okP Z:=hZ▸ok j
 have rZ: ∀ {W1:World} {s1:Bool} {bs:List Bx},Hp (Ba W) (AS (A3 W c)::caE c s1::bs) W1→Ai W1 g (off+j*2) [str (Ac Z.1),str (Ac Z.2)]:=fun hp=>by rw[hZ];exact hrow hp j hj
 refine wJ ?_
 refine wL 0 I I (fun W1 hp=>rZ (s1:=s) (bs:=[ptB b6 (Ac P.1) (Ac P.2),ptB b8 (Ac Q.1) (Ac Q.2)]) hp) I ?_
 (refine Ae Tryz.hZ rfl rfl rfl rfl ?_;intro)
 refine wS 4 I I I (Aa ?_)
 rename_i b10
 obtain⟨⟨v,s2⟩,e3⟩: ∃x,x=kLf s P Q Z:=⟨_,rfl⟩
 have hs2:s2=false↔s=false∧M2 P Q Z:=by
  have:=Yj (s:=s) (p:=P) (q:=Q) (r:=Z)
  rw[←e3] at this
  exact this
 have c3: ∀W1,KcP c s W1→I0 325 [Af c,cvV P,cvV Q,cvV Z] c (v,s2) W1:=fun W1 h=>by rw[e3];exact Jj c _ _ _ _ okPP okQQ okZZ W1 h
 refine zE (zA (zB (wP I (wB 2 I I I (wB 3 I I I (wB 4 I I I ?_))))))
 refine Ca 1 c I I I I I I (by kernel_rfl) I (fun W1 hp1=>c3 W1 (h.at_ (bs:=[ptB b6 (Ac P.1) (Ac P.2),ptB b8 (Ac Q.1) (Ac Q.2),ptB b10 (Ac Z.1) (Ac Z.2)]) hp1)) ?_
 refine Aa ?_
 cases s2 with
 |true=>
  have hno: ¬Eb l:=fun ha=>by
   have hb:=ha i hi k hk
   have h1:M2 P Q Z:=by rw[hP,hQ,hZ];exact hb.t j hj
   have h2:s=false:=hj3.2 ⟨by rw[hP,hQ];exact hb.x,by rw[hP,hQ];exact hb.y,fun d hd=>by rw[hP,hQ];exact hb.t d (by omega)⟩
   exact absurd (hs2.2 ⟨h2,h1⟩) (by decide)
  refine zE (zA (zB (wP I ?_)))
  refine AK I I I I ?_
  refine wP I (wB 1 I I I (wP I (Aa (zE (zR I (zA (zB (wP I ?_))))))))
  refine AK I I I I ?_
  refine wP I (wB 1 I I I (wP I (Aa (zE (zO (zQ (zP (zP (zQ (zQ (zP (zP (zQ (zQ ?_))))))))))))))
  exact zP (zP (zQ (zP (Ay tH I (.tmp I) true I ⟨fun h=>absurd h (by decide),fun h=>absurd h hno⟩ fun W1 hp=>FG hp))))
 |false=>
  obtain⟨rfl,htn⟩:=hs2.1 rfl
  have hall:=hj3.1 rfl
  refine zE (zA (zB (wP I ?_)))
  refine AK I I I I ?_
  refine wP I (wB 1 I I I (wP I (Aa (zE (zS I (zI (zN (zE (zB (wP I (wV 55 ((j+1:Nat):Int) I (Ax (by omega)) (wP I (Aa ?_)))))))))))))
  exact Al (j+1,false) ⟨hj,fun _=>rfl,⟨fun _=>⟨hall.1,hall.2.1,fun d hd=>by
   by_cases e:d=j
   ·subst e;rw[←hZ];exact htn
   ·exact hall.2.2 d (by have hd:d<j+1:=hd;omega)⟩,fun _=>rfl⟩⟩ (by show l.length-(j+1)<l.length-j;omega) ⟨I,I,I,I,I,I,I,I,I,I,I,I,I,tO⟩ [_] I
def LH (x:PtS):Bool:=decide (30<x.1.length)||decide (30<x.2.length)
theorem Ok (x:PtS) (W:World):Ad Tryz.prog 355 #[.agg #[str x.1,str x.2]] W (fun _:Unit=> .bool (LH x)) (fun _=>True) (fun _=>[]):=by
 have e1: ∀a:List UInt8,decide (((⟨a.toArray⟩:ByteArray).size:Int)>30)=decide (30<a.length):=fun a=>decide_eq_decide.2 (by show((a.toArray.size:Nat):Int)>30↔_;rw[List.size_toArray];omega)
 refine Ab (args:=[.agg #[str x.1,str x.2]]) Tryz.func355 I I I ?_
 refine zA (zB ?_)
 (refine Ak rfl rfl rfl rfl ?_;intro)
 refine wP I (Aa (zE (zA (zB (wP I (wB 0 I I I (wP I (wP I (wU 6 (decide (30<x.1.length)) I (e1 x.1) ?_)))))))))
 cases hx:decide (30<x.1.length) with
 |true=>
  refine wP I ?_
  iterate 4 refine Ah I I ?_
  exact wP I (wP I (Aa (zE (zO (wR1 I I (by rw[LH,hx];rfl))))))
 |false=>
  exact wP I (wP I (wB 0 I I I (wP I (wP I (wU 11 (decide (30<x.2.length)) I (e1 x.2) (wP I (wP I (Aa (zE (zO (wR1 I I (by rw[LH,hx];rfl))))))))))))
theorem Qi (xs:List PtS) (hn:xs.length≤100000) (p:Option Addr) (cap:Nat) (W:World) (hS:QS W p xs):
  Ad Tryz.prog 319 #[slv p xs.length cap] W (fun _:Unit=> .bool (xs.any LH)) (fun _=>True) (fun _=>[]):=by
 refine Ab (args:=[slv p xs.length cap]) Tryz.func319 I I I ?_
 exact zA (zB (wP I (Aa (zE (zA (zB (wP I (wC I I (fun W1 hp=>JS 355 (by kernel_rfl) LH Ok xs hn p cap W1 (hS.hp hp)) (wP I (Aa (zE (zO (wR1 I I I)))))))))))))
-- BOXES 9
-- CODE2
theorem KcP.beside {c g:Nat} {s:Bool} {W0 W1 W2:World} {bxs:List Bx} {B:Bx} {o:Obj} (hp:Hp W0 bxs W1) (k j:Nat) (hk:nth bxs k=some (caE c s)) (hj:nth bxs j=some B) (hB:(g,o)∈B.blk) (hne:k≠j) (hv:AL W0) (ht:AA W0) (h2:GL W1 W2 g):KcP c s W2:=by
 rw[Be] at hk hj
 have hc:=hp.own.cell k _ hk (c,caO s) (List.mem_cons_self ..)
 have hg:=hp.own.cell j _ hj (g,o) hB
 have ne:c≠g:=hp.own.apart k j _ _ hk hj hne (c,_) (List.mem_cons_self ..) (g,o) hB
 exact⟨(h2.at_ c ne (Array.getElem?_eq_some_iff.1 hc.1).1).trans hc.1,fun W3 h3=>⟨hv.below (h3.below (h2.below hp.below hg.2) hc.2),ht.below (h3.below (h2.below hp.below hg.2) hc.2)⟩⟩
def J8 (l:List Ar):List Ar:=Sl (G7 (Co l))
def XF (l L:List Ar) (e:Int):Prop:=Eb l∧3≤(J8 l).length∧L=J8 l∧e=0∨Eb l∧(J8 l).length<3∧L=[]∧e=12∨ ¬Eb l∧L=[]∧e=4
theorem Eb.tn {l:List Ar} (h:Eb l) {x y z:Ar} (hx:x∈l) (hy:y∈l) (hz:z∈l):M2 x y z:=by
 obtain⟨i,hi,rfl⟩:=EN hx
 obtain⟨j,hj,rfl⟩:=EN hy
 obtain⟨k,hk,rfl⟩:=EN hz
 exact(h i hi j hj).t k hk
theorem Eb.dv {l:List Ar} (h:Eb l) {x y:Ar} (hx:x∈l) (hy:y∈l):BC x.1 y.1∧BC x.2 y.2:=by
 obtain⟨i,hi,rfl⟩:=EN hx
 obtain⟨j,hj,rfl⟩:=EN hy
 exact⟨(h i hi j hj).x,(h i hi j hj).y⟩
theorem Uq (l:List Ar) (x:Ar):x∈G7 (Co l)↔x∈l:=((T1 (QC l)).2 x).trans QP
theorem V5 (l:List Ar):(G7 (Co l)).length≤l.length:=by
 exact Nat.le_trans (PM (Co l) (Co l).length) (Nat.le_of_eq (KZ l))
theorem QT (l L:List Ar) (e:Int) (hr:XF l L e) (hlong:Eb l∨(l.map ptS).any LH=true) (h0:0<l.length) (h12:l.length≤12) (hq: ∀p∈l,okP p) (p:Option Addr) (cap:Nat) (W:World) (hA:BG W p l) (hv:AL W) (ht:AA W):
  Ad Tryz.prog 280 #[slv p l.length cap] W (fun V:Vec=> .tuple #[V.val L.length, .int .i64 e]) (fun V=>V.OK 2 L.length (ptC L)) (fun V=>[V.bx 62 (ptC L)]):=by
 have hne:l≠[]:=fun h=>by rw[h] at h0;exact absurd h0 (by decide)
 have nilR: ∀ {W1:World} {bs:List Bx},Hp W bs W1→As W W1 [Vec.empty.bx 62 (ptC [])]:=fun _=>Own.one (fun p hp=>by cases hp) List.nodup_nil
 refine Ab (args:=[slv p l.length cap]) Tryz.func280 I I I ?_
 refine zA (zB (wP I (wP I (Aa (zE (zA (zH (zA (zB (wP I (wP I (wP I (wU 13 false I (beq_eq_false_iff_ne.2 (by omega)) ?_)))))))))))))
 refine wP I (Aa (zE (zS I (zA (zB (wP I (wP I (wP I (wU 17 false I (dF (by omega)) (wP I (Aa (zE (zS I ?_)))))))))))))
 refine zI (zN (zE (zA (zA (zB (wP I (wC I I (fun W1 hp=>GD W1 p cap l (hA.hp hp) (by omega) hq (hv.hp hp) (ht.hp hp)) (wP I (Aa (zE (zA (zB (wP I (wP I ?_))))))))))))))
 refine Aa (zE (zS I (zI (zE (zA (zB ?_))))))
 refine Au Tryz.hZ tH I I I I I I I I ?_
 (refine Ak rfl rfl rfl rfl ?_;intro)
 (refine Ae Tryz.hZ rfl rfl rfl rfl ?_;intro)
 refine wS 1 I I I (Aa ?_)
 rename_i bC b5
 refine zE (zA (zA (zB (wP I (wC I I (fun W1 hp=>(by have:=Qi (l.map ptS) (by rw[List.length_map];omega) p cap W1 (hA.hp hp).b;rwa [List.length_map] at this)) (Aa (A8 ?_)))))))
 try refine Az ?_
 refine AC (X:=Unit) (fun _=>[(0,slv p l.length cap),(5,Af b5)]) (fun _=>[caE bC false,ckB b5 bC]) (fun _=>Eb l) ?_ ?_
 ·cases hln:(l.map ptS).any LH with
  |false=>
   have hok:Eb l:=by
    rcases hlong with h|h
    ·exact h
    ·rw[hln] at h;cases h
   exact zS I (zI (An () hok ⟨I,I,tO⟩ [] I))
  |true=>
   refine zR I (zA (zB (wB 1 I I I (wP I ?_))))
   refine Qp 0 bC (s:=false) (X:=Bool) I I I I I I (by kernel_rfl) I (fun W1 hp=>ME bC l h0 (by omega) hq p cap W1 (hA.hp hp) (KcP.of hp 0 I hv ht)) ?_
   intro s hs
   have hs:s=false↔Eb l:=hs
   cases s with
   |true=>
    have hno: ¬Eb l:=fun h=>absurd (hs.2 h) (by decide)
    obtain⟨rfl,rfl⟩:L=[]∧e=4:=by
     rcases hr with h|h|h
     ·exact absurd h.1 hno
     ·exact absurd h.1 hno
     ·exact h.2
    refine wP I (Aa (zE (zA (zB (wP I (wP I (Aa (zE (zR I (zA (zB (wP I (wP I (wP I ?_))))))))))))))
    exact Aa (zE (zO (zP (A9 tH I (.tmp I) (.tmp I) Vec.empty I (Vec.OK.empty 2) fun W1 hp=>nilR hp))))
   |false=>
    exact wP I (Aa (zE (zA (zB (wP I (wP I (Aa (zE (zS I (zI (An () (hs.1 I) ⟨I,I,tO⟩ [] I)))))))))))
 intro _ hok
 have hok:Eb l:=hok
 refine zA (zB (wP I ?_))
 refine wD (X:=Vec) I I (fun W1 hp=>M6 W1 p cap l (by omega) (hA.hp hp) hne) ?_
 rintro⟨pS,cS,jS⟩ ⟨hVS,hpS⟩
 obtain⟨gS,rfl⟩: ∃g,pS=some g:=Option.ne_none_iff_exists'.1 hpS
 have hcS:l.length≤cS:=(hVS.cap (by simp)).1
 refine wP I (Aa (zE (zA (zB (wP I (wB 1 I I I (wP I ?_)))))))
 refine Er (X:=Unit) (val:=fun _=> .tuple #[]) (Φ:=fun _=>True) (capt:=[]) 2 (B:=B5 gS l jS) (L1:=[]) (L2:=[]) (b:=gS) (ob:= .cells (ptC l++jS).toArray 62 (0,0)) (fun _=>B5 gS (Co l) jS) (g':=fun _=>gS) (o':=fun _=> .cells (ptC (Co l)++jS).toArray 62 (0,0))
  rfl rfl rfl rfl rfl rfl (by kernel_rfl) rfl rfl (fun _ _=>rfl) (fun W1 hp=> ?_) (fun _ _=> ?_)
 ·exact QL bC W1 gS cS l jS h12 (hp.own.cell 2 _ I (gS, .cells (ptC l++jS).toArray 62 (0,0)) (List.mem_cons_self ..)).1 fun W2 h2 x hx y hy=>JO.of (hq x hx) (hq y hy) (hok.dv hx hy).1 (hok.dv hx hy).2 (KcP.beside hp 0 2 I I (List.mem_cons_self ..) (by decide) hv ht h2)
 refine Aa ?_
 have hsl:=KZ l
 obtain⟨S,hS⟩: ∃S,S=G7 (Co l):=⟨_,rfl⟩
 have hSm: ∀x,x∈S↔x∈l:=fun x=>by rw[hS];exact Uq l x
 have hSl:S.length≤l.length:=by rw[hS];exact V5 l
 have hS0:0<S.length:=by
  have:Av l 0∈S:=(hSm _).2 (H6 h0 0)
  exact List.length_pos_of_mem this
 have hSP: ∀i,Av S i∈l:=fun i=>(hSm _).1 (H6 hS0 i)
 have hH:J8 l=Sl S:=by rw[hS];rfl
 refine zE (zA (zB (wP I ?_)))
 refine Er (X:=List Value) (val:=fun _=> .slice (some ⟨gS,0,none⟩) S.length cS) (Φ:=fun _=>True) (capt:=[]) 2 (B:=B5 gS (Co l) jS) (L1:=[]) (L2:=[]) (b:=gS) (ob:= .cells (ptC (Co l)++jS).toArray 62 (0,0)) (fun x=>B5 gS S x) (g':=fun _=>gS) (o':=fun x=> .cells (ptC S++x).toArray 62 (0,0))
  rfl rfl rfl rfl rfl rfl (by kernel_rfl) rfl rfl (fun _ _=>rfl) (fun W1 hp=> ?_) ?_
 ·have:=Ki W1 gS cS (Co l) jS (by omega) (by omega) (hp.own.cell 2 _ rfl (gS, .cells (ptC (Co l)++jS).toArray 62 (0,0)) (List.mem_cons_self ..)).1
  rw[←hS,hsl] at this
  exact this
 intro jT _
 refine wP I (Aa (zE (zA (zB (wP I (wP I (Aa ?_)))))))
 have hleft: ∀ {c:Nat} (P:Nat→Ar),(∀i,P i∈l)→ ∀(i j k:Nat) {W1 W2:World},KcP c false W1→Below W1.heap.size W1 W2→JI c (P i) (P j) (P k) W2:=fun {c} P hP i j k {W1 W2} hk hb=>JI.of (hq _ (hP i)) (hq _ (hP j)) (hq _ (hP k)) (hok.tn (hP i) (hP j) (hP k)) (hk.below hb)
 refine zE (zA (zB (wP I (wP I ?_))))
 refine wD (X:=Nat) I I (fun W1 _=>RU (some ⟨gS,0,none⟩) S.length cS W1) ?_
 intro b1 _
 refine wD (X:=Vec) (capt:=[Af b5]) I I (fun W1 hp=>Kf b5 bC 359 [Af b1] (by kernel_rfl) S.length (fun k=>k) (Av S) (fun _=>TM b1 (some ⟨gS,0,none⟩) cS S) (Tl S b1 (some ⟨gS,0,none⟩) cS (by omega)) hS0 (by omega) W1 (Ai.of_bx hp 1 I I)
  (fun _ W2 hb=>⟨(Ai.of_bx hp 3 rfl rfl).below (Nat.le_refl _) hb,(BG.of_row (Ai.of_bx hp 2 rfl rfl)).below (Nat.le_refl _) hb⟩) (fun i j k _ _ _ W2 hb=>hleft (Av S) hSP i j k (KcP.of hp 0 rfl hv ht) hb)) ?_
 rintro⟨p1,c1,j1⟩ ⟨hV1,hp1⟩
 obtain⟨g1,rfl⟩: ∃g,p1=some g:=Option.ne_none_iff_exists'.1 hp1
 rw[QD] at hV1
 refine wP I (wP I ?_)
 refine wD (X:=Nat) I I (fun W1 _=>PW (some ⟨gS,0,none⟩) S.length cS W1) ?_
 intro b2 _
 refine wD (X:=Vec) (capt:=[Af b5]) I I (fun W1 hp=>Kf b5 bC 360 [Af b2] (by kernel_rfl) S.length (fun k=>S.length-1-k) (fun k=>Av S (S.length-1-k)) (fun _=>TM b2 (some ⟨gS,0,none⟩) cS S) (Ra S b2 (some ⟨gS,0,none⟩) cS (by omega)) hS0 (by omega) W1 (Ai.of_bx hp 1 I I)
  (fun _ W2 hb=>⟨(Ai.of_bx hp 5 rfl rfl).below (Nat.le_refl _) hb,(BG.of_row (Ai.of_bx hp 2 rfl rfl)).below (Nat.le_refl _) hb⟩) (fun i j k _ _ _ W2 hb=>hleft (fun k=>Av S (S.length-1-k)) (fun i=>hSP _) i j k (KcP.of hp 0 rfl hv ht) hb)) ?_
 rintro⟨p2,c2,j2⟩ ⟨hV2,hp2⟩
 obtain⟨g2,rfl⟩: ∃g,p2=some g:=Option.ne_none_iff_exists'.1 hp2
 rw[Pq] at hV2
 have sl1:=GR (Av S) S.length
 have sl2:=GR (fun k=>Av S (S.length-1-k)) S.length
 have q1:=QD S
 have q2:=Pq S
 refine At Tryz.hZ tH I I I I I I I I I I I fun bR=> ?_
 rw[q1] at sl1
 rw[q2] at sl2
 rw[q1,q2]
 obtain⟨A,eA⟩: ∃A,A=(DI S).tail.reverse:=⟨_,rfl⟩
 obtain⟨B,eB⟩: ∃B,B=(DI S.reverse).tail.reverse:=⟨_,rfl⟩
 have lA:(DI S).length-1=A.length:=by rw[eA,List.length_reverse,List.length_tail]
 have lB:(DI S.reverse).length-1=B.length:=by rw[eB,List.length_reverse,List.length_tail]
 have hHC:J8 l=A++B:=by rw[hH,eA,eB];rfl
 rw[lA] at hV1
 rw[lB] at hV2
 rw[←eA] at hV1
 rw[←eB] at hV2
 rw[←eA, ←eB,lA,lB]
 refine wD (X:=Vec) I I (fun W1 hp=>CI W1 bR 2 (some ⟨g1,0,none⟩) (some ⟨g2,0,none⟩) A.length B.length c1 c2 (ptC A) (ptC B) (Ai.of_bx hp 7 I I) (.inr ⟨g1,0,I,C8 (Ai.of_bx hp 4 I I:Ai W1 g1 0 (ptC A++j1))⟩) (.inr ⟨g2,0,I,C8 (Ai.of_bx hp 6 I I:Ai W1 g2 0 (ptC B++j2))⟩) (B1 A) (B1 B) (ED _) (ED _) (by omega) (by omega)) ?_
 intro V hV
 have lAB:A.length+B.length=(J8 l).length:=by rw[hHC,List.length_append]
 have hV:V.OK 2 (J8 l).length (ptC (J8 l)):=by
  have h1:V.OK 2 (A.length+B.length) (ptC A++ptC B):=hV
  rw[←C1, ←hHC,lAB] at h1
  exact h1
 have hAB:ptC A++ptC B=ptC (J8 l):=by rw[hHC,C1]
 rw[hAB,lAB]
 refine wP I (Aa (zE (zA (zA (zB (wB 1 I I I ?_))))))
 refine AK I I I I ?_
 refine wP I (wB 0 I I I (wP I (Aa (zE (zS I (zI (zE (zA (zA (zB (wP I ?_)))))))))))
 obtain⟨pV,cV,jV⟩:=V
 by_cases hl3:(J8 l).length<3
 ·obtain⟨rfl,rfl⟩:L=[]∧e=12:=by
   rcases hr with h|h|h
   ·exact absurd hl3 (by omega)
   ·exact h.2.2
   ·exact absurd hok h.1
  cases pV with
  |none=>
   have hz:=hV.nil rfl
   rw[hz]
   exact wP I (wP I (Aa (zE (zR I (zA (zB (wP I (wP I (Aa (zE (zO (zP (A9 tH I (.tmp I) (.tmp I) Vec.empty I (Vec.OK.empty 2) fun W1 hp=>nilR hp)))))))))))))
  |some gV=>
   exact wP I (wP I (wU 63 true I (dT (by omega)) (Aa (zE (zR I (zA (zB (wP I (wP I (Aa (zE (zO (zP (A9 tH I (.tmp I) (.tmp I) Vec.empty I (Vec.OK.empty 2) fun W1 hp=>nilR hp))))))))))))))
 ·obtain⟨rfl,rfl⟩:L=J8 l∧e=0:=by
   rcases hr with h|h|h
   ·exact h.2.2
   ·exact absurd h.2.1 hl3
   ·exact absurd hok h.1
  cases pV with
  |none=>exact absurd (hV.nil rfl) (by omega)
  |some gV=>
   refine wP I (wP I (wU 63 false I (dF (by omega)) (Aa (zE (zS I (zI (zE (zA (zB (wP I (wP I (wP I (Aa ?_)))))))))))))
   exact zE (zO (A9 tH I (.tmp I) (.tmp I) (⟨some gV,cV,jV⟩:Vec) I hV fun W1 hp=>As.of_hp (hp.pick (l:=[(⟨some gV,cV,jV⟩:Vec).bx 62 (ptC (J8 l))]) [8] (by decide) I)))
-- BOXES 5
-- CODE2
abbrev f0:FrP:=⟨false,0,1,1,0⟩
abbrev S0:StR:=⟨0,5,0,10,5,5⟩
def FK:List Ar:=[(0,0),(10,0),(5,5),(5,5)]
def DO:List Ar:=[(0,0),(10,0),(5,5)]
theorem UC:f0.OK:=⟨by decide,by decide, .inl rfl,by unfold szQ;decide+kernel,by unfold szQ;decide+kernel,by decide⟩
theorem Q1:f0.Go:=⟨UC,by unfold szQ;decide+kernel,by unfold szQ;decide+kernel,by decide+kernel⟩
theorem WY:S0.OK:=⟨by unfold szQ;decide+kernel,by decide+kernel,by decide+kernel,by decide+kernel⟩
theorem VG: ∀x∈FK,szQ x.1 8∧szQ x.2 8:=by unfold szQ FK;decide+kernel
theorem TX: ∀k (hk:k<FK.length), ¬Jv FK[k] FK[0]<0:=by decide+kernel
theorem TN:G7 FK=DO:=by decide+kernel
theorem G5 (p q:Rat) (W:World):Ad Tryz.prog 271 #[str (Ac p),str (Ac q)] W (fun _:Unit=>cvV (q,p)) (fun _=>True) (fun _=>[]):=by
 refine Ab (args:=[str (Ac p),str (Ac q)]) Tryz.func271 I I I ?_
 refine zA (zB ?_)
 (refine Ae Tryz.hZ rfl rfl rfl rfl ?_;intro)
 refine Aa (zE (zA (zB (wP I (wP I ?_)))))
 refine Au Tryz.hZ tH I I I I I I I I ?_
 exact wS 0 I I I (Aa (zE (zO (Ay tH I (.cell 0 I I I I I) () I tO fun W _=>As.nil _ _))))
theorem Oj (W:World) (hv:AL W) (ht:AA W):
  Ad Tryz.prog 233 #[frV f0,stV 0 S0] W (fun x:Nat×Nat×List Value=>slv (some ⟨x.1,0,none⟩) 3 x.2.1) (fun _=>True) (fun x=>[B5 x.1 DO x.2.2]):=by
 have h40:0<FK.length:=by decide
 have a0:f0.at 0=0:=by decide+kernel
 have a5:f0.at 5=5:=by decide+kernel
 refine Ab (args:=[frV f0,stV 0 S0]) Tryz.func233 I I I ?_
 refine zA (zB ?_)
 (refine Ak rfl rfl rfl rfl ?_;intro)
 (refine Ak rfl rfl rfl rfl ?_;intro)
 refine wP I (Aa ?_)
 rename_i b2 b3
 refine zE (zA (zB (wB 0 I I I (wP I (wB 1 I I I (wC I I (fun W1 hp=>(Mi f0 UC 0 (by unfold szQ;decide+kernel) W1 (hv.hp hp) (ht.hp hp)).cast (v':= .tuple #[str (Ac 0), .int .i64 0]) (by rw[a0])) ?_))))))
 iterate 5 refine wP I ?_
 refine Aa (zE (zA (zB (wB 0 I I I (wP I (wB 1 I I I (wC I I (fun W1 hp=>(Mi f0 UC 5 (by unfold szQ;decide+kernel) W1 (hv.hp hp) (ht.hp hp)).cast (v':= .tuple #[str (Ac 5), .int .i64 0]) (by rw[a5])) ?_)))))))
 iterate 5 refine wP I ?_
 refine Aa (zE (zA (zB (wP I (Aa (zE (zA (zA (zB (wP I (wB 0 I I I (Aa (zE ?_)))))))))))))
 refine zS I (zI (zE (zA (zU (qP I (qP I (qP I (qB 1 I I I ?_))))))))
 refine FW (capt:=[]) I I I I I I (by kernel_rfl) (fun W1 _=>G5 0 0 W1) ?_
 refine qP I (qP I (qP I (qB 1 I I I ?_)))
 refine FW (capt:=[]) I I I I I I (by kernel_rfl) (fun W1 _=>G5 0 10 W1) ?_
 refine qP I (qP I (qP I (qB 1 I I I ?_)))
 refine FW (capt:=[]) I I I I I I (by kernel_rfl) (fun W1 _=>G5 5 5 W1) ?_
 refine qP I (qP I (qP I (qB 1 I I I ?_)))
 refine FW (capt:=[]) I I I I I I (by kernel_rfl) (fun W1 _=>G5 5 5 W1) ?_
 refine AB ?_
 (refine At Tryz.hZ tH rfl rfl rfl rfl rfl rfl rfl rfl rfl rfl rfl ?_;intro)
 rename_i bP
 refine wP I (Aa (zE (zA (zA (zB (wP I (wB 0 I I I (wP I (wB 0 I I I (wP I ?_))))))))))
 refine DX Tryz.underlying4 I I I I I I ?_
 refine Aa (zE (zS I (zI (zE (zA (zB (wP I (Aa (zE (zA (zB (wP I (wP I (wP I ?_))))))))))))))
 have hpts: ∀ {W0 W1:World} {bxs:List Bx},Hp W0 bxs W1→nth bxs 2=some (⟨bP,62,ptC FK,true,none⟩:Bx)→BG W1 (some ⟨bP,0,none⟩) FK:=fun hp h1=>BG.of_row (junk:=[]) (by rw[List.append_nil];exact Ai.of_bx hp 2 h1 rfl)
 refine wC I I (fun W1 hp=>(Qt FK h40 (by decide) VG TX (some ⟨bP,0,none⟩) 4 W1 (hpts hp I) (hv.hp hp) (ht.hp hp)).cast (v':=cvV ((0:Rat),(0:Rat))) I) (wC I I (fun W1 hp=>(show Ad Tryz.prog 276 #[slv (some ⟨bP,0,none⟩) 4 4,cvV ((0:Rat),(0:Rat))] W1 (fun _:Unit=> .int .i64 0) (fun _=>True) (fun _=>[]) from LV FK h40 (by decide) (some ⟨bP,0,none⟩) 4 W1 (hpts hp I))) (wP I (Aa (zE (Az ?_)))))
 refine AV (X:= { V:Vec//V.OK 2 4 (ptC FK) }) [true,true,false,true,true,false,false,false,false] (fun V=>[(10,V.1.val 4)]) (fun V=>[V.1.bx 62 (ptC FK)])
  5 [⟨b2,56,(frV f0).cells.toList,true,none⟩,⟨b3,145,(stV 0 S0).cells.toList,true,none⟩,⟨bP,62,ptC FK,true,none⟩] Tryz.mixed (by kernel_rfl) ?_ ?_
 ·refine qP I (qP I (qP I (qP I (BU (wX ?_)))))
  refine RS.cons ?_ (RS.cons ?_ (RS.nil))
  ·refine Dw 0 tH I I I I I I I I (by decide) (by decide) ?_;refine Ao 65 (.slice (some ⟨bP,0,none⟩) 4 4) I I ?_
   refine Aa (Ag (wX (wZ ?_)))
   refine Bm 0 tH I I I I I I I I (by decide) ?_
   refine Aa (Ag (wX (wZ ?_)))
   refine At Tryz.hZ tH I I I I I I I I I I I fun bL1=> ?_
   refine Aa (Ag (wX (wZ ?_)))
   refine wD (X:=Vec) rfl rfl (fun W1 hp=>CI W1 bL1 2 (some ⟨bP,0,none⟩) (some ⟨bP,0,none⟩) 4 0 4 4 (ptC FK) [] (Ai.of_bx hp 3 rfl rfl) (BG.cells (hpts hp rfl)) (.inl rfl) rfl rfl (ED _) (fun u hu=>absurd hu List.not_mem_nil) (by decide) (by decide)) ?_;intro V1 hV1
   refine Aa (Ag (wX (wZ (wP I (Aa (Ag ?_))))))
   rw[List.append_nil] at hV1;rw[List.append_nil];first|refine AG rfl (by((repeat (first|refine AI.same ?_|refine AI.off rfl ?_));exact trivial)) ?_|refine AP rfl (by kernel_rfl) ?_
   exact A6 ⟨V1,hV1⟩ ⟨I,tO⟩ [4] (by decide) I
  ·refine Bm 0 tH I I I I I I I I (by decide) ?_
   refine Aa (Ag (wX (wZ ?_)))
   refine Dw 0 tH I I I I I I I I (by decide) (by decide) ?_;refine Ao 65 (.slice (some ⟨bP,0,none⟩) 4 4) I I ?_
   refine Aa (Ag (wX (wZ ?_)))
   refine At Tryz.hZ tH I I I I I I I I I I I fun bL1=> ?_
   refine Aa (Ag (wX (wZ ?_)))
   refine wD (X:=Vec) rfl rfl (fun W1 hp=>CI W1 bL1 2 (some ⟨bP,0,none⟩) (some ⟨bP,0,none⟩) 4 0 4 4 (ptC FK) [] (Ai.of_bx hp 3 rfl rfl) (BG.cells (hpts hp rfl)) (.inl rfl) rfl rfl (ED _) (fun u hu=>absurd hu List.not_mem_nil) (by decide) (by decide)) ?_;intro V1 hV1
   refine Aa (Ag (wX (wZ (wP I (Aa (Ag ?_))))))
   rw[List.append_nil] at hV1;rw[List.append_nil];first|refine AG rfl (by((repeat (first|refine AI.same ?_|refine AI.off rfl ?_));exact trivial)) ?_|refine AP rfl (by kernel_rfl) ?_
   exact A6 ⟨V1,hV1⟩ ⟨I,tO⟩ [4] (by decide) I
 rintro⟨⟨pS,cS,jS⟩,hVS⟩
 have hVS:Vec.OK ⟨pS,cS,jS⟩ 2 4 (ptC FK):=hVS
 obtain⟨gS,rfl⟩: ∃g,pS=some g:=by
  cases pS with
  |none=>exact absurd (hVS.nil rfl) (by decide)
  |some g=>exact⟨g,rfl⟩
 have hcS:4≤cS:=(hVS.cap (by simp)).1
 refine zE (zA (zB (wP I ?_)))
 refine Er (X:=List Value) (val:=fun _=> .slice (some ⟨gS,0,none⟩) 3 cS) (Φ:=fun _=>True) (capt:=[]) 0 (B:=B5 gS FK jS) (L1:=[]) (L2:=[]) (b:=gS) (ob:= .cells (ptC FK++jS).toArray 62 (0,0)) (fun x=>B5 gS DO x) (g':=fun _=>gS) (o':=fun x=> .cells (ptC DO++x).toArray 62 (0,0))
  rfl rfl rfl rfl rfl rfl (by kernel_rfl) rfl rfl (fun _ _=>rfl) (fun W1 hp=> ?_) ?_
 ·have:=Ki W1 gS cS FK jS (by decide) hcS (hp.own.cell 0 _ rfl (gS, .cells (ptC FK++jS).toArray 62 (0,0)) (List.mem_cons_self ..)).1
  rw[TN] at this
  exact this
 intro jT _
 refine wP I (Aa ?_)
 have hrow: ∀ {W0 W1:World} {bxs:List Bx},Hp W0 bxs W1→nth bxs 0=some (B5 gS DO jT)→ ∀k (hk:k<3),Ai W1 gS (0+k*2) [str (Ac (DO[k]'hk).1),str (Ac (DO[k]'hk).2)]:=fun hp h1 k hk=>by
  obtain⟨g,o,e,h⟩:=(BG.of_row (l:=DO) (junk:=jT) (Ai.of_bx hp 0 h1 rfl)).at_ (show 0<3 by decide)
  cases e
  exact h k hk
 refine zE (Az (Az (zU (qP I (qI I I (by decide) (by decide) (qL 0 I I (fun W1 hp=>hrow hp I 0 (by decide)) I (qP I (qP I (qP I (qP I (qI I I (by decide) (by decide) (qL 0 I I (fun W1 hp=>hrow hp I 2 (by decide)) I ?_))))))))))))
 refine OU (Ac 0) (Ac 0) (Ac 5) (Ac 5) I I I I I ?_
 exact qU 82 false I ((Oo (x:=(0,0)) (y:=(5,5))).trans (by decide+kernel)) (AB (Aa (zE (zS I (zI (zE (zA (zB (wP I (wP I (Aa (zE (zO (Ay tH I (.tmp I) (gS,cS,jT) I tO fun W1 hp=>As.of_hp hp))))))))))))))
-- BOXES 5
-- CODE2
theorem K2 (W:World) (hv:AL W) (ht:AA W):
  Ad Tryz.prog 167 #[frV f0,stV 0 S0] W (fun x:Nat×Nat×List Value=> .tuple #[slv (some ⟨x.1,0,none⟩) 3 x.2.1, .int .i64 0]) (fun _=>True) (fun x=>[B5 x.1 DO x.2.2]):=by
 refine Ab (args:=[frV f0,stV 0 S0]) Tryz.func167 I I I ?_
 refine zA (zB ?_)
 (refine Ak rfl rfl rfl rfl ?_;intro)
 (refine Ak rfl rfl rfl rfl ?_;intro)
 refine wP I (wP I (Aa (zE (zA (zA (zB (wB 0 I I I (wB 1 I I I (wC I I (fun W1 hp=>HV f0 Q1 0 S0 WY (by decide+kernel) W1 (hv.hp hp) (ht.hp hp)) (wP I (Aa (zE (zA ?_)))))))))))))
 refine zB (wP I (wP I (Aa (zE (zS I (zI (zE (zA (zB (wB 0 I I I (wB 1 I I I ?_)))))))))))
 refine wD (X:=Nat×Nat×List Value) I I (fun W1 hp=>Oj W1 (hv.hp hp) (ht.hp hp)) ?_
 intro x _
 exact wP I (wP I (Aa (zE (zO (A9 tH I (.tmp I) (.tmp I) x I tO fun W1 hp=>As.of_hp (hp.pick (l:=[B5 x.1 DO x.2.2]) [2] (by decide) I))))))
abbrev TY (F S A:Value):Value:= .agg #[F,S,A]
theorem Qk (p:Option Addr) (n cap:Nat) (S A:Value) (m:Nat) (hm:m<n) (l r lo hi:List UInt8) (W:World):
  Ad Tryz.prog 169 #[TY (slv p n cap) S A,Gs m l r lo hi] W (fun _:Unit=> .int .i64 0) (fun _=>True) (fun _=>[]):=by
 refine Ab (args:=[TY (slv p n cap) S A,Gs m l r lo hi]) Tryz.func169 I I I ?_
 refine zA (zB ?_)
 (refine Ak rfl rfl rfl rfl ?_;intro)
 (refine Ak rfl rfl rfl rfl ?_;intro)
 refine wP I (Aa (zE (zA (zA (zB (wP I (wB 1 I I I (wP I (wU 7 false I (dF (by omega)) (wP I (wP I (wB 1 I I I (wP I ?_)))))))))))))
 refine wB 0 I I I (wP I (wP I (wU 14 false I (dF (by omega)) (wP I (Aa (zE (zS I (zI (zE (zA (zB (wP I (Aa ?_)))))))))))))
 exact zE (zO (wR1 I I I))
theorem HW (s:Int) (l r lo hi:Rat) (ol:okQ l) (or:okQ r) (oo:okQ lo) (oi:okQ hi) (ll:(Ac l).length≤8) (lr:(Ac r).length≤8) (llo:(Ac lo).length≤8) (lhi:(Ac hi).length≤8) (h1:l<r) (h2:lo<hi) (W:World) (hv:AL W) (ht:AA W):
  Ad Tryz.prog 44 #[Gs s (Ac l) (Ac r) (Ac lo) (Ac hi)] W (fun _:Unit=> .int .i64 0) (fun _=>True) (fun _=>[]):=by
 have zl:=DH ll (by decide)
 have zr:=DH lr (by decide)
 have zo:=DH llo (by decide)
 have zi:=DH lhi (by decide)
 have hner:ner [Ac l,Ac r,Ac lo,Ac hi]=0:=by
  unfold ner ner ner ner ner
  rw[C3 ol,C3 or,C3 oo,C3 oi]
  rfl
 refine Ab (args:=[Gs s (Ac l) (Ac r) (Ac lo) (Ac hi)]) Tryz.func44 I I I ?_
 refine zA (zB ?_)
 (refine Ak rfl rfl rfl rfl ?_;intro)
 refine wP I (Aa (zE (zA (zA (zB (wP I (wB 0 I I I (wP I (wB 0 I I I (wP I (wB 0 I I I (wP I (wB 0 I I I ?_)))))))))))))
 refine At Tryz.hZ tH I I I I I I I I I I I fun bS=> ?_
 refine wC I I (fun W1 hp=>(Hx W1 (some ⟨bS,0,none⟩) 4 [Ac l,Ac r,Ac lo,Ac hi] (.inr ⟨bS,0,I,Ai.of_bx hp 1 I I⟩) (show 4≤100000 by decide) (fun y hy=>by
  simp only[List.mem_cons,List.not_mem_nil,or_false] at hy
  rcases hy with rfl|rfl|rfl|rfl<;>omega) (hv.hp hp) (ht.hp hp)).cast (v':= .int .i64 0) (by rw[hner])) ?_
 refine wP I (Aa (zE (zA (zB (wP I (wP I (Aa (zE (zS I (zI (zE (zA (zA ?_)))))))))))))
 refine zB (wP I (wB 0 I I I (wP I (wB 0 I I I (wC I I (fun W1 hp=>Cd l r (sz2 zl zr (by decide)) W1 (hv.hp hp) (ht.hp hp)) (wP I (wU 22 false I ((Gh _ _).trans (dF (Rat.not_le.2 h1))) (wP I (wP I (wB 0 I I I (wP I (wB 0 I I I (wC I I (fun W1 hp=>Cd lo hi (sz2 zo zi (by decide)) W1 (hv.hp hp) (ht.hp hp)) ?_)))))))))))))
 exact wP I (wU 29 false I ((Gh _ _).trans (dF (Rat.not_le.2 h2))) (wP I (Aa (zE (zS I (zI (zE (zA (zB (wP I (Aa (zE (zO (wR1 I I I))))))))))))))
-- BOXES 6
-- CODE2
def crn (l r lo hi:Rat):List Ar:=[(l,lo),(r,lo),(r,hi),(l,hi)]
def spC (f:FrP) (L:List Ar):List Value:=L.flatMap fun q=>[str (Ac (f.px q.1 q.2)),str (Ac (f.py q.1 q.2)),str (Ac (f.pz q.2))]
theorem SH (f:FrP) (a b:List Ar):spC f (a++b)=spC f a++spC f b:=List.flatMap_append
theorem Hu (f:FrP) (h:f.Go) (s:Int) (l r lo hi:Rat) (zl:szQ l 8) (zr:szQ r 8) (zo:szQ lo 8) (zi:szQ hi 8) (W:World) (hv:AL W) (ht:AA W):
  Ad Tryz.prog 98 #[frV f,Gs s (Ac l) (Ac r) (Ac lo) (Ac hi)] W (fun V:Vec=> .tuple #[V.val 4, .int .i64 0]) (fun V=>V.OK 3 4 (spC f (crn l r lo hi))) (fun V=>[V.bx 45 (spC f (crn l r lo hi))]):=by
 obtain⟨C,hC⟩: ∃C,C=crn l r lo hi:=⟨_,rfl⟩
 have hCl:C.length=4:=by rw[hC];rfl
 have hz: ∀q∈C,szQ q.1 8∧szQ q.2 8:=by
  intro q hq
  rw[hC] at hq
  simp only[crn,List.mem_cons,List.not_mem_nil,or_false] at hq
  rcases hq with rfl|rfl|rfl|rfl
  ·exact⟨zl,zo⟩
  ·exact⟨zr,zo⟩
  ·exact⟨zr,zi⟩
  ·exact⟨zl,zi⟩
 refine Ab (args:=[frV f,Gs s (Ac l) (Ac r) (Ac lo) (Ac hi)]) Tryz.func98 I I I ?_
 refine zA (zB ?_)
 (refine Ak rfl rfl rfl rfl ?_;intro)
 (refine Ak rfl rfl rfl rfl ?_;intro)
 refine wP I (wP I (Aa ?_))
 rename_i b2 b3
 refine zE (zA (zB (wP I (Aa (zE (zA (zA (zB (wP I (wB 1 I I I (wP I (wB 1 I I I ?_))))))))))))
 refine EO (.agg #[str [],str []]) Tryz.underlying208 (fun W=>by kernel_rfl) Tryz.sizeOf25 I I I I I ?_
 refine wP I (wB 1 I I I (wP I (wB 1 I I I ?_)))
 refine EO (.agg #[str [],str []]) Tryz.underlying208 (fun W=>by kernel_rfl) Tryz.sizeOf25 I I I I I ?_
 refine wP I (wB 1 I I I (wP I (wB 1 I I I ?_)))
 refine EO (.agg #[str [],str []]) Tryz.underlying208 (fun W=>by kernel_rfl) Tryz.sizeOf25 I I I I I ?_
 refine wP I (wB 1 I I I (wP I (wB 1 I I I ?_)))
 refine EO (.agg #[str [],str []]) Tryz.underlying208 (fun W=>by kernel_rfl) Tryz.sizeOf25 I I I I I ?_
 refine At Tryz.hZ tH I I I I I I I I I I I fun bA=> ?_
 refine wP I (wP I (Aa (zE (zH ?_))))
 refine Cp ?_
 refine Aw (X:=Nat×Vec) (fun x=>[(2,Af b2),(6,x.2.val x.1),(31,slv (some ⟨bA,0,none⟩) 4 4),(32, .int .i64 4),(33, .int .i64 (x.1:Nat))]) (fun x=>[⟨b2,56,(frV f).cells.toList,true,none⟩,⟨b3,27,(Gs s (Ac l) (Ac r) (Ac lo) (Ac hi)).cells.toList,true,none⟩,⟨bA,208,ptC C,true,none⟩,x.2.bx 45 (spC f (C.take x.1))])
  (fun x=>x.1≤4∧x.2.OK 3 x.1 (spC f (C.take x.1))) (fun x=>4-x.1) (0,Vec.empty) ⟨Nat.zero_le _,Vec.OK.empty 3⟩ ⟨rfl,rfl,rfl,rfl,rfl,trivial⟩ [] (by rw[hC];rfl) ?_
 rintro⟨i,V⟩ ⟨hi,hV⟩
 have hi:i≤4:=hi
 have hV:V.OK 3 i (spC f (C.take i)):=hV
 refine zA (zB (wP I ?_))
 by_cases hlt:i<4
 rotate_left
 ·have e:i=4:=by omega
  subst e
  rw[List.take_of_length_le (by omega)] at hV
  refine wU 34 false I (dF (by omega)) (Aa (zE (zA (zS I (zJ (zK (zK (zL (zE (zA (zB (wP I (wP I (wP I ?_))))))))))))))
  refine Aa (zE (zO ?_))
  rw[←hC]
  exact A9 tH I (.tmp I) (.tmp I) V I hV fun W1 hp=>As.of_hp (hp.pick (l:=[V.bx 45 (spC f C)]) [3] (by decide) (by rw[List.take_of_length_le (by omega)];rfl))
 refine wU 34 true I (dT (by omega)) (Aa (zE (zA (zR I (zI (zE (zA (zH (zA (zB ?_))))))))))
 have hi4:i<C.length:=by omega
 have hq:=hz _ (List.getElem_mem hi4)
 have htk:C.take (i+1)=C.take i++[C[i]]:=List.take_succ_eq_append_getElem hi4
 obtain⟨q,hqe⟩: ∃q,q=C[i]:=⟨_,rfl⟩
 rw[←hqe] at hq htk
 have hrow: ∀ {W0 W1:World} {bxs:List Bx},Hp W0 bxs W1→nth bxs 2=some (⟨bA,208,ptC C,true,none⟩:Bx)→Ai W1 bA (0+i*2) [str (Ac q.1),str (Ac q.2)]:=fun hp h1=>by
  obtain⟨g,o,e,hh⟩:=(BG.of_row (l:=C) (junk:=[]) (by rw[List.append_nil];exact Ai.of_bx hp 2 h1 rfl)).at_ hi4
  cases e
  rw[hqe]
  exact hh i hi4
 refine wJ ?_
 refine wL 0 I I (fun W1 hp=>hrow hp I) I ?_
 (refine Ae Tryz.hZ rfl rfl rfl rfl ?_;intro)
 refine wS 4 I I I (Aa ?_)
 rename_i b8
 refine zE (zA (zB (wB 0 I I I ?_)))
 refine DU Tryz.underlying208 Tryz.sizeOf25 I I I I I ⟨by decide,by decide⟩ ?_
 refine wB 4 I I I ?_
 refine DU Tryz.underlying208 Tryz.sizeOf25 I I I I I ⟨by decide,by decide⟩ ?_
 refine wB 4 I I I (wC I I (fun W1 hp=>Kp f h q.1 q.2 (hq.1.mono (by decide)) (hq.2.mono (by decide)) W1 (hv.hp hp) (ht.hp hp)) (wP I (wP I (wP I ?_))))
 (refine Ae Tryz.hZ rfl rfl rfl rfl ?_;intro)
 refine wS 5 I I I (wP I (Aa ?_))
 rename_i b9
 refine zE (zA (zA (zB (wP I (wP I (Aa (zE (zS I (zI (zE (zB (wP I (wB 5 I I I ?_)))))))))))))
 refine At Tryz.hZ tH I I I I I I I I I I I fun bN=> ?_
 refine AH (V:=V) (len:=i) (xs:=spC f (C.take i)) 3 6 Tryz.vec41 (i+1) (spC f (C.take (i+1))) I I I I I I I I I I I hV I I I (by rw[htk,SH];rfl) (by simp only[maxLen];omega) (by omega) I ?_
 intro gV cV jV hV1
 exact wP I (Aa (zN (zE (zB (wP I (wV 53 ((i+1:Nat):Int) I (Ax (by omega)) (wP I (Aa (Al (i+1,⟨some gV,cV,jV⟩) ⟨hlt,hV1⟩ (by show 4-(i+1)<4-i;omega) ⟨I,I,I,I,I,tO⟩ [_,_,_] I)))))))))
-- BOXES 6
-- CODE2
theorem Sr (f:FrP): ∀L:List Ar,(spC f L).length=L.length*3
 |[]=>rfl
 |q::L=>by
  show(_++spC f L).length=_
  rw[List.length_append,Sr f L]
  show 3+L.length*3=(L.length+1)*3
  omega
theorem Xo {W0 W:World} {bxs:List Bx} (hp:Hp W0 bxs W) (k:Nat) {g i:Nat} {f:FrP} {L:List Ar} {junk:List Value} (hk:nth bxs k=some (⟨g,45,spC f L++junk,true,none⟩:Bx)) (hi:i<L.length):
  Ai W g (0+i*3) [str (Ac (f.px L[i].1 L[i].2)),str (Ac (f.py L[i].1 L[i].2)),str (Ac (f.pz L[i].2))]:=by
 refine G6 hp k (A:=spC f (L.take i)) (C:=spC f (L.drop (i+1))++junk) hk ?_ (by rw[Sr,List.length_take];omega)
 have e:spC f L=spC f (L.take i)++([str (Ac (f.px L[i].1 L[i].2)),str (Ac (f.py L[i].1 L[i].2)),str (Ac (f.pz L[i].2))]++spC f (L.drop (i+1))):=by
  conv=>lhs;rw[←List.take_append_drop i L,List.drop_eq_getElem_cons hi,SH]
  rfl
 rw[e,List.append_assoc,List.append_assoc]
def rcP (f:FrP) (C:List Ar):List Ar:=C.map fun q=>(f.px q.1 q.2,f.py q.1 q.2)
theorem Q5 (f:FrP) (h:f.Go) (s:Int) (l r lo hi:Rat) (zl:szQ l 8) (zr:szQ r 8) (zo:szQ lo 8) (zi:szQ hi 8) (L:List Ar) (hH:XF (rcP f (crn l r lo hi)) L 0) (hok:Eb (rcP f (crn l r lo hi))) (hq: ∀p∈rcP f (crn l r lo hi),okP p) (W:World) (hv:AL W) (ht:AA W):
  Ad Tryz.prog 234 #[frV f,Gs s (Ac l) (Ac r) (Ac lo) (Ac hi)] W (fun V:Vec=> .tuple #[V.val L.length, .int .i64 0]) (fun V=>V.OK 2 L.length (ptC L)) (fun V=>[V.bx 62 (ptC L)]):=by
 obtain⟨C,hC⟩: ∃C,C=crn l r lo hi:=⟨_,rfl⟩
 have hCl:C.length=4:=by rw[hC];rfl
 rw[←hC] at hH hok hq
 have hPl:(rcP f C).length=4:=by unfold rcP;rw[List.length_map,hCl]
 refine Ab (args:=[frV f,Gs s (Ac l) (Ac r) (Ac lo) (Ac hi)]) Tryz.func234 I I I ?_
 refine zA (zB ?_)
 (refine Ak rfl rfl rfl rfl ?_;intro)
 (refine Ak rfl rfl rfl rfl ?_;intro)
 refine wP I (wP I (Aa ?_))
 rename_i b2 b3
 refine zE (zA (zB (wB 0 I I I (wB 1 I I I ?_))))
 refine wD (X:=Vec) I I (fun W1 hp=>Hu f h s l r lo hi zl zr zo zi W1 (hv.hp hp) (ht.hp hp)) ?_
 rintro⟨pV,cV,jV⟩ hV
 rw[←hC] at hV⊢
 have hV:Vec.OK ⟨pV,cV,jV⟩ 3 4 (spC f C):=hV
 obtain⟨gV,rfl⟩: ∃g,pV=some g:=by
  cases pV with
  |none=>exact absurd (hV.nil rfl) (by decide)
  |some g=>exact⟨g,rfl⟩
 iterate 5 refine wP I ?_
 refine Aa (zE (zA (zA (zB (wP I (wP I (Aa (zE (zS I (zI (zE (zA (zB ?_)))))))))))))
 refine wP I (Aa (zE (zA (zA (zB (wP I (wP I (wP I (Aa (zE (zH ?_)))))))))))
 refine Cp ?_
 refine Aw (X:=Nat×Vec) (fun x=>[(8,x.2.val x.1),(20,slv (some ⟨gV,0,none⟩) 4 cV),(21, .int .i64 4),(22, .int .i64 (x.1:Nat))]) (fun x=>[⟨b2,56,(frV f).cells.toList,true,none⟩,⟨b3,27,(Gs s (Ac l) (Ac r) (Ac lo) (Ac hi)).cells.toList,true,none⟩,⟨gV,45,spC f C++jV,true,none⟩,x.2.bx 62 (ptC ((rcP f C).take x.1))])
  (fun x=>x.1≤4∧x.2.OK 2 x.1 (ptC ((rcP f C).take x.1))) (fun x=>4-x.1) (0,Vec.empty) ⟨Nat.zero_le _,Vec.OK.empty 2⟩ ⟨rfl,rfl,rfl,rfl,trivial⟩ [] rfl ?_
 rintro⟨i,V⟩ ⟨hi,hV2⟩
 have hi:i≤4:=hi
 have hV2:V.OK 2 i (ptC ((rcP f C).take i)):=hV2
 refine zA (zB (wP I ?_))
 by_cases hlt:i<4
 rotate_left
 ·have e:i=4:=by omega
  subst e
  rw[List.take_of_length_le (by omega)] at hV2
  obtain⟨pU,cU,jU⟩:=V
  obtain⟨gU,rfl⟩: ∃g,pU=some g:=by
   cases pU with
   |none=>exact absurd (hV2.nil rfl) (by decide)
   |some g=>exact⟨g,rfl⟩
  refine wU 23 false I (dF (by omega)) (Aa (zE (zA (zS I (zJ (zK (zK (zL (zE (zA (zB (wP I ?_))))))))))))
  refine wD (X:=Vec) I I (fun W1 hp=>by
   have h2:=QT (rcP f C) L 0 hH (.inl hok) (by omega) (by omega) hq (some ⟨gU,0,none⟩) cU W1 (BG.of_row (junk:=jU) (Ai.of_bx hp 3 (by rw[List.take_of_length_le (by omega)];rfl) rfl)) (hv.hp hp) (ht.hp hp)
   rw[hPl] at h2
   exact h2) ?_
  intro U hU
  exact wP I (wP I (wP I (wP I (Aa (zE (zO (A9 tH I (.tmp I) (.tmp I) U I hU fun W1 hp=>As.of_hp (hp.pick (l:=[U.bx 62 (ptC L)]) [4] (by decide) I))))))))
 refine wU 23 true I (dT (by omega)) (Aa (zE (zA (zR I (zI (zE (zA (zH (zA (zB ?_))))))))))
 have hi4:i<C.length:=by omega
 have htk:(rcP f C).take (i+1)=(rcP f C).take i++[(f.px C[i].1 C[i].2,f.py C[i].1 C[i].2)]:=by
  rw[List.take_succ_eq_append_getElem (by omega)]
  unfold rcP
  rw[List.getElem_map]
 have hrow: ∀ {W0 W1:World} {bxs:List Bx},Hp W0 bxs W1→nth bxs 2=some (⟨gV,45,spC f C++jV,true,none⟩:Bx)→_:=fun hp h1=>Xo hp 2 h1 hi4
 obtain⟨q,hqe⟩: ∃q,q=C[i]:=⟨_,rfl⟩
 rw[←hqe] at htk hrow
 refine wJ ?_
 refine wL 0 I I (fun W1 hp=>hrow hp I) I ?_
 (refine Ae Tryz.hZ rfl rfl rfl rfl ?_;intro)
 refine wS 4 I I I (Aa (zE (zB (wP I (wP I (wB 4 I I I (wP I (wB 4 I I I ?_))))))))
 refine Au Tryz.hZ tH I I I I I I I I ?_
 refine At Tryz.hZ tH I I I I I I I I I I I fun bN=> ?_
 refine AH (V:=V) (len:=i) (xs:=ptC ((rcP f C).take i)) 3 5 Tryz.vec210 (i+1) (ptC ((rcP f C).take (i+1))) I I I I I I I I I I I hV2 I I I (by rw[htk,C1];rfl) (by simp only[maxLen];omega) (by omega) I ?_
 intro gU cU jU hU1
 exact wP I (Aa (zN (zE (zB (wP I (wV 34 ((i+1:Nat):Int) I (Ax (by omega)) (wP I (Aa (Al (i+1,⟨some gU,cU,jU⟩) ⟨hlt,hU1⟩ (by show 4-(i+1)<4-i;omega) ⟨I,I,I,I,tO⟩ [_,_] I)))))))))
-- BOXES 14
-- CODE2
def lnG (p q:Ar):DY:=⟨q.2-p.2,p.1-q.1,(q.2-p.2)*p.1+(p.1-q.1)*p.2⟩
structure MkZ (l:List Ar) (P Q:Ar):Prop where
 a:Sz2 Q.2 P.2
 b:Sz2 P.1 Q.1
 c:Sz2 (Q.2-P.2) P.1
 d:Sz2 (P.1-Q.1) P.2
 e:Sz2 ((Q.2-P.2)*P.1) ((P.1-Q.1)*P.2)
 z:ClZ (lnG P Q) l
 k:F9 (lnG P Q) l=l
def StK (p:Option Addr) (cap:Nat) (l:List Ar) (k:Nat) (pO:Option Addr) (cO:Nat) (o:Bx):Prop:=
 (k=0∧pO=p∧cO=cap)∨ ∃g j,pO=some ⟨g,0,none⟩∧o=(⟨g,62,ptC l++j,true,none⟩:Bx)∧Vec.OK ⟨some g,cO,j⟩ 2 l.length (ptC l)
theorem StK.pts {p:Option Addr} {cap:Nat} {l:List Ar} {k:Nat} {pO:Option Addr} {cO:Nat} {o:Bx} (h:StK p cap l k pO cO o) {W W1:World} {bxs:List Bx} (hA:BG W p l) (hp:Hp W bxs W1) (j:Nat) (hj:nth bxs j=some o):BG W1 pO l:=by
 rcases h with⟨_,rfl,_⟩|⟨g,jk,rfl,rfl,_⟩
 ·exact hA.hp hp
 ·exact BG.of_row (junk:=jk) (Ai.of_bx hp j hj I)
abbrev erK (b:Nat) (e:Int):Bx:=⟨b,28,[.int .i64 e],true,none⟩
theorem Oy (l M:List Ar) (hk: ∀k,k<M.length→MkZ l (Av M k) (Av M (k+1))) (p q:Option Addr) (cap cap2:Nat) (W:World) (hA:LN W p l) (hB:LN W q M):
  Ad Tryz.prog 235 #[slv p l.length cap,slv q M.length cap2] W (fun x:Nat×Nat×List Value=> .tuple #[slv (some ⟨x.1,0,none⟩) l.length x.2.1, .int .i64 0]) (fun x=>Vec.OK ⟨some x.1,x.2.1,x.2.2⟩ 2 l.length (ptC l)) (fun x=>[⟨x.1,62,ptC l++x.2.2,true,none⟩]):=by
 have hn:=hB.n
 have h3:=hB.n3
 have hlen:((l.length:Nat):Int)≠0:=by have:=hA.n3;omega
 have hv:=hA.v
 have ht:=hA.t
 refine Ab (args:=[slv p l.length cap,slv q M.length cap2]) Tryz.func235 I I I ?_
 refine zA (zB ?_)
 (refine Ae Tryz.hZ rfl rfl rfl rfl ?_;intro)
 (refine Ae Tryz.hZ rfl rfl rfl rfl ?_;intro)
 refine Aa ?_
 rename_i b4 b5
 refine zE (zA (zA (zB (wP I (wC I I (fun W1 hp=>(hA.hp hp).chk cap) (wP I (wP I (wP I (wC I I (fun W1 hp=>(hB.hp hp).chk cap2) (wP I (wP I (Aa (zE ?_)))))))))))))
 refine zS I (zI (zE (zA (zB ?_))))
 refine Au Tryz.hZ tH I I I I I I I I ?_
 (refine Ak rfl rfl rfl rfl ?_;intro)
 (refine Ae Tryz.hZ rfl rfl rfl rfl ?_;intro)
 refine wS 3 I I I (Aa ?_)
 rename_i bC b6
 refine zE (zA (zB (wP I ?_)))
 (refine Ae Tryz.hZ rfl rfl rfl rfl ?_;intro)
 refine wS 4 I I I (Aa ?_)
 rename_i b7
 refine zE (zA (zA (zB (wP I ?_))))
 refine wD (X:=Nat) I I (fun W1 _=>EF q M.length cap2 W1) ?_
 intro bp _
 refine Aa (zE (zH ?_))
 refine Cp ?_
 refine Eh (X:=Nat×Option Addr×Nat×Bx) (fun x=>[lsB b4 (.slice none 0 0),erK b5 0,caB bC,ckB b6 bC,lsB b7 (slv x.2.1 l.length x.2.2.1),lsB bp (slv q M.length cap2),x.2.2.2])
  (fun k x=>x.1=k∧StK p cap l k x.2.1 x.2.2.1 x.2.2.2) (fun _ _=>False) (0,p,cap,Fo) rfl (by kernel_rfl) (Fx M bp q cap2 (by omega)) (fun _=>rfl)
  ⟨rfl, .inl ⟨rfl,rfl,rfl⟩⟩ [] rfl (fun k x W1 _ hp=>⟨Ai.of_bx hp 5 rfl rfl,hB.m.hp hp⟩) ?_ ?_ (fun _ _ _ _ _ h=>h.elim)
 ·rintro k ⟨k',pO,cO,o⟩ d l' rec L hkl ⟨e1,hSt⟩ hrec
  obtain rfl:k'=k:=e1
  have hkl:k'<M.length:=hkl
  have hSt:StK p cap l k' pO cO o:=hSt
  have hz:=hk k' hkl
  obtain⟨P,hP⟩: ∃P,P=Av M k':=⟨_,rfl⟩
  obtain⟨Q,hQ⟩: ∃Q,Q=Av M (k'+1):=⟨_,rfl⟩
  rw[←hP, ←hQ] at hz
  refine zB ?_
  (refine Ae Tryz.hZ rfl rfl rfl rfl ?_;intro)
  refine wS 10 I I I (Aa ?_)
  rename_i b9
  rw[←hP, ←hQ]
  refine B4 9 hrec I ?_
  refine B6 (zA (zU (qB 4 I I I ?_)))
  refine Bq Tryz.underlying321 Tryz.sizeOf62 I I I I I ⟨by decide,by decide⟩ ?_
  refine qP I (qB 10 I I I ?_)
  refine Bq Tryz.underlying321 Tryz.sizeOf62 I I I I I ⟨by decide,by decide⟩ ?_
  refine qP I (qB 10 I I I (qC I I (fun W1 hp=>BR bC Q.2 P.2 hz.a W1 (Ek hp 3 I) (hv.hp hp) (ht.hp hp)) (qB 4 I I I ?_)))
  refine Bq Tryz.underlying321 Tryz.sizeOf62 I I I I I ⟨by decide,by decide⟩ ?_
  refine qP I (qB 10 I I I ?_)
  refine Bq Tryz.underlying321 Tryz.sizeOf62 I I I I I ⟨by decide,by decide⟩ ?_
  refine qP I (qB 10 I I I (qC I I (fun W1 hp=>BR bC P.1 Q.1 hz.b W1 (Ek hp 3 I) (hv.hp hp) (ht.hp hp)) (qP I (qP I (AB (Aa (zE (Az ?_))))))))
  refine AV (X:= { x:Nat×Nat×List Value//Vec.OK ⟨some x.1,x.2.1,x.2.2⟩ 2 l.length (ptC l) }) [true,true,true,true,true,true,true,true,true,true,true,true,true,true,true,true,true,true,false,false] (fun _=>[(4,Af b4),(5,Af b5),(6,Af b6),(7,Af b7)]) (fun x=>[AS L,lsB b4 (.slice none 0 0),erK b5 0,caB bC,ckB b6 bC,lsB b7 (slv (some ⟨x.1.1,0,none⟩) l.length x.1.2.1),lsB bp (slv q M.length cap2),⟨x.1.1,62,ptC l++x.1.2.2,true,none⟩,Bz d,Bb l' rec .busy none])
   2 [AS L,lsB b4 (.slice none 0 0),erK b5 0,caB bC,ckB b6 bC,lsB b7 (slv pO l.length cO),lsB bp (slv q M.length cap2),o,Bz d,Bb l' rec .busy none,⟨b9,321,(sdV P Q).cells.toList,true,none⟩] Tryz.mixed (by kernel_rfl) ?_ ?_
  ·refine qB 4 I I I (qB 5 I I I (qP I (qP I (qB 4 I I I (qB 4 I I I (qP I ?_))))))
   refine Bq Tryz.underlying321 Tryz.sizeOf62 I I I I I ⟨by decide,by decide⟩ ?_
   refine qP I (qB 10 I I I (qC I I (fun W1 hp=>Cm bC (Q.2-P.2) P.1 hz.c W1 (Ek hp 3 I) (hv.hp hp) (ht.hp hp)) (qB 4 I I I (qP I ?_))))
   refine Bq Tryz.underlying321 Tryz.sizeOf62 I I I I I ⟨by decide,by decide⟩ ?_
   refine qP I (qB 10 I I I (qC I I (fun W1 hp=>Cm bC (P.1-Q.1) P.2 hz.d W1 (Ek hp 3 I) (hv.hp hp) (ht.hp hp)) (qC I I (fun W1 hp=>EU bC ((Q.2-P.2)*P.1) ((P.1-Q.1)*P.2) hz.e W1 (Ek hp 3 I) (hv.hp hp) (ht.hp hp)) (BU (wX (wZ ?_))))))
   refine wD (X:=Vec) rfl rfl (fun W1 hp1=>by have:=QN bC (lnG P Q) l hz.z hA.poly hA.n3 hA.n pO cO W1 (hSt.pts hA.m hp1 7 rfl) (Ek hp1 3 rfl) (hv.hp hp1) (ht.hp hp1);rw[hz.k] at this;exact this) ?_;rintro⟨pV,cV,jV⟩ hV;obtain⟨gV,rfl⟩: ∃g,pV=some g:=Option.ne_none_iff_exists'.1 (fun e=>absurd (hV.nil e) (by have:=hA.n3;omega))
   refine Aa (Ag (wX (wZ (wS 5 I I I (Aa (Ag ?_))))))
   refine AP I (by kernel_rfl) ?_
   exact A6 (⟨(gV,cV,jV),hV⟩: { x:Nat×Nat×List Value//Vec.OK ⟨some x.1,x.2.1,x.2.2⟩ 2 l.length (ptC l) }) ⟨I,I,I,I,tO⟩ [0,1,2,3,4,5,6,11,8,9] (by decide) I
  rintro⟨⟨gV,cV,jV⟩,hV⟩
  refine zE (zA (zA (zB (wB 4 I I I ?_))))
  refine AK I I I I ?_
  refine wP I (wB 3 I I I (wP I (Aa (zE (zS I (zI (zE (zA (zB (wB 5 I I I (wP I (wP I (wU 73 false I (beq_eq_false_iff_ne.2 hlen) ?_)))))))))))))
  exact Aa (zE (zS I (zI (zN (Bg 9 (k'+1,some ⟨gV,0,none⟩,cV,⟨gV,62,ptC l++jV,true,none⟩) hrec I ⟨I, .inr ⟨gV,jV,I,I,hV⟩⟩ [] I)))))
 ·rintro⟨k',pO,cO,o⟩ d l' rec ⟨e1,hSt⟩
  obtain rfl:k'=M.length:=e1
  have hSt:StK p cap l M.length pO cO o:=hSt
  rcases hSt with⟨h0,_⟩|⟨g,j,rfl,rfl,hV⟩
  ·omega
  refine zN (zE (zA (zB (wB 4 I I I (wS 0 I I I (wS 1 I I I (Aa (zE (zO ?_)))))))))
  refine BK 7 I ?_
  exact A9 tH I (.cell 0 I I I I I) (.cell 1 I I I I I) (g,cO,j) I hV fun W1 hp=>As.of_hp (hp.pick (l:=[⟨g,62,ptC l++j,true,none⟩]) [6] (by decide) I)
-- BOXES 8
-- CODE2
theorem S2:(Fp [sqL]).length=4:=(KQ [sqL]).trans rfl
theorem WS:(Fp [sqL])[0]? =some f0:=by
 have h:=RZ (rs:=[sqL]) (r:=0) (i:=0) (by decide) (by decide)
 have e:Nf (rg [sqL] 0) 0=f0:=by
  show frO (sqS 0 0) (sqS 10 0)=f0
  have e1:nrm 1 1=1:=by decide+kernel
  have:(frO (sqS 0 0) (sqS 10 0)).sp=1:=e1
  unfold frO at this⊢
  simp only[] at this⊢
  rw[this]
  rfl
 rw[e] at h
 exact h
structure SfX where
 gF:Nat
 cF:Nat
 jF:List Value
 gC:Nat
 cC:Nat
 jC:List Value
 gA:Nat
 cA:Nat
 jA:List Value
abbrev fbB (g:Nat) (j:List Value):Bx:=⟨g,56,frC (Fp [sqL])++j,true,none⟩
abbrev arB (g gC cC:Nat) (j:List Value):Bx:=⟨g,210,slv (some ⟨gC,0,none⟩) 3 cC::j,true,none⟩
def SfX.v (x:SfX) (bT:Nat):Value:=TY (slv (some ⟨x.gF,0,none⟩) 4 x.cF) (slv (some ⟨bT,0,none⟩) 1 1) (slv (some ⟨x.gA,0,none⟩) 1 x.cA)
def SfX.bx (x:SfX):List Bx:=[fbB x.gF x.jF,B5 x.gC DO x.jC,arB x.gA x.gC x.cC x.jA]
theorem OX {W0 W:World} {bxs:List Bx} (hp:Hp W0 bxs W) (k:Nat) {g:Nat} {j:List Value} (hk:nth bxs k=some (fbB g j)):Ai W g (0+0*5) (frV f0).cells.toList:=by
 obtain⟨hm,he⟩:=List.getElem?_eq_some_iff.1 WS
 refine G6 hp k (A:=[]) (C:=frC ((Fp [sqL]).drop 1)++j) hk ?_ I
 have e:frC (Fp [sqL])=(frV f0).cells.toList++frC ((Fp [sqL]).drop 1):=by
  conv=>lhs;rw[List.drop_eq_getElem_cons (i:=0) (l:=Fp [sqL]) hm|>fun h=>(List.drop_zero (l:=Fp [sqL])).symm.trans h,he]
  rfl
 rw[e,List.append_assoc]
 rfl
abbrev RdS:Type:=Option (Nat×Nat×List Value×Nat×Nat×List Value)
def rdA:RdS→Value
 |none=> .slice none 0 0
 |some y=>slv (some ⟨y.2.2.2.1,0,none⟩) 1 y.2.2.2.2.1
def rdI:RdS→Int
 |none=>0
 |some _=>1
def Y6:RdS→Bx
 |none=>Fo
 |some y=>B5 y.1 DO y.2.2.1
def Ys:RdS→Bx
 |none=>Fo
 |some y=>arB y.2.2.2.1 y.1 y.2.1 y.2.2.2.2.2
def rdM:RdS→Nat
 |none=>1
 |some _=>0
theorem Kx (bR bT:Nat) (W:World) (hR:BZ W (some ⟨bR,0,none⟩) [sqL]) (hT:Ai W bT 0 (stV 0 S0).cells.toList) (hd:HK W) (hv:AL W) (ht:AA W):
  Ad Tryz.prog 100 #[Fy bR bT] W (fun x:SfX=> .tuple #[x.v bT, .int .i64 0]) (fun _=>True) (fun x=>x.bx):=by
 refine Ab (args:=[Fy bR bT]) Tryz.func100 I I I ?_
 refine zA (zB ?_)
 (refine Ak rfl rfl rfl rfl ?_;intro)
 (refine Ae Tryz.hZ rfl rfl rfl rfl ?_;intro)
 refine wP I (Aa ?_)
 rename_i b1 b2
 refine zE (zA (zB (wP I (wB 0 I I I ?_))))
 refine wD (X:=Vec) I I (fun W1 hp=>by
  have h:=Iu W1 (some ⟨bR,0,none⟩) 1 [sqL] (by decide) (hR.hp hp) Ih (hd.hp hp) (ht.hp hp)
  rw[S2] at h
  exact h) ?_
 rintro⟨pF,cF,jF⟩ hF
 have hF:Vec.OK ⟨pF,cF,jF⟩ 5 4 (frC (Fp [sqL])):=hF
 obtain⟨gF,rfl⟩: ∃g,pF=some g:=Option.ne_none_iff_exists'.1 (fun e=>absurd (hF.nil e) (by decide))
 iterate 5 refine wP I ?_
 refine Aa (zE (zA (zA (zB (wP I (wP I (wP I (wP I (wB 0 I I I (wP I (wP I (wP I (Aa ?_)))))))))))))
 refine zE (zS I (zI (zE (zA (zB (wP I (wP I (wB 0 I I I ?_))))))))
 refine Au Tryz.hZ tH I I I I I I I I ?_
 (refine Ae Tryz.hZ rfl rfl rfl rfl ?_;intro)
 refine wS 3 I I I (Aa ?_)
 rename_i b6
 refine zE (zA (zA (zB (wP I (wB 0 I I I (wP I (wP I (Aa (zE (zH ?_))))))))))
 iterate 2 refine Cp ?_
 refine Aw (X:=RdS) (fun x=>[(2,Af b2),(4,slv (some ⟨gF,0,none⟩) 4 cF),(6,Af b6),(31,slv (some ⟨bT,0,none⟩) 1 1),(32, .int .i64 1),(33, .int .i64 (rdI x))])
  (fun x=>[⟨b1,81,(Fy bR bT).cells.toList,true,none⟩,⟨b2,148,[.slice none 0 0, .slice none 0 0, .slice none 0 0],true,none⟩,fbB gF jF,⟨b6,148,[slv (some ⟨gF,0,none⟩) 4 cF,slv (some ⟨bT,0,none⟩) 1 1,rdA x],true,none⟩,Y6 x,Ys x])
  (fun _=>True) rdM none trivial ⟨rfl,rfl,rfl,rfl,rfl,rfl,trivial⟩ [] rfl ?_
 intro x _
 rcases x with _|⟨gC,cC,jC,gA,cA,jA⟩
 rotate_left
 ·refine zA (zB (wP I (Aa (zE (zA (zS I (zJ (zK (zK (zL (zE (zA (zB ?_)))))))))))))
  exact wB 3 I I I (wS 1 I I I (wP I (Aa (zE (zO (A9 tH I (.cell 1 I I I I I) (.tmp I) (⟨gF,cF,jF,gC,cC,jC,gA,cA,jA⟩:SfX) I tO fun W1 hp=>As.of_hp (hp.pick (l:=[fbB gF jF,B5 gC DO jC,arB gA gC cC jA]) [2,4,5] (by decide) I)))))))
 refine zA (zB (wP I (Aa (zE (zA (zR I (zI (zE (zA (zH (zA (zB (wI I I (by decide) (by decide) ?_)))))))))))))
 refine wL 0 I I (fun W1 hp=>hT.hp hp) I ?_
 (refine Ae Tryz.hZ rfl rfl rfl rfl ?_;intro)
 refine wS 6 I I I (Aa ?_)
 rename_i b8
 refine zE (zA (zA (zB (wP I (wB 6 I I I (wP I (wP I (wP I (wB 6 I I I (wP I (wP I (wP I (wP I ?_)))))))))))))
 refine Aa (zE (zS I (zI (zE (Az ?_)))))
 refine AV (X:=Nat×Nat×List Value) [true,true,true,true,true,true,false,false,false,false,false,false] (fun y=>[(2,Af b2),(4,slv (some ⟨gF,0,none⟩) 4 cF),(6,Af b6),(9,slv (some ⟨y.1,0,none⟩) 3 y.2.1),(10, .int .i64 0),(31,slv (some ⟨bT,0,none⟩) 1 1),(32, .int .i64 1),(33, .int .i64 0)])
  (fun y=>[⟨b1,81,(Fy bR bT).cells.toList,true,none⟩,⟨b2,148,[.slice none 0 0, .slice none 0 0, .slice none 0 0],true,none⟩,fbB gF jF,⟨b6,148,[slv (some ⟨gF,0,none⟩) 4 cF,slv (some ⟨bT,0,none⟩) 1 1, .slice none 0 0],true,none⟩,B5 y.1 DO y.2.2,Fo])
  6 [⟨b1,81,(Fy bR bT).cells.toList,true,none⟩,⟨b2,148,[.slice none 0 0, .slice none 0 0, .slice none 0 0],true,none⟩,fbB gF jF,⟨b6,148,[slv (some ⟨gF,0,none⟩) 4 cF,slv (some ⟨bT,0,none⟩) 1 1, .slice none 0 0],true,none⟩,Fo,Fo,⟨b8,145,(stV 0 S0).cells.toList,true,none⟩] Tryz.mixed (by kernel_rfl) ?_ ?_
 ·refine qP I (qP I (qB 6 I I I (qI I I (by decide) (by decide) (qL 0 I I (fun W1 hp=>OX hp 2 I) I (qB 6 I I I (BU (wX (wZ ?_))))))))
  refine wD (X:=Nat×Nat×List Value) rfl rfl (fun W1 hp=>K2 W1 (hv.hp hp) (ht.hp hp)) ?_;rintro⟨gC,cC,jC⟩ _
  refine Aa (Ag (wX (wZ (wP I (Aa (Ag (wX ?_)))))))
  refine RS.cons ?_ (RS.cons ?_ (RS.nil))
  ·refine wP I (Aa (Ag (wX ?_)))
   refine RS.cons ?_ (RS.cons ?_ (RS.nil))
   ·refine wP I (Aa (Ag (wX (wZ (wP I (Aa (Ag (wX (wZ (wP I (Aa (Ag ?_))))))))))))
    refine AG I (by((repeat (first|refine AI.same ?_|refine AI.off I ?_));exact tO)) ?_
    exact A6 (gC,cC,jC) ⟨I,I,I,I,I,I,I,I,tO⟩ [0,1,2,3,7,5] (by decide) I
   ·refine wP I (Aa (Ag (wX (wZ (wP I (Aa (Ag (wX (wZ (wP I (Aa (Ag ?_))))))))))))
    refine AG I (by((repeat (first|refine AI.same ?_|refine AI.off I ?_));exact tO)) ?_
    exact A6 (gC,cC,jC) ⟨I,I,I,I,I,I,I,I,tO⟩ [0,1,2,3,7,5] (by decide) I
  ·refine wP I (Aa (Ag (wX (wZ (wP I (Aa (Ag (wX (wZ (wP I (Aa (Ag (wX ?_)))))))))))))
   refine wZ (wP I (Aa (Ag ?_)))
   refine AG I (by((repeat (first|refine AI.same ?_|refine AI.off I ?_));exact tO)) ?_
   exact A6 (gC,cC,jC) ⟨I,I,I,I,I,I,I,I,tO⟩ [0,1,2,3,7,5] (by decide) I
 rintro⟨gC,cC,jC⟩
 refine zE (zA (zA (zB (wP I (wP I (Aa (zE (zS I (zI (zE (zB (wP I (wB 3 I I I ?_)))))))))))))
 refine wP I ?_
 refine At Tryz.hZ tH I I I I I I I I I I I fun bN=> ?_
 refine AH (V:=Vec.empty) (len:=0) (xs:=[]) 5 6 Tryz.vec146 1 [slv (some ⟨gC,0,none⟩) 3 cC] I I I I I I I I I I I (Vec.OK.empty 1) I I I I (by decide) (by decide) I ?_
 intro gA cA jA _
 exact wP I (wS 3 I I I (Aa (zN (zE (zB (wP I (wP I (Aa (Al (some (gC,cC,jC,gA,cA,jA)) tO (by show 0<1;decide) ⟨I,I,I,I,I,I,tO⟩ [_] I)))))))))
def rcO:List Ar:=[(3,1),(7,1),(7,3),(3,3)]
theorem Ou:rcP f0 (crn 3 7 1 3)=rcO:=by decide+kernel
theorem Yi {i:Nat} (h:i<rcO.length):i=0∨i=1∨i=2∨i=3:=by have h:i<4:=h;omega
theorem Yz {i:Nat} (h:i<DO.length):i=0∨i=1∨i=2:=by have h:i<3:=h;omega
theorem Uk:HH rcO:=by
 refine⟨by decide,by decide+kernel,fun i j k h1 h2 h3=> ?_⟩
 have h3:k<4:=h3
 have:(i=0∧j=1∧k=2)∨(i=0∧j=1∧k=3)∨(i=0∧j=2∧k=3)∨(i=1∧j=2∧k=3):=by omega
 rcases this with⟨rfl,rfl,rfl⟩|⟨rfl,rfl,rfl⟩|⟨rfl,rfl,rfl⟩|⟨rfl,rfl,rfl⟩<;>decide+kernel
theorem Vz:HH DO:=by
 refine⟨by decide,by decide+kernel,fun i j k h1 h2 h3=> ?_⟩
 have h3:k<3:=h3
 obtain⟨rfl,rfl,rfl⟩:i=0∧j=1∧k=2:=by omega
 decide+kernel
theorem LL:I9 8 rcO:=by unfold I9 szQ rcO;decide+kernel
theorem Xx:I9 8 DO:=by unfold I9 szQ DO;decide+kernel
theorem I9.monoO {a b:Nat} {l:List Ar} (h:I9 a l) (hab:a≤b):I9 b l:=fun p hp=>⟨(h p hp).1.mono hab,(h p hp).2.mono hab⟩
theorem QG {W:World} {p:Option Addr} (h:BG W p rcO) (hv:AL W) (ht:AA W):LN W p rcO:=⟨Uk,by decide,by decide,LL.monoO (by decide),h,hv,ht⟩
theorem Ud {W:World} {p:Option Addr} (h:BG W p DO) (hv:AL W) (ht:AA W):LN W p DO:=⟨Vz,by decide,by decide,Xx.monoO (by decide),h,hv,ht⟩
theorem sO {q:Rat} (h:q.num.natAbs<10^8∧q.den<10^8):szQ q 8:=h
theorem eO {p q:Rat} (h:(p.num.natAbs<10^8∧p.den<10^8)∧(q.num.natAbs<10^8∧q.den<10^8)):Sz2 p q:=sz2 (sO h.1) (sO h.2) (by decide)
theorem Xh:ArZ rcO:=by
 refine⟨fun i hi=> ?_,fun i hi=> ?_,eO (by decide+kernel)⟩
 ·rcases Yi hi with rfl|rfl|rfl|rfl<;>exact⟨eO (by decide+kernel),eO (by decide+kernel),eO (by decide+kernel)⟩
 ·rcases Yi hi with rfl|rfl|rfl|rfl<;>exact eO (by decide+kernel)
theorem Vc:O9 rcO/2=8:=by decide+kernel
def Xc (P Q:Ar):Prop:=
 (∀q∈rcO,(((lnG P Q).a.num.natAbs<10^8∧(lnG P Q).a.den<10^8)∧(q.1.num.natAbs<10^8∧q.1.den<10^8))∧(((lnG P Q).b.num.natAbs<10^8∧(lnG P Q).b.den<10^8)∧(q.2.num.natAbs<10^8∧q.2.den<10^8))
  ∧((((lnG P Q).a*q.1).num.natAbs<10^8∧((lnG P Q).a*q.1).den<10^8)∧(((lnG P Q).b*q.2).num.natAbs<10^8∧((lnG P Q).b*q.2).den<10^8))
  ∧((((lnG P Q).a*q.1+(lnG P Q).b*q.2).num.natAbs<10^8∧((lnG P Q).a*q.1+(lnG P Q).b*q.2).den<10^8)∧((lnG P Q).c.num.natAbs<10^8∧(lnG P Q).c.den<10^8)))
 ∧(∀i,i<4→ ¬(lnG P Q).at (Av rcO i)*(lnG P Q).at (Av rcO (i+1))<0)
 ∧Ce (lnG P Q) rcO=rcO∧F9 (lnG P Q) rcO=rcO
instance (P Q:Ar):Decidable (Xc P Q):=by unfold Xc;infer_instance
theorem XW {P Q:Ar} (h:Xc P Q) (ha:(Q.2.num.natAbs<10^8∧Q.2.den<10^8)∧(P.2.num.natAbs<10^8∧P.2.den<10^8)) (hb:(P.1.num.natAbs<10^8∧P.1.den<10^8)∧(Q.1.num.natAbs<10^8∧Q.1.den<10^8))
  (hc:((Q.2-P.2).num.natAbs<10^8∧(Q.2-P.2).den<10^8)∧(P.1.num.natAbs<10^8∧P.1.den<10^8)) (hd:((P.1-Q.1).num.natAbs<10^8∧(P.1-Q.1).den<10^8)∧(P.2.num.natAbs<10^8∧P.2.den<10^8))
  (he:(((Q.2-P.2)*P.1).num.natAbs<10^8∧((Q.2-P.2)*P.1).den<10^8)∧(((P.1-Q.1)*P.2).num.natAbs<10^8∧((P.1-Q.1)*P.2).den<10^8)):MkZ rcO P Q:=by
 obtain⟨h1,h2,h3,h4⟩:=h
 exact⟨eO ha,eO hb,eO hc,eO hd,eO he,⟨fun q hq=>⟨eO (h1 q hq).1,eO (h1 q hq).2.1,eO (h1 q hq).2.2.1,eO (h1 q hq).2.2.2⟩,fun i hi hn=>absurd hn (h2 i hi),by rw[h3];exact LL.monoO (by decide)⟩,h4⟩
theorem X2: ∀k,k<DO.length→MkZ rcO (Av DO k) (Av DO (k+1)):=fun k hk=>by
 rcases Yz hk with rfl|rfl|rfl<;>exact XW (by decide+kernel) (by decide+kernel) (by decide+kernel) (by decide+kernel) (by decide+kernel) (by decide+kernel)
theorem Ub {p q r:Ar} (h:Xn p q r):M2 p q r:=
 ⟨Ee.2 ⟨⟨h.s1.c1,h.s1.c2⟩,h.s1.sub,h.s1.d⟩,Ee.2 ⟨⟨h.s2.c1,h.s2.c2⟩,h.s2.sub,h.s2.d⟩,Ee.2 ⟨⟨h.s3.c1,h.s3.c2⟩,h.s3.sub,h.s3.d⟩,Ee.2 ⟨⟨h.s4.c1,h.s4.c2⟩,h.s4.sub,h.s4.d⟩,⟨h.m1.n,h.m1.d⟩,⟨h.m2.n,h.m2.d⟩,⟨h.o.c1,h.o.c2⟩⟩
theorem TC {l:List Ar} (h:I9 36 l):Eb l:=fun a ha b hb=>by
 have h0:0<l.length:=by omega
 have pa:=h.at_ h0 a
 have pb:=h.at_ h0 b
 have s1:=sz2 pa.1 pb.1 (by decide)
 have s2:=sz2 pa.2 pb.2 (by decide)
 exact⟨⟨s1.c1,s1.c2⟩,⟨s2.c1,s2.c2⟩,fun d _=>Ub (Sw pa pb (h.at_ h0 d) (by decide))⟩
theorem Sb:Eb (rcP f0 (crn 3 7 1 3)):=by rw[Ou];exact TC (LL.monoO (by decide))
theorem Wq: ∀p∈rcP f0 (crn 3 7 1 3),okP p:=by rw[Ou];exact fun p hp=>⟨(LL p hp).1.ok (by decide),(LL p hp).2.ok (by decide)⟩
theorem WG:XF (rcP f0 (crn 3 7 1 3)) rcO 0:=by
 have e:J8 (rcP f0 (crn 3 7 1 3))=rcO:=by rw[Ou];decide+kernel
 exact .inl ⟨Sb,by rw[e];decide,e.symm,I⟩
theorem nO0:Ac 0=[48]:=Cs
theorem nO1:Ac 1=[49]:=by decide+kernel
theorem nO3:Ac 3=[51]:=by decide+kernel
theorem nO7:Ac 7=[55]:=by decide+kernel
theorem nO8:Ac 8=[56]:=by decide+kernel
-- BOXES 8
-- CODE2
structure SfP (W:World) (x:SfX) (bT:Nat):Prop where
 f:Ai W x.gF 0 (frV f0).cells.toList
 t:Ai W bT 0 (stV 0 S0).cells.toList
 a:Ai W x.gA 0 [slv (some ⟨x.gC,0,none⟩) 3 x.cC]
 c:BG W (some ⟨x.gC,0,none⟩) DO
theorem SfP.hp {W0 W:World} {bxs:List Bx} {x:SfX} {bT:Nat} (h:SfP W0 x bT) (hp:Hp W0 bxs W):SfP W x bT:=⟨h.f.hp hp,h.t.hp hp,h.a.hp hp,h.c.hp hp⟩
abbrev opE:Value:=Gs 0 (Ac 3) (Ac 7) (Ac 1) (Ac 3)
def smS (b:Bool):List UInt8:=if b then[56] else[48]
def Yk (b:Bool):Int:=if b then 1 else 0
def smM (b:Bool):Nat:=if b then 0 else 1
theorem PR (x:SfX) (bT:Nat) (W:World) (h:SfP W x bT) (hv:AL W) (ht:AA W):
  Ad Tryz.prog 170 #[x.v bT,opE] W (fun _:Unit=> .int .i64 0) (fun _=>True) (fun _=>[]):=by
 have zz: ∀q:Rat,(q.num.natAbs<10^8∧q.den<10^8)→szQ q 8:=fun q hq=>hq
 have z1:=zz 1 (by decide+kernel)
 have z3:=zz 3 (by decide+kernel)
 have z7:=zz 7 (by decide+kernel)
 have e8:((7:Rat)-3)*(3-1)=8:=by decide+kernel
 refine Ab (args:=[TY (slv (some ⟨x.gF,0,none⟩) 4 x.cF) (slv (some ⟨bT,0,none⟩) 1 1) (slv (some ⟨x.gA,0,none⟩) 1 x.cA),opE]) Tryz.func170 I I I ?_
 refine zA (zB ?_)
 (refine Ak rfl rfl rfl rfl ?_;intro)
 (refine Ak rfl rfl rfl rfl ?_;intro)
 refine wP I (Aa ?_)
 rename_i b2 b3
 refine zE (Az ?_)
 refine AV (X:= { y:Nat×Nat×List Value//Vec.OK ⟨some y.1,y.2.1,y.2.2⟩ 2 4 (ptC rcO) }) [true,true,true,true,true,true,true,false,false,false,false,false,false] (fun y=>[(2,Af b2),(3,Af b3),(4, .int .i64 0),(5,slv (some ⟨y.1.1,0,none⟩) 4 y.1.2.1),(6, .int .i64 0)])
  (fun y=>[⟨b2,148,(x.v bT).cells.toList,true,none⟩,⟨b3,27,opE.cells.toList,true,none⟩,B5 y.1.1 rcO y.1.2.2])
  6 [⟨b2,148,(x.v bT).cells.toList,true,none⟩,⟨b3,27,opE.cells.toList,true,none⟩] Tryz.mixed (by kernel_rfl) ?_ ?_
 ·refine qP I (qB 0 I I I (qP I (qB 1 I I I (qI I I (by decide) (by decide) (qL 0 I I (fun W1 hp=>h.f.hp hp) I (qB 1 I I I (BU (wX (wZ ?_)))))))))
  refine wD (X:=Vec) rfl rfl (fun W1 hp=>Q5 f0 Q1 0 3 7 1 3 z3 z7 z1 z3 rcO WG Sb Wq W1 (hv.hp hp) (ht.hp hp)) ?_;rintro⟨pV,cV,jV⟩ hV;have hV:Vec.OK ⟨pV,cV,jV⟩ 2 4 (ptC rcO):=hV;obtain⟨gV,rfl⟩: ∃g,pV=some g:=Option.ne_none_iff_exists'.1 (fun e=>absurd (hV.nil e) (by decide))
  refine Aa (Ag (wX (wZ (wP I (Aa (Ag (wX ?_)))))))
  refine RS.cons ?_ (RS.cons ?_ (RS.nil))
  ·refine wP I (Aa (Ag (wX ?_)))
   refine RS.cons ?_ (RS.cons ?_ (RS.nil))
   ·refine wP I (Aa (Ag (wX (wZ (wP I (Aa (Ag (wX (wZ (wP I (Aa (Ag ?_))))))))))))
    refine AG I (by((repeat (first|refine AI.same ?_|refine AI.off I ?_));exact tO)) ?_
    exact A6 (⟨(gV,cV,jV),hV⟩: { y:Nat×Nat×List Value//Vec.OK ⟨some y.1,y.2.1,y.2.2⟩ 2 4 (ptC rcO) }) ⟨I,I,I,I,I,tO⟩ [0,1,2] (by decide) I
   ·refine wP I (Aa (Ag (wX (wZ (wP I (Aa (Ag (wX (wZ (wP I (Aa (Ag ?_))))))))))))
    refine AG I (by((repeat (first|refine AI.same ?_|refine AI.off I ?_));exact tO)) ?_
    exact A6 (⟨(gV,cV,jV),hV⟩: { y:Nat×Nat×List Value//Vec.OK ⟨some y.1,y.2.1,y.2.2⟩ 2 4 (ptC rcO) }) ⟨I,I,I,I,I,tO⟩ [0,1,2] (by decide) I
  ·refine wP I (Aa (Ag (wX (wZ (wP I (Aa (Ag (wX (wZ (wP I (Aa (Ag (wX ?_)))))))))))))
   refine wZ (wP I (Aa (Ag ?_)))
   refine AG I (by((repeat (first|refine AI.same ?_|refine AI.off I ?_));exact tO)) ?_
   exact A6 (⟨(gV,cV,jV),hV⟩: { y:Nat×Nat×List Value//Vec.OK ⟨some y.1,y.2.1,y.2.2⟩ 2 4 (ptC rcO) }) ⟨I,I,I,I,I,tO⟩ [0,1,2] (by decide) I
 rintro⟨⟨gV,cV,jV⟩,hV⟩
 refine zE (zA (zA (zB (wP I (wP I (Aa (zE (zS I (zI (zE (zA (zB (wP I ?_)))))))))))))
 refine Aa (zE (zA (zA (zB (wP I (wB 0 I I I (wP I (wP I (Aa (zE (zH ?_)))))))))))
 refine Aw (X:=Bool) (fun b=>[(2,Af b2),(3,Af b3),(4, .int .i64 0),(5,slv (some ⟨gV,0,none⟩) 4 cV),(6, .int .i64 0),(7,str (smS b)),(29,slv (some ⟨x.gA,0,none⟩) 1 x.cA),(30, .int .i64 1),(31, .int .i64 (Yk b))])
  (fun _=>[⟨b2,148,(x.v bT).cells.toList,true,none⟩,⟨b3,27,opE.cells.toList,true,none⟩,B5 gV rcO jV])
  (fun _=>True) smM false trivial ⟨rfl,rfl,rfl,rfl,rfl,rfl,rfl,rfl,rfl,trivial⟩ [] rfl ?_
 intro b _
 cases b with
 |true=>
  refine zA (zB (wP I (Aa (zE (zA (zS I (zJ (zK (zK (zL (zE (zA (zB ?_)))))))))))))
  refine wB 1 I I I (wC I I (fun W1 hp=>(HM 0 3 7 1 3 z3 z7 z1 z3 W1 (hv.hp hp) (ht.hp hp)).cast (v':= .tuple #[str [56], .int .i64 0]) (by rw[e8,nO8])) ?_)
  iterate 5 refine wP I ?_
  refine Aa (zE (zA (zA (zB (wP I (wP I (Aa (zE (zS I (zI (zE (zA (zA ?_)))))))))))))
  refine zB (wP I (wP I (wP I (wU 82 false I (congrArg (!·) ((Bd _ _).trans (dT I))) (Aa (zE (zS I (zI (zE (zA (zB (wP I (Aa ?_)))))))))))))
  exact zE (zO (wR1 I I I))
 |false=>
  refine zA (zB (wP I (Aa (zE (zA (zR I (zI (zE (zA (zH (zA (zB (wP I ?_)))))))))))))
  refine wI I I (by decide) (by decide) (wL 0 I I (fun W1 hp=>h.a.hp hp) I (wP I (wP I (Aa (zE (zA (zA (zU (qP I (qB 0 I I I (qP I (qI I I (by decide) (by decide) (qP I ?_)))))))))))))
  refine qL 0 I I (fun W1 hp=>(h.t.hp hp).sub 0) I (qP I (qB 1 I I I (qP I (AB (Aa (zE (zS I (zI (zE (zA (zB (wP I (wP I ?_)))))))))))))
  refine wD (X:=Nat×Nat×List Value) I I (fun W1 hp=>Oy rcO DO X2 (some ⟨gV,0,none⟩) (some ⟨x.gC,0,none⟩) cV x.cC W1 (QG (BG.of_row (junk:=jV) (Ai.of_bx hp 2 I I)) (hv.hp hp) (ht.hp hp)) (Ud (h.c.hp hp) (hv.hp hp) (ht.hp hp))) ?_
  rintro⟨gM,cM,jM⟩ hM
  have hM:Vec.OK ⟨some gM,cM,jM⟩ 2 4 (ptC rcO):=hM
  iterate 5 refine wP I ?_
  refine Aa (zE (zA (zA (zB (wP I (wP I (Aa (zE (zS I (zI (zE (zA (zA ?_)))))))))))))
  refine zB (wP I (wP I (wP I (Aa (zE (zS I (zI (zE (zA (zB (wP I (wC I I (fun W1 hp=>(Px rcO Xh (some ⟨gM,0,none⟩) cM W1 (QG (BG.of_row (junk:=jM) (Ai.of_bx hp 3 I I)) (hv.hp hp) (ht.hp hp))).cast (v':= .tuple #[str [56], .int .i64 0]) (by rw[Vc,nO8])) ?_))))))))))))
  iterate 5 refine wP I ?_
  refine Aa (zE (zA (zA (zB (wP I (wP I (Aa (zE (zS I (zI (zE (zA (zB ?_)))))))))))))
  refine wP I (wP I ?_)
  refine wC I I (fun W1 hp=>(show Ad Tryz.prog 19 #[str [48],str [56]] W1 (fun _:Unit=> .tuple #[str [56], .int .i64 0]) (fun _=>True) (fun _=>[]) by
   have h2:=CN 0 8 (eO (by decide+kernel)) W1 (hv.hp hp) (ht.hp hp)
   rwa [Rat.zero_add,nO0,nO8] at h2)) ?_
  iterate 5 refine wP I ?_
  refine Aa (zE (zA (zB (wP I (wP I (Aa (zE (zS I (zI (zN (zE (zB (wP I (wP I ?_))))))))))))))
  exact Aa (Al true tO (by decide) ⟨I,I,I,I,I,I,I,I,I,tO⟩ [_] I)
-- BOXES 10
-- CODE2
section
variable {r:Option Nat} {n:Nat} {P:Program} {W0:World} {N:Nat} {D:List Deferred} {ops:List Oper} {Q:Exit→Act→World→Prop} {o:Oper} {rest:List Oper} {env:Env} {bxs:List Bx}
theorem Mx {c:Call} {f:Operand} {g d:Nat} {first vs:List Value} {v:Value}
  (hg:A0 ops N env o=some true) (hd:o.dst=some d) (ho:o.op= .call c) (hc:c.callee= .value f) (hf:evO N env f=some (.func (.func g) first.toArray #[])) (ha:BH (evO N env) c.args.toList=some vs) (hE:AN P g=true)
  (hC: ∀W,Hp W0 bxs W→Ad P g (first++vs).toArray W (fun _:Unit=>v) (fun _=>True) (fun _=>[]))
  (h:WL r n P N D ops Q rest ((d,v)::env) (Hp W0 bxs)):WL r n P N D ops Q (o::rest) env (Hp W0 bxs):= .mk fun a W h1 h2 hp=>by
 refine By hg h1 (fun c e=>by rw[ho] at e;cases e) ?_
 rw[Nq ho hc (A7 h1 _ _ hf) (DR (A7 h1) ha) hE]
 simp only[Oper.uponIn,hd]
 refine⟨fun hx=>(by cases hx),Dv ((hC W hp).out.mono ?_)⟩
 rintro e W' ⟨x,rfl,hx,hb,hn⟩
 exact h.out a W' h1 h2 (hp.grow hb)
end
theorem MS {q:Rat} (h:q.num.natAbs<10^8∧q.den<10^8):okQ q:=(sO h).ok (by decide)
abbrev Y9 (v:Value):List Value:=[.func (.func 169) #[v] #[], .func (.func 44) #[] #[], .func (.func 170) #[v] #[]]
theorem MX (W:World) (hv:AL W) (ht:AA W):
  Ad Tryz.prog 44 #[opE] W (fun _:Unit=> .int .i64 0) (fun _=>True) (fun _=>[]):=
 HW 0 3 7 1 3 (MS (by decide+kernel)) (MS (by decide+kernel)) (MS (by decide+kernel)) (MS (by decide+kernel)) (by rw[nO3];decide) (by rw[nO7];decide) (by rw[nO1];decide) (by rw[nO3];decide) (by decide+kernel) (by decide+kernel) W hv ht
theorem ID (x:SfX) (bT:Nat) (W:World) (h:SfP W x bT) (hv:AL W) (ht:AA W):
  Ad Tryz.prog 102 #[x.v bT,opE] W (fun _:Unit=> .int .i64 0) (fun _=>True) (fun _=>[]):=by
 refine Ab (args:=[TY (slv (some ⟨x.gF,0,none⟩) 4 x.cF) (slv (some ⟨bT,0,none⟩) 1 1) (slv (some ⟨x.gA,0,none⟩) 1 x.cA),opE]) Tryz.func102 I I I ?_
 refine zA (zB ?_)
 (refine Ak rfl rfl rfl rfl ?_;intro)
 (refine Ak rfl rfl rfl rfl ?_;intro)
 refine wP I (Aa ?_)
 rename_i b2 b3
 refine zE (zA (zA (zB (wB 0 I I I (wP I (wB 0 I I I (wP I ?_)))))))
 refine H0 .nilFunc tH I I I I I (fun W=>by kernel_rfl) I I I I I (fun bA=> ?_)
 refine wP I (wP I (Aa (zE (zH ?_))))
 refine Aw (X:=Nat) (fun i=>[(3,Af b3),(4, .int .i64 0),(12,slv (some ⟨bA,0,none⟩) 3 3),(13, .int .i64 3),(14, .int .i64 (i:Nat))])
  (fun _=>[⟨b2,148,(x.v bT).cells.toList,true,none⟩,⟨b3,27,opE.cells.toList,true,none⟩,⟨bA,92,Y9 (x.v bT),true,none⟩])
  (fun i=>i≤3) (fun i=>3-i) 0 (Nat.zero_le _) ⟨rfl,rfl,rfl,rfl,rfl,trivial⟩ [] rfl ?_
 intro i hi
 have hi:i≤3:=hi
 have hc:i=0∨i=1∨i=2∨i=3:=by omega
 rcases hc with rfl|rfl|rfl|rfl
 ·refine zA (zB (wP I (Aa (zE (zA (zR I (zI (zE (zA (zH (zA (zB (wI I I (by decide) (by decide) ?_)))))))))))))
  refine wL 0 I I (fun W1 hp=>Ai.of_bx hp 2 I I) I (wP I (Aa (zE (zA (zB (wP I (wB 1 I I I ?_)))))))
  refine Mx (first:=[x.v bT]) I I I I I I (by kernel_rfl) (fun W1 hp=>Qk (some ⟨x.gF,0,none⟩) 4 x.cF (slv (some ⟨bT,0,none⟩) 1 1) (slv (some ⟨x.gA,0,none⟩) 1 x.cA) 0 (by decide) (Ac 3) (Ac 7) (Ac 1) (Ac 3) W1) ?_
  refine wP I (Aa (zE (zA (zB (wP I (wP I (Aa (zE (zS I (zI (zN (zE (zB ?_)))))))))))))
  exact wP I (wP I (Aa (Al 1 (by decide) (by decide) ⟨I,I,I,I,I,tO⟩ [] I)))
 ·refine zA (zB (wP I (Aa (zE (zA (zR I (zI (zE (zA (zH (zA (zB (wI I I (by decide) (by decide) ?_)))))))))))))
  refine wL 0 I I (fun W1 hp=>(Ai.of_bx hp 2 I I).sub 1) I (wP I (Aa (zE (zA (zB (wP I (wB 1 I I I ?_)))))))
  refine Mx (first:=[]) I I I I I I (by kernel_rfl) (fun W1 hp=>MX W1 (hv.hp hp) (ht.hp hp)) ?_
  refine wP I (Aa (zE (zA (zB (wP I (wP I (Aa (zE (zS I (zI (zN (zE (zB ?_)))))))))))))
  exact wP I (wP I (Aa (Al 2 (by decide) (by decide) ⟨I,I,I,I,I,tO⟩ [] I)))
 ·refine zA (zB (wP I (Aa (zE (zA (zR I (zI (zE (zA (zH (zA (zB (wI I I (by decide) (by decide) ?_)))))))))))))
  refine wL 0 I I (fun W1 hp=>(Ai.of_bx hp 2 I I).sub 2) I (wP I (Aa (zE (zA (zB (wP I (wB 1 I I I ?_)))))))
  refine Mx (first:=[x.v bT]) I I I I I I (by kernel_rfl) (fun W1 hp=>PR x bT W1 (h.hp hp) (hv.hp hp) (ht.hp hp)) ?_
  refine wP I (Aa (zE (zA (zB (wP I (wP I (Aa (zE (zS I (zI (zN (zE (zB ?_)))))))))))))
  exact wP I (wP I (Aa (Al 3 (by decide) (by decide) ⟨I,I,I,I,I,tO⟩ [] I)))
 ·refine zA (zB (wP I (Aa (zE (zA (zS I (zJ (zK (zK (zL (zE (zA (zB ?_)))))))))))))
  exact wP I (Aa (zE (zO (wR1 I I I))))
structure LO (W:World) (bR bT:Nat):Prop where
 r:BZ W (some ⟨bR,0,none⟩) [sqL]
 t:Ai W bT 0 (stV 0 S0).cells.toList
theorem LO.hp {W0 W:World} {bxs:List Bx} {bR bT:Nat} (h:LO W0 bR bT) (hp:Hp W0 bxs W):LO W bR bT:=⟨h.r.hp hp,h.t.hp hp⟩
theorem SfP.of {W0 W:World} {bxs:List Bx} {x:SfX} {bR bT:Nat} (h:LO W0 bR bT) (hp:Hp W0 bxs W) (i j k:Nat) (h1:nth bxs i=some (fbB x.gF x.jF)) (h2:nth bxs j=some (B5 x.gC DO x.jC)) (h3:nth bxs k=some (arB x.gA x.gC x.cC x.jA)):SfP W x bT:=
 ⟨OX hp i h1,h.t.hp hp,C8 (a:=[slv (some ⟨x.gC,0,none⟩) 3 x.cC]) (b:=x.jA) (Ai.of_bx hp k h3 rfl),BG.of_row (junk:=x.jC) (Ai.of_bx hp j h2 rfl)⟩
theorem OD (bR bT:Nat) (W:World) (h:LO W bR bT) (hd:HK W) (hv:AL W) (ht:AA W):
  Ad Tryz.prog 97 #[Fy bR bT,opE] W (fun _:Unit=> .int .i64 0) (fun _=>True) (fun _=>[]):=by
 refine Ab (args:=[Fy bR bT,opE]) Tryz.func97 I I I ?_
 refine zA (zB ?_)
 (refine Ak rfl rfl rfl rfl ?_;intro)
 (refine Ak rfl rfl rfl rfl ?_;intro)
 refine wP I (Aa (zE (zA (zB (wB 0 I I I ?_)))))
 refine wD (X:=SfX) I I (fun W1 hp=>Kx bR bT W1 (h.hp hp).r (h.hp hp).t (hd.hp hp) (hv.hp hp) (ht.hp hp)) ?_
 rintro⟨gF,cF,jF,gC,cC,jC,gA,cA,jA⟩ _
 refine wP I (wP I (wP I ?_))
 (refine Ae Tryz.hZ rfl rfl rfl rfl ?_;intro)
 refine wS 5 I I I (wP I (Aa (zE (zA (zA (zB (wP I (wP I (Aa (zE (zS I (zI (zE ?_)))))))))))))
 exact zA (zB (wB 5 I I I (wB 1 I I I (wC I I (fun W1 hp=>ID ⟨gF,cF,jF,gC,cC,jC,gA,cA,jA⟩ bT W1 (SfP.of h hp 2 3 4 I I I) (hv.hp hp) (ht.hp hp)) (wP I (Aa (zE (zO (wR1 I I I)))))))))
theorem LD (bR bT:Nat) (W:World) (h:LO W bR bT) (hd:HK W) (hv:AL W) (ht:AA W):
  Ad Tryz.prog 36 #[Fy bR bT,opE] W (fun V:Vec=> .tuple #[V.val 4, .int .i64 0]) (fun V=>V.OK 3 4 (spC f0 (crn 3 7 1 3))) (fun V=>[V.bx 45 (spC f0 (crn 3 7 1 3))]):=by
 have zz: ∀q:Rat,(q.num.natAbs<10^8∧q.den<10^8)→szQ q 8:=fun q hq=>hq
 have z1:=zz 1 (by decide+kernel)
 have z3:=zz 3 (by decide+kernel)
 have z7:=zz 7 (by decide+kernel)
 refine Ab (args:=[Fy bR bT,opE]) Tryz.func36 I I I ?_
 refine zA (zB ?_)
 (refine Ak rfl rfl rfl rfl ?_;intro)
 (refine Ak rfl rfl rfl rfl ?_;intro)
 refine wP I (wP I (Aa ?_))
 rename_i b2 b3
 refine zE (zA (zA (zB (wB 0 I I I (wB 1 I I I (wC I I (fun W1 hp=>OD bR bT W1 (h.hp hp) (hd.hp hp) (hv.hp hp) (ht.hp hp)) (wP I (Aa (zE (zA (zB (wP I (wP I ?_)))))))))))))
 refine Aa (zE (zS I (zI (zE (zA (zB (wP I (wB 0 I I I ?_))))))))
 refine wD (X:=Vec) I I (fun W1 hp=>by
  have h:=Iu W1 (some ⟨bR,0,none⟩) 1 [sqL] (by decide) ((h.hp hp).r) Ih (hd.hp hp) (ht.hp hp)
  rw[S2] at h
  exact h) ?_
 rintro⟨pF,cF,jF⟩ hF
 have hF:Vec.OK ⟨pF,cF,jF⟩ 5 4 (frC (Fp [sqL])):=hF
 obtain⟨gF,rfl⟩: ∃g,pF=some g:=Option.ne_none_iff_exists'.1 (fun e=>absurd (hF.nil e) (by decide))
 iterate 5 refine wP I ?_
 refine Aa (zE (zA (zA (zB (wP I (wP I (Aa (zE (zS I (zI (zE (Az ?_))))))))))))
 refine AV (X:= { V:Vec//V.OK 3 4 (spC f0 (crn 3 7 1 3)) }) [true,true,true,true,true,true,false,false,false,false,false] (fun V=>[(4,V.1.val 4),(5, .int .i64 0)]) (fun V=>[V.1.bx 45 (spC f0 (crn 3 7 1 3))])
  5 [⟨b2,81,(Fy bR bT).cells.toList,true,none⟩,⟨b3,27,opE.cells.toList,true,none⟩,fbB gF jF] Tryz.mixed (by kernel_rfl) ?_ ?_
 ·refine qP I (qP I (qB 1 I I I (qI I I (by decide) (by decide) (qL 0 I I (fun W1 hp=>OX hp 2 I) I (qB 1 I I I (BU (wX (wZ ?_))))))))
  refine wD (X:=Vec) rfl rfl (fun W1 hp=>Hu f0 Q1 0 3 7 1 3 z3 z7 z1 z3 W1 (hv.hp hp) (ht.hp hp)) ?_;intro V hV
  refine Aa (Ag (wX ?_))
  refine RS.cons ?_ (RS.cons ?_ (RS.nil))
  ·refine wP I (Aa (Ag (wX (wZ (wP I (Aa (Ag (wX (wZ (wP I (Aa (Ag (wX ?_)))))))))))))
   refine wZ (wP I (Aa (Ag ?_)))
   refine AG I (by((repeat (first|refine AI.same ?_|refine AI.off I ?_));exact tO)) ?_
   exact A6 (⟨V,hV⟩: { V:Vec//V.OK 3 4 (spC f0 (crn 3 7 1 3)) }) ⟨I,I,tO⟩ [3] (by decide) I
  ·refine wP I (Aa (Ag (wX (wZ (wP I (Aa (Ag (wX (wZ (wP I (Aa (Ag (wX ?_)))))))))))))
   refine wZ (wP I (Aa (Ag ?_)))
   refine AG I (by((repeat (first|refine AI.same ?_|refine AI.off I ?_));exact tO)) ?_
   exact A6 (⟨V,hV⟩: { V:Vec//V.OK 3 4 (spC f0 (crn 3 7 1 3)) }) ⟨I,I,tO⟩ [3] (by decide) I
 rintro⟨V,hV⟩
 exact zE (zO (A9 tH I (.tmp I) (.tmp I) V I hV fun W1 hp=>As.of_hp (hp.pick (l:=[V.bx 45 (spC f0 (crn 3 7 1 3))]) [0] (by decide) I)))
-- BOXES 4
-- CODE2
theorem Nn : ∃ f1 f2 f3 : Field, (Tryz.prog.fieldsOf 45).toList = [f1, f2, f3] ∧ (f1.name ≠ "_" ∧ f1.type = 25 ∧ f1.offset = 0) ∧ (f2.name ≠ "_" ∧ f2.type = 25 ∧ f2.offset = 1) ∧ (f3.name ≠ "_" ∧ f3.type = 25 ∧ f3.offset = 2) := by
 unfold Program.fieldsOf;rw[Tryz.underlying45]
 exact⟨_,_,_,I,⟨by decide,I,I⟩,⟨by decide,I,I⟩,⟨by decide,I,I⟩⟩
theorem Xy (W:World) (a b s c d t:List UInt8):(binOp .eql 45 (.agg #[str a,str b,str s]) (.agg #[str c,str d,str t])).run Tryz.prog W= .ok (.bool (decide (a=c∧b=d∧s=t))) W:=by
 rw[run_eql_struct,run_equalIn_agg W 9999 45 _ _ (by kernel_rfl) (by kernel_rfl)]
 obtain⟨f1,f2,f3,hf,⟨n1,t1,o1⟩,⟨n2,t2,o2⟩,⟨n3,t3,o3⟩⟩:=Nn
 rw[hf]
 have e: ∀(x y:List UInt8) W,(Op.equalIn 9999 25 (str x) (str y)).run Tryz.prog W= .ok (decide (x=y)) W:=fun x y W=>by
  rw[run_equalIn_string W 9998 25 _ _ Tryz.underlying25,Bd]
 by_cases h1:a=c<;>by_cases h2:b=d<;>by_cases h3:s=t<;>simp[Op.eqFields,part,Tryz.isAgg25,e,h1,h2,h3,n1,n2,n3,t1,t2,t3,o1,o2,o3]
theorem X9 (W:World) (a b s c d t:List UInt8):(binOp .neq 45 (.agg #[str a,str b,str s]) (.agg #[str c,str d,str t])).run Tryz.prog W= .ok (.bool (!decide (a=c∧b=d∧s=t))) W:=by
 rw[run_neq_struct,run_equalIn_agg W 9999 45 _ _ (by kernel_rfl) (by kernel_rfl)]
 obtain⟨f1,f2,f3,hf,⟨n1,t1,o1⟩,⟨n2,t2,o2⟩,⟨n3,t3,o3⟩⟩:=Nn
 rw[hf]
 have e: ∀(x y:List UInt8) W,(Op.equalIn 9999 25 (str x) (str y)).run Tryz.prog W= .ok (decide (x=y)) W:=fun x y W=>by
  rw[run_equalIn_string W 9998 25 _ _ Tryz.underlying25,Bd]
 by_cases h1:a=c<;>by_cases h2:b=d<;>by_cases h3:s=t<;>simp[Op.eqFields,part,Tryz.isAgg25,e,h1,h2,h3,n1,n2,n3,t1,t2,t3,o1,o2,o3]
section
variable {r:Option Nat} {n:Nat} {N:Nat} {D:List Deferred} {ops:List Oper} {Q:Exit→Act→World→Prop} {o:Oper} {rest:List Oper} {env:Env} {A A2:World→Prop} {R:Act→World→Prop}
theorem Wy (a b s c d e:List UInt8) {t:Nat} {u:TypeId} {x y:Operand} (hg:A0 ops N env o=some true) (hd:o.dst=some t) (ho:o.op= .binOp .eql 45 x y u)
  (hx:evO N env x=some (.agg #[str a,str b,str s])) (hy:evO N env y=some (.agg #[str c,str d,str e]))
  (h:WL r n Tryz.prog N D ops Q rest ((t, .bool (decide (a=c∧b=d∧s=e)))::env) A):WL r n Tryz.prog N D ops Q (o::rest) env A:=
 Cu hg hd (fun c e=>by rw[ho] at e;cases e) (fun _ W hρ _=>by
  have hm:Tryz.prog.eqGuardType Tryz.prog.depth 45=false:=by kernel_rfl
  simp[execOp,ho,hρ _ _ hx,hρ _ _ hy,run_eqGuard_agg W .eql 45 x y _ _ hm,Xy]) h
theorem Wv (a b s c d e:List UInt8) {t:Nat} {u:TypeId} {x y:Operand} (hg:A0 ops N env o=some true) (hd:o.dst=some t) (ho:o.op= .binOp .neq 45 x y u)
  (hx:evO N env x=some (.agg #[str a,str b,str s])) (hy:evO N env y=some (.agg #[str c,str d,str e]))
  (h:WQ Tryz.prog N D ops A2 R rest ((t, .bool (!decide (a=c∧b=d∧s=e)))::env) A):WQ Tryz.prog N D ops A2 R (o::rest) env A:=
 Dx hg hd (fun c e=>by rw[ho] at e;cases e) (fun _ W hρ _=>by
  have hm:Tryz.prog.eqGuardType Tryz.prog.depth 45=false:=by kernel_rfl
  simp[execOp,ho,hρ _ _ hx,hρ _ _ hy,run_eqGuard_agg W .neq 45 x y _ _ hm,X9]) h
end
abbrev SpS:Type:=List UInt8×List UInt8×List UInt8
def FH (L:List SpS):List Value:=L.flatMap fun x=>[str x.1,str x.2.1,str x.2.2]
theorem V6 (a b:List SpS):FH (a++b)=FH a++FH b:=List.flatMap_append
theorem TP (l:List SpS):(FH l).length=l.length*3:=by
 induction l with
 |nil=>rfl
 |cons p l ih=>show(FH l).length+1+1+1=(l.length+1)*3;rw[ih];omega
theorem VK {l:List SpS} {i:Nat} (hi:i<l.length):FH l=FH (l.take i)++([str l[i].1,str l[i].2.1,str l[i].2.2]++FH (l.drop (i+1))):=by
 conv=>lhs;rw[←List.take_append_drop i l,List.drop_eq_getElem_cons hi,V6]
 rfl
def Pj (W:World) (p:Option Addr) (l:List SpS):Prop:=l=[]∨ ∃g off,p=some ⟨g,off,none⟩∧ ∀i (hi:i<l.length),Ai W g (off+i*3) [str l[i].1,str l[i].2.1,str l[i].2.2]
theorem Pj.at_ {W:World} {p:Option Addr} {l:List SpS} (h:Pj W p l) {i:Nat} (hi:i<l.length): ∃g off,p=some ⟨g,off,none⟩∧ ∀k (hk:k<l.length),Ai W g (off+k*3) [str l[k].1,str l[k].2.1,str l[k].2.2]:=by
 rcases h with rfl|h
 ·exact absurd hi (Nat.not_lt_zero _)
 ·exact h
theorem Pj.of_row {W:World} {g off:Nat} {l:List SpS} {junk:List Value} (h:Ai W g off (FH l++junk)):Pj W (some ⟨g,off,none⟩) l:= .inr ⟨g,off,rfl,fun i hi=>by
 have h1:=C8 h
 rw[VK hi] at h1
 have h2:=C8 (H9 h1)
 rwa [TP,List.length_take,Nat.min_eq_left (Nat.le_of_lt hi)] at h2⟩
theorem Mo (l:List SpS) (hn:l.length≤100000) (p q:Option Addr) (cap cap2:Nat) (W:World) (hA:Pj W p l) (hB:Pj W q l):
  Ad Tryz.prog 33 #[slv p l.length cap,slv q l.length cap2] W (fun _:Unit=> .bool true) (fun _=>True) (fun _=>[]):=by
 refine Ab (args:=[slv p l.length cap,slv q l.length cap2]) Tryz.func33 I I I ?_
 refine zA (zB (wP I (Aa (zE (zA (zA (zB ?_)))))))
 iterate 5 refine wP I ?_
 refine wU 10 false I (bne_eq_false_iff_eq.2 I) (Aa (zE (zS I (zI (zE (zA (zA (zB (wP I (wP I (wP I (Aa (zE ?_)))))))))))))
 refine zH ?_
 refine Aw (X:=Nat) (fun i=>[(0,slv p l.length cap),(1,slv q l.length cap2),(12, .int .i64 (l.length:Nat)),(13, .int .i64 (i:Nat))]) (fun _=>[]) (fun i=>i≤l.length) (fun i=>l.length-i) 0 (Nat.zero_le _) ⟨I,I,I,I,tO⟩ [] I ?_
 intro i hi
 have hi:i≤l.length:=hi
 refine zA (zB (wP I ?_))
 by_cases hlt:i<l.length
 ·refine wU 14 true I (dT (by omega)) (Aa (zE (zA (zR I (zI (zE (zA (zH (zA (zB ?_))))))))))
  obtain⟨g,off,e1,h1⟩:=hA.at_ hlt
  obtain⟨g2,off2,e2,h2⟩:=hB.at_ hlt
  have h1:=h1 i hlt
  have h2:=h2 i hlt
  obtain⟨x,hx⟩: ∃x,x=l[i]:=⟨_,rfl⟩
  rw[←hx] at h1 h2
  subst e1 e2
  refine wP I (wP I (Aa (zE (zA (zU (qP I (qP I ?_)))))))
  refine qJ ?_
  refine qL 0 I I (fun W1 hp=>h1.hp hp) I (qP I (qP I ?_))
  refine qJ ?_
  refine qL 0 I I (fun W1 hp=>h2.hp hp) I ?_
  refine Wv x.1 x.2.1 x.2.2 x.1 x.2.1 x.2.2 I I I I I ?_
  exact qU 24 false I (by rw[dT ⟨I,I,I⟩];rfl) (AB (Aa (zE (zS I (zI (zN (zE (zB (wP I (wV 25 ((i+1:Nat):Int) I (Ax (by omega)) (wP I (Aa (Al (i+1) hlt (by show l.length-(i+1)<l.length-i;omega) ⟨I,I,I,I,tO⟩ [] I)))))))))))))
 refine wU 14 false I (dF (by omega)) (Aa (zE (zA (zS I (zJ (zK (zK (zL (zE (zA (zB (wP I (Aa ?_)))))))))))))
 exact zE (zO (wR1 I I I))
def exS:List SpS:=[([51],[49],[49]),([55],[49],[49]),([55],[51],[51]),([51],[51],[51])]
theorem Wx (f:FrP) (L:List Ar):spC f L=FH (L.map fun q=>(Ac (f.px q.1 q.2),Ac (f.py q.1 q.2),Ac (f.pz q.2))):=by
 unfold spC FH
 rw[List.flatMap_map]
theorem XA:spC f0 (crn 3 7 1 3)=FH exS:=by
 rw[Wx]
 exact congrArg FH (by decide+kernel)
-- BOXES 10
-- CODE2
structure OpR where
 s:Int
 l:Rat
 r:Rat
 o:Rat
 i:Rat
 deriving Inhabited
abbrev OpR.v (x:OpR):Value:=Gs x.s (Ac x.l) (Ac x.r) (Ac x.o) (Ac x.i)
structure OpR.OK (x:OpR):Prop where
 ol:okQ x.l
 or:okQ x.r
 oo:okQ x.o
 oi:okQ x.i
 ll:(Ac x.l).length≤8
 lr:(Ac x.r).length≤8
 lo:(Ac x.o).length≤8
 li:(Ac x.i).length≤8
 h1:x.l<x.r
 h2:x.o<x.i
def ovl (a b:OpR):Bool:=decide (a.s=b.s∧a.l<b.r∧b.l<a.r∧a.o<b.i∧b.o<a.i)
theorem LJ (a b:OpR) (ha:a.OK) (hb:b.OK) (W:World) (hv:AL W) (ht:AA W):
  Ad Tryz.prog 45 #[a.v,b.v] W (fun _:Unit=> .bool (ovl a b)) (fun _=>True) (fun _=>[]):=by
 have zz: ∀ {q:Rat},(Ac q).length≤8→szQ q 8:=fun h=>DH h (by decide)
 have s1:Sz2 a.l b.r:=sz2 (zz ha.ll) (zz hb.lr) (by decide)
 have s2:Sz2 b.l a.r:=sz2 (zz hb.ll) (zz ha.lr) (by decide)
 have s3:Sz2 a.o b.i:=sz2 (zz ha.lo) (zz hb.li) (by decide)
 have s4:Sz2 b.o a.i:=sz2 (zz hb.lo) (zz ha.li) (by decide)
 refine Ab (args:=[Gs a.s (Ac a.l) (Ac a.r) (Ac a.o) (Ac a.i),Gs b.s (Ac b.l) (Ac b.r) (Ac b.o) (Ac b.i)]) Tryz.func45 I I I ?_
 refine zA (zB ?_)
 (refine Ak rfl rfl rfl rfl ?_;intro)
 (refine Ak rfl rfl rfl rfl ?_;intro)
 refine wP I (Aa (zE (zA (zB (wP I (wB 0 I I I (wP I (wB 1 I I I (wP I ?_)))))))))
 by_cases h1:a.s=b.s
 rotate_left
 ·refine wU 9 false I (beq_eq_false_iff_ne.2 h1) (wP I ?_)
  iterate 6 refine Ah I I ?_
  refine wP I (wP I ?_)
  iterate 6 refine Ah I I ?_
  refine wP I (wP I ?_)
  iterate 6 refine Ah I I ?_
  refine wP I (wP I ?_)
  iterate 6 refine Ah I I ?_
  exact wP I (wP I (Aa (zE (zO (wR1 I I (congrArg Value.bool (dF fun h=>h1 h.1).symm))))))
 refine wU 9 true I (beq_iff_eq.2 h1) (wP I (wP I (wB 0 I I I (wP I (wB 1 I I I (wC I I (fun W1 hp=>Cd a.l b.r s1 W1 (hv.hp hp) (ht.hp hp)) (wP I ?_)))))))
 by_cases h2:a.l<b.r
 rotate_left
 ·refine wU 16 false I ((BQ _ _).trans (dF h2)) (wP I (wP I ?_))
  iterate 6 refine Ah I I ?_
  refine wP I (wP I ?_)
  iterate 6 refine Ah I I ?_
  refine wP I (wP I ?_)
  iterate 6 refine Ah I I ?_
  exact wP I (wP I (Aa (zE (zO (wR1 I I (congrArg Value.bool (dF fun h=>h2 h.2.1).symm))))))
 refine wU 16 true I ((BQ _ _).trans (dT h2)) (wP I (wP I (wP I (wB 1 I I I (wP I (wB 0 I I I (wC I I (fun W1 hp=>Cd b.l a.r s2 W1 (hv.hp hp) (ht.hp hp)) (wP I ?_))))))))
 by_cases h3:b.l<a.r
 rotate_left
 ·refine wU 24 false I ((BQ _ _).trans (dF h3)) (wP I (wP I ?_))
  iterate 6 refine Ah I I ?_
  refine wP I (wP I ?_)
  iterate 6 refine Ah I I ?_
  exact wP I (wP I (Aa (zE (zO (wR1 I I (congrArg Value.bool (dF fun h=>h3 h.2.2.1).symm))))))
 refine wU 24 true I ((BQ _ _).trans (dT h3)) (wP I (wP I (wP I (wB 0 I I I (wP I (wB 1 I I I (wC I I (fun W1 hp=>Cd a.o b.i s3 W1 (hv.hp hp) (ht.hp hp)) (wP I ?_))))))))
 by_cases h4:a.o<b.i
 rotate_left
 ·refine wU 32 false I ((BQ _ _).trans (dF h4)) (wP I (wP I ?_))
  iterate 6 refine Ah I I ?_
  exact wP I (wP I (Aa (zE (zO (wR1 I I (congrArg Value.bool (dF fun h=>h4 h.2.2.2.1).symm))))))
 refine wU 32 true I ((BQ _ _).trans (dT h4)) (wP I (wP I (wP I (wB 1 I I I (wP I (wB 0 I I I (wC I I (fun W1 hp=>Cd b.o a.i s4 W1 (hv.hp hp) (ht.hp hp)) (wP I ?_))))))))
 by_cases h5:b.o<a.i
 rotate_left
 ·exact wU 40 false I ((BQ _ _).trans (dF h5)) (wP I (wP I (Aa (zE (zO (wR1 I I (congrArg Value.bool (dF fun h=>h5 h.2.2.2.2).symm)))))))
 exact wU 40 true I ((BQ _ _).trans (dT h5)) (wP I (wP I (Aa (zE (zO (wR1 I I (congrArg Value.bool (dT ⟨h1,h2,h3,h4,h5⟩).symm)))))))
def XG (W:World) (p:Option Addr) (L:List OpR):Prop:=L=[]∨ ∃g off,p=some ⟨g,off,none⟩∧ ∀i (hi:i<L.length),Ai W g (off+i*5) (L[i]).v.cells.toList
theorem XG.row {W:World} {p:Option Addr} {L:List OpR} (h:XG W p L) {i:Nat} (hi:i<L.length): ∃g off,p=some ⟨g,off,none⟩∧ ∀k (hk:k<L.length),Ai W g (off+k*5) (L[k]).v.cells.toList:=by
 rcases h with rfl|h
 ·exact absurd hi (Nat.not_lt_zero _)
 ·exact h
def djt (L:List OpR):Bool:=decide (∀i,i<L.length→ ∀j,j<i→ovl (L.getD i default) (L.getD j default)=false)
def djK (L:List OpR) (i:Nat):Prop:= ∀i',i'<i→ ∀j,j<i'→ovl (L.getD i' default) (L.getD j default)=false
theorem opg {L:List OpR} {i:Nat} (h:i<L.length):L.getD i default=L[i]:=by rw[List.getD_eq_getElem?_getD,List.getElem?_eq_getElem h];rfl
theorem Vv {L:List OpR} {i j:Nat} (hi:i<L.length) (hj:j<i) (h:ovl L[i] (L[j]'(by omega))=true):djt L=false:=by
 refine dF fun hh=> ?_
 have:=hh i hi j hj
 rw[opg hi,opg (by omega),h] at this
 cases this
theorem Su {L:List OpR} (h:djK L L.length):djt L=true:=dT h
abbrev opB (b:Nat) (x:OpR):Bx:=⟨b,27,x.v.cells.toList,true,none⟩
theorem Hn (L:List OpR) (hL: ∀x∈L,x.OK) (hn:L.length≤32) (p:Option Addr) (cap:Nat) (hcap:L.length≤cap) (W:World) (hA:XG W p L) (hv:AL W) (ht:AA W):
  Ad Tryz.prog 10 #[slv p L.length cap] W (fun _:Unit=> .tuple #[.bool (djt L), .int .i64 0]) (fun _=>True) (fun _=>[]):=by
 refine Ab (args:=[slv p L.length cap]) Tryz.func10 I I I ?_
 refine zA (zB (wP I (wP I (Aa (zE (zA (zA (zB (wP I (wP I (wP I (wU 13 false I (dF (by omega)) (Aa ?_)))))))))))))
 refine zE (zS I (zI (zE (zA (zA (zB (wP I (wP I (wP I (Aa (zE (zH ?_))))))))))))
 refine Aw (X:=Nat) (fun i=>[(0,slv p L.length cap),(2, .bool false),(3, .int .i64 0),(14,slv p L.length cap),(15, .int .i64 (L.length:Nat)),(16, .int .i64 (i:Nat))]) (fun _=>[]) (fun i=>i≤L.length) (fun i=>L.length-i) 0 (Nat.zero_le _) ⟨I,I,I,I,I,I,tO⟩ [] I ?_
 intro i hi
 have hi:i≤L.length:=hi
 refine zA (zB (wP I ?_))
 by_cases hlt:i<L.length
 ·refine wU 17 true I (dT (by omega)) (Aa (zE (zA (zR I (zI (zE (zA (zH (zA (zB ?_))))))))))
  obtain⟨g,off,rfl,hrow⟩:=hA.row hlt
  have hr:=hrow i hlt
  have hx:=hL L[i] (List.getElem_mem _)
  obtain⟨x,hxe⟩: ∃x,x=L[i]:=⟨_,rfl⟩
  rw[←hxe] at hr hx
  refine wJ ?_
  refine wL 0 I I (fun W1 hp=>hr.hp hp) I ?_
  (refine Ae Tryz.hZ rfl rfl rfl rfl ?_;intro)
  refine wS 0 I I I (Aa ?_)
  rename_i b5
  refine zE (zA (zB (wB 0 I I I (wC I I (fun W1 hp=>HW x.s x.l x.r x.o x.i hx.ol hx.or hx.oo hx.oi hx.ll hx.lr hx.lo hx.li hx.h1 hx.h2 W1 (hv.hp hp) (ht.hp hp)) (wP I (Aa (zE (zA (zB (wP I (wP I (Aa (zE ?_)))))))))))))
  exact zS I (zI (zN (zE (zB (wP I (wV 25 ((i+1:Nat):Int) I (Ax (by omega)) (wP I (Aa (Al (i+1) hlt (by show L.length-(i+1)<L.length-i;omega) ⟨I,I,I,I,I,I,tO⟩ [_] I)))))))))
 refine wU 17 false I (dF (by omega)) (Aa (zE (zA (zS I (zJ (zK (zK (zL (zE (zA (zA (zB ?_))))))))))))
 clear hi hlt
 refine wP I (wP I (wP I (Aa (zE (zH ?_)))))
 refine Aw (X:=Nat) (fun i=>[(0,slv p L.length cap),(2, .bool false),(3, .int .i64 0),(26,slv p L.length cap),(27, .int .i64 (L.length:Nat)),(28, .int .i64 (i:Nat))]) (fun _=>[]) (fun i=>i≤L.length∧djK L i) (fun i=>L.length-i) 0 ⟨Nat.zero_le _,fun i' hi'=>absurd hi' (Nat.not_lt_zero _)⟩ ⟨I,I,I,I,I,I,tO⟩ [] I ?_
 rintro i ⟨hi,hK⟩
 have hi:i≤L.length:=hi
 have hK:djK L i:=hK
 refine zA (zB (wP I ?_))
 by_cases hlt:i<L.length
 rotate_left
 ·refine wU 29 false I (dF (by omega)) (Aa (zE (zA (zS I (zJ (zK (zK (zL (zE (zA (zB (wP I (wP I ?_)))))))))))))
  exact Aa (zE (zO (wR2 I I (by rw[Su (by rw[show L.length=i by omega];exact hK)]))))
 refine wU 29 true I (dT (by omega)) (Aa (zE (zA (zR I (zI (zE (zA (zH (zA (zB ?_))))))))))
 obtain⟨g,off,rfl,hrow⟩:=hA.row hlt
 have hr:=hrow i hlt
 have hx:=hL L[i] (List.getElem_mem _)
 have hno: ∀j (hj:j<i),ovl L[i] (L[j]'(by omega))=true→djt L=false:=fun j hj h=>Vv hlt hj h
 have hgi:=opg hlt
 obtain⟨x,hxe⟩: ∃x,x=L[i]:=⟨_,rfl⟩
 rw[←hxe] at hr hx hno hgi
 refine wP I ?_
 refine wJ ?_
 refine wL 0 I I (fun W1 hp=>hr.hp hp) I ?_
 (refine Ae Tryz.hZ rfl rfl rfl rfl ?_;intro)
 refine wP I (wS 0 I I I (Aa ?_))
 rename_i b8
 refine zE (zA (zB (wP I (wP I ?_))))
 refine Bm i tH I I I I I I I I (by omega) ?_
 refine wP I (wP I (Aa (zE (zH ?_))))
 refine Aw (X:=Nat) (fun j=>[(0,slv (some ⟨g,off,none⟩) L.length cap),(2, .bool false),(3, .int .i64 0),(8,Af b8),(26,slv (some ⟨g,off,none⟩) L.length cap),(27, .int .i64 (L.length:Nat)),(28, .int .i64 (i:Nat)),(35,slv (some ⟨g,off,none⟩) i cap),(36, .int .i64 (i:Nat)),(37, .int .i64 (j:Nat))]) (fun _=>[opB b8 x]) (fun j=>j≤i∧ ∀j' (hj:j'<j) (hi:j'<i),ovl x (L[j']'(by omega))=false) (fun j=>i-j) 0 ⟨Nat.zero_le _,fun _ h=>absurd h (Nat.not_lt_zero _)⟩ ⟨I,I,I,I,I,I,I,I,I,I,tO⟩ [] I ?_
 rintro j ⟨hj,hF⟩
 have hj:j≤i:=hj
 have hF: ∀j' (hj:j'<j) (hi:j'<i),ovl x (L[j']'(by omega))=false:=hF
 refine zA (zB (wP I ?_))
 by_cases hlj:j<i
 rotate_left
 ·refine wU 38 false I (dF (by omega)) (Aa (zE (zA (zS I (zJ (zK (zK (zL (zN (zE (zB (wP I (wV 45 ((i+1:Nat):Int) I (Ax (by omega)) ?_)))))))))))))
  refine wP I (Aa ?_)
  refine Al (i+1) ⟨hlt,fun i' hi' j' hj'=> ?_⟩ (by show L.length-(i+1)<L.length-i;omega) ⟨I,I,I,I,I,I,tO⟩ [_] I
  by_cases e:i'=i
  ·subst e
   rw[hgi,opg (by omega)]
   exact hF j' (by omega) (by omega)
  ·exact hK i' (by omega) j' hj'
 refine wU 38 true I (dT (by omega)) (Aa (zE (zA (zR I (zI (zE (zA (zH (zA (zB ?_))))))))))
 have hjL:j<L.length:=by omega
 have hr2:=hrow j hjL
 have hy:=hL L[j] (List.getElem_mem _)
 have hno:=hno j hlj
 have hF2: ∀b,ovl x L[j]=b→b=false→ ∀j' (hj:j'<j+1) (hi:j'<i),ovl x (L[j']'(by omega))=false:=fun b e eb j' h1 h2=>by
  by_cases e':j'=j
  ·subst e';rw[e,eb]
  ·exact hF j' (by omega) h2
 obtain⟨y,hye⟩: ∃y,y=L[j]:=⟨_,rfl⟩
 rw[←hye] at hr2 hy hno hF2
 refine wJ ?_
 refine wL 0 I I (fun W1 hp=>hr2.hp hp) I ?_
 (refine Ae Tryz.hZ rfl rfl rfl rfl ?_;intro)
 refine wS 1 I I I (Aa ?_)
 rename_i b10
 refine zE (zA (zB (wB 0 I I I (wB 1 I I I (wC I I (fun W1 hp=>LJ x y hx hy W1 (hv.hp hp) (ht.hp hp)) (Aa (zE ?_)))))))
 refine Aj I (fun hov=> ?_) (fun hov=> ?_)
 ·have hov:ovl x y=true:=hov
  refine zA (zB (wP I (wP I (Aa (zE (zO (zQ (zP (zP (zQ (zQ (zP (zP ?_)))))))))))))
  exact zQ (zP (wR2 I I (by rw[hno hov])))
 ·have hov:ovl x y=false:=hov
  exact zI (zN (zE (zB (wP I (wV 44 ((j+1:Nat):Int) I (Ax (by omega)) (wP I (Aa (Al (j+1) ⟨hlj,hF2 _ hov I⟩ (by show i-(j+1)<i-j;omega) ⟨I,I,I,I,I,I,I,I,I,I,tO⟩ [_] I))))))))
-- BOXES 20
-- CODE2
abbrev olB (b:Nat) (p:Option Addr) (n cap:Nat):Bx:=⟨b,22,[slv p n cap],true,none⟩
abbrev inB (b:Nat) (s:Int):Bx:=⟨b,3,[.int .i64 s],true,none⟩
theorem N7 (p:Option Addr) (n cap:Nat) (s:Int) (W:World):Ad Tryz.prog 101 #[slv p n cap, .int .i64 s] W (fun b:Nat×Nat=> .func (.func 168) #[] #[Af b.1,Af b.2]) (fun _=>True) (fun b=>[olB b.1 p n cap,inB b.2 s]):=by
 refine Ab (args:=[slv p n cap, .int .i64 s]) Tryz.func101 I I I ?_
 refine zA (zB ?_)
 (refine Ak rfl rfl rfl rfl ?_;intro)
 (refine Ak rfl rfl rfl rfl ?_;intro)
 refine wP I (Aa ?_)
 rename_i b1 b2
 exact zE (zA (zB (wP I (wP I (Aa (zE (zO (Ay tH I (.tmp I) (b1,b2) I tO fun W1 hp=>As.of_hp hp))))))))
structure OnN (b1 b2 g cap:Nat) (W:World):Prop where
 var:Ai W b1 0 [slv (some ⟨g,0,none⟩) 1 cap]
 sd:Ai W b2 0 [.int .i64 0]
 row:Ai W g 0 opE.cells.toList
abbrev Tp (b:Nat):List (Nat×Obj):=[(b, .cells opE.cells 27 (0,0))]
theorem Py (b1 b2 g cap:Nat):N1 Tryz.prog 168 [Af b1,Af b2] 1 (fun _=>[opE]) (fun _=>OnN b1 b2 g cap):=by
 refine⟨fun y J Jx hN hB hA hU hY W hJ=> ?_⟩
 refine C0 (args:=[.func (.yield y) #[] #[],Af b1,Af b2]) (J0:=J 0 []) (Jm:=fun W=> ∃L,J 1 L W) Tryz.func168 I I I hJ ?_
 refine zA (zB (wL 0 I I (fun W hp=>(hN _ _ W hp).1.var) I (wP I (wP I (Aa (zE (zH ?_)))))))
 refine C7 (X:=Nat×List (Nat×Obj)) (fun s=>[(0, .func (.yield y) #[] #[]),(1,Af b1),(2,Af b2),(6,slv (some ⟨g,0,none⟩) 1 cap),(7, .int .i64 1),(8, .int .i64 (s.1:Nat))]) (fun s W=>J s.1 s.2 W)
  (fun s=>s.1≤1) (fun s=>1-s.1) (0,[]) (Nat.zero_le _) ⟨rfl,rfl,rfl,rfl,rfl,rfl,trivial⟩ (fun W hp=>hp) ?_
 rintro⟨i,L⟩ hi
 have hi:i≤1:=hi
 refine zA (zB (wP I ?_))
 by_cases hlt:i<1
 rotate_left
 ·have e:i=1:=by omega
  subst e
  refine Ao 9 (.bool false) I I ?_
  exact Aa (zE (zA (zS I (zJ (zK (zK (zL (EA I fun W hp=>⟨L,hp⟩))))))))
 have e:i=0:=by omega
 subst e
 refine Ao 9 (.bool true) I I ?_
 refine Aa (zE (zA (zR I (zI (zE (zA (zH (zA (zB (wI I I (by show(0:Int)≤0;decide) (by show(0:Int)<1;decide) (wL 0 I I (fun W hp=>(hN _ _ W hp).1.row) I ?_)))))))))))
 refine JK (fun b W=>J 0 [(b, .cells (Value.agg #[.int .i64 0,str [],str [],str [],str []]).cells 27 (0,0))] W) I I I (Tryz.hZ.get I) (fun W W' b hp hb hl ho=>hA _ _ W W' b _ hp hb hl ho) fun b=> ?_
 refine JE (cs:=[.int .i64 0,str [],str [],str [],str []]) (ty:=27) (fun W=>J 0 (Tp b) W) tH I I I I I I (fun W hp=>(hN _ _ W hp).2 (b,_) (List.mem_cons_self ..)) I I I (fun W W' hp hu=>hU _ _ _ _ W W' hp hu) ?_
 refine Aa (zE (zA (zB ?_)))
 have hown: ∀W,J 0 (Tp b) W→Ai W b 0 opE.cells.toList:=fun W hp=>Ai.of_block ((hN _ _ W hp).2 (b,_) (List.mem_cons_self ..))
 refine wP I (wL 0 I I (fun W hp=>hown W hp) I (wL 0 I I (fun W hp=>(hN _ _ W hp).1.sd) I (wP I (wP I (wP I (wL 0 I I (fun W hp=>hown W hp) I ?_))))))
 have hYk: ∀W,J 0 (Tp b) W→YieldAt (Fw none) 0 Tryz.prog y [opE].toArray W fun e W'=>(e= .returned (.bool true)∧J 1 (Tp b) W')∨(e= .returned (.bool false)∧Jx W'):=fun W h=>hY _ _ W hlt h
 refine DK (A1:=fun W=>J 1 (Tp b) W) (A2:=Jx) I I I I I I hYk ?_ ?_
 rotate_left
 ·exact wP I (wP I (Aa (zE (zR I (zO (zQ (zP (zP (zQ (BI I (fun W h=>h)))))))))))
 exact wP I (wP I (Aa (zE (zS I (zI (zN (zE (zB (wP I (wP I (Aa (CA (1,Tp b) (Nat.le_refl _) (by show 0<1;decide) ⟨I,I,I,I,I,I,tO⟩ (fun W hp=>hp)))))))))))))
def Xg:OpR:=⟨0,3,7,1,3⟩
theorem W6:Xg.OK:=⟨MS (q:=3) (by decide+kernel),MS (q:=7) (by decide+kernel),MS (q:=1) (by decide+kernel),MS (q:=3) (by decide+kernel),by show(Ac 3).length≤8;rw[nO3];decide,by show(Ac 7).length≤8;rw[nO7];decide,by show(Ac 1).length≤8;rw[nO1];decide,by show(Ac 3).length≤8;rw[nO3];decide,by decide+kernel,by decide+kernel⟩
theorem XP:Ac 25=[50,53]:=by decide+kernel
theorem Y3:Ac 17=[49,55]:=by decide+kernel
abbrev Uu (b:Nat) (s:List UInt8):Bx:=⟨b,25,[str s],true,none⟩
abbrev sfB (b:Nat) (x:SfX) (bT:Nat):Bx:=⟨b,148,(x.v bT).cells.toList,true,none⟩
abbrev rfB (b bR bT:Nat):Bx:=⟨b,81,(Fy bR bT).cells.toList,true,none⟩
def smT (b:Bool):List UInt8:=if b then[50,53] else[48]
def smL:Nat→List UInt8
 |0=>[50,53]
 |_+1=>[49,55]
theorem Ko (bR bT g cap:Nat) (hcap:1≤cap) (W:World) (h:LO W bR bT) (hg:Ai W g 0 opE.cells.toList) (hd:HK W) (hv:AL W) (ht:AA W):
  Ad Tryz.prog 38 #[Fy bR bT, .int .i64 0,slv (some ⟨g,0,none⟩) 1 cap] W (fun _:Unit=> .tuple #[str [49,55], .int .i64 0]) (fun _=>True) (fun _=>[]):=by
 have zz: ∀q:Rat,(q.num.natAbs<10^8∧q.den<10^8)→szQ q 8:=fun q hq=>hq
 have z1:=zz 1 (by decide+kernel)
 have z3:=zz 3 (by decide+kernel)
 have z7:=zz 7 (by decide+kernel)
 have e8:((7:Rat)-3)*(3-1)=8:=by decide+kernel
 have e25:S0.area f0=25:=by decide+kernel
 have e17:(25:Rat)-8=17:=by decide+kernel
 have hdj:djt [Xg]=true:=by decide+kernel
 refine Ab (args:=[Fy bR bT, .int .i64 0,slv (some ⟨g,0,none⟩) 1 cap]) Tryz.func38 I I I ?_
 refine zA (zB ?_)
 (refine Ak rfl rfl rfl rfl ?_;intro)
 (refine Ae Tryz.hZ rfl rfl rfl rfl ?_;intro)
 (refine Ae Tryz.hZ rfl rfl rfl rfl ?_;intro)
 refine Aa ?_
 rename_i b3 b6 b7
 refine zE (zA (zB (wB 0 I I I ?_)))
 refine wD (X:=SfX) I I (fun W1 hp=>Kx bR bT W1 (h.hp hp).r (h.hp hp).t (hd.hp hp) (hv.hp hp) (ht.hp hp)) ?_
 rintro x _
 obtain⟨X,hX⟩: ∃X,X=x:=⟨_,rfl⟩
 obtain⟨gF,cF,jF,gC,cC,jC,gA,cA,jA⟩:=x
 refine wP I (wP I (wP I ?_))
 (refine Ae Tryz.hZ rfl rfl rfl rfl ?_;intro)
 refine wS 6 I I I (wP I (Aa ?_))
 rename_i b8
 refine zE (zA (zA (zB (wP I (wP I (Aa (zE (zS I (zI (zE (zA (zA (zB ?_)))))))))))))
 iterate 5 refine wP I ?_
 refine wB 6 I I I (wP I (wP I (wP I (Aa (zE (zS I (zI (zE (zA (zB (wP I ?_)))))))))))
 refine wC I I (fun W1 hp=>(Hn [Xg] (fun x hx=>by rw[List.mem_singleton.1 hx];exact W6) (by decide) (some ⟨g,0,none⟩) cap hcap W1 (.inr ⟨g,0,I,fun i hi=>by
  have e:i=0:=by have hi:i<1:=hi;omega
  subst e
  exact hg.hp hp⟩) (hv.hp hp) (ht.hp hp)).cast (v':= .tuple #[.bool true, .int .i64 0]) (by rw[hdj])) ?_
 iterate 5 refine wP I ?_
 refine Aa (zE (zA (zA (zB (wP I (wP I (Aa (zE (zS I (zI (zE (zA (zA ?_)))))))))))))
 refine zB (wP I (wP I ?_))
 refine wD (X:=Nat×Nat) I I (fun W1 _=>N7 (some ⟨g,0,none⟩) 1 cap 0 W1) ?_
 rintro⟨c1,c2⟩ _
 refine Aa (zE (zH ?_))
 refine Eh (X:=Unit) (fun _=>[rfB b3 bR bT,Uu b6 [],erK b7 0,fbB gF jF,B5 gC DO jC,arB gA gC cC jA,sfB b8 ⟨gF,cF,jF,gC,cC,jC,gA,cA,jA⟩ bT,olB c1 (some ⟨g,0,none⟩) 1 cap,inB c2 0])
  (fun _ _=>True) (fun _ _=>False) () rfl (by kernel_rfl) (Py c1 c2 g cap) (fun _=>rfl)
  trivial [] rfl (fun k x W1 _ hp=>⟨Ai.of_bx hp 7 rfl rfl,Ai.of_bx hp 8 rfl rfl,hg.hp hp⟩) ?_ ?_ (fun _ _ _ _ _ h=>h.elim)
 ·rintro k _ d l' rec L hk _ hrec
  refine zB ?_
  (refine Ae Tryz.hZ rfl rfl rfl rfl ?_;intro)
  refine wS 12 I I I (Aa ?_)
  rename_i b11
  refine B4 11 hrec I ?_
  refine zH (zA (zB (wB 7 I I I (wB 12 I I I (wC I I (fun W1 hp=>ID ⟨gF,cF,jF,gC,cC,jC,gA,cA,jA⟩ bT W1 (SfP.of h hp 4 5 6 I I I) (hv.hp hp) (ht.hp hp)) (wP I (Aa (zE (zA (zB (wP I (wP I (Aa ?_)))))))))))))
  exact zE (zS I (zI (zN (Bg 11 () hrec I tO [_] I))))
 rintro _ d1 l1 rec1 _
 refine zN (zE (zA (zA (zB (wP I (wP I (Aa (zE (zS I (zI (zE (zA (zB ?_)))))))))))))
 (refine Ae Tryz.hZ rfl rfl rfl rfl ?_;intro)
 refine wS 11 I I I (Aa ?_)
 rename_i b13
 refine zE (zA (zA (zB (wP I (wB 0 I I I (wP I (wP I (Aa (zE (zH ?_))))))))))
 refine Aw (X:=Bool) (fun b=>[(1, .int .i64 0),(2,slv (some ⟨g,0,none⟩) 1 cap),(3,Af b3),(6,Af b6),(7,Af b7),(8,Af b8),(13,Af b13),(59,slv (some ⟨bT,0,none⟩) 1 1),(60, .int .i64 1),(61, .int .i64 (Yk b))])
  (fun b=>[rfB b3 bR bT,Uu b6 [],erK b7 0,fbB gF jF,B5 gC DO jC,arB gA gC cC jA,sfB b8 ⟨gF,cF,jF,gC,cC,jC,gA,cA,jA⟩ bT,olB c1 (some ⟨g,0,none⟩) 1 cap,inB c2 0,Bz d1,Bb l1 rec1 .exhausted none,Uu b13 (smT b)])
  (fun _=>True) smM false trivial ⟨rfl,rfl,rfl,rfl,rfl,rfl,rfl,rfl,rfl,rfl,trivial⟩ [] rfl ?_
 intro b _
 cases b with
 |false=>
  refine zA (zB (wP I (Aa (zE (zA (zR I (zI (zE (zA (zH (zA (zB (wI I I (by decide) (by decide) ?_)))))))))))))
  refine wL 0 I I (fun W1 hp=>(h.hp hp).t) I ?_
  (refine Ae Tryz.hZ rfl rfl rfl rfl ?_;intro)
  refine wS 12 I I I (Aa ?_)
  rename_i b15
  refine zE (zA (zA (zB (wP I (wB 12 I I I (wP I (wP I (Aa (zE (zS I (zI (zE (zA ?_)))))))))))))
  refine zU (qP I (qB 6 I I I (qP I (qI I I (by decide) (by decide) (qL 0 I I (fun W1 hp=>OX hp 3 I) I (qB 12 I I I (qC I I (fun W1 hp=>(Ol f0 Q1 0 S0 WY (by decide+kernel) W1 (hv.hp hp) (ht.hp hp)).cast (v':= .tuple #[str [50,53], .int .i64 0]) (by rw[e25,XP])) ?_)))))))
  iterate 5 refine qP I ?_
  refine AB (Aa (zE (zA (zA (zB (wP I (wP I (Aa (zE (zS I (zI (zE (zA ?_)))))))))))))
  refine zB (wB 11 I I I (wP I ?_))
  refine wC I I (fun W1 hp=>(show Ad Tryz.prog 19 #[str [48],str [50,53]] W1 (fun _:Unit=> .tuple #[str [50,53], .int .i64 0]) (fun _=>True) (fun _=>[]) by
   have h2:=CN 0 25 (eO (by decide+kernel)) W1 (hv.hp hp) (ht.hp hp)
   rwa [Rat.zero_add,nO0,XP] at h2)) ?_
  refine wP I (wP I (wP I (wS 11 I I I (wP I (Aa (zE (zA (zB (wP I (wP I (Aa (zE (zS I ?_)))))))))))))
  exact zI (zN (zE (zB (wP I (wP I (Aa (Al true tO (by decide) ⟨I,I,I,I,I,I,I,I,I,I,tO⟩ [_] I)))))))
 |true=>
 refine zA (zB (wP I (Aa (zE (zA (zS I (zJ (zK (zK (zL (zE (zA (zA ?_)))))))))))))
 refine zB (wP I (wP I ?_))
 refine wD (X:=Nat×Nat) I I (fun W1 _=>N7 (some ⟨g,0,none⟩) 1 cap 0 W1) ?_
 rintro⟨c3,c4⟩ _
 refine Aa (zE (zH ?_))
 refine Eh (X:=Nat) (fun k=>[rfB b3 bR bT,Uu b6 [],erK b7 0,fbB gF jF,B5 gC DO jC,arB gA gC cC jA,sfB b8 ⟨gF,cF,jF,gC,cC,jC,gA,cA,jA⟩ bT,olB c1 (some ⟨g,0,none⟩) 1 cap,inB c2 0,Bz d1,Bb l1 rec1 .exhausted none,Uu b13 (smL k),olB c3 (some ⟨g,0,none⟩) 1 cap,inB c4 0])
  (fun j k=>k=j) (fun _ _=>False) 0 rfl (by kernel_rfl) (Py c3 c4 g cap) (fun _=>rfl)
  rfl [] rfl (fun k x W1 _ hp=>⟨Ai.of_bx hp 12 rfl rfl,Ai.of_bx hp 13 rfl rfl,hg.hp hp⟩) ?_ ?_ (fun _ _ _ _ _ h=>h.elim)
 ·rintro k x d l' rec L hk e1 hrec
  have hk:k=0:=by omega
  subst hk
  have e1:x=0:=e1
  subst e1
  refine zB ?_
  (refine Ae Tryz.hZ rfl rfl rfl rfl ?_;intro)
  refine wS 17 I I I (Aa ?_)
  rename_i b18
  refine B4 16 hrec I ?_
  refine zH (zA (zB (wB 17 I I I (wC I I (fun W1 hp=>(HM 0 3 7 1 3 z3 z7 z1 z3 W1 (hv.hp hp) (ht.hp hp)).cast (v':= .tuple #[str [56], .int .i64 0]) (by rw[e8,nO8])) ?_))))
  iterate 5 refine wP I ?_
  refine Aa (zE (zA (zA (zB (wP I (wP I (Aa (zE (zS I (zI (zE (zA (zB ?_)))))))))))))
  refine wB 12 I I I (wP I ?_)
  refine wC I I (fun W1 hp=>(show Ad Tryz.prog 21 #[str [50,53],str [56]] W1 (fun _:Unit=> .tuple #[str [49,55], .int .i64 0]) (fun _=>True) (fun _=>[]) by
   have h2:=CO 25 8 (eO (by decide+kernel)) W1 (hv.hp hp) (ht.hp hp)
   rwa [e17,XP,nO8,Y3] at h2)) ?_
  refine wP I (wP I (wP I (wS 12 I I I (wP I (Aa (zE (zA (zB (wP I (wP I (Aa (zE (zS I ?_)))))))))))))
  exact zI (zN (Bg 16 1 hrec I I [_] I))
 rintro x d2 l2 rec2 e1
 have e1:x=1:=e1
 subst e1
 refine zN (zE (zA (zB (wB 11 I I I (wS 1 I I I (wS 2 I I I (Aa (zE (zO ?_)))))))))
 refine BK 14 I ?_
 refine BK 9 I ?_
 exact A9 tH I (.cell 1 I I I I I) (.cell 2 I I I I I) () I tO fun W _=>As.nil _ _
-- BOXES 8
-- CODE2
theorem nO2:Ac 2=[50]:=by decide+kernel
theorem nO4:Ac 4=[52]:=by decide+kernel
theorem nO5:Ac 5=[53]:=by decide+kernel
theorem R5:f0=frs [sqL] 0:=Option.some.inj (WS.symm.trans (O0 (by decide)))
theorem Uv:bsE [sqL] 0 [53] [50] [50] 1 1=0:=by
 have e5:(rdR [53]).2=0:=by rw[←nO5];exact congrArg Prod.snd (C3 (MS (by decide+kernel)))
 have e2:(rdR [50]).2=0:=by rw[←nO2];exact congrArg Prod.snd (C3 (MS (by decide+kernel)))
 have hn:ner [[53],[50],[50]]=0:=by
  unfold ner ner ner ner
  rw[if_pos e5,if_pos e2,if_pos e2]
 have q2:rdQ [50]=2:=by rw[←nO2,IL]
 unfold bsE
 rw[if_neg (by decide),if_neg (by decide),if_neg (fun h=>h hn),q2,show(0:Int).toNat=0 from rfl, ←R5,if_neg (by
  rintro(h|h|h)
  ·exact absurd h (by decide+kernel)
  ·exact absurd h (by decide+kernel)
  ·cases h)]
theorem Yl:Yb [sqL] 0 [53] [50] [50] 1 1 f0 5 2 2:=
 ⟨by decide,by decide,R5,nO5.symm,nO2.symm,nO2.symm,by unfold szQ;decide+kernel,by unfold szQ;decide+kernel,by unfold szQ;decide+kernel,Q1,by decide+kernel,by decide+kernel,by decide,by decide,by rw[bsV,if_pos Uv,R5];rfl⟩
theorem XN:opE= .agg #[.int .i64 0,str [51],str [55],str [49],str [51]]:=by unfold opE Gs;rw[nO3,nO7,nO1]
theorem Ck (W:World) (hd:HK W) (hv:AL W) (ht:AA W):
  Ad Tryz.prog 8 #[] W (fun _:Unit=> .bool true) (fun _=>True) (fun _=>[]):=by
 have eZ:VH 2 2 1 1=4:=by decide+kernel
 have eS:f0.spot 5 ((4-f0.st)*f0.sp)= .agg #[str [53],str [52],str [52]]:=by
  unfold FrP.spot
  rw[show f0.px 5 ((4-f0.st)*f0.sp)=5 by decide+kernel,show f0.py 5 ((4-f0.st)*f0.sp)=4 by decide+kernel,show f0.pz ((4-f0.st)*f0.sp)=4 by decide+kernel,nO5,nO4]
 refine Ab (args:=[]) Tryz.func8 I I I ?_
 refine zA (zB (wP I (Aa (zE (zA (zB ?_))))))
 refine Au Tryz.hZ tH I I I I I I I I ?_
 (refine Ae Tryz.hZ rfl rfl rfl rfl ?_;intro)
 refine wS 0 I I I (Aa ?_)
 rename_i b1
 refine Un (bxs':=[⟨b1,27,opE.cells.toList,true,none⟩]) (by rw[XN];rfl) ?_
 refine zE (Az ?_)
 refine AV (X:= { y:Nat×Nat×List Value//Vec.OK ⟨some y.1,y.2.1,y.2.2⟩ 3 4 (FH exS) }) [false,true,false,false,false,false,false,false] (fun y=>[(1,Af b1),(2,slv (some ⟨y.1.1,0,none⟩) 4 y.1.2.1),(3, .int .i64 0)])
  (fun y=>[⟨b1,27,opE.cells.toList,true,none⟩,⟨y.1.1,45,FH exS++y.1.2.2,true,none⟩])
  7 [⟨b1,27,opE.cells.toList,true,none⟩] Tryz.mixed (by kernel_rfl) ?_ ?_
 ·refine qB 0 I I I (BU (wX (wZ ?_)))
  refine wD (X:=Nat×Nat×Nat) rfl rfl (fun W1 _=>EM W1) ?_;rintro⟨bS,bR,bT⟩ _
  refine Aa (Ag (wX (wZ ?_)))
  refine wD (X:=Vec) rfl rfl (fun W1 hp=>LD bR bT W1 ⟨CY hp 1 2 rfl rfl,Ai.of_bx hp 3 rfl rfl⟩ (hd.hp hp) (hv.hp hp) (ht.hp hp)) ?_;rw[XA];rintro⟨pV,cV,jV⟩ hV;have hV:Vec.OK ⟨pV,cV,jV⟩ 3 4 (FH exS):=hV;obtain⟨gV,rfl⟩: ∃g,pV=some g:=Option.ne_none_iff_exists'.1 (fun e=>absurd (hV.nil e) (by decide))
  refine Aa (Ag (wX (wZ (wP I (Aa (Ag (wX ?_)))))))
  refine RS.cons ?_ (RS.cons ?_ (RS.nil))
  ·refine wP I (Aa (Ag (wX ?_)))
   refine RS.cons ?_ (RS.cons ?_ (RS.nil))
   ·refine wP I (Aa (Ag (wX (wZ (wP I (Aa (Ag (wX (wZ (wP I (Aa (Ag ?_))))))))))))
    refine AG I (by((repeat (first|refine AI.same ?_|refine AI.off I ?_));exact tO)) ?_
    exact A6 (⟨(gV,cV,jV),hV⟩: { y:Nat×Nat×List Value//Vec.OK ⟨some y.1,y.2.1,y.2.2⟩ 3 4 (FH exS) }) ⟨I,I,I,tO⟩ [0,4] (by decide) I
   ·refine wP I (Aa (Ag (wX (wZ (wP I (Aa (Ag (wX (wZ (wP I (Aa (Ag ?_))))))))))))
    refine AG I (by((repeat (first|refine AI.same ?_|refine AI.off I ?_));exact tO)) ?_
    exact A6 (⟨(gV,cV,jV),hV⟩: { y:Nat×Nat×List Value//Vec.OK ⟨some y.1,y.2.1,y.2.2⟩ 3 4 (FH exS) }) ⟨I,I,I,tO⟩ [0,4] (by decide) I
  ·refine wP I (Aa (Ag (wX (wZ (wP I (Aa (Ag (wX (wZ (wP I (Aa (Ag (wX ?_)))))))))))))
   refine wZ (wP I (Aa (Ag ?_)))
   refine AG I (by((repeat (first|refine AI.same ?_|refine AI.off I ?_));exact tO)) ?_
   exact A6 (⟨(gV,cV,jV),hV⟩: { y:Nat×Nat×List Value//Vec.OK ⟨some y.1,y.2.1,y.2.2⟩ 3 4 (FH exS) }) ⟨I,I,I,tO⟩ [0,4] (by decide) I
 rintro⟨⟨gV,cV,jV⟩,hV⟩
 refine zE (Az ?_)
 refine AV (X:=Unit) [false,true,false,false,false,false,false,false,false] (fun _=>[(2,slv (some ⟨gV,0,none⟩) 4 cV),(3, .int .i64 0),(4,str [49,55]),(5, .int .i64 0)])
  (fun _=>[⟨gV,45,FH exS++jV,true,none⟩])
  8 [⟨b1,27,opE.cells.toList,true,none⟩,⟨gV,45,FH exS++jV,true,none⟩] Tryz.mixed (by kernel_rfl) ?_ ?_
 ·refine qB 0 I I I (BU (wX ?_))
  refine RS.cons ?_ (RS.cons ?_ (RS.nil))
  ·refine wD (X:=Nat×Nat×Nat) rfl rfl (fun W1 _=>EM W1) ?_;rintro⟨bS,bR,bT⟩ _
   refine Aa (Ag (wX (wZ ?_)))
   refine At Tryz.hZ tH I I I I I I I I I I I fun bN=> ?_
   refine Aa (Ag (wX (wZ (wC I I (fun W1 hp=>Ko bR bT bN 1 (by decide) W1 (by first|exact⟨CY hp 2 3 I I,Ai.of_bx hp 4 I I⟩|exact⟨CY hp 3 4 I I,Ai.of_bx hp 5 I I⟩) (by first|exact Ai.of_bx hp 5 I I|exact Ai.of_bx hp 2 I I) (hd.hp hp) (hv.hp hp) (ht.hp hp)) (Aa (Ag (wX (wZ (wP I (Aa (Ag (wX ?_))))))))))))
   refine RS.cons ?_ (RS.cons ?_ (RS.nil))
   ·refine wP I (Aa (Ag (wX ?_)))
    refine RS.cons ?_ (RS.cons ?_ (RS.nil))
    ·refine wP I (Aa (Ag (wX (wZ (wP I (Aa (Ag (wX (wZ (wP I (Aa (Ag ?_))))))))))))
     refine AG I (by((repeat (first|refine AI.same ?_|refine AI.off I ?_));exact tO)) ?_
     exact A6 () ⟨I,I,I,I,tO⟩ [1] (by decide) I
    ·refine wP I (Aa (Ag (wX (wZ (wP I (Aa (Ag (wX (wZ (wP I (Aa (Ag ?_))))))))))))
     refine AG I (by((repeat (first|refine AI.same ?_|refine AI.off I ?_));exact tO)) ?_
     exact A6 () ⟨I,I,I,I,tO⟩ [1] (by decide) I
   ·refine wP I (Aa (Ag (wX (wZ (wP I (Aa (Ag (wX (wZ (wP I (Aa (Ag (wX ?_)))))))))))))
    refine wZ (wP I (Aa (Ag ?_)))
    refine AG I (by((repeat (first|refine AI.same ?_|refine AI.off I ?_));exact tO)) ?_
    exact A6 () ⟨I,I,I,I,tO⟩ [1] (by decide) I
  ·refine At Tryz.hZ tH I I I I I I I I I I I fun bN=> ?_
   refine Aa (Ag (wX (wZ ?_)))
   refine wD (X:=Nat×Nat×Nat) rfl rfl (fun W1 _=>EM W1) ?_;rintro⟨bS,bR,bT⟩ _
   refine Aa (Ag (wX (wZ (wC I I (fun W1 hp=>Ko bR bT bN 1 (by decide) W1 (by first|exact⟨CY hp 2 3 I I,Ai.of_bx hp 4 I I⟩|exact⟨CY hp 3 4 I I,Ai.of_bx hp 5 I I⟩) (by first|exact Ai.of_bx hp 5 I I|exact Ai.of_bx hp 2 I I) (hd.hp hp) (hv.hp hp) (ht.hp hp)) (Aa (Ag (wX (wZ (wP I (Aa (Ag (wX ?_))))))))))))
   refine RS.cons ?_ (RS.cons ?_ (RS.nil))
   ·refine wP I (Aa (Ag (wX ?_)))
    refine RS.cons ?_ (RS.cons ?_ (RS.nil))
    ·refine wP I (Aa (Ag (wX (wZ (wP I (Aa (Ag (wX (wZ (wP I (Aa (Ag ?_))))))))))))
     refine AG I (by((repeat (first|refine AI.same ?_|refine AI.off I ?_));exact tO)) ?_
     exact A6 () ⟨I,I,I,I,tO⟩ [1] (by decide) I
    ·refine wP I (Aa (Ag (wX (wZ (wP I (Aa (Ag (wX (wZ (wP I (Aa (Ag ?_))))))))))))
     refine AG I (by((repeat (first|refine AI.same ?_|refine AI.off I ?_));exact tO)) ?_
     exact A6 () ⟨I,I,I,I,tO⟩ [1] (by decide) I
   ·refine wP I (Aa (Ag (wX (wZ (wP I (Aa (Ag (wX (wZ (wP I (Aa (Ag (wX ?_)))))))))))))
    refine wZ (wP I (Aa (Ag ?_)))
    refine AG I (by((repeat (first|refine AI.same ?_|refine AI.off I ?_));exact tO)) ?_
    exact A6 () ⟨I,I,I,I,tO⟩ [1] (by decide) I
 intro _
 refine zE (zA (zB ?_))
 refine wD (X:=Nat×Nat×Nat) I I (fun W1 _=>EM W1) ?_
 rintro⟨bS,bR,bT⟩ _
 refine wP I ?_
 refine Au Tryz.hZ tH I I I I I I I I ?_
 refine wC I I (fun W1 hp=>(KP W1 (some ⟨bR,0,none⟩) 1 [sqL] (by decide) (CY hp 1 2 I I) Ih (hd.hp hp) (hv.hp hp) (ht.hp hp) 0 1 1 [53] [50] [50] (by decide) (by decide) (by decide) Uv f0 5 2 2 Yl).cast (v':= .tuple #[str [52], .agg #[str [53],str [52],str [52]], .int .i64 0]) (by rw[eZ,eS,nO4])) (wP I (wP I (wP I (wP I ?_))))
 (refine Ae Tryz.hZ rfl rfl rfl rfl ?_;intro)
 refine wP I (wS 4 I I I (wP I (Aa ?_)))
 rename_i b7
 refine zE (zA (zB ?_))
 iterate 7 refine wP I ?_
 iterate 4 refine Au Tryz.hZ tH I I I I I I I I ?_
 refine At Tryz.hZ tH I I I I I I I I I I I fun bN=> ?_
 refine wC I I (fun W1 hp=>Mo exS (by decide) (some ⟨gV,0,none⟩) (some ⟨bN,0,none⟩) cV 4 W1 (Pj.of_row (junk:=jV) (Ai.of_bx hp 0 I I)) (Pj.of_row (junk:=[]) (Ai.of_bx hp 5 I I))) (wP I (wP I (wP I (wP I (wU 47 true I ((Bd _ _).trans (dT I)) (wP I (wP I (wP I (wP I (wU 51 true I ((Bd _ _).trans (dT I)) (wP I (wP I (wB 4 I I I ?_)))))))))))))
 refine Au Tryz.hZ tH I I I I I I I I ?_
 refine Wy [53] [52] [52] [53] [52] [52] I I I I I ?_
 exact wU 56 true I (dT ⟨I,I,I⟩) (wP I (wP I (Aa (zE (zO (wR1 I I I))))))
end
section
open Go Go.RowKit Go.Am Go.ChangeShapes Go.WideShapes Go.Deep
set_option maxRecDepth 10000
theorem Yr:Tryz.prog.cellsOf 25=1:=by kernel_rfl
theorem Q0 {H:Type} (d:DataW H):1≤Rows.uptoBulk d:=by
 cases d with
 |lit l=>cases l<;>simp[Rows.uptoBulk]
 |nil=>simp[Rows.uptoBulk]
 |ptr d=>simp[Rows.uptoBulk]
 |slice elems spare=>simp[Rows.uptoBulk]
 |agg parts=>simp[Rows.uptoBulk]
 |iface t d=>simp[Rows.uptoBulk]
 |map entries=>simp[Rows.uptoBulk]
 |held h=>simp[Rows.uptoBulk]
theorem U9 {H:Type} (l:List (DataW H)):l.length≤Rows.uptoBulkAll l:=by
 induction l with
 |nil=>simp[Rows.uptoBulkAll]
 |cons x r ih=>have:=Q0 x;simp only[Rows.uptoBulkAll,List.length_cons];omega
theorem RP {H:Type} (e s:List (DataW H)):Rows.uptoBulkAll e+1≤Rows.uptoBulk (.slice e s):=by
 simp only[Rows.uptoBulk];omega
theorem Rj {w:World} {a:Addr} {v:Value} (h:w.cell? a=some v):a.spot=none∧a.block<w.heap.size:=by
 unfold World.cell? at h
 split at h
 ·rename_i hb
  refine⟨?_, ?_⟩
  ·cases hs:a.spot with
   |none=>rfl
   |some k=>simp[hs] at h
  ·exact(Array.getElem?_eq_some_iff.1 hb).1
 ·cases h
theorem Q7 {w:World} {base n:Nat} {a:Addr} {cs:List Value} (h:w.cells? base a n=some cs) (hn:0<n):a.spot=none∧Ai w a.block a.off cs:=by
 obtain⟨_,hl,hg⟩:=World.cells?_some h
 have h0:=hg 0 hn
 have hv:cs[0]? =some cs[0]:=List.getElem?_eq_getElem (by omega)
 rw[hv] at h0
 have hp:=Rj h0
 have hs:a.spot=none:=by simpa[Addr.add] using hp.1
 refine⟨hs,⟨by simpa[Addr.add] using hp.2,fun j x hx=> ?_⟩⟩
 have hj:j<n:=by rw[←hl];exact(List.getElem?_eq_some_iff.1 hx).1
 rw[←hx, ←hg j hj]
 congr 1
 unfold Addr.add
 split
 ·subst_vars;cases a;simp_all
 ·rfl
theorem V7 {a:Addr} (hs:a.spot=none) (n:Nat):a.add n=⟨a.block,a.off+n,none⟩:=by
 unfold Addr.add
 split
 ·subst_vars;cases a;simp_all
 ·rfl
section
variable {H:Type} {enc:TypeId×Value→H} {w:World} {base:Nat} {spare:Nat→Bool} {held:Bool} {fuel:Nat}
theorem KG {u:Value} {x:DataW H×List MemPlace} (h:DataW.trod enc Tryz.prog w base spare held fuel 25 [u]=some x): ∃b:List UInt8,u=str b∧Rows.uptoBulk x.1=b.length+1:=by
 obtain⟨s,e,hx,_⟩:=DataW.trod_string Tryz.underlying25 h
 refine⟨s.data.toList, ?_, ?_⟩
 ·have:u= .string s:=by simpa using e
  rw[this]
 ·rw[hx];simp[Rows.uptoBulk]
end
theorem Yf:Tryz.prog.cellsOf 27=5:=by kernel_rfl
theorem Y4:Tryz.prog.cellsOf 3=1:=by kernel_rfl
abbrev OpS:Type:=Int×List UInt8×List UInt8×List UInt8×List UInt8
abbrev OpS.c (x:OpS):List Value:=[.int .i64 x.1,str x.2.1,str x.2.2.1,str x.2.2.2.1,str x.2.2.2.2]
def L8 (W:World) (p:Option Addr) (L:List OpS):Prop:=L=[]∨ ∃g off,p=some ⟨g,off,none⟩∧ ∀i (hi:i<L.length),Ai W g (off+i*5) (OpS.c L[i])
section
variable {H:Type} {enc:TypeId×Value→H} {w:World} {base:Nat} {spare:Nat→Bool} {held:Bool} {fuel:Nat} {cs:List Value} {x:DataW H×List MemPlace}
theorem U4 (h:DataW.trod enc Tryz.prog w base spare held fuel 27 cs=some x): ∃f:OpS,cs=OpS.c f:=by
 obtain⟨xs,m,rfl,hx,hl,hn,hg⟩:=DataW.trod_struct Tryz.underlying27 h
 rw[Yf] at hl
 obtain⟨x0,x1,x2,x3,x4,rfl⟩: ∃x0 x1 x2 x3 x4,xs=[x0,x1,x2,x3,x4]:=by
  match xs,hn with
  |[a,b,c,d,e],_=>exact⟨a,b,c,d,e,rfl⟩
 match cs,hl with
 |[v0,v1,v2,v3,v4],_=>
  have h0:DataW.trod enc Tryz.prog w base spare held m 3 (List.take (Tryz.prog.cellsOf 3) [v0,v1,v2,v3,v4])=some x0:=hg 0 _ rfl
  have h1:DataW.trod enc Tryz.prog w base spare held m 25 (List.take (Tryz.prog.cellsOf 25) [v1,v2,v3,v4])=some x1:=hg 1 _ rfl
  have h2:DataW.trod enc Tryz.prog w base spare held m 25 (List.take (Tryz.prog.cellsOf 25) [v2,v3,v4])=some x2:=hg 2 _ rfl
  have h3:DataW.trod enc Tryz.prog w base spare held m 25 (List.take (Tryz.prog.cellsOf 25) [v3,v4])=some x3:=hg 3 _ rfl
  have h4:DataW.trod enc Tryz.prog w base spare held m 25 (List.take (Tryz.prog.cellsOf 25) [v4])=some x4:=hg 4 _ rfl
  rw[Y4] at h0
  rw[Yr] at h1 h2 h3 h4
  obtain⟨a,e0,_⟩:=DataW.trod_int Tryz.underlying3 h0
  obtain⟨s1,rfl,_⟩:=KG h1
  obtain⟨s2,rfl,_⟩:=KG h2
  obtain⟨s3,rfl,_⟩:=KG h3
  obtain⟨s4,rfl,_⟩:=KG h4
  have e0:v0= .int .i64 a:=by simpa using e0
  subst e0
  exact⟨(a,s1,s2,s3,s4),I⟩
theorem Ti (h:DataW.trod enc Tryz.prog w base spare held fuel 22 cs=some x):
  ∃(p:Option Addr) (cap:Nat) (l:List OpS),cs=[.slice p l.length cap]∧L8 w p l∧l.length+1≤Rows.uptoBulk x.1:=by
 rcases open_slice Tryz.underlying22 h with⟨rfl,rfl⟩|⟨a,len,cap,m,n,D,Pl,rfl,_,hl,_,hm,rfl,hx⟩
 ·exact⟨none,0,[],I, .inl I,Q0 _⟩
 have hlm:len≤m:=by rw[hm];split<;>omega
 obtain⟨S,hS⟩:=choose_lt (α:=OpS) (n:=len) (p:=fun i s=>w.cells? base (a.add (i*5)) 5=some (OpS.c s)) fun i hi=>by
  obtain⟨cs',h1,h2⟩:=hx i (by omega)
  rw[Yf] at h1
  obtain⟨f,rfl⟩:=U4 h2
  exact⟨f,h1⟩
 refine⟨some a,cap,(List.range len).map S,by simp, ?_, ?_⟩
 ·by_cases h0:len=0
  ·subst h0;exact .inl rfl
  ·have hs:a.spot=none:=by simpa[Addr.add] using(Q7 (hS 0 (by omega)) (by decide)).1
   refine .inr ⟨a.block,a.off,by cases a;simp_all,fun i hi=> ?_⟩
   have h1:i<len:=by simpa using hi
   have:=(Q7 (hS i h1) (by decide)).2
   rw[V7 hs] at this
   simpa using this
 ·have h1:=U9 ((List.range len).map D)
  have h2:=RP ((List.range len).map D) ((List.range (m-len)).map fun j=>D (len+j))
  simp only[List.length_map,List.length_range] at h1⊢
  omega
end
section
variable {H:Type} {enc:TypeId×Value→H} {w:World} {base:Nat} {spare:Nat→Bool} {held:Bool} {v:Value} {d:DataW H} {ps:List MemPlace}
theorem Ux {r:Reach} {b0:Nat} (hv:Value.okWide Tryz.prog w r b0 22 v) (h:DataW.Trod enc Tryz.prog w base spare held 22 v d ps):
  ∃(p:Option Addr) (m:Nat) (l:List OpS),v=slv p l.length m∧L8 w p l∧l.length+1≤Rows.uptoBulk d:=by
 obtain⟨p0,n0,c0,rfl⟩:=okWide_slice Tryz.underlying22 hv
 obtain⟨fuel,hf⟩:=h
 obtain⟨p,cap,l,e,hl,hb⟩:=Ti hf
 refine⟨p,cap,l, ?_,hl,hb⟩
 simpa[Value.cells] using e
theorem VY {p:Option Addr} {n cap:Nat} (h:DataW.Trod enc Tryz.prog w base spare held 22 (slv p n cap) d ps):n≤cap:=by
 obtain⟨fuel,hf⟩:=h
 rcases open_slice Tryz.underlying22 hf with⟨e,_⟩|⟨a,len,cap',m,n',D,Pl,e,_,hl,_⟩
 ·have e:[slv p n cap]=[Value.slice none 0 0]:=by simpa[Value.cells] using e
  cases e
  exact Nat.le_refl _
 ·have e:[slv p n cap]=[Value.slice (some a) len cap']:=by simpa[Value.cells] using e
  cases e
  exact hl
end
end
section
open Go Go.RowKit Go.Am Go.Lib
set_option maxRecDepth 10000
-- BOXES 4
-- CODE2
theorem L8.hp {W0 W:World} {bxs:List Bx} {p:Option Addr} {L:List OpS} (h:L8 W0 p L) (hp:Hp W0 bxs W):L8 W p L:=by
 rcases h with h|⟨g,off,e,h⟩
 ·exact .inl h
 ·exact .inr ⟨g,off,e,fun i hi=>(h i hi).hp hp⟩
theorem L8.row {W:World} {p:Option Addr} {L:List OpS} (h:L8 W p L) {i:Nat} (hi:i<L.length): ∃g off,p=some ⟨g,off,none⟩∧ ∀k (hk:k<L.length),Ai W g (off+k*5) (OpS.c L[k]):=by
 rcases h with rfl|h
 ·exact absurd hi (Nat.not_lt_zero _)
 ·exact h
def Ec (x:OpS):Bool:=decide (8<x.2.1.length∨8<x.2.2.1.length∨8<x.2.2.2.1.length∨8<x.2.2.2.2.length)
theorem OY (x:OpS) (W:World):Ad Tryz.prog 35 #[.agg (OpS.c x).toArray] W (fun _:Unit=> .bool (Ec x)) (fun _=>True) (fun _=>[]):=by
 obtain⟨s,a,b,c,d⟩:=x
 refine Ab (args:=[Gs s a b c d]) Tryz.func35 I I I ?_
 refine zA (zB ?_)
 (refine Ak rfl rfl rfl rfl ?_;intro)
 refine wP I (Aa (zE (zA (zB (wP I (wB 0 I I I (wP I ?_)))))))
 refine Ao 5 (.int .i64 (a.length:Nat)) I (congrArg (fun n:Nat=>Value.int .i64 (n:Int)) (A5 _)) ?_
 refine wP I (wB 0 I I I (wP I ?_))
 refine Ao 8 (.int .i64 (b.length:Nat)) I (congrArg (fun n:Nat=>Value.int .i64 (n:Int)) (A5 _)) ?_
 refine wP I (wB 0 I I I (wP I ?_))
 refine Ao 11 (.int .i64 (c.length:Nat)) I (congrArg (fun n:Nat=>Value.int .i64 (n:Int)) (A5 _)) ?_
 refine wP I (wB 0 I I I (wP I ?_))
 refine Ao 14 (.int .i64 (d.length:Nat)) I (congrArg (fun n:Nat=>Value.int .i64 (n:Int)) (A5 _)) ?_
 exact wP I (wP I (wU 16 (Ec (s,a,b,c,d)) I (decide_eq_decide.2 (by show _↔8<a.length∨8<b.length∨8<c.length∨8<d.length;omega)) (wP I (Aa (zE (zO (wR1 I I I)))))))
theorem M8 (l:List OpS) (hn:l.length≤4000000) (p:Option Addr) (cap:Nat) (W:World) (hS:L8 W p l):
  Ad Tryz.prog 96 #[slv p l.length cap, .func (.func 35) #[] #[]] W (fun z:Int=> .int .i64 z) (fun z=>0≤z↔l.any Ec=true) (fun _=>[]):=by
 refine Ab (args:=[slv p l.length cap, .func (.func 35) #[] #[]]) Tryz.func96 I I I ?_
 refine zA (zB (wP I (Aa (zE (zA (zA (zB (wP I (wP I (wP I (Aa (zE (zH ?_)))))))))))))
 refine Aw (X:=Nat) (fun i=>[(0,slv p l.length cap),(1, .func (.func 35) #[] #[]),(6,slv p l.length cap),(7, .int .i64 (l.length:Nat)),(8, .int .i64 (i:Nat))]) (fun _=>[]) (fun i=>i≤l.length∧l.any Ec=(l.drop i).any Ec) (fun i=>l.length-i) 0 ⟨Nat.zero_le _,by rw[List.drop_zero]⟩ ⟨I,I,I,I,I,tO⟩ [] I ?_
 intro i hi
 obtain⟨hi,hA⟩:i≤l.length∧l.any Ec=(l.drop i).any Ec:=hi
 refine zA (zB (wP I ?_))
 by_cases hlt:i<l.length
 rotate_left
 ·refine wU 9 false I (dF (by omega)) (Aa (zE (zA (zS I (zJ (zK (zK (zL (zE (zA (zB (wP I (Aa ?_)))))))))))))
  refine zE (zO ?_)
  rw[List.drop_of_length_le (by omega)] at hA
  exact Ay tH I (.tmp I) (-1:Int) I (by rw[hA];exact⟨fun h=>absurd h (by decide),fun h=>absurd (show false=true from h) (by decide)⟩) fun W _=>As.nil _ _
 refine wU 9 true I (dT (by omega)) (Aa (zE (zA (zR I (zI (zE (zA (zH (zA (zB ?_))))))))))
 obtain⟨b,off,rfl,hrow⟩:=hS.row hlt
 have hr:=hrow i hlt
 rw[N5 hlt] at hA
 obtain⟨q,hq⟩: ∃q,q=l[i]:=⟨_,rfl⟩
 rw[←hq] at hr hA
 refine wP I (wP I (Aa (zE (zA (zB (wP I (wP I (wP I ?_))))))))
 refine wJ ?_
 refine wL 0 I I (fun W1 hp=>hr.hp hp) I ?_
 refine Bh (capt:=[]) I I I I I I (by kernel_rfl) (fun W1 _=>OY q W1) ?_
 refine Aa (zE ?_)
 refine Aj I (fun hc=> ?_) (fun hc=> ?_)
 ·have hc:Ec q=true:=hc
  exact zA (zB (wP I (wP I (Aa (zE (zO (zQ (zP (zP (zQ (zP (Ay tH I (.tmp I) ((i:Nat):Int) I ⟨fun _=>by rw[hA,hc];rfl,fun _=>by omega⟩ fun W _=>As.nil _ _))))))))))))
 ·have hc:Ec q=false:=hc
  rw[hc,Bool.false_or] at hA
  exact zI (zN (zE (zB (wP I (wV 18 ((i+1:Nat):Int) I (Ax (by omega)) (wP I (Aa (Al (i+1) ⟨hlt,hA⟩ (by show l.length-(i+1)<l.length-i;omega) ⟨I,I,I,I,I,tO⟩ [] I))))))))
theorem PQ (l:List OpS) (hn:l.length≤4000000) (p:Option Addr) (cap:Nat) (W:World) (hS:L8 W p l):
  Ad Tryz.prog 7 #[slv p l.length cap] W (fun _:Unit=> .bool (!l.any Ec)) (fun _=>True) (fun _=>[]):=by
 have hC: ∀W,L8 W p l→Ad Tryz.prog 34 #[slv p l.length cap, .func (.func 35) #[] #[]] W (fun _:Unit=> .bool (l.any Ec)) (fun _=>True) (fun _=>[]):=fun W hS=>by
  refine Ab (args:=[slv p l.length cap, .func (.func 35) #[] #[]]) Tryz.func34 I I I ?_
  refine zA (zB (wP I (Aa (zE (zA (zB (wP I (wP I ?_))))))))
  refine wD (X:=Int) I I (fun W1 hp=>M8 l hn p cap W1 (hS.hp hp)) ?_
  intro z hz
  have hz:0≤z↔l.any Ec=true:=hz
  refine wP I ?_
  refine Ao 8 (.bool (l.any Ec)) I (congrArg Value.bool (by
   cases h:l.any Ec with
   |true=>exact dT (hz.2 h)
   |false=>exact dF fun h2=>by rw[hz.1 h2] at h;cases h)) ?_
  exact wP I (Aa (zE (zO (wR1 I I I))))
 refine Ab (args:=[slv p l.length cap]) Tryz.func7 I I I ?_
 exact zA (zB (wP I (Aa (zE (zA (zB (wP I (wC I I (fun W1 hp=>hC W1 (hS.hp hp)) (wP I (wP I (Aa (zE (zO (wR1 I I I))))))))))))))
def cmE (a b:List UInt8):Int:=if (rdR a).2=0 then(rdR b).2 else(rdR a).2
def cmN (a b:List UInt8):Int:=if cmE a b=0 then Cw (rdQ a) (rdQ b) else 0
theorem Mq {a b:List UInt8} (h:cmE a b=0):(rdR a).2=0∧(rdR b).2=0:=by
 unfold cmE at h
 by_cases h1:(rdR a).2=0
 ·rw[if_pos h1] at h;exact⟨h1,h⟩
 ·rw[if_neg h1] at h;exact absurd h h1
theorem HA {p q:Rat} (hp:okQ p) (hq:okQ q):cmE (Ac p) (Ac q)=0∧cmN (Ac p) (Ac q)=Cw p q:=by
 have h:cmE (Ac p) (Ac q)=0:=by unfold cmE;rw[C3 hp,C3 hq];rfl
 exact⟨h,by unfold cmN;rw[if_pos h,IL,IL]⟩
theorem Kd (a b:List UInt8) (ha:a.length≤8) (hb:b.length≤8) (W:World) (ht:AA W):
  Ad Tryz.prog 9 #[str a,str b] W (fun _:Unit=> .tuple #[.int .i64 (cmN a b), .int .i64 (cmE a b)]) (fun _=>True) (fun _=>[]):=by
 by_cases hz:cmE a b=0
 ·obtain⟨h1,h2⟩:=Mq hz
  obtain⟨p,hp,rfl⟩:=Dj h1
  obtain⟨q,hq,rfl⟩:=Dj h2
  rw[(HA hp hq).1,(HA hp hq).2]
  exact Fj p q (sz2 (DH ha (by decide)) (DH hb (by decide)) (by decide)) W ht
 have hN:cmN a b=0:=if_neg hz
 rw[hN]
 have hC: ∀W,AA W→Ad Tryz.prog 39 #[str a,str b] W (fun _:Unit=> .int .i64 (cmE a b)) (fun _=>True) (fun _=>[]):=fun W ht=>by
  refine Ab (args:=[str a,str b]) Tryz.func39 I I I ?_
  refine zA (zB (wP I (Aa (zE (zA (zA (zB (wP I (wC I I (fun W1 hp=>Gx a (by omega) W1 (ht.hp hp)) (wP I (Aa (zE (zA ?_)))))))))))))
  refine zB (wP I (wP I ?_))
  by_cases h1:(rdR a).2=0
  ·exact wU 9 false I (bne_eq_false_iff_eq.2 h1) (Aa (zE (zS I (zI (zE (zA (zB (wP I (wC I I (fun W1 hp=>Gx b (by omega) W1 (ht.hp hp)) (wP I (Aa (zE (zO (wR1 I I (by unfold cmE;rw[if_pos h1])))))))))))))))
  ·exact wU 9 true I (bne_iff_ne.2 h1) (Aa (zE (zR I (zA (zB (wP I (wP I (Aa (zE (zO (zP (wR1 I I (by unfold cmE;rw[if_neg h1])))))))))))))
 refine Ab (args:=[str a,str b]) Tryz.func9 I I I ?_
 refine zA (zB (wP I (wP I (Aa (zE (zA (zA (zB (wP I (wP I (wC I I (fun W1 hp=>hC W1 (ht.hp hp)) (wP I (Aa ?_)))))))))))))
 refine zE (zA (zB (wP I (wP I (wU 24 true I (bne_iff_ne.2 hz) (Aa (zE (zR I (zA (zB (wP I (wP I (wP I ?_)))))))))))))
 exact Aa (zE (zO (zP (wR2 I I I))))
-- BOXES 6
-- CODE2
def OpR.S (x:OpR):OpS:=(x.s,Ac x.l,Ac x.r,Ac x.o,Ac x.i)
theorem UM (a b:OpR):ovl a b=ovl b a:=decide_eq_decide.2 ⟨fun⟨h1,h2,h3,h4,h5⟩=>⟨h1.symm,h3,h2,h5,h4⟩,fun⟨h1,h2,h3,h4,h5⟩=>⟨h1.symm,h3,h2,h5,h4⟩⟩
theorem W4 (x y:OpR):djt [x,y]= !ovl x y:=by
 rw[UM]
 cases h:ovl y x with
 |true=>exact Vv (L:=[x,y]) (i:=1) (j:=0) (by show 1<2;decide) (by decide) h
 |false=>
  refine Su (L:=[x,y]) fun i' hi j hj=> ?_
  have hi:i'<2:=hi
  obtain⟨rfl,rfl⟩:i'=1∧j=0:=by omega
  exact h
def nov (x:OpR) (L:List OpR) (j:Nat):Bool:=decide (∀k,k<j→ovl x (L.getD k default)=false)
theorem U8 (x:OpR) (L:List OpR):nov x L 0=true:=dT fun _ h=>absurd h (Nat.not_lt_zero _)
theorem UD (x:OpR) {L:List OpR} {j:Nat} (hj:j<L.length):nov x L (j+1)=(nov x L j&& !ovl x L[j]):=by
 unfold nov
 rw[←opg hj]
 cases h:ovl x (L.getD j default) with
 |true=>rw[Bool.not_true,Bool.and_false];exact dF fun hh=>by rw[hh j (Nat.lt_succ_self _)] at h;cases h
 |false=>
  rw[Bool.not_false,Bool.and_true]
  refine decide_eq_decide.2 ⟨fun hh k hk=>hh k (by omega),fun hh k hk=> ?_⟩
  by_cases e:k=j
  ·rw[e];exact h
  ·exact hh k (by omega)
theorem Ul (L:List OpR) (x:OpR):djt (L++[x])=(djt L&&nov x L L.length):=by
 have g1: ∀k,k<L.length→(L++[x]).getD k default=L.getD k default:=fun k hk=>by
  rw[List.getD_eq_getElem?_getD,List.getD_eq_getElem?_getD,List.getElem?_append_left hk]
 have g2:(L++[x]).getD L.length default=x:=by
  rw[List.getD_eq_getElem?_getD,List.getElem?_append_right (Nat.le_refl _),Nat.sub_self];rfl
 unfold djt nov
 rw[←Bool.decide_and]
 refine decide_eq_decide.2 ⟨fun h=>⟨fun i hi j hj=> ?_,fun k hk=> ?_⟩,fun⟨h1,h2⟩ i hi j hj=> ?_⟩
 ·have:=h i (by rw[List.length_append];omega) j hj
  rwa [g1 i hi,g1 j (by omega)] at this
 ·have:=h L.length (by rw[List.length_append];exact Nat.lt_succ_self _) k hk
  rwa [g2,g1 k hk] at this
 ·rw[List.length_append] at hi
  have hi:i<L.length+1:=hi
  by_cases e:i=L.length
  ·subst e
   rw[g2,g1 j hj]
   exact h2 j hj
  ·rw[g1 i (by omega),g1 j (by omega)]
   exact h1 i (by omega) j hj
theorem PO (W:World) (p:Option Addr) (cap:Nat) (S:List OpS) (hn:S.length≤4000000) (hcap:S.length≤cap) (hS:L8 W p S) (hd:HK W) (hv:AL W) (ht:AA W):
  Ad Tryz.prog 3 #[slv p S.length cap] W (fun _:Unit=> .bool true) (fun _=>True) (fun _=>[]):=by
 refine Ab (args:=[slv p S.length cap]) Tryz.func3 I I I ?_
 refine zA (zB (wP I (Aa (zE (zA (zA (zB (wP I (wP I (wP I ?_))))))))))
 by_cases h4:S.length≤4
 rotate_left
 ·refine wU 27 true I (dT (by omega)) (wP I ?_)
  iterate 3 refine Ah I I ?_
  exact wP I (Aa (zE (zR I (zA (zB (wC I I (fun W1 hp=>Ck W1 (hd.hp hp) (hv.hp hp) (ht.hp hp)) (wP I (Aa (zE (zO (zP (wR1 I I I))))))))))))
 refine wU 27 false I (dF (by omega)) (wP I (wP I (wC I I (fun W1 hp=>PQ S hn p cap W1 (hS.hp hp)) (wP I ?_))))
 by_cases hsm:S.any Ec=true
 ·exact wU 31 true I (by rw[hsm];rfl) (wP I (Aa (zE (zR I (zA (zB (wC I I (fun W1 hp=>Ck W1 (hd.hp hp) (hv.hp hp) (ht.hp hp)) (wP I (Aa (zE (zO (zP (wR1 I I I)))))))))))))
 have hsm:S.any Ec=false:=by simpa using hsm
 refine wU 31 false I (by rw[hsm];rfl) (wP I (Aa (zE (zS I (zI (zE (zA (zB ?_))))))))
 have hlen: ∀x∈S,x.2.1.length≤8∧x.2.2.1.length≤8∧x.2.2.2.1.length≤8∧x.2.2.2.2.length≤8:=fun x hx=>by
  have h:Ec x=false:=by
   cases h:Ec x with
   |false=>rfl
   |true=>rw[List.any_eq_true.2 ⟨x,hx,h⟩] at hsm;cases hsm
  have h:=of_decide_eq_false h
  omega
 refine wP I (Aa (zE (zA (zA (zB (wP I (wP I (wP I (Aa (zE (zH ?_)))))))))))
 refine Aw (X:=Nat×List OpR) (fun s=>[(0,slv p S.length cap),(3, .bool (djt s.2)),(34,slv p S.length cap),(35, .int .i64 (S.length:Nat)),(36, .int .i64 (s.1:Nat))]) (fun _=>[])
  (fun s=>s.1≤S.length∧S.take s.1=s.2.map OpR.S∧ ∀x∈s.2,x.OK) (fun s=>S.length-s.1) (0,[]) ⟨Nat.zero_le _,rfl,fun _ h=>by cases h⟩ ⟨rfl,rfl,rfl,rfl,rfl,trivial⟩ [] rfl ?_
 rintro⟨i,L⟩ ⟨hi,hL,hok⟩
 have hi:i≤S.length:=hi
 have hL:S.take i=L.map OpR.S:=hL
 have hok: ∀x∈L,x.OK:=hok
 have hLl:L.length=i:=by have:=congrArg List.length hL;rw[List.length_take,List.length_map] at this;omega
 refine zA (zB (wP I ?_))
 by_cases hlt:i<S.length
 rotate_left
 ·refine wU 37 false I (dF (by show¬((i:Nat):Int)<_;omega)) (Aa (zE (zA (zS I (zJ (zK (zK (zL (zE (zA (zB ?_)))))))))))
  have hSL:S=L.map OpR.S:=by rw[←hL,List.take_of_length_le (by omega)]
  have hlS:S.length=L.length:=by omega
  refine wP I ?_
  refine wC I I (fun W1 hp=>(by
   have h:=Hn L hok (by omega) p cap (by omega) W1 (by
    have h:=hS.hp hp
    rw[hSL] at h
    rcases h with h|⟨g,off,e,h⟩
    ·exact .inl (List.map_eq_nil_iff.1 h)
    ·refine .inr ⟨g,off,e,fun k hk=> ?_⟩
     have h2:=h k (by rw[List.length_map];exact hk)
     rw[List.getElem_map] at h2
     exact h2) (hv.hp hp) (ht.hp hp)
   rw[←hlS] at h
   exact h)) ?_
  iterate 5 refine wP I ?_
  refine Aa (zE (zA (zB ?_)))
  iterate 5 refine wP I ?_
  refine DX (c:=true) Tryz.underlying4 I I I I I (congrArg some (beq_self_eq_true _)) ?_
  exact wP I (wP I (wC I I (fun W1 hp=>Ck W1 (hd.hp hp) (hv.hp hp) (ht.hp hp)) (wP I (wP I (Aa (zE (zO (wR1 I I I))))))))
 refine wU 37 true I (dT (by show((i:Nat):Int)<_;omega)) (Aa (zE (zA (zR I (zI (zE (zA (zH (zA (zB ?_))))))))))
 obtain⟨g,off,rfl,hrow⟩:=hS.row hlt
 have hr:=hrow i hlt
 obtain⟨l1,l2,l3,l4⟩:=hlen _ (List.getElem_mem hlt)
 have hmp:S.take (i+1)=L.map OpR.S++[S[i]]:=by rw[List.take_succ_eq_append_getElem hlt,hL]
 have hSj: ∀j (hj:j<L.length),S[j]'(by omega)=L[j].S:=fun j hj=>by
  have h1:(S.take i)[j]? =(L.map OpR.S)[j]? :=by rw[hL]
  rw[List.getElem?_take,if_pos (by omega),List.getElem?_map,List.getElem?_eq_getElem hj,List.getElem?_eq_getElem (by omega)] at h1
  exact Option.some.inj h1
 obtain⟨y,hy⟩: ∃y,y=S[i]:=⟨_,rfl⟩
 rw[←hy] at hr l1 l2 l3 l4 hmp
 obtain⟨s,a,b,c,d⟩:=y
 have l1:a.length≤8:=l1
 have l2:b.length≤8:=l2
 have l3:c.length≤8:=l3
 have l4:d.length≤8:=l4
 refine wP I ?_
 refine wJ ?_
 refine wL 0 I I (fun W1 hp=>hr.hp hp) I ?_
 (refine Ae Tryz.hZ rfl rfl rfl rfl ?_;intro)
 refine wP I (wS 0 I I I (Aa ?_))
 rename_i b5
 refine zE (zA (zB (wP I (wB 0 I I I (wP I (wB 0 I I I (wC I I (fun W1 hp=>Kd a b l1 l2 W1 (ht.hp hp)) ?_)))))))
 iterate 5 refine wP I ?_
 refine Aa (zE (zA (zB (wP I (wB 0 I I I (wP I (wB 0 I I I (wC I I (fun W1 hp=>Kd c d l3 l4 W1 (ht.hp hp)) ?_))))))))
 iterate 5 refine wP I ?_
 refine Aa (zE (zA (zA (zB (wP I (wP I ?_))))))
 by_cases e1:cmE a b=0
 rotate_left
 ·refine wU 58 true I (bne_iff_ne.2 e1) (wP I ?_)
  iterate 2 refine Ah I I ?_
  refine wP I (wP I ?_)
  iterate 2 refine Ah I I ?_
  refine wP I (wP I ?_)
  iterate 2 refine Ah I I ?_
  refine wP I (Aa (zE (zR I (zA (zB (wC I I (fun W1 hp=>Ck W1 (hd.hp hp) (hv.hp hp) (ht.hp hp)) (wP I (Aa (zE (zO (zP (zQ (zP (zP ?_))))))))))))))
  exact zQ (zP (wR1 I I I))
 refine wU 58 false I (bne_eq_false_iff_eq.2 e1) (wP I (wP I (wP I ?_)))
 by_cases e2:cmE c d=0
 rotate_left
 ·refine wU 61 true I (bne_iff_ne.2 e2) (wP I (wP I ?_))
  iterate 2 refine Ah I I ?_
  refine wP I (wP I ?_)
  iterate 2 refine Ah I I ?_
  refine wP I (Aa (zE (zR I (zA (zB (wC I I (fun W1 hp=>Ck W1 (hd.hp hp) (hv.hp hp) (ht.hp hp)) (wP I (Aa (zE (zO (zP (zQ (zP (zP ?_))))))))))))))
  exact zQ (zP (wR1 I I I))
 refine wU 61 false I (bne_eq_false_iff_eq.2 e2) ?_
 obtain⟨r1,r2⟩:=Mq e1
 obtain⟨r3,r4⟩:=Mq e2
 obtain⟨q1,o1,rfl⟩:=Dj r1
 obtain⟨q2,o2,rfl⟩:=Dj r2
 obtain⟨q3,o3,rfl⟩:=Dj r3
 obtain⟨q4,o4,rfl⟩:=Dj r4
 rw[(HA o1 o2).1,(HA o1 o2).2,(HA o3 o4).1,(HA o3 o4).2]
 refine wP I (wP I (wP I (wP I ?_)))
 by_cases h1:q1<q2
 rotate_left
 ·refine wU 65 true I ((Gh _ _).trans (dT (Rat.not_lt.1 h1))) (wP I (wP I ?_))
  iterate 2 refine Ah I I ?_
  refine wP I (Aa (zE (zR I (zA (zB (wC I I (fun W1 hp=>Ck W1 (hd.hp hp) (hv.hp hp) (ht.hp hp)) (wP I (Aa (zE (zO (zP (zQ (zP (zP ?_))))))))))))))
  exact zQ (zP (wR1 I I I))
 refine wU 65 false I ((Gh _ _).trans (dF (Rat.not_le.2 h1))) (wP I (wP I (wP I (wP I ?_))))
 by_cases h2:q3<q4
 rotate_left
 ·refine wU 69 true I ((Gh _ _).trans (dT (Rat.not_lt.1 h2))) (wP I (Aa (zE (zR I (zA (zB (wC I I (fun W1 hp=>Ck W1 (hd.hp hp) (hv.hp hp) (ht.hp hp)) (wP I (Aa (zE (zO (zP (zQ ?_)))))))))))))
  exact zP (zP (zQ (zP (wR1 I I I))))
 refine wU 69 false I ((Gh _ _).trans (dF (Rat.not_le.2 h2))) (wP I (Aa (zE (zS I (zI (zE (zA (zB ?_))))))))
 obtain⟨x,hx⟩: ∃x:OpR,x=⟨s,q1,q2,q3,q4⟩:=⟨_,rfl⟩
 have hxok:x.OK:=by rw[hx];exact⟨o1,o2,o3,o4,l1,l2,l3,l4,h1,h2⟩
 have hxS:(s,Ac q1,Ac q2,Ac q3,Ac q4)=x.S:=by rw[hx];rfl
 have hmp2:S.take (i+1)=(L++[x]).map OpR.S:=by rw[hmp,List.map_append,hxS];rfl
 have hxv:Gs s (Ac q1) (Ac q2) (Ac q3) (Ac q4)=x.v:=by rw[hx]
 refine wP I (wP I ?_)
 refine Bm i tH I I I I I I I I (by omega) ?_
 refine wP I (wP I (Aa (zE (zH ?_))))
 refine Aw (X:=Nat) (fun j=>[(0,slv (some ⟨g,off,none⟩) S.length cap),(3, .bool (djt L&&nov x L j)),(34,slv (some ⟨g,off,none⟩) S.length cap),(35, .int .i64 (S.length:Nat)),(36, .int .i64 (i:Nat)),(5,Af b5),(74,slv (some ⟨g,off,none⟩) i cap),(75, .int .i64 (i:Nat)),(76, .int .i64 (j:Nat))]) (fun _=>[opB b5 x]) (fun j=>j≤i) (fun j=>i-j) 0 (Nat.zero_le _) ⟨I,by rw[U8,Bool.and_true];rfl,I,I,I,I,I,I,I,tO⟩ [] (by rw[opB, ←hxv];rfl) ?_
 intro j hj
 have hj:j≤i:=hj
 refine zA (zB (wP I ?_))
 by_cases hlj:j<i
 rotate_left
 ·refine wU 77 false I (dF (by omega)) (Aa (zE (zA (zS I (zJ (zK (zK (zL (zN (zE (zB ?_)))))))))))
  have ej:j=L.length:=by omega
  refine wP I (wV 157 ((i+1:Nat):Int) I (Ax (by omega)) (wP I (Aa ?_)))
  exact Al (i+1,L++[x]) ⟨hlt,hmp2,fun z hz=>by
   rcases List.mem_append.1 hz with hz|hz
   ·exact hok z hz
   ·rw[List.mem_singleton.1 hz];exact hxok⟩ (by show S.length-(i+1)<S.length-i;omega) ⟨rfl,by rw[Ul, ←ej];rfl,rfl,rfl,rfl,trivial⟩ [_] rfl
 refine wU 77 true I (dT (by omega)) (Aa (zE (zA (zR I (zI (zE (zA (zH (zA (zB ?_))))))))))
 have hjL:j<L.length:=by omega
 have hr2:=hrow j (by omega)
 have hyok:=hok _ (List.getElem_mem hjL)
 have hnv:=UD x hjL
 rw[hSj j hjL] at hr2
 obtain⟨y,hye⟩: ∃y,y=L[j]:=⟨_,rfl⟩
 rw[←hye] at hr2 hyok hnv
 have hr2:Ai W g (off+j*5) y.v.cells.toList:=hr2
 have zz: ∀ {q:Rat},(Ac q).length≤8→szQ q 8:=fun h=>DH h (by decide)
 have c1:Sz2 x.r y.l:=sz2 (zz hxok.lr) (zz hyok.ll) (by decide)
 have c2:Sz2 y.r x.l:=sz2 (zz hyok.lr) (zz hxok.ll) (by decide)
 have c3:Sz2 x.i y.o:=sz2 (zz hxok.li) (zz hyok.lo) (by decide)
 have c4:Sz2 y.i x.o:=sz2 (zz hyok.li) (zz hxok.lo) (by decide)
 refine wJ ?_
 refine wL 0 I I (fun W1 hp=>hr2.hp hp) I ?_
 (refine Ae Tryz.hZ rfl rfl rfl rfl ?_;intro)
 refine wS 1 I I I (Aa ?_)
 rename_i b11
 refine zE (zA (zB (wP I (wB 0 I I I (wP I (wB 1 I I I (wC I I (fun W1 hp=>Fj x.r y.l c1 W1 (ht.hp hp)) ?_)))))))
 iterate 5 refine wP I ?_
 refine Aa (zE (zA (zB (wP I (wB 1 I I I (wP I (wB 0 I I I (wC I I (fun W1 hp=>Fj y.r x.l c2 W1 (ht.hp hp)) ?_))))))))
 iterate 5 refine wP I ?_
 refine Aa (zE (zA (zB (wP I (wB 0 I I I (wP I (wB 1 I I I (wC I I (fun W1 hp=>Fj x.i y.o c3 W1 (ht.hp hp)) ?_))))))))
 iterate 5 refine wP I ?_
 refine Aa (zE (zA (zB (wP I (wB 1 I I I (wP I (wB 0 I I I (wC I I (fun W1 hp=>Fj y.i x.o c4 W1 (ht.hp hp)) ?_))))))))
 iterate 5 refine wP I ?_
 refine Aa (A8 (Az ?_))
 refine AC (X:=Unit) (fun _=>[(0,slv (some ⟨g,off,none⟩) S.length cap),(3, .bool (djt L&&nov x L j)),(34,slv (some ⟨g,off,none⟩) S.length cap),(35, .int .i64 (S.length:Nat)),(36, .int .i64 (i:Nat)),(5,Af b5),(74,slv (some ⟨g,off,none⟩) i cap),(75, .int .i64 (i:Nat)),(76, .int .i64 (j:Nat)),(11,Af b11),(13, .int .i64 0),(15, .int .i64 0),(17, .int .i64 0),(19, .int .i64 0),(20, .bool (!ovl x y))])
  (fun _=>[opB b5 x,opB b11 y]) (fun _=>True) ?_ ?_
 ·refine zB (wP I (wB 0 I I I (wP I (wB 1 I I I (wP I ?_)))))
  by_cases k1:x.s=y.s
  rotate_left
  ·have ho:ovl x y=false:=dF fun h=>k1 h.1
   refine wU 116 true I (bne_iff_ne.2 k1) (wP I ?_)
   iterate 2 refine Ah I I ?_
   refine wP I (wP I ?_)
   iterate 2 refine Ah I I ?_
   refine wP I (wP I ?_)
   iterate 2 refine Ah I I ?_
   refine wP I (wP I ?_)
   iterate 2 refine Ah I I ?_
   exact wP I (wP I (Aa (An () tO ⟨I,I,I,I,I,I,I,I,I,I,I,I,I,I,by rw[ho];rfl,tO⟩ [] I)))
  refine wU 116 false I (bne_eq_false_iff_eq.2 k1) (wP I (wP I (wP I ?_)))
  by_cases k2:x.r≤y.l
  ·have ho:ovl x y=false:=dF fun h=>Rat.not_lt.2 k2 h.2.2.1
   refine wU 119 true I ((C9 _ _).trans (dT k2)) (wP I (wP I ?_))
   iterate 2 refine Ah I I ?_
   refine wP I (wP I ?_)
   iterate 2 refine Ah I I ?_
   refine wP I (wP I ?_)
   iterate 2 refine Ah I I ?_
   exact wP I (wP I (Aa (An () tO ⟨I,I,I,I,I,I,I,I,I,I,I,I,I,I,by rw[ho];rfl,tO⟩ [] I)))
  refine wU 119 false I ((C9 _ _).trans (dF k2)) (wP I (wP I (wP I (wP I ?_))))
  by_cases k3:y.r≤x.l
  ·have ho:ovl x y=false:=dF fun h=>Rat.not_lt.2 k3 h.2.1
   refine wU 123 true I ((C9 _ _).trans (dT k3)) (wP I (wP I ?_))
   iterate 2 refine Ah I I ?_
   refine wP I (wP I ?_)
   iterate 2 refine Ah I I ?_
   exact wP I (wP I (Aa (An () tO ⟨I,I,I,I,I,I,I,I,I,I,I,I,I,I,by rw[ho];rfl,tO⟩ [] I)))
  refine wU 123 false I ((C9 _ _).trans (dF k3)) (wP I (wP I (wP I (wP I ?_))))
  by_cases k4:x.i≤y.o
  ·have ho:ovl x y=false:=dF fun h=>Rat.not_lt.2 k4 h.2.2.2.2
   refine wU 127 true I ((C9 _ _).trans (dT k4)) (wP I (wP I ?_))
   iterate 2 refine Ah I I ?_
   exact wP I (wP I (Aa (An () tO ⟨I,I,I,I,I,I,I,I,I,I,I,I,I,I,by rw[ho];rfl,tO⟩ [] I)))
  refine wU 127 false I ((C9 _ _).trans (dF k4)) (wP I (wP I (wP I (wP I ?_))))
  by_cases k5:y.i≤x.o
  ·have ho:ovl x y=false:=dF fun h=>Rat.not_lt.2 k5 h.2.2.2.1
   exact wU 131 true I ((C9 _ _).trans (dT k5)) (wP I (wP I (Aa (An () tO ⟨I,I,I,I,I,I,I,I,I,I,I,I,I,I,by rw[ho];rfl,tO⟩ [] I))))
  have ho:ovl x y=true:=dT ⟨k1,Rat.not_le.1 k3,Rat.not_le.1 k2,Rat.not_le.1 k5,Rat.not_le.1 k4⟩
  exact wU 131 false I ((C9 _ _).trans (dF k5)) (wP I (wP I (Aa (An () tO ⟨I,I,I,I,I,I,I,I,I,I,I,I,I,I,by rw[ho];rfl,tO⟩ [] I))))
 intro _ _
 refine zA (zB (wB 0 I I I (wB 1 I I I ?_)))
 refine At Tryz.hZ tH I I I I I I I I I I I fun bN=> ?_
 refine wC I I (fun W1 hp=>(Hn [x,y] (fun z hz=>by
  rcases List.mem_cons.1 hz with rfl|hz
  ·exact hxok
  ·rw[List.mem_singleton.1 hz];exact hyok) (by show 2≤32;decide) (some ⟨bN,0,none⟩) 2 (Nat.le_refl 2) W1 (.inr ⟨bN,0,rfl,fun k hk=>by
  have hrw:Ai W1 bN 0 (x.v.cells.toList++y.v.cells.toList):=Ai.of_bx hp 2 rfl rfl
  have hk:k<2:=hk
  have hc:k=0∨k=1:=by omega
  rcases hc with rfl|rfl
  ·exact C8 hrw
  ·exact H9 hrw⟩) (hv.hp hp) (ht.hp hp)).cast (v':= .tuple #[.bool (!ovl x y), .int .i64 0]) (by rw[W4])) ?_
 iterate 5 refine wP I ?_
 refine Aa (zE (zA (zA (zB ?_))))
 iterate 10 refine wP I ?_
 refine DX (c:=false) Tryz.underlying4 I I I I I (congrArg some (by rw[beq_self_eq_true];rfl)) ?_
 refine wP I (Aa (zE (zS I (zI (zE (zB ?_))))))
 cases hN:nov x L j with
 |false=>
  have h1:nov x L (j+1)=false:=by rw[hnv,hN];rfl
  have h0:(djt L&&false)=false:=Bool.and_false _
  have eqs:(djt L&&nov x L (j+1))=false:=by rw[h1];exact h0
  refine wP I (wU 152 false I h0 (wP I ?_))
  refine Ah I I ?_
  exact wP I (wP I (Aa (zN (zE (zB (wP I (wV 156 ((j+1:Nat):Int) I (Ax (by omega)) (wP I (Aa (Al (j+1) hlj (by show i-(j+1)<i-j;omega) ⟨I,by rw[eqs];rfl,I,I,I,I,I,I,I,tO⟩ [_,_] I))))))))))
 |true=>
  cases hD:djt L with
  |false=>
   have eqs:(false&&nov x L (j+1))=false:=Bool.false_and _
   refine wP I (wP I ?_)
   refine Ah I I ?_
   exact wP I (wP I (Aa (zN (zE (zB (wP I (wV 156 ((j+1:Nat):Int) I (Ax (by omega)) (wP I (Aa (Al (j+1) hlj (by show i-(j+1)<i-j;omega) ⟨I,by rw[eqs];rfl,I,I,I,I,I,I,I,tO⟩ [_,_] I))))))))))
  |true=>
   have eqs:(true&&nov x L (j+1))= !ovl x y:=by rw[hnv,hN];rfl
   iterate 5 refine wP I ?_
   exact Aa (zN (zE (zB (wP I (wV 156 ((j+1:Nat):Int) I (Ax (by omega)) (wP I (Aa (Al (j+1) hlj (by show i-(j+1)<i-j;omega) ⟨I,by rw[eqs];rfl,I,I,I,I,I,I,I,tO⟩ [_,_] I))))))))
end
section
open Go
noncomputable abbrev laidL:List (String×DataW Unit):=Rows.openingDisjointRow.laid
end
end Go.Proofs.YtndkgionklmdfaaGreatDoor
