/-
  Lemmas that the theorem journalDamage_upto_card needs (part 5 of 8).
-/
import Derived.Test.YtidgbjcdppjknaaGreatDoorJdd
import Derived.Laws.StructEq
set_option maxHeartbeats 64000000
namespace Go.Proofs.YtidgbjcdppjknaaGreatDoor
section
open Go Go.RowKit Go.Am Go.Lib
set_option maxRecDepth 10000
theorem B0 {l:List UInt8} {n:Nat} (hl:l.length<=n): ∀w∈AI 32 l,w.length<=n:=fun w hw=>by
 have hjs:=HZ 32 l
 have h1:w.length<=(join (AI 32 l) [32]).length:=by
  generalize AI 32 l=ws at hw⊢
  induction ws with
  |nil=>cases hw
  |cons a r ih=>
   rcases List.mem_cons.1 hw with rfl|hw
   ·rw[join_cons,List.length_append];omega
   ·cases r with
    |nil=>cases hw
    |cons c r=>
     have:=ih hw
     rw[Gm,List.length_append,List.length_cons];omega
 rw[hjs] at h1
 omega
def XX (x:AlS) (j:Nat) (v:Int):AlS:=match j with
 |0=> { x with w:=v }
 |1=> { x with d:=v }
 |2=> { x with s:=v }
 |3=> { x with l:=v }
 |4=> { x with n:=v }
 |_=>x
theorem Sw (x:AlS) {j:Nat} (hj:j<5) (v:Int):BD (alC x) j [.int .i64 v]=alC (XX x j v):=by
 match j,hj with
 |0,_=>rfl
 |1,_=>rfl
 |2,_=>rfl
 |3,_=>rfl
 |4,_=>rfl
def Ki (ws:List (List UInt8)):Nat->AlS
 |0=>⟨0,0,0,0,0⟩
 |k+1=>XX (Ki ws k) k ((E0 9 (ws.getD k [])).getD 0)
def dL (ws:List (List UInt8)):Prop:=ws.length=5/\ ∀k,k<5->E0 9 (ws.getD k [])≠none
open Classical in
noncomputable def rowP (s:List UInt8):Option AlS:=if dL (AI 32 s) then some (Ki (AI 32 s) 5) else none
theorem XR {s:List UInt8} {ws:List (List UInt8)} (e:ws=AI 32 s) (h:dL ws):rowP s=some (Ki ws 5):=by
 subst e
 unfold rowP
 exact if_pos h
theorem Rv {s:List UInt8} {ws:List (List UInt8)} (e:ws=AI 32 s) (h: ¬dL ws):rowP s=none:=by
 subst e
 unfold rowP
 exact if_neg h
def Nd:List Nat:=[0,1,2,3,4]
theorem Lh {k:Nat} (hk:k<5):Nd.getD k 0=k:=by
 match k,hk with
 |0,_=>rfl
 |1,_=>rfl
 |2,_=>rfl
 |3,_=>rfl
 |4,_=>rfl
theorem Te (l:List UInt8) (hl:l.length<=100000) (W:World) (hv:AQ W) (ht:AZ W):
  Ag Tryz.prog 157 #[str l] W (fun x:AlS×Bool=> .tuple #[.agg (alC x.1).toArray, .bool x.2]) (fun x=>(∃s,rowP l=some s/\x=(s,true))\/(rowP l=none/\x.2=false)) (fun _=>[]):=by
 refine Ab Tryz.func157 I I I<|xb<|wG I I fun _=>wP I<|zC<|?_
 rename_i b2
 refine xe<|wG I I fun _=>zC<|?_
 rename_i b4
 refine xe<|wP I<|wD (X:=Nat) I I (fun W hp=>CL W l (by omega) (hv.hp hp)) ?_
 intro g _
 have hws:=B0 hl
 obtain⟨ws,hwsd⟩: ∃ws,ws=AI 32 l:=⟨_,rfl⟩
 rw[<-hwsd] at hws⊢
 refine wP I<|xg<|A8 I<|?_
 (refine Ai Tryz.hZ tH rfl rfl rfl rfl rfl rfl rfl rfl rfl rfl rfl ?_;intro)
 refine wP I<|zC<|?_
 rename_i b18
 refine zE<|xd<|A8 I<|?_
 by_cases h5:ws.length=5
 rotate_left
 ·have hN:rowP l=none:=Rv hwsd fun h=>h5 h.1
  exact wU 23 true I (bne_iff_ne.2 (show((ws.length:Nat):Int)≠5 by omega))<|xa<|zR I<|xb<|wB 1 I I I<|wS 0 I I I<|wP I<|xc<|zP<|An tH I (.cell 0 I I I I I) (.tmp I) (⟨0,0,0,0,0⟩,false) I (.inr ⟨hN,I⟩) fun W _=>As.nil _ _
 refine wU 23 false I (bne_eq_false_iff_eq.2 (show((ws.length:Nat):Int)=5 by omega))<|xa<|zS I<|zI<|zE<|xd<|Ae I<|xa<|zH<|?_
 refine A6 (X:=Nat) (fun k=>[(2, .pointer (some ⟨b2,0,none⟩)),(3, .bool false),(4, .pointer (some ⟨b4,0,none⟩)),(5, .slice (some ⟨g,0,none⟩) ws.length ws.length),(6, .slice (some ⟨b18,0,none⟩) 5 5),(25, .slice (some ⟨g,0,none⟩) ws.length ws.length),(26, .int .i64 (ws.length:Nat)),(27, .int .i64 (k:Nat))])
  (fun k=>[⟨b2,91,alC ⟨0,0,0,0,0⟩,true,none⟩,⟨b4,91,alC (Ki ws k),true,none⟩,⟨g,9,ss ws++[],true,none⟩,⟨b18,246,Tg b4 Nd,true,none⟩])
  (fun k=>k<=5/\ ∀j,j<k->E0 9 (ws.getD j [])≠none) (fun k=>5-k) 0 ⟨Nat.zero_le _,fun j hj=>absurd hj (Nat.not_lt_zero _)⟩ ⟨rfl,rfl,rfl,rfl,rfl,rfl,rfl,rfl,trivial⟩ [] rfl ?_
 rintro k ⟨hk,hall⟩
 have hk:k<=5:=hk
 refine xb<|wP I<|?_
 by_cases hlt:k<5
 rotate_left
 ·have e:k=5:=by omega
  subst e
  exact wU 28 false I (dF (by omega))<|xa<|zA<|zS I<|xf<|xe<|wB 1 I I I<|wS 0 I I I<|wP I<|xc<|An tH I (.cell 0 I I I I I) (.tmp I) (Ki ws 5,true) I (.inl ⟨_,XR hwsd ⟨h5,hall⟩,I⟩) fun W _=>As.nil _ _
 refine wU 28 true I (dT (by omega))<|xa<|zA<|zR I<|xh<|?_
 have hkw:k<ws.length:=by omega
 have hwk:(ws.getD k []).length<=100000:=hws _ (by rw[List.getD_eq_getElem?_getD,List.getElem?_eq_getElem hkw];exact List.getElem_mem hkw)
 have hbad0:E0 9 (ws.getD k [])=none->rowP l=none:=fun h=>Rv hwsd fun h'=>h'.2 k hlt h
 have hst:Ki ws (k+1)=XX (Ki ws k) k ((E0 9 (ws.getD k [])).getD 0):=rfl
 obtain⟨w,hw⟩: ∃w,w=ws.getD k []:=⟨_,rfl⟩
 have hat: ∀ {bxs:List Bx} {W1:World},Hp W bxs W1->nth bxs 2=some ⟨g,9,ss ws++[],true,none⟩->Al W1 g (0+k*1) [str w]:=fun hp h2=>by rw[hw];exact Oj hp 2 h2 hkw
 rw[<-hw] at hwk hbad0 hst
 have hnew:E0 9 w≠none-> ∀j,j<k+1->E0 9 (ws.getD j [])≠none:=fun h j hj=>by
  by_cases e:j=k
  ·subst e;rw[<-hw];exact h
  ·exact hall j (by omega)
 refine wP I<|wJ ?_
 refine wL 0 I I (fun W hp=>hat hp I) I<|Aa I<|xg<|wP I<|wD (X:=Int×Value) I I (fun W hp=>EA W w (by omega) (hv.hp hp)) ?_
 rintro⟨z,ev⟩ hz
 refine A8 I<|zC<|?_
 rcases hz with⟨n,hn,e⟩|⟨hno,a,ha⟩
 rotate_left
 ·have hbad:rowP l=none:=hbad0 (OE hno)
  change ev=_ at ha
  subst ha
  refine zE<|xd<|wP rfl<|Bf (v:= .bool true) rfl rfl (fun c e=>by cases e) (fun ρ W hρ _=>C4 Tryz.underlying104 rfl (hρ _ _ rfl) (hρ _ _ rfl) (.inr ⟨⟨_,_,rfl⟩,rfl⟩) W) ?_
  refine wP I ?_
  iterate 2 refine Ac I I ?_
  refine Aa I<|?_
  iterate 3 refine Ac I I ?_
  refine Aa I<|?_
  iterate 4 refine Ac I I ?_
  exact wP I<|xa<|zR I<|xb<|wB 1 I I I<|wS 0 I I I<|wP I<|xc<|zP<|xi<|An tH I (.cell 0 I I I I I) (.tmp I) (Ki ws k,false) I (.inr ⟨hbad,I⟩) fun W _=>As.nil _ _
 injection e with e1 e2
 subst e1 e2
 have hnum:=PX (k:=9) hn
 obtain⟨hb1,hb2⟩:=atoiAll_bounds hn
 refine zE<|xd<|wP rfl<|Bf (v:= .bool false) rfl rfl (fun c e=>by cases e) (fun ρ W hρ _=>C4 Tryz.underlying104 rfl (hρ _ _ rfl) (hρ _ _ rfl) (.inl ⟨rfl,rfl⟩) W) ?_
 refine Ae I<|?_
 by_cases c1:z<0
 ·have hbad:rowP l=none:=hbad0 (by rw[hnum,if_pos (.inl c1)])
  refine wU 41 true I (dT c1)<|Aa I<|?_
  iterate 3 refine Ac I I ?_
  refine Aa I<|?_
  iterate 4 refine Ac I I ?_
  exact wP I<|xa<|zR I<|xb<|wB 1 I I I<|wS 0 I I I<|wP I<|xc<|zP<|xi<|An tH I (.cell 0 I I I I I) (.tmp I) (Ki ws k,false) I (.inr ⟨hbad,I⟩) fun W _=>As.nil _ _
 refine wU 41 false I (dF c1)<|A8 I<|?_
 by_cases c2:9<w.length
 ·have hbad:rowP l=none:=hbad0 (by rw[hnum,if_pos (.inr (.inl c2))])
  refine wU 46 true I (show decide (((⟨w.toArray⟩:ByteArray).size:Int)>9)=true by rw[Dl,decide_eq_true_iff];omega)<|Aa I<|?_
  iterate 4 refine Ac I I ?_
  exact wP I<|xa<|zR I<|xb<|wB 1 I I I<|wS 0 I I I<|wP I<|xc<|zP<|xi<|An tH I (.cell 0 I I I I I) (.tmp I) (Ki ws k,false) I (.inr ⟨hbad,I⟩) fun W _=>As.nil _ _
 refine wU 46 false I (show decide (((⟨w.toArray⟩:ByteArray).size:Int)>9)=false by rw[Dl,decide_eq_false_iff_not];omega)<|Ae I<|wC I I (fun W hp=>AF z hb1 hb2 W (ht.hp hp))<|Aa I<|?_
 by_cases c3:itoa z=w
 rotate_left
 ·have hbad:rowP l=none:=hbad0 (by rw[hnum,if_pos (.inr (.inr c3))])
  exact wU 52 true I (show(!((⟨(itoa z).toArray⟩:ByteArray).toList==(⟨w.toArray⟩:ByteArray).toList))=true by rw[Hk,dF c3];rfl)<|wP I<|xa<|zR I<|xb<|wB 1 I I I<|wS 0 I I I<|wP I<|xc<|zP<|xi<|An tH I (.cell 0 I I I I I) (.tmp I) (Ki ws k,false) I (.inr ⟨hbad,I⟩) fun W _=>As.nil _ _
 have hsome:E0 9 w=some z:=by rw[hnum,if_neg fun h=>h.elim c1 fun h=>h.elim c2 fun h=>h c3]
 rw[hsome] at hst
 refine wU 52 false I (show(!((⟨(itoa z).toArray⟩:ByteArray).toList==(⟨w.toArray⟩:ByteArray).toList))=false by rw[Hk,dT c3];rfl)<|wP I<|xa<|zS I<|zI<|zE<|zB<|Aa I<|wJ ?_
 refine wL 0 I I (fun W hp=>OO hp 3 I (show k<Nd.length from hlt)) I<|wP I<|AE I I I I<|?_
 refine BT 1 (alC (Ki ws (k+1))) tH I I I I I I I I I I (by show Nd.getD k 0+1<=5;rw[Lh hlt];omega) (by rw[hst];show BD (alC (Ki ws k)) (Nd.getD k 0) [.int .i64 z]=_;rw[Lh hlt];exact Sw _ hlt z) ?_
 exact zC<|xj<|wP rfl<|wV 61 ((k+1:Nat):Int) rfl (Az (by omega))<|wP rfl<|zC<|Ax (k+1) ⟨hlt,hnew (by rw[hsome];exact fun h=>by cases h)⟩ (by show 5-(k+1)<5-k;omega) ⟨rfl,rfl,rfl,rfl,rfl,rfl,rfl,rfl,trivial⟩ [] rfl
def KK (b:BrS) (V:Vec):List Value:=[.int .i64 b.w, .int .i64 b.d, .int .i64 b.l, .int .i64 b.n, .int .i64 b.c, .slice (AU V) b.g.length (Bd V)]
def Jb (b:BrS) (j:Nat) (v:Int):BrS:=match j with
 |0=> { b with w:=v }
 |1=> { b with d:=v }
 |2=> { b with l:=v }
 |3=> { b with n:=v }
 |4=> { b with c:=v }
 |_=>b
theorem RP (b:BrS) (V:Vec) {j:Nat} (hj:j<5) (v:Int):BD (KK b V) j [.int .i64 v]=KK (Jb b j v) V:=by
 match j,hj with
 |0,_=>rfl
 |1,_=>rfl
 |2,_=>rfl
 |3,_=>rfl
 |4,_=>rfl
theorem UB (b:BrS) {j:Nat} (hj:j<5) (v:Int):(Jb b j v).g=b.g:=by
 match j,hj with
 |0,_=>rfl
 |1,_=>rfl
 |2,_=>rfl
 |3,_=>rfl
 |4,_=>rfl
def IA (ws:List (List UInt8)):Nat->BrS
 |0=>⟨0,0,0,0,0,[]⟩
 |k+1=>Jb (IA ws k) k ((E0 10 (ws.getD k [])).getD 0)
theorem TQ (ws:List (List UInt8)): ∀k,k<=5->(IA ws k).g=[]
 |0,_=>rfl
 |k+1,h=>by
  show(Jb (IA ws k) k _).g=[]
  rw[UB _ (by omega),TQ ws k (by omega)]
def Wu (w:List UInt8):Option (Int×Int):=if (cut w [45]).2.2=true then
  match E0 10 (cut w [45]).1,E0 10 (cut w [45]).2.1 with
  |some x,some y=>some (x,y)
  |_,_=>none
 else none
def I3:List (Int×Int)->List (List UInt8)->Option (List (Int×Int))
 |acc,[]=>some acc
 |acc,w::r=>match Wu w with
  |none=>none
  |some x=>I3 (acc++[x]) r
def WP (ws:List (List UInt8)):Prop:=5<=ws.length/\ ∀k,k<5->E0 10 (ws.getD k [])≠none
open Classical in
noncomputable def barP (s:List UInt8):Option BrS:=if WP (AI 32 s) then(I3 [] ((AI 32 s).drop 5)).map fun gs=> { IA (AI 32 s) 5 with g:=gs } else none
theorem Q3 {s:List UInt8} {ws:List (List UInt8)} (e:ws=AI 32 s) (h:WP ws):barP s=(I3 [] (ws.drop 5)).map fun gs=> { IA ws 5 with g:=gs }:=by
 subst e
 unfold barP
 exact if_pos h
theorem L7 {s:List UInt8} {ws:List (List UInt8)} (e:ws=AI 32 s) (h: ¬WP ws):barP s=none:=by
 subst e
 unfold barP
 exact if_neg h
def QV (l:List UInt8) (x:BrS×Bool×Vec):Prop:=x.2.2.OK 2 x.1.g.length (x.1.g.flatMap gpC)/\((barP l=some x.1/\x.2.1=true)\/(barP l=none/\x.2.1=false))
theorem QV.none {l:List UInt8} {b:BrS} (h:barP l=none) (hb:b.g=[]):QV l (b,false,Vec.empty):=⟨by show Vec.empty.OK 2 b.g.length _;rw[hb];exact Vec.OK.empty 2, .inr ⟨h,rfl⟩⟩
theorem M2 (l:List UInt8) (hl:l.length<=100000) (W:World) (hv:AQ W) (ht:AZ W):
  Ag Tryz.prog 127 #[str l] W (fun x:BrS×Bool×Vec=> .tuple #[.agg (KK x.1 x.2.2).toArray, .bool x.2.1]) (QV l) (fun x=>[x.2.2.bx 177 (x.1.g.flatMap gpC)]):=by
 have bad: ∀ {b:BrS} {W1:World},b.g=[]->Go.Am.Own W.heap.size [Vec.empty.bx 177 (b.g.flatMap gpC)] W1:=fun _=>Ej _ _
 refine Ab Tryz.func127 I I I<|xb<|wG I I fun _=>wP I<|zC<|?_
 rename_i b2
 refine xe<|wG I I fun _=>zC<|?_
 rename_i b4
 refine xe<|wP I<|wD (X:=Nat) I I (fun W hp=>CL W l (by omega) (hv.hp hp)) ?_
 intro g _
 have hws:=B0 hl
 obtain⟨ws,hwsd⟩: ∃ws,ws=AI 32 l:=⟨_,rfl⟩
 rw[<-hwsd] at hws⊢
 have hwn:ws.length<=1000000:=by
  have h1: ∀s:List UInt8,(AI 32 s).length<=s.length+1:=fun s=>by
   induction s with
   |nil=>exact Nat.le_refl _
   |cons a r ih=>
    unfold AI
    split
    ·rw[List.length_cons,List.length_cons];omega
    ·rw[List.length_cons,List.length_tail,List.length_cons];omega
  have:=h1 l
  rw[<-hwsd] at this
  omega
 refine wP I<|xg<|A8 I<|?_
 (refine Ai Tryz.hZ tH rfl rfl rfl rfl rfl rfl rfl rfl rfl rfl rfl ?_;intro)
 refine wP I<|zC<|?_
 rename_i b26
 refine zE<|xd<|A8 I<|?_
 by_cases h5:5<=ws.length
 rotate_left
 ·have hN:barP l=none:=L7 hwsd fun h=>h5 h.1
  exact wU 31 true I (dT (show((ws.length:Nat):Int)<5 by omega))<|xa<|zR I<|xb<|wB 1 I I I<|wS 0 I I I<|wP I<|xc<|zP<|An tH I (.cell 0 I I I I I) (.tmp I) (⟨0,0,0,0,0,[]⟩,false,Vec.empty) I (QV.none hN I) fun W1 hp=>bad I
 refine wU 31 false I (dF (show¬((ws.length:Nat):Int)<5 by omega))<|xa<|zS I<|zI<|xe<|wP I<|xa<|xd<|Ae I<|xa<|zH<|?_
 refine A6 (X:=Nat) (fun k=>[(2, .pointer (some ⟨b2,0,none⟩)),(3, .bool false),(4, .pointer (some ⟨b4,0,none⟩)),(5, .slice (some ⟨g,0,none⟩) ws.length ws.length),(6, .slice (some ⟨b26,0,none⟩) 5 5),(33, .slice (some ⟨b26,0,none⟩) 5 5),(34, .int .i64 5),(35, .int .i64 (k:Nat))])
  (fun k=>[⟨b2,87,KK ⟨0,0,0,0,0,[]⟩ Vec.empty,true,none⟩,⟨b4,87,KK (IA ws k) Vec.empty,true,none⟩,⟨g,9,ss ws++[],true,none⟩,⟨b26,246,Tg b4 Nd,true,none⟩])
  (fun k=>k<=5/\ ∀j,j<k->E0 10 (ws.getD j [])≠none) (fun k=>5-k) 0 ⟨Nat.zero_le _,fun j hj=>absurd hj (Nat.not_lt_zero _)⟩ ⟨rfl,rfl,rfl,rfl,rfl,rfl,rfl,rfl,trivial⟩ [] rfl ?_
 rintro k ⟨hk,hall⟩
 have hk:k<=5:=hk
 refine xb<|wP I<|?_
 by_cases hlt:k<5
 ·refine wU 36 true I (dT (by omega))<|xa<|zA<|zR I<|xh<|?_
  have hkw:k<ws.length:=by omega
  have hwk:(ws.getD k []).length<=100000:=hws _ (by rw[List.getD_eq_getElem?_getD,List.getElem?_eq_getElem hkw];exact List.getElem_mem hkw)
  have hbad0:E0 10 (ws.getD k [])=none->barP l=none:=fun h=>L7 hwsd fun h'=>h'.2 k hlt h
  have hst:IA ws (k+1)=Jb (IA ws k) k ((E0 10 (ws.getD k [])).getD 0):=rfl
  obtain⟨w,hw⟩: ∃w,w=ws.getD k []:=⟨_,rfl⟩
  have hat: ∀ {bxs:List Bx} {W1:World},Hp W bxs W1->nth bxs 2=some ⟨g,9,ss ws++[],true,none⟩->Al W1 g (0+k*1) [str w]:=fun hp h2=>by rw[hw];exact Oj hp 2 h2 hkw
  rw[<-hw] at hwk hbad0 hst
  refine wP I<|wJ ?_
  refine wL 0 I I (fun W hp=>OO hp 3 I (show k<Nd.length from hlt)) I<|Aa I<|xg<|Ae I<|wJ ?_
  refine wL 0 I I (fun W hp=>hat hp I) I<|wD (X:=Int×Bool) I I (fun W1 hp=>FP w (by omega) W1 (hv.hp hp) (ht.hp hp)) ?_
  rintro⟨z,ok⟩ hz
  refine Ae I<|AE I I I I<|?_
  refine BT 1 (KK (Jb (IA ws k) k z) Vec.empty) tH I I I I I I I I I I (by show Nd.getD k 0+1<=6;rw[Lh hlt];omega) (by show BD (KK (IA ws k) Vec.empty) (Nd.getD k 0) [.int .i64 z]=_;rw[Lh hlt];exact RP _ _ hlt z) ?_
  rcases hz with⟨n,hn,e⟩|⟨hno,hok⟩
  ·injection e with e1 e2
   subst e1 e2
   rw[hn] at hst
   rw[show Jb (IA ws k) k z=IA ws (k+1) from hst.symm]
   refine wP I<|xg<|Aa I<|xa<|zS I<|zI<|xj<|wP I<|wV 53 ((k+1:Nat):Int) I (Az (by omega))<|wP I<|zC<|?_
   exact Ax (k+1) ⟨hlt,fun j hj=>by
    by_cases e:j=k
    ·subst e;rw[<-hw,hn];exact fun h=>by cases h
    ·exact hall j (by omega)⟩ (by show 5-(k+1)<5-k;omega) ⟨I,I,I,I,I,I,I,I,tO⟩ [] I
  ·have hok:ok=false:=hok
   subst hok
   have hg:(Jb (IA ws k) k z).g=[]:=by rw[UB _ hlt,TQ ws k hk]
   exact wP I<|xg<|Aa I<|xa<|zR I<|xb<|wB 1 I I I<|wS 0 I I I<|wP I<|xc<|xi<|An tH I (.cell 0 I I I I I) (.tmp I) (Jb (IA ws k) k z,false,Vec.empty) I (QV.none (hbad0 hno) hg) fun W1 hp=>bad hg
 have e:k=5:=by omega
 subst e
 have hC:WP ws:=⟨h5,hall⟩
 have hP:=Q3 hwsd hC
 refine wU 36 false I (dF (by omega))<|xa<|zA<|zS I<|xf<|zE<|xd<|?_
 obtain⟨B,hB⟩: ∃B,B=IA ws 5:=⟨_,rfl⟩
 have hBg:B.g=[]:=by rw[hB];exact TQ ws 5 (Nat.le_refl _)
 rw[<-hB] at hP⊢
 obtain⟨bw,bd,bl,bn,bc,bg⟩:=B
 simp only at hBg
 subst hBg
 refine Ae I<|G8 5 tH I I I I I I I I h5 (Nat.le_refl _) ?_
 obtain⟨o5,ho5⟩: ∃o5:Nat,o5=(if ws.length=5 then 0 else 0+5*1):=⟨_,rfl⟩
 refine Ao 57 (.slice (some ⟨g,o5,none⟩) (ws.length-5:Nat) (ws.length-5:Nat)) I (by rw[ho5]) ?_
 have hat2: ∀ {bxs:List Bx} {W1:World} {j:Nat},Hp W bxs W1->nth bxs 2=some ⟨g,9,ss ws++[],true,none⟩->j<ws.length-5->Al W1 g (o5+j*1) [str (ws.getD (5+j) [])]:=fun {bxs W1 j} hp h2 hj=>by
  have h:=Oj hp 2 h2 (show 5+j<ws.length by omega)
  rw[ho5,if_neg (by omega)]
  rw[show 0+5*1+j*1=0+(5+j)*1 by omega]
  exact h
 refine Aa I<|xa<|zH<|Be ?_
 refine A6 (X:=List (Int×Int)×Vec×Nat) (fun x=>[(2, .pointer (some ⟨b2,0,none⟩)),(3, .bool false),(4, .pointer (some ⟨b4,0,none⟩)),(57, .slice (some ⟨g,o5,none⟩) (ws.length-5:Nat) (ws.length-5:Nat)),(58, .int .i64 ((ws.length-5:Nat):Int)),(59, .int .i64 (x.2.2:Nat))])
  (fun x=>[⟨b2,87,KK ⟨0,0,0,0,0,[]⟩ Vec.empty,true,none⟩,⟨b4,87,KK ⟨bw,bd,bl,bn,bc,x.1⟩ x.2.1,true,none⟩,⟨g,9,ss ws++[],true,none⟩,⟨b26,246,Tg b4 Nd,true,none⟩,x.2.1.bx 177 (x.1.flatMap gpC)])
  (fun x=>x.2.1.OK 2 x.1.length (x.1.flatMap gpC)/\x.2.2<=ws.length-5/\x.1.length=x.2.2/\I3 x.1 ((ws.drop 5).drop x.2.2)=I3 [] (ws.drop 5)) (fun x=>ws.length-5-x.2.2) ([],Vec.empty,0) ⟨Vec.OK.empty 2,Nat.zero_le _,rfl,rfl⟩ ⟨rfl,rfl,rfl,rfl,rfl,rfl,trivial⟩ [] rfl ?_
 rintro⟨gs,V,j⟩ ⟨hV,hj,hgl,hG⟩
 simp only at hV hj hgl hG
 refine xb<|wP I<|?_
 by_cases hjl:j<ws.length-5
 rotate_left
 ·refine wU 60 false I (dF (by show¬((j:Nat):Int)<((ws.length-5:Nat):Int);omega))<|xa<|zA<|zS I<|xf<|xe<|?_
  rw[List.drop_of_length_le (by rw[List.length_drop];omega)] at hG
  rw[<-hG] at hP
  exact wB 1 I I I<|wS 0 I I I<|wP I<|xc<|An tH I (.cell 0 I I I I I) (.tmp I) (⟨bw,bd,bl,bn,bc,gs⟩,true,V) I ⟨hV, .inl ⟨hP,I⟩⟩ fun W1 hp=>(hp.pick [4] (by decide) I).own
 refine wU 60 true I (dT (by show((j:Nat):Int)<((ws.length-5:Nat):Int);omega))<|xa<|zA<|zR I<|xh<|?_
 have hjw:5+j<ws.length:=by omega
 have hwl:(ws.getD (5+j) []).length<=100000:=hws _ (by rw[List.getD_eq_getElem?_getD,List.getElem?_eq_getElem hjw];exact List.getElem_mem hjw)
 have hdr:(ws.drop 5).drop j=ws.getD (5+j) []::(ws.drop 5).drop (j+1):=by
  rw[List.drop_drop,List.drop_drop,show 5+(j+1)=5+j+1 by omega,List.getD_eq_getElem?_getD,List.getElem?_eq_getElem hjw]
  exact List.drop_eq_getElem_cons hjw
 rw[hdr] at hG
 have hrow: ∀ {bxs:List Bx} {W1:World},Hp W bxs W1->nth bxs 2=some ⟨g,9,ss ws++[],true,none⟩->Al W1 g (o5+j*1) [str (ws.getD (5+j) [])]:=fun hp h2=>hat2 hp h2 hjl
 obtain⟨w,hw⟩: ∃w,w=ws.getD (5+j) []:=⟨_,rfl⟩
 rw[<-hw] at hwl hG hrow
 have hgA:I3 gs (w::(ws.drop 5).drop (j+1))=match Wu w with
  |none=>none
  |some x=>I3 (gs++[x]) ((ws.drop 5).drop (j+1)):=rfl
 rw[hgA] at hG
 have hN:Wu w=none->barP l=none:=fun h=>by rw[hP, <-hG,h];rfl
 have hcl:=GU w [45]
 have hgP:Wu w=if (cut w [45]).2.2=true then
   match E0 10 (cut w [45]).1,E0 10 (cut w [45]).2.1 with
   |some x,some y=>some (x,y)
   |_,_=>none
  else none:=rfl
 obtain⟨w1,w2,is,e1⟩: ∃w1 w2 is,cut w [45]=(w1,w2,is):=⟨_,_,_,rfl⟩
 rw[e1] at hcl hgP
 simp only at hcl hgP
 refine Ao 59 (.int .i64 (j:Nat)) I I<|wJ ?_
 refine wL 0 I I (fun W hp=>hrow hp I) I<|wP I<|xg<|wP I<|wC I I (fun W hp=>(C5 W w [45] (by omega) (hv.hp hp)).cast (by rw[e1]))<|Bb I<|wP I<|xg<|wP I<|wD (X:=Int×Bool) I I (fun W1 hp=>FP w1 (by omega) W1 (hv.hp hp) (ht.hp hp)) ?_
 rintro⟨z1,a1⟩ n1
 refine A8 I<|xg<|wP I<|wD (X:=Int×Bool) I I (fun W1 hp=>FP w2 (by omega) W1 (hv.hp hp) (ht.hp hp)) ?_
 rintro⟨z2,a2⟩ n2
 refine A8 I<|zC<|?_
 cases is with
 |false=>
  have hb:=hN (by rw[hgP,if_neg (by decide)])
  refine zE<|xd<|Ae I<|?_
  iterate 2 refine Ac I I ?_
  refine Aa I<|?_
  iterate 2 refine Ac I I ?_
  exact wP I<|xa<|zR I<|xb<|wB 1 I I I<|wS 0 I I I<|wP I<|xc<|zP<|xi<|An tH I (.cell 0 I I I I I) (.tmp I) (⟨bw,bd,bl,bn,bc,gs⟩,false,V) I ⟨hV, .inr ⟨hb,I⟩⟩ fun W1 hp=>(hp.pick [4] (by decide) I).own
 |true=>
  rw[if_pos rfl] at hgP
  rcases n1 with⟨m1,q1,p1⟩|⟨q1,p1⟩
  rotate_left
  ·have p1:a1=false:=p1
   subst p1
   have hb:=hN (by rw[hgP,q1])
   refine zE<|xd<|Bb I<|wP I<|?_
   iterate 2 refine Ac I I ?_
   exact wP I<|xa<|zR I<|xb<|wB 1 I I I<|wS 0 I I I<|wP I<|xc<|zP<|xi<|An tH I (.cell 0 I I I I I) (.tmp I) (⟨bw,bd,bl,bn,bc,gs⟩,false,V) I ⟨hV, .inr ⟨hb,I⟩⟩ fun W1 hp=>(hp.pick [4] (by decide) I).own
  injection p1 with p1 p1'
  subst p1 p1'
  rcases n2 with⟨m2,q2,p2⟩|⟨q2,p2⟩
  rotate_left
  ·have p2:a2=false:=p2
   subst p2
   have hb:=hN (by rw[hgP,q1,q2])
   refine zE<|xd<|?_
   iterate 10 refine wP I ?_
   exact xa<|zR I<|xb<|wB 1 I I I<|wS 0 I I I<|wP I<|xc<|zP<|xi<|An tH I (.cell 0 I I I I I) (.tmp I) (⟨bw,bd,bl,bn,bc,gs⟩,false,V) I ⟨hV, .inr ⟨hb,I⟩⟩ fun W1 hp=>(hp.pick [4] (by decide) I).own
  injection p2 with p2 p2'
  subst p2 p2'
  rw[hgP,q1,q2] at hG
  simp only at hG
  refine zE<|xd<|?_
  iterate 10 refine wP I ?_
  refine xa<|zS I<|zI<|zE<|zB<|wP I<|wB 1 I I I<|Aa I<|Ak Tryz.hZ tH I I I I I I I I ?_
  (refine Ai Tryz.hZ tH rfl rfl rfl rfl rfl rfl rfl rfl rfl rfl rfl ?_;intro)
  refine AA (V:=V) (len:=gs.length) (xs:=gs.flatMap gpC) 4 5 Tryz.vec85 (gs++[(z1,z2)]).length ((gs++[(z1,z2)]).flatMap gpC) I I I I I I I I I (congrArg some (Bs hV).symm) I hV I I (by rw[List.length_append];rfl) (by rw[CV];rfl) (by rw[List.length_append,List.length_singleton];simp only[maxLen];omega) (by rw[List.length_append,List.length_singleton];omega) I ?_
  intro gv c1 j1 hV1
  exact wP I<|wS 1 I I I<|zC<|xj<|wP I<|wV 98 ((j+1:Nat):Int) I (Az (by omega))<|wP I<|zC<|Ax (gs++[(z1,z2)],⟨some gv,c1,j1⟩,j+1) ⟨hV1,hjl,by show(gs++[(z1,z2)]).length=j+1;rw[List.length_append,List.length_singleton,hgl],hG⟩ (by show ws.length-5-(j+1)<ws.length-5-j;omega) ⟨I,I,I,I,I,I,tO⟩ [_] I
end
section
open Go Go.RowKit Go.Am
set_option maxRecDepth 10000
abbrev GE:=List (Vec×List Sd)
def AN (mk:GE):List Value:=mk.map fun p=>p.1.val p.2.length
def mkB (mk:GE):Bx:=Ad (mk.reverse.flatMap fun p=>(p.1.bx 79 (cellsOf p.2)).blk)
structure Fu (mk:GE) (rs:List (List Sd)):Prop where
 eq:mk.map (·.2)=rs
 ok: ∀p∈mk,p.1.OK 7 p.2.length (cellsOf p.2)
theorem Yw (mk:GE) (U:Vec) (l:List Sd):(mkB (mk++[(U,l)])).blk=(U.bx 79 (cellsOf l)).blk++(mkB mk).blk:=by
 show((mk++[(U,l)]).reverse.flatMap _)=_++(mk.reverse.flatMap _)
 rw[List.reverse_append]
 simp
theorem Fu.snoc {mk:GE} {rs:List (List Sd)} {U:Vec} {l:List Sd} (h:Fu mk rs) (hU:U.OK 7 l.length (cellsOf l)):Fu (mk++[(U,l)]) (rs++[l]):=by
 refine⟨by rw[List.map_append,h.eq];rfl,fun p hp=> ?_⟩
 rcases List.mem_append.1 hp with hp|hp
 ·exact h.ok p hp
 ·obtain rfl:=List.mem_singleton.1 hp;exact hU
theorem FU (mk:GE) (U:Vec) (l:List Sd):AN (mk++[(U,l)])=AN mk++[U.val l.length]:=by simp[AN]
theorem Al.of_grp {W0 W:World} {bxs:List Bx} (hp:Hp W0 bxs W) (k:Nat) {l:List (Nat×Obj)} (hk:nth bxs k=some (Ad l)) {g:Nat} {c:List Value} {ty:TypeId} (hm:(g,Obj.cells c.toArray ty (0,0))∈l):Al W g 0 c:=by
 rw[AT] at hk
 exact Al.of_block (hp.own.cell k _ hk _ hm).1
theorem RF {V:Vec} {size n:Nat} {xs:List Value} (h:V.OK size n xs): ∃q cq,V.val n=slv q n cq:=⟨_,_,Vec.val_eq h⟩
theorem MI {mk:GE} {rs:List (List Sd)} (h:Fu mk rs) {V:Vec} (hV:V.OK 1 rs.length (AN mk)):
  ∃p cap,V.val rs.length=slv p rs.length cap/\ ∀ {W0 W:World} {bxs:List Bx},Hp W0 bxs W-> ∀k i,nth bxs k=some (V.bx 208 (AN mk))->nth bxs i=some (mkB mk)->C6 W p rs:=by
 obtain⟨p,cap,junk⟩:=V
 cases p with
 |none=>
  have h0:=hV.nil rfl
  refine⟨none,0,by rw[h0];rfl,fun _ _ _ _ _=> .inl (List.length_eq_zero_iff.1 h0)⟩
 |some g=>
  refine⟨some ⟨g,0,none⟩,cap,I,fun {W0 W bxs} hp k i hk hi=> .inr ⟨g,0,I,⟨fun j l hj=> ?_⟩⟩⟩
  have hjm:j<mk.length:=by
   have:=(List.getElem?_eq_some_iff.1 hj).1
   rw[<-h.eq,List.length_map] at this;exact this
  have hl:(mk[j]).2=l:=by
   rw[<-h.eq,List.getElem?_map,List.getElem?_eq_getElem hjm] at hj
   simpa using hj
  have hok:=h.ok _ (List.getElem_mem hjm)
  obtain⟨q,cq,e1⟩:=RF hok
  refine⟨q,cq, ?_, ?_⟩
  ·have hrow:=Al.of_bx hp k hk rfl
   refine⟨hrow.lt,fun m u hu=> ?_⟩
   have hm:m=0/\u=slv q l.length cq:=by
    cases m with
    |zero=>simp at hu;exact⟨rfl,hu.symm⟩
    |succ m=>simp at hu
   obtain⟨rfl,rfl⟩:=hm
   have:=hrow.get j (slv q l.length cq) (by
    show(AN mk++junk)[j]? =_
    rw[List.getElem?_append_left (by rw[AN,List.length_map];exact hjm),AN,List.getElem?_map,List.getElem?_eq_getElem hjm]
    simp only[Option.map_some]
    rw[e1,hl])
   rw[Nat.mul_one,Nat.zero_add,Nat.add_zero]
   rw[Nat.zero_add] at this
   exact this
  ·by_cases hl0:l=[]
   ·exact .inl hl0
   ·obtain⟨⟨⟨p2,cap2,junk2⟩,l2⟩,hmk⟩: ∃x:Vec×List Sd,mk[j]=x:=⟨_,rfl⟩
    have e2:l2=l:=by rw[hmk] at hl;exact hl
    subst e2
    rw[hmk] at hok e1
    cases p2 with
    |none=>exact absurd (List.length_eq_zero_iff.1 (hok.nil rfl)) hl0
    |some g2=>
     have e3:q=some ⟨g2,0,none⟩:=by
      have e1':Value.slice (some ⟨g2,0,none⟩) l2.length cap2=slv q l2.length cq:=e1
      injection e1' with e1' _ _
      exact e1'.symm
     refine .inr ⟨g2,0,e3, ?_⟩
     have hin:(g2,Obj.cells (cellsOf l2++junk2).toArray 79 (0,0))∈mk.reverse.flatMap fun p=>(p.1.bx 79 (cellsOf p.2)).blk:=by
      refine List.mem_flatMap.2 ⟨mk[j],List.mem_reverse.2 (List.getElem_mem hjm), ?_⟩
      rw[hmk]
      exact List.mem_cons_self ..
     have hrow:=Al.of_grp hp i hi hin
     refine H1.of_cells hrow.lt fun m u hu=>hrow.get m u ?_
     rw[List.getElem?_append_left (List.getElem?_eq_some_iff.1 hu).1]
     exact hu
theorem YO {W0 W:World} {bxs:List Bx} (hp:Hp W0 bxs W) (k:Nat) {g ty:Nat} {mk:GE} {junk:List Value} (hk:nth bxs k=some ⟨g,ty,AN mk++junk,true,none⟩) {r:Nat} {v:Value} (hv:(AN mk)[r]? =some v):Al W g (0+r*1) [v]:=by
 have h:=Al.of_bx hp k hk rfl
 refine⟨h.lt,fun m u hu=> ?_⟩
 have hm:m=0/\u=v:=by
  cases m with
  |zero=>simp at hu;exact⟨rfl,hu.symm⟩
  |succ m=>simp at hu
 obtain⟨rfl,rfl⟩:=hm
 have:=h.get r u (by show(AN mk++junk)[r]? =_;rw[List.getElem?_append_left (List.getElem?_eq_some_iff.1 hv).1];exact hv)
 rw[Nat.mul_one,Nat.zero_add,Nat.add_zero]
 rw[Nat.zero_add] at this
 exact this
end
section
open Go Go.RowKit Go.Am Go.Lib
set_option maxRecDepth 10000
section
variable {r:Option Nat} {n:Nat} {P:Program} {W0:World} {N:Nat} {D:List Deferred} {ops l:List Oper} {Q:Exit->Act->World->Prop} {env:Env} {bxs:List Bx}
theorem ZV (k i:Nat) {B C:Bx} (E:Bx) (hne:Nat.beq k i=false) (hk:nth bxs k=some B) (hi:nth bxs i=some C) (hE:E.blk=C.blk++B.blk) (h:WL r n P N D ops Q l env (Hp W0 ((bxs.set k E).set i CN))):WL r n P N D ops Q l env (Hp W0 bxs):= .mk fun a W ha hd hp=>
 h.out a W ha hd (hp.join (fun e=>by subst e;rw[show Nat.beq k k=true from Nat.beq_refl k] at hne;cases hne) (by rw[<-AT];exact hk) (by rw[<-AT];exact hi) hE)
end
theorem H0 (n:Nat) (W:World):Go.Am.Own n [CN,mkB []] W:=by
 have hb: ∀(k:Nat) (B:Bx),[CN,mkB []][k]? =some B->B.blk=[]:=fun k B h=>by
  cases k with
  |zero=>injection h with h;rw[<-h];rfl
  |succ k=>cases k with
   |zero=>injection h with h;rw[<-h];rfl
   |succ k=>cases h
 refine⟨fun k B h p hp=> ?_,fun k B h=> ?_,fun i j B C h _ _ p hp=> ?_⟩
 ·rw[hb k B h] at hp;cases hp
 ·rw[hb k B h];exact List.nodup_nil
 ·rw[hb i B h] at hp;cases hp
def D0 (s:List UInt8):List (List Sd)×Int:=match DP [] s with
 |none=>([],3)
 |some rs=>if chk rs=0 then(rs,0) else([],chk rs)
def KP (cur:Option (Vec×List Sd)):GE:=cur.toList
def eW (cur:Option (Vec×List Sd)):Bx:=match cur with
 |none=>CN
 |some (U,l)=>U.bx 79 (cellsOf l)
theorem UM (mk:GE) (cur:Option (Vec×List Sd)):(mkB (mk++KP cur)).blk=(eW cur).blk++(mkB mk).blk:=by
 cases cur with
 |none=>show(mkB (mk++[])).blk=[]++(mkB mk).blk;rw[List.append_nil];rfl
 |some p=>exact Yw mk p.1 p.2
abbrev rgs (mk:GE):List (List Sd):=mk.map (·.2)
theorem Gj (mk:GE):(AN mk).length=mk.length:=List.length_map ..
theorem F0 (mk:GE) (U:Vec) (l:List Sd):rgs (mk++[(U,l)])=rgs mk++[l]:=List.map_append
structure fJ (s0:List UInt8) (mk:GE) (cur:Option (Vec×List Sd)) (V:Vec) (s:List UInt8):Prop where
 ok:Fu (mk++KP cur) (rgs (mk++KP cur))
 row:V.OK 1 (mk++KP cur).length (AN (mk++KP cur))
 none:cur=none->mk=[]
 size:(mk++KP cur).length+tot (rgs (mk++KP cur))+s.length<=65536
 par:DP (rgs (mk++KP cur)) s=DP [] s0
theorem LJ (rs:List (List Sd)) (l:List Sd):tot (rs++[l])=tot rs+l.length:=by simp[tot]
theorem QZ (W:World) (s0:List UInt8) (hs0:s0.length<=65536) (hv:AQ W) (ht:AZ W):
  Ag Tryz.prog 88 #[str s0] W (fun x:Vec×GE=> .tuple #[.agg #[x.1.val (D0 s0).1.length], .int .i64 (D0 s0).2]) (fun x=>Fu x.2 (D0 s0).1/\x.1.OK 1 (D0 s0).1.length (AN x.2)) (fun x=>[x.1.bx 208 (AN x.2),mkB x.2]):=by
 have bad: ∀ {c:Int},D0 s0=([],c)-> ∃x:Vec×GE,Value.tuple #[.agg #[.slice none 0 0], .int .i64 c]=(fun x:Vec×GE=>Value.tuple #[.agg #[x.1.val (D0 s0).1.length], .int .i64 (D0 s0).2]) x/\(Fu x.2 (D0 s0).1/\x.1.OK 1 (D0 s0).1.length (AN x.2))/\[x.1.bx 208 (AN x.2),mkB x.2]=[CN,mkB []]:=fun {c} h=>by
  refine⟨(Vec.empty,[]), ?_,⟨?_, ?_⟩,I⟩
  ·simp only[h];rfl
  ·rw[h];exact⟨rfl,fun p hp=>by cases hp⟩
  ·rw[h];exact Vec.OK.empty 1
 refine Ab Tryz.func88 I I I<|xb<|wG I I fun _=>wP I<|zC<|?_
 rename_i b2
 have hsz: ∀l:List UInt8,(⟨l.toArray⟩:ByteArray).size=l.length:=fun l=>by show l.toArray.size=_;simp
 refine zE<|xd<|Ae I<|xa<|Av I (fun h=> ?_) (fun h=> ?_)
 ·have h':decide (((⟨s0.toArray⟩:ByteArray).size:Int)>65536)=true:=h
  rw[hsz,decide_eq_true_iff] at h'
  omega
 clear h
 refine zI<|xe<|wG I I fun _=>zC<|?_
 rename_i b4
 refine zE<|zA<|zH<|Be ?_
 refine Oz ?_
 refine Be ?_
 refine A6 (X:=GE×Option (Vec×List Sd)×Vec×List UInt8) (fun x=>[(0,str x.2.2.2),(2, .pointer (some ⟨b2,0,none⟩)),(3, .int .i64 0),(4, .pointer (some ⟨b4,0,none⟩))])
  (fun x=>[⟨b2,66,[.slice none 0 0],true,none⟩,⟨b4,66,[x.2.2.1.val (x.1++KP x.2.1).length],true,none⟩,x.2.2.1.bx 208 (AN (x.1++KP x.2.1)),mkB x.1,eW x.2.1])
  (fun x=>fJ s0 x.1 x.2.1 x.2.2.1 x.2.2.2) (fun x=>x.2.2.2.length) ([],none,Vec.empty,s0) ⟨⟨rfl,fun p hp=>by cases hp⟩,Vec.OK.empty 1,fun _=>rfl,by show 0+0+s0.length<=_;omega,rfl⟩ ⟨rfl,rfl,rfl,rfl,trivial⟩ [] rfl ?_
 rintro⟨mk,cur,V,s⟩ ⟨hok,hrow,hnone,hsize,hpar⟩
 simp only at hok hrow hnone hsize hpar
 refine xd<|Aa I<|xa<|Av I (fun h=> ?_) (fun h=> ?_)
 rotate_left
 ·have hs:s=[]:=by
   have h':(!((⟨s.toArray⟩:ByteArray).toList==(⟨#[]⟩:ByteArray).toList))=false:=h
   rw[AL,AL []] at h'
   simpa using h'
  subst hs
  rw[Uc] at hpar
  clear h
  obtain⟨full,hfull⟩: ∃full,full=mk++KP cur:=⟨_,rfl⟩
  have hjoin:=UM mk cur
  rw[<-hfull] at hok hrow hsize hpar hjoin⊢
  have hlen:(rgs full).length=full.length:=List.length_map ..
  rw[<-hlen] at hrow⊢
  obtain⟨q,cap,eq,fq⟩:=MI hok hrow
  rw[eq]
  refine xf<|zE<|xd<|ZV 3 4 (mkB full) I I I hjoin ?_
  refine wB 1 I I I<|wC I I (fun W hp=>ER W q cap (rgs full) (by omega) (by omega) (fq hp 2 3 I I))<|wP I<|xg<|Aa I<|xa<|Av I (fun hx=> ?_) (fun hx=> ?_)
  ·have hc:chk (rgs full)≠0:=by
    have h':(chk (rgs full) !=0)=true:=hx
    simpa using h'
   have hout:D0 s0=([],chk (rgs full)):=by unfold D0;rw[<-hpar];show(if _ then _ else _)=_;rw[if_neg hc]
   obtain⟨x,e1,e2,e3⟩:=bad hout
   refine xb<|Ak Tryz.hZ tH I I I I I I I I ?_
   exact wP I<|wS 0 I I I<|wP I<|xc<|zP<|An tH I (.cell 0 I I I I I) (.tmp I) x e1 e2 fun W1 hp=>by rw[e3];exact H0 _ _
  ·have hc:chk (rgs full)=0:=by
    have h':(chk (rgs full) !=0)=false:=hx
    simpa using h'
   have hout:D0 s0=(rgs full,0):=by unfold D0;rw[<-hpar];show(if _ then _ else _)=_;rw[if_pos hc]
   refine zI<|xe<|wB 1 I I I<|wS 0 I I I<|wP I<|xc<|An tH I (.cell 0 I I I I I) (.tmp I) (V,full) ?_ ?_ fun W1 hp=>(hp.pick [2,3] (by decide) I).own
   ·simp only[hout,eq];rfl
   ·simp only[hout];exact⟨hok,hrow⟩
 have hs:s≠[]:=by
  have h':(!((⟨s.toArray⟩:ByteArray).toList==(⟨#[]⟩:ByteArray).toList))=true:=h
  rw[AL,AL []] at h'
  simpa using h'
 clear h
 rcases E9 10 s with hm|⟨a,b,rfl,ha⟩
 ·have hout:D0 s0=([],3):=by unfold D0;rw[<-hpar,QW hm hs]
  obtain⟨x,e1,e2,e3⟩:=bad hout
  refine zI<|zE<|zH<|xb<|wP I<|wC I I (fun W hp=>(NK W s (by omega) (hv.hp hp)).cast (by rw[Hs hm]))<|Bb I<|wP I<|xa<|xd<|Aa I<|xa<|zR I<|?_
  refine xb<|Ak Tryz.hZ tH I I I I I I I I ?_
  exact wS 0 I I I<|wP I<|xc<|zP<|zQ<|zP<|zQ<|zP<|An tH I (.cell 0 I I I I I) (.tmp I) x e1 e2 fun W1 hp=>by rw[e3];exact H0 _ _
 rw[VP b ha] at hpar
 have hlab:(a++10::b).length=a.length+b.length+1:=by rw[List.length_append,List.length_cons];omega
 rw[hlab] at hsize
 refine zI<|zE<|zH<|xb<|wP I<|wC I I (fun W hp=>(NK W (a++10::b) (by rw[hlab];omega) (hv.hp hp)).cast (by rw[IT b ha]))<|Bb I<|wP I<|xa<|xd<|Aa I<|xa<|zS I<|?_
 refine zI<|xe<|Aa I<|xa<|xd<|Aa I<|xa<|Av I (fun hx=> ?_) (fun hx=> ?_)
 ·have hr:a=HI:=by
   have h':((⟨a.toArray⟩:ByteArray).toList==(⟨HI.toArray⟩:ByteArray).toList)=true:=hx
   rw[Km,decide_eq_true_iff] at h'
   exact h'
  rw[if_pos hr] at hpar
  obtain⟨full,hfull⟩: ∃full,full=mk++KP cur:=⟨_,rfl⟩
  have hjoin:=UM mk cur
  rw[<-hfull] at hok hrow hsize hpar hjoin⊢
  refine xb<|wP I<|wB 1 I I I<|?_
  (refine Ai Tryz.hZ tH rfl rfl rfl rfl rfl rfl rfl rfl rfl rfl rfl ?_;intro)
  rename_i b32
  refine AA (V:=V) (len:=full.length) (xs:=AN full) 2 5 Tryz.vec64 (full++[(Vec.empty,[])]).length (AN (full++[(Vec.empty,[])])) I I I I I I I I I I I hrow I I (by rw[List.length_append];rfl) (by rw[FU];rfl) (by rw[List.length_append,List.length_singleton];simp only[maxLen];omega) (by rw[List.length_append,List.length_singleton];omega) I ?_
  intro g c1 j1 hV1
  refine wP I<|wS 1 I I I<|zC<|UV 3 4 (mkB full) I I I hjoin ?_
  refine zE<|zJ<|zK<|zL<|?_
  refine Ax (full,some (Vec.empty,[]),⟨some g,c1,j1⟩,b) ⟨?_,hV1,fun h=>(by cases h), ?_, ?_⟩ (by show b.length<(a++10::b).length;omega) ⟨rfl,rfl,rfl,rfl,trivial⟩ [_] rfl
  ·show Fu (full++[(Vec.empty,[])]) (rgs (full++[(Vec.empty,[])]))
   rw[F0];exact hok.snoc (Vec.OK.empty 7)
  ·show(full++[(Vec.empty,[])]).length+tot (rgs (full++[(Vec.empty,[])]))+b.length<=65536
   rw[F0,LJ,List.length_append,List.length_singleton,List.length_nil];omega
  ·show DP (rgs (full++[(Vec.empty,[])])) b=_
   rw[F0];exact hpar
 have hr:a≠HI:=by
  have h':((⟨a.toArray⟩:ByteArray).toList==(⟨HI.toArray⟩:ByteArray).toList)=false:=hx
  rw[Km,decide_eq_false_iff_not] at h'
  exact h'
 clear hx
 rw[if_neg hr] at hpar
 refine zI<|xe<|wP I<|wD (X:=Sd×Bool) I I (fun W hp=>Ui W a (by omega) (hv.hp hp) (ht.hp hp)) ?_
 rintro⟨sx,okb⟩ hside
 refine Ae I<|wG I I fun _=>wS 5 I I I<|wP I<|zC<|?_
 rename_i b8
 rcases hside with⟨sy,hx,e⟩|⟨hx,e⟩
 rotate_left
 ·change okb=false at e
  subst e
  rw[hx] at hpar
  have hout:D0 s0=([],3):=by unfold D0;rw[<-hpar]
  obtain⟨x,e1,e2,e3⟩:=bad hout
  refine zE<|xd<|Ae I<|?_
  iterate 4 refine Ac I I ?_
  refine wP I<|xa<|zR I<|xb<|Ak Tryz.hZ tH I I I I I I I I ?_
  exact wS 0 I I I<|wP I<|xc<|zP<|zQ<|zP<|zQ<|zP<|An tH I (.cell 0 I I I I I) (.tmp I) x e1 e2 fun W1 hp=>by rw[e3];exact H0 _ _
 injection e with e4 e5
 subst e4 e5
 rw[hx] at hpar
 cases cur with
 |none=>
  have hmk:=hnone rfl
  subst hmk
  have hout:D0 s0=([],3):=by unfold D0;rw[<-hpar];rfl
  obtain⟨x,e1,e2,e3⟩:=bad hout
  obtain⟨pv,cv,jv⟩:=V
  cases pv with
  |none=>
   refine zE<|xd<|A3 I<|wB 1 I I I<|Aa I<|Ao 46 (.bool true) I I<|wP I<|xa<|zR I<|xb<|Ak Tryz.hZ tH I I I I I I I I ?_
   exact wS 0 I I I<|wP I<|xc<|zP<|zQ<|zP<|zQ<|zP<|An tH I (.cell 0 I I I I I) (.tmp I) x e1 e2 fun W1 hp=>by rw[e3];exact H0 _ _
  |some g=>
   refine zE<|xd<|A3 I<|wB 1 I I I<|Aa I<|Ao 46 (.bool true) I I<|wP I<|xa<|zR I<|xb<|Ak Tryz.hZ tH I I I I I I I I ?_
   exact wS 0 I I I<|wP I<|xc<|zP<|zQ<|zP<|zQ<|zP<|An tH I (.cell 0 I I I I I) (.tmp I) x e1 e2 fun W1 hp=>by rw[e3];exact H0 _ _
 |some p=>
 obtain⟨U,l⟩:=p
 change Fu (mk++[(U,l)]) (rgs (mk++[(U,l)])) at hok
 change V.OK 1 (mk++[(U,l)]).length (AN (mk++[(U,l)])) at hrow
 change (mk++[(U,l)]).length+tot (rgs (mk++[(U,l)]))+(a.length+b.length+1)<=65536 at hsize
 change (if rgs (mk++[(U,l)])=[] then none else DP ((rgs (mk++[(U,l)])).dropLast++[(rgs (mk++[(U,l)])).getLastD []++[sx]]) b)=DP [] s0 at hpar
 rw[F0,if_neg (by simp),List.dropLast_concat] at hpar
 have hlast:(rgs mk++[l]).getLastD []=l:=by simp
 rw[hlast] at hpar
 have hnl:(mk++[(U,l)]).length=mk.length+1:=by rw[List.length_append];rfl
 rw[F0,LJ] at hsize
 have hUok:U.OK 7 l.length (cellsOf l):=hok.ok (U,l) (List.mem_append_right _ (List.mem_singleton.2 rfl))
 obtain⟨pv,cv,jv⟩:=V
 cases pv with
 |none=>have:=hrow.nil rfl;omega
 |some g=>
 refine zE<|xd<|A3 I<|wB 1 I I I<|Aa I<|wU 46 false I (show((((mk++[(U,l)]).length:Nat):Int)==0)=false by rw[beq_eq_false_iff_ne];omega)<|wP I<|xa<|zS I<|zI<|xe<|wP I<|wB 1 I I I<|Aa I<|?_
 refine wV 52 (mk.length:Nat) I (show w64 ((((mk++[(U,l)]).length:Nat):Int)-1)=(mk.length:Nat) by rw[AC (by omega) (by omega)];omega)<|wP I<|zC<|?_
 have hrc:AN (mk++[(U,l)])=AN mk++[U.val l.length]:=FU mk U l
 have hval:(AN (mk++[(U,l)]))[mk.length]? =some (U.val l.length):=by rw[hrc,List.getElem?_append_right (by rw[Gj];exact Nat.le_refl _),Gj,Nat.sub_self];rfl
 have hfit:=(hrow.cap (by simp)).2.2
 simp only at hfit
 have hl1:(l++[sx]).length=l.length+1:=by rw[List.length_append];rfl
 have hcl:cellsOf (l++[sx])=cellsOf l++sx.cells:=by rw[HF];simp[cellsOf]
 refine zE ?_
 repeat refine EX ?_
 refine Bh (X:= { x:Nat×Nat×List Value//(⟨some x.1,x.2.1,x.2.2⟩:Vec).OK 7 (l++[sx]).length (cellsOf (l++[sx])) }) [true,true,true,true,true,true,true,true,true,false,false,false,false] (fun _=>[(0,str b),(2, .pointer (some ⟨b2,0,none⟩)),(3, .int .i64 0),(4, .pointer (some ⟨b4,0,none⟩))])
  (fun x=>[⟨b2,66,[.slice none 0 0],true,none⟩,⟨b4,66,[.slice (some ⟨g,0,none⟩) (mk++[(U,l)]).length cv],true,none⟩,⟨g,208,AN (mk++[((⟨some x.1.1,x.1.2.1,x.1.2.2⟩:Vec),l++[sx])])++jv,true,none⟩,mkB mk,⟨x.1.1,79,cellsOf (l++[sx])++x.1.2.2,true,none⟩])
  4 [⟨b2,66,[.slice none 0 0],true,none⟩,⟨b4,66,[.slice (some ⟨g,0,none⟩) (mk++[(U,l)]).length cv],true,none⟩,⟨g,208,AN (mk++[(U,l)])++jv,true,none⟩,mkB mk,CN,⟨b8,79,sx.cells,true,none⟩] Tryz.mixed (by kernel_rfl) ?_ ?_
 ·refine qP I<|qB 1 I I I<|AO I<|qB 1 I I I<|qP I<|qJ ?_
  refine qL 0 I I (fun W1 hp=>YO hp 2 I hval) I<|qB 5 I I I<|Cp<|wX<|wZ<|?_
  (refine Ai Tryz.hZ tH rfl rfl rfl rfl rfl rfl rfl rfl rfl rfl rfl ?_;intro)
  refine zC<|Aw<|wX<|wZ<|?_
  refine AA (V:=U) (len:=l.length) (xs:=cellsOf l) 4 6 Tryz.vec208 (l++[sx]).length (cellsOf (l++[sx])) rfl rfl rfl rfl rfl rfl rfl rfl rfl rfl rfl hUok rfl rfl hl1.symm (by rw[hcl];rfl) (by rw[hl1];simp only[maxLen];omega) (by rw[hl1];omega) rfl ?_;intro gU cU jU hU'
  refine zC<|Aw<|wX<|wZ<|wJ ?_
  refine zC<|Aw<|wX<|wZ<|?_
  refine BT 2 (AN (mk++[((⟨some gU,cU,jU⟩:Vec),l++[sx])])++jv) tH I I I I I I I I I I (by show 0+mk.length*1+1<=(AN (mk++[(U,l)])++jv).length;rw[List.length_append,Gj];omega) (by show BD (AN (mk++[(U,l)])++jv) (0+mk.length*1) [.slice (some ⟨gU,0,none⟩) (l++[sx]).length cU]=_;rw[hrc,FU,List.append_assoc,List.append_assoc,Nat.zero_add,Nat.mul_one, <-Gj mk];exact To (AN mk) [U.val l.length] jv [(⟨some gU,cU,jU⟩:Vec).val (l++[sx]).length] I) ?_
  refine zC<|Aw<|Cq I (by kernel_rfl) ?_
  exact AR ⟨(gU,cU,jU),hU'⟩ ⟨I,I,I,I,tO⟩ [0,1,2,3,4] (by decide) I
 rintro⟨⟨gU,cU,jU⟩,hU'⟩
 change (⟨some gU,cU,jU⟩:Vec).OK 7 (l++[sx]).length (cellsOf (l++[sx])) at hU'
 refine zN ?_
 have hnl2:(mk++[((⟨some gU,cU,jU⟩:Vec),l++[sx])]).length=(mk++[(U,l)]).length:=by rw[List.length_append,List.length_append];rfl
 refine Ax (mk,some (⟨some gU,cU,jU⟩,l++[sx]),⟨some g,cv,jv⟩,b) ⟨?_, ?_,fun h=>(by cases h), ?_, ?_⟩ (by show b.length<(a++10::b).length;omega) ⟨rfl,rfl,rfl,rfl,trivial⟩ [] ?_
 ·show Fu (mk++[((⟨some gU,cU,jU⟩:Vec),l++[sx])]) (rgs (mk++[((⟨some gU,cU,jU⟩:Vec),l++[sx])]))
  refine⟨I,fun p hp=> ?_⟩
  rcases List.mem_append.1 hp with hp|hp
  ·exact hok.ok p (List.mem_append_left _ hp)
  ·obtain rfl:=List.mem_singleton.1 hp;exact hU'
 ·show(⟨some g,cv,jv⟩:Vec).OK 1 (mk++[((⟨some gU,cU,jU⟩:Vec),l++[sx])]).length (AN (mk++[((⟨some gU,cU,jU⟩:Vec),l++[sx])]))
  have hr1:=Gj (mk++[((⟨some gU,cU,jU⟩:Vec),l++[sx])])
  have hr2:=Gj (mk++[(U,l)])
  have hcp:=hrow.cap (by simp)
  refine⟨by rw[hr1,Nat.mul_one],fun h=>(by cases h),fun _=>⟨by rw[hnl2];exact hcp.1,hcp.2.1,by rw[hr1,hnl2, <-hr2];exact hcp.2.2⟩⟩
 ·show(mk++[((⟨some gU,cU,jU⟩:Vec),l++[sx])]).length+tot (rgs (mk++[((⟨some gU,cU,jU⟩:Vec),l++[sx])]))+b.length<=65536
  rw[F0,LJ,hnl2,hl1];omega
 ·show DP (rgs (mk++[((⟨some gU,cU,jU⟩:Vec),l++[sx])])) b=_
  rw[F0];exact hpar
 ·show _=[_,(⟨b4,66,[.slice (some ⟨g,0,none⟩) (mk++[((⟨some gU,cU,jU⟩:Vec),l++[sx])]).length cv],true,none⟩:Bx),_,_,_]++[]
  rw[hnl2];rfl
abbrev MkB:=List (BrS×Vec)
def mbC (mk:MkB):List Value:=mk.flatMap fun p=>KK p.1 p.2
def mbB (mk:MkB):Bx:=Ad (mk.reverse.flatMap fun p=>(p.2.bx 177 (p.1.g.flatMap gpC)).blk)
structure Nh (mk:MkB) (l:List BrS):Prop where
 eq:mk.map (·.1)=l
 ok: ∀p∈mk,p.2.OK 2 p.1.g.length (p.1.g.flatMap gpC)
theorem XQ (mk:MkB) (b:BrS) (V:Vec):(mbB (mk++[(b,V)])).blk=(V.bx 177 (b.g.flatMap gpC)).blk++(mbB mk).blk:=by
 show((mk++[(b,V)]).reverse.flatMap _)=_++(mk.reverse.flatMap _)
 rw[List.reverse_append]
 simp
theorem Yr (mk:MkB) (b:BrS) (V:Vec):mbC (mk++[(b,V)])=mbC mk++KK b V:=by simp[mbC]
theorem Nh.snoc {mk:MkB} {l:List BrS} {b:BrS} {V:Vec} (h:Nh mk l) (hV:V.OK 2 b.g.length (b.g.flatMap gpC)):Nh (mk++[(b,V)]) (l++[b]):=by
 refine⟨by rw[List.map_append,h.eq];rfl,fun p hp=> ?_⟩
 rcases List.mem_append.1 hp with hp|hp
 ·exact h.ok p hp
 ·obtain rfl:=List.mem_singleton.1 hp;exact hV
theorem Nh.len {mk:MkB} {l:List BrS} (h:Nh mk l):mk.length=l.length:=by rw[<-h.eq,List.length_map]
theorem UN {mk:MkB} {l:List BrS} (h:Nh mk l) {V:Vec} (hV:V.OK 6 l.length (mbC mk)) {W0 W:World} {bxs:List Bx} (hp:Hp W0 bxs W) (k i:Nat) (hk:nth bxs k=some (V.bx 87 (mbC mk))) (hi:nth bxs i=some (mbB mk)):Hg W (AU V) l:=by
 obtain⟨p,cap,junk⟩:=V
 cases p with
 |none=>exact .inl (List.length_eq_zero_iff.1 (hV.nil rfl))
 |some g=>
  refine .inr ⟨g,0,I,fun j hj=> ?_⟩
  have hjm:j<mk.length:=by rw[h.len];exact hj
  have hl:(mk[j]).1=l[j]:=by
   have e:(mk.map (·.1))[j]? =l[j]? :=by rw[h.eq]
   rw[List.getElem?_map,List.getElem?_eq_getElem hjm,List.getElem?_eq_getElem hj] at e
   simpa using e
  have hrow:AB 6 (fun p:BrS×Vec=>KK p.1 p.2) W (some ⟨g,0,none⟩) mk:=AB.of_row (fun _=>rfl) (Al.of_bx hp k hk rfl)
  obtain⟨b,off,e0,hr⟩:=hrow.row hjm
  injection e0 with e0
  injection e0 with e1 e2 _
  subst e1 e2
  have hok:=h.ok _ (List.getElem_mem hjm)
  have hrj:=hr j hjm
  obtain⟨⟨b,V2⟩,hmk⟩: ∃x:BrS×Vec,mk[j]=x:=⟨_,rfl⟩
  rw[hmk] at hl hok hrj
  have hl:b=l[j]:=hl
  subst hl
  refine⟨AU V2,Bd V2,hrj, ?_⟩
  obtain⟨p2,cap2,junk2⟩:=V2
  cases p2 with
  |none=>exact .inl (List.length_eq_zero_iff.1 (hok.nil rfl))
  |some g2=>
   have hin:(g2,Obj.cells ((l[j]).g.flatMap gpC++junk2).toArray 177 (0,0))∈mk.reverse.flatMap fun p=>(p.2.bx 177 (p.1.g.flatMap gpC)).blk:=by
    refine List.mem_flatMap.2 ⟨mk[j],List.mem_reverse.2 (List.getElem_mem hjm), ?_⟩
    rw[hmk]
    exact List.mem_cons_self ..
   exact AB.of_row UR (Al.of_grp hp i hi hin)
theorem NF (s:List UInt8):(AI 32 s).length<=s.length+1:=by
 induction s with
 |nil=>exact Nat.le_refl _
 |cons a r ih=>
  unfold AI
  split
  ·rw[List.length_cons,List.length_cons];omega
  ·rw[List.length_cons,List.length_tail,List.length_cons];omega
theorem N8: ∀ {ws:List (List UInt8)} {acc gs:List (Int×Int)},I3 acc ws=some gs->gs.length=acc.length+ws.length
 |[],acc,gs,h=>by injection h with h;rw[h];rfl
 |w::r,acc,gs,h=>by
  have h':(match Wu w with
   |none=>none
   |some x=>I3 (acc++[x]) r)=some gs:=h
  cases hw:Wu w with
  |none=>rw[hw] at h';cases h'
  |some x=>
   rw[hw] at h'
   have:=N8 h'
   rw[List.length_append,List.length_singleton] at this
   rw[List.length_cons];omega
theorem YB {s:List UInt8} {b:BrS} (h:barP s=some b):b.g.length<=s.length+1:=by
 by_cases hc:WP (AI 32 s)
 ·rw[Q3 rfl hc] at h
  cases hg:I3 [] ((AI 32 s).drop 5) with
  |none=>rw[hg] at h;cases h
  |some gs=>
   rw[hg] at h
   injection h with h
   have h1:=N8 hg
   rw[List.length_nil,List.length_drop] at h1
   have h2:=NF s
   rw[<-h]
   show gs.length<=_
   omega
 ·rw[L7 rfl hc] at h;cases h
noncomputable def outBr (s:List UInt8):List BrS×Int:=if 65536<s.length then([],4) else match Dx barP [] s with
 |none=>([],3)
 |some l=>if Cz l=0 then(l,0) else([],Cz l)
theorem Ic (n:Nat) (W:World):Go.Am.Own n [CN,mbB []] W:=by
 have hb: ∀(k:Nat) (B:Bx),[CN,mbB []][k]? =some B->B.blk=[]:=fun k B h=>by
  cases k with
  |zero=>injection h with h;rw[<-h];rfl
  |succ k=>cases k with
   |zero=>injection h with h;rw[<-h];rfl
   |succ k=>cases h
 refine⟨fun k B h p hp=> ?_,fun k B h=> ?_,fun i j B C h _ _ p hp=> ?_⟩
 ·rw[hb k B h] at hp;cases hp
 ·rw[hb k B h];exact List.nodup_nil
 ·rw[hb i B h] at hp;cases hp
theorem Jc (s0:List UInt8) (hs0:s0.length<=1000000) (W:World) (hv:AQ W) (ht:AZ W):
  Ag Tryz.prog 68 #[str s0] W (fun x:Vec×MkB=> .tuple #[x.1.val (outBr s0).1.length, .int .i64 (outBr s0).2]) (fun x=>Nh x.2 (outBr s0).1/\x.1.OK 6 (outBr s0).1.length (mbC x.2)/\ ∀b∈(outBr s0).1,b.g.length<=1000000) (fun x=>[x.1.bx 87 (mbC x.2),mbB x.2]):=by
 have fine: ∀ {c:Int},outBr s0=([],c)->Nh ([]:MkB) (outBr s0).1/\Vec.empty.OK 6 (outBr s0).1.length (mbC [])/\ ∀b∈(outBr s0).1,b.g.length<=1000000:=fun {c} h=>by
  rw[h]
  exact⟨⟨rfl,fun p hp=>by cases hp⟩,Vec.OK.empty 6,fun b hb=>by cases hb⟩
 refine Ab Tryz.func68 I I I<|xb<|Aa I<|xa<|xd<|Aa I<|Ao 12 (.int .i64 (s0.length:Nat)) I (congrArg (fun n:Nat=>Value.int .i64 (n:Int)) (A5 s0))<|wP I<|?_
 by_cases h4:65536<s0.length
 ·have hout:outBr s0=([],4):=by unfold outBr;rw[if_pos h4]
  exact wU 13 true I (dT (by omega))<|xa<|zR I<|xb<|Aa I<|xc<|zP<|An tH I (.tmp I) (.tmp I) (Vec.empty,[]) (by rw[hout];rfl) (fine hout) fun W1 hp=>Ic _ _
 refine wU 13 false I (dF (by omega))<|xa<|zS I<|zI<|xe<|?_
 have hO:outBr s0=match Dx barP [] s0 with
   |none=>([],3)
   |some l=>if Cz l=0 then(l,0) else([],Cz l):=by unfold outBr;rw[if_neg h4]
 refine wP I<|xa<|zA<|zH<|Be ?_
 refine Oz ?_
 refine A6 (X:=List BrS×Vec×MkB×List UInt8) (fun x=>[(0,str x.2.2.2),(2, .slice none 0 0),(3, .int .i64 0),(4,x.2.1.val x.1.length)]) (fun x=>[x.2.1.bx 87 (mbC x.2.2.1),mbB x.2.2.1])
  (fun x=>x.2.1.OK 6 x.1.length (mbC x.2.2.1)/\Nh x.2.2.1 x.1/\Dx barP x.1 x.2.2.2=Dx barP [] s0/\x.1.length+x.2.2.2.length<=s0.length/\ ∀b∈x.1,b.g.length<=1000000) (fun x=>x.2.2.2.length) ([],Vec.empty,[],s0) ⟨Vec.OK.empty 6,⟨rfl,fun p hp=>by cases hp⟩,rfl,by show 0+s0.length<=_;omega,fun b hb=>by cases hb⟩ ⟨rfl,rfl,rfl,rfl,trivial⟩ [] rfl ?_
 rintro⟨acc,V,mk,s⟩ ⟨hV,hM,hE,hz,hgl⟩
 simp only at hV hM hE hz hgl
 refine xd<|Aa I<|?_
 by_cases hs:s=[]
 ·subst hs
  rw[M5] at hE
  rw[<-hE] at hO
  refine wU 15 false I ((Ig []).trans (by decide))<|xa<|zS I<|xf<|zE<|xd<|?_
  rw[show V.val acc.length=slv (AU V) acc.length (Bd V) from Bs hV]
  refine wP I<|wC I I (fun W1 hp=>GO acc (AU V) (Bd V) (by omega) hgl W1 (UN hM hV hp 0 1 I I))<|wP I<|xg<|Aa I<|?_
  by_cases hc:Cz acc=0
  ·have hout:outBr s0=(acc,0):=by rw[hO];show(if _ then _ else _)=_;rw[if_pos hc]
   exact wU 41 false I (bne_eq_false_iff_eq.2 hc)<|xa<|zS I<|zI<|xe<|Ae I<|xc<|An tH I (.tmp I) (.tmp I) (V,mk) (by rw[hout,Bs hV]) (by rw[hout];exact⟨hM,hV,hgl⟩) fun W1 hp=>hp.own
  ·have hout:outBr s0=([],Cz acc):=by rw[hO];show(if _ then _ else _)=_;rw[if_neg hc]
   exact wU 41 true I (bne_iff_ne.2 hc)<|xa<|zR I<|xb<|Ae I<|xc<|zP<|An tH I (.tmp I) (.tmp I) (Vec.empty,[]) (by rw[hout];rfl) (fine hout) fun W1 hp=>Ic _ _
 refine wU 15 true I ((Ig s).trans (dT hs))<|xa<|zR I<|zI<|zE<|zH<|xb<|?_
 rcases E9 10 s with hm|⟨a,b,rfl,ha⟩
 ·have hout:outBr s0=([],3):=by rw[hO, <-hE,K0 hm hs]
  refine wP I<|wC I I (fun W hp=>(C5 W s [10] (by omega) (hv.hp hp)).cast (by rw[Hs hm]))<|Bb I<|wP I<|xg<|wP I<|wD (X:=BrS×Bool×Vec) I I (fun W1 hp=>M2 s (by omega) W1 (hv.hp hp) (ht.hp hp)) ?_
  rintro⟨x,ok,Vx⟩ _
  refine Ae I<|wG I I fun _=>wS 3 I I I<|wP I<|xa<|xd<|Ae I<|?_
  iterate 2 refine Ac I I ?_
  exact wP I<|xa<|zR I<|xb<|Aa I<|xc<|zP<|zQ<|zP<|zQ<|zP<|An tH I (.tmp I) (.tmp I) (Vec.empty,[]) (by rw[hout];rfl) (fine hout) fun W1 hp=>Ic _ _
 rw[N5 b ha] at hE
 have hlab:(a++10::b).length=a.length+b.length+1:=by rw[List.length_append,List.length_cons];omega
 rw[hlab] at hz
 refine wP I<|wC I I (fun W hp=>(C5 W (a++10::b) [10] (by rw[hlab];omega) (hv.hp hp)).cast (by rw[IT b ha]))<|Bb I<|wP I<|xg<|wP I<|wD (X:=BrS×Bool×Vec) I I (fun W1 hp=>M2 a (by omega) W1 (hv.hp hp) (ht.hp hp)) ?_
 rintro⟨x,ok,Vx⟩ ⟨hVx,hx⟩
 simp only at hVx hx
 refine Ae I<|wG I I fun _=>wS 3 I I I<|wP I<|zC<|?_
 rename_i b8
 rcases hx with⟨hy,hok⟩|⟨hno,hok⟩
 rotate_left
 ·subst hok
  have hout:outBr s0=([],3):=by rw[hO, <-hE,hno]
  refine zE<|xd<|Bb I<|xa<|zR I<|xb<|Aa I<|xc<|zP<|zQ<|zP<|zQ<|?_
  exact zP<|An tH I (.tmp I) (.tmp I) (Vec.empty,[]) (by rw[hout];rfl) (fine hout) fun W1 hp=>Ic _ _
 subst hok
 rw[hy] at hE
 have hxg:=YB hy
 refine zE<|xd<|Bb I<|xa<|zS I<|zI<|zE<|zB<|wP I<|wB 3 I I I<|?_
 (refine Ai Tryz.hZ tH rfl rfl rfl rfl rfl rfl rfl rfl rfl rfl rfl ?_;intro)
 refine AA (V:=V) (len:=acc.length) (xs:=mbC mk) 0 4 Tryz.vec69 (acc++[x]).length (mbC (mk++[(x,Vx)])) I I I I I I I I I I I hV I I (by rw[List.length_append];rfl) (by rw[Yr];rfl) (by rw[List.length_append,List.length_singleton];simp only[maxLen];omega) (by rw[List.length_append,List.length_singleton];omega) I ?_
 intro g c1 j1 hV1
 refine Ae I<|zC<|UV 1 2 (mbB (mk++[(x,Vx)])) I I I (XQ mk x Vx) ?_
 refine zN ?_
 exact Ax (acc++[x],⟨some g,c1,j1⟩,mk++[(x,Vx)],b) ⟨hV1,hM.snoc hVx,hE,by show(acc++[x]).length+b.length<=_;rw[List.length_append,List.length_singleton];omega,fun y hy=>by
  rcases List.mem_append.1 hy with hy|hy
  ·exact hgl y hy
  ·obtain rfl:=List.mem_singleton.1 hy;omega⟩ (by show b.length<(a++10::b).length;omega) ⟨rfl,rfl,rfl,rfl,trivial⟩ [_,_,_] rfl
theorem Dt (p q:Rat) (h:Sz2 p q) (W:World) (hv:DM W) (ht:AZ W):
  Ag Tryz.prog 279 #[str (B4 p),str (B4 q)] W (fun _:Unit=> .int .i64 (PN p q)) (fun _=>True) (fun _=>[]):=by
 refine Ab Tryz.func279 I I I<|xb<|wP I<|xg<|Aa I<|wC I I (fun W hp=>(Mx p q h W (hv.hp hp) (ht.hp hp)).cast (by rw[cI]))<|A8 I<|xg<|Aa I<|xa<|?_
 exact zO<|wR1 I I I
def ner:List (List UInt8)->Int
 |[]=>0
 |a::l=>if (rdR a).2=0 then ner l else(rdR a).2
theorem Xm {l:List (List UInt8)} {i:Nat} (h:i<l.length):ner (l.drop i)=if (rdR l[i]).2=0 then ner (l.drop (i+1)) else(rdR l[i]).2:=by
 rw[List.drop_eq_getElem_cons h];rfl
theorem Mq: ∀ {l:List (List UInt8)},ner l=0-> ∀a∈l,(rdR a).2=0
 |[],_,_,h=>by cases h
 |b::l,h,a,ha=>by
  unfold ner at h
  by_cases hb:(rdR b).2=0
  ·rw[if_pos hb] at h
   rcases List.mem_cons.1 ha with rfl|ha
   ·exact hb
   ·exact Mq h a ha
  ·rw[if_neg hb] at h
   exact absurd h hb
def rdQ (a:List UInt8):Rat:=match frm a with
 |some (z,d)=>nrm z d
 |none=>0
theorem DD (q:Rat):rdQ (B4 q)=q:=by
 have hd:=q.den_pos
 unfold rdQ B4
 rw[Ji q.num q.den_pos]
 show nrm q.num q.den=q
 rw[ZZ _ (by omega)]
 exact Rat.num_divInt_den q
def FL (q:Rat):Bool:= !(decide (q.num.natAbs<10^12)&&decide (q.den<10^12))
theorem Y1 {q:Rat} (h:FL q=false):szQ q 12:=by
 unfold FL at h
 rw[Bool.not_eq_false',Bool.and_eq_true] at h
 exact⟨of_decide_eq_true h.1,of_decide_eq_true h.2⟩
theorem S3 {q:Rat} (h:szQ q 12):FL q=false:=by
 unfold FL
 rw[dT h.1,dT h.2];rfl
theorem YM (u:Nat):(decDigits u).length<=12↔u<10^12:=⟨fun h=>Nat.lt_of_lt_of_le (Sa u) (Nat.pow_le_pow_right (by decide) h),fun h=>Fa 12 u (by decide) h⟩
theorem RO (q:Rat) (hk:okQ q) (W:World) (hv:DM W) (ht:AZ W):
  Ag Tryz.prog 303 #[str (B4 q)] W (fun _:Unit=> .int .i64 (if FL q=true then 4 else 0)) (fun _=>True) (fun _=>[]):=by
 refine Ab Tryz.func303 I I I<|xb<|wP I<|xg<|wP I<|wC I I (fun W hp=>J7 q hk W (hv.hp hp) (ht.hp hp))<|Bb I<|wP I<|xa<|xd<|Aa I<|?_
 refine xa<|zS I<|zI<|zE<|xd<|wP I<|wC I I (fun W _=>(CE (itoa q.num) [45] W).cast (by rw[Ce]))<|wP I<|Ao 17 (.int .i64 ((decDigits q.num.natAbs).length:Nat)) I (congrArg (fun n:Nat=>Value.int .i64 (n:Int)) (A5 _))<|wP I<|?_
 by_cases h1:q.num.natAbs<10^12
 rotate_left
 ·have hb:FL q=true:=by unfold FL;rw[dF h1];rfl
  refine wU 18 true I (dT (by have:=mt (YM _).1 h1;omega))<|wP I<|?_
  iterate 3 refine Ac I I ?_
  exact wP I<|xa<|zR I<|xb<|wP I<|xc<|zP<|wR1 I I (by rw[if_pos hb])
 refine wU 18 false I (dF (by have:=(YM _).2 h1;omega))<|Ae I<|Ao 21 (.int .i64 ((decDigits q.den).length:Nat)) I (congrArg (fun n:Nat=>Value.int .i64 (n:Int)) ((A5 _).trans (by rw[Y2])))<|wP I<|?_
 by_cases h2:q.den<10^12
 rotate_left
 ·have hb:FL q=true:=by unfold FL;rw[dF h2,Bool.and_false];rfl
  exact wU 22 true I (dT (by have:=mt (YM _).1 h2;omega))<|wP I<|xa<|zR I<|xb<|wP I<|xc<|zP<|wR1 I I (by rw[if_pos hb])
 have hb:FL q=false:=S3 ⟨h1,h2⟩
 exact wU 22 false I (dF (by have:=(YM _).2 h2;omega))<|wP I<|xa<|zS I<|zI<|xe<|wP I<|xc<|wR1 I I (by rw[hb];rfl)
def Kk (a:List UInt8):Bool:=FL (rdQ a)
def nrs (l:List (List UInt8)):Int:=if ner l≠0 then ner l else if l.any Kk then 4 else 0
theorem Of {α:Type} {p:α->Bool} {l:List α} {i:Nat} (hi:i<l.length):(l.drop i).any p=(p l[i]||(l.drop (i+1)).any p):=by
 rw[List.drop_eq_getElem_cons hi,List.any_cons]
theorem Xi {l:List (List UInt8)} (h:nrs l=0): ∀a∈l, ∃q,a=B4 q/\okQ q/\szQ q 12:=by
 intro a ha
 unfold nrs at h
 by_cases h1:ner l=0
 rotate_left
 ·rw[if_pos h1] at h;exact absurd h h1
 rw[if_neg (fun h=>h h1)] at h
 obtain⟨q,hq,rfl⟩:=Gq (Mq h1 a ha)
 refine⟨q,I,hq,Y1 ?_⟩
 cases hb:FL q with
 |false=>rfl
 |true=>
  have:l.any Kk=true:=List.any_eq_true.2 ⟨_,ha,by unfold Kk;rw[DD];exact hb⟩
  rw[if_pos this] at h
  cases h
theorem OQ (W:World) (p:Option Addr) (cap:Nat) (l:List (List UInt8)) (hA:Yu W p l) (hn:l.length<=100000) (hs: ∀a∈l,a.length<=4000000) (hv:DM W) (ht:AZ W):
  Ag Tryz.prog 278 #[slv p l.length cap] W (fun _:Unit=> .int .i64 (nrs l)) (fun _=>True) (fun _=>[]):=by
 refine Ab Tryz.func278 I I I<|xb<|wP I<|xa<|xd<|Ae I<|xa<|zH<|A6 (X:=Nat) (fun i=>[(0,slv p l.length cap),(2, .int .i64 0),(9,slv p l.length cap),(10, .int .i64 (l.length:Nat)),(11, .int .i64 (i:Nat))]) (fun _=>[]) (fun i=>i<=l.length/\ner l=ner (l.drop i)) (fun i=>l.length-i) 0 ⟨Nat.zero_le _,I⟩ ⟨I,I,I,I,I,tO⟩ [] I ?_
 rintro i ⟨hi,he⟩
 have hi:i<=l.length:=hi
 have he:ner l=ner (l.drop i):=he
 refine xb<|wP I<|?_
 by_cases hlt:i<l.length
 ·refine wU 12 true I (dT (by omega))<|xa<|zA<|zR I<|xh<|?_
  obtain⟨b,off,rfl,hrow⟩:=hA.row hlt
  have hr:=hrow i hlt
  have hz:=hs l[i] (List.getElem_mem _)
  rw[Xm hlt] at he
  obtain⟨x,hx⟩: ∃x,x=l[i]:=⟨_,rfl⟩
  rw[<-hx] at hr hz he
  refine wJ ?_
  refine wL 0 I I (fun W1 hp=>hr.hp hp) I<|wP I<|xg<|wP I<|wC I I (fun W1 hp=>GX x (by omega) W1 (hv.hp hp) (ht.hp hp))<|wP I<|xg<|Aa I<|?_
  by_cases h1:(rdR x).2=0
  rotate_left
  ·refine wU 18 true I (bne_iff_ne.2 h1)<|xa<|zR I<|xb<|Aa I<|xc<|xi<|?_
   rw[if_neg h1] at he
   exact wR1 I I (by rw[nrs,he,if_pos h1])
  rw[if_pos h1] at he
  exact wU 18 false I (bne_eq_false_iff_eq.2 h1)<|xa<|zS I<|zI<|xj<|wP I<|wV 20 ((i+1:Nat):Int) I (Az (by omega))<|wP I<|zC<|Ax (i+1) ⟨hlt,he⟩ (by show l.length-(i+1)<l.length-i;omega) ⟨I,I,I,I,I,tO⟩ [] I
 refine wU 12 false I (dF (by omega))<|xa<|zA<|zS I<|xf<|zE<|xd<|?_
 rw[List.drop_of_length_le (by omega)] at he
 have he:ner l=0:=he
 have hall:=Mq he
 have hN:nrs l=if l.any Kk then 4 else 0:=by unfold nrs;rw[if_neg (fun h=>h he)]
 refine Ae I<|xa<|zH<|A6 (X:=Nat) (fun i=>[(2, .int .i64 0),(21,slv p l.length cap),(22, .int .i64 (l.length:Nat)),(23, .int .i64 (i:Nat))]) (fun _=>[]) (fun i=>i<=l.length/\l.any Kk=(l.drop i).any Kk) (fun i=>l.length-i) 0 ⟨Nat.zero_le _,by rw[List.drop_zero]⟩ ⟨I,I,I,I,tO⟩ [] I ?_
 rintro i ⟨hi,hB⟩
 have hi:i<=l.length:=hi
 have hB:l.any Kk=(l.drop i).any Kk:=hB
 refine xb<|wP I<|?_
 by_cases hlt:i<l.length
 ·refine wU 24 true I (dT (by omega))<|xa<|zA<|zR I<|xh<|?_
  obtain⟨b,off,rfl,hrow⟩:=hA.row hlt
  have hr:=hrow i hlt
  obtain⟨q,hq,hx⟩:=Gq (hall l[i] (List.getElem_mem _))
  rw[Of hlt] at hB
  rw[hx] at hr hB
  have hB:l.any Kk=(FL q||(l.drop (i+1)).any Kk):=by rw[hB];unfold Kk;rw[DD]
  refine wJ ?_
  refine wL 0 I I (fun W1 hp=>hr.hp hp) I<|wP I<|xg<|wP I<|wC I I (fun W1 hp=>RO q hq W1 (hv.hp hp) (ht.hp hp))<|?_
  cases hb:FL q with
  |true=>
   rw[hb] at hB
   exact wP I<|xg<|Aa I<|xa<|zR I<|xb<|Aa I<|xc<|xi<|wR1 I I (by rw[hN,hB];rfl)
  |false=>
   rw[hb,Bool.false_or] at hB
   exact wP I<|xg<|Aa I<|xa<|zS I<|zI<|xj<|wP I<|wV 32 ((i+1:Nat):Int) I (Az (by omega))<|wP I<|zC<|Ax (i+1) ⟨hlt,hB⟩ (by show l.length-(i+1)<l.length-i;omega) ⟨I,I,I,I,tO⟩ [] I
 refine wU 24 false I (dF (by omega))<|xa<|zA<|zS I<|xf<|xe<|?_
 rw[List.drop_of_length_le (by omega)] at hB
 exact wP I<|xc<|wR1 I I (by rw[hN,hB];rfl)
structure OpR where
 s:Int
 l:Rat
 r:Rat
 o:Rat
 i:Rat
 deriving Inhabited
abbrev fI (s:Int) (l r lo hi:List UInt8):Value:= .agg #[.int .i64 s,str l,str r,str lo,str hi]
abbrev OpR.v (x:OpR):Value:=fI x.s (B4 x.l) (B4 x.r) (B4 x.o) (B4 x.i)
structure OpR.OK (x:OpR):Prop where
 zl:szQ x.l 12
 zr:szQ x.r 12
 zo:szQ x.o 12
 zi:szQ x.i 12
 h1:x.l<x.r
 h2:x.o<x.i
def ovl (a b:OpR):Bool:=decide (a.s=b.s/\a.l<b.r/\b.l<a.r/\a.o<b.i/\b.o<a.i)
theorem Lu (a b:OpR) (ha:a.OK) (hb:b.OK) (W:World) (hv:DM W) (ht:AZ W):
  Ag Tryz.prog 253 #[a.v,b.v] W (fun _:Unit=> .bool (ovl a b)) (fun _=>True) (fun _=>[]):=by
 have s1:Sz2 a.l b.r:=sz2 ha.zl hb.zr (by decide)
 have s2:Sz2 b.l a.r:=sz2 hb.zl ha.zr (by decide)
 have s3:Sz2 a.o b.i:=sz2 ha.zo hb.zi (by decide)
 have s4:Sz2 b.o a.i:=sz2 hb.zo ha.zi (by decide)
 refine Ab Tryz.func253 I I I<|xb<|wF I I fun _=>wF I I fun _=>wP I<|xg<|wP I<|wB 0 I I I<|wP I<|wB 1 I I I<|wP I<|?_
 by_cases h1:a.s=b.s
 rotate_left
 ·refine wU 9 false I (beq_eq_false_iff_ne.2 h1)<|wP I<|?_
  iterate 6 refine Ac I I ?_
  refine Aa I<|?_
  iterate 6 refine Ac I I ?_
  refine Aa I<|?_
  iterate 6 refine Ac I I ?_
  refine Aa I<|?_
  iterate 6 refine Ac I I ?_
  exact Aa I<|xc<|wR1 I I (congrArg Value.bool (dF fun h=>h1 h.1).symm)
 refine wU 9 true I (beq_iff_eq.2 h1)<|Aa I<|wB 0 I I I<|wP I<|wB 1 I I I<|wC I I (fun W1 hp=>Dt a.l b.r s1 W1 (hv.hp hp) (ht.hp hp))<|wP I<|?_
 by_cases h2:a.l<b.r
 rotate_left
 ·refine wU 16 false I ((Ei _ _).trans (dF h2))<|Aa I<|?_
  iterate 6 refine Ac I I ?_
  refine Aa I<|?_
  iterate 6 refine Ac I I ?_
  refine Aa I<|?_
  iterate 6 refine Ac I I ?_
  exact Aa I<|xc<|wR1 I I (congrArg Value.bool (dF fun h=>h2 h.2.1).symm)
 refine wU 16 true I ((Ei _ _).trans (dT h2))<|Ae I<|wB 1 I I I<|wP I<|wB 0 I I I<|wC I I (fun W1 hp=>Dt b.l a.r s2 W1 (hv.hp hp) (ht.hp hp))<|wP I<|?_
 by_cases h3:b.l<a.r
 rotate_left
 ·refine wU 24 false I ((Ei _ _).trans (dF h3))<|Aa I<|?_
  iterate 6 refine Ac I I ?_
  refine Aa I<|?_
  iterate 6 refine Ac I I ?_
  exact Aa I<|xc<|wR1 I I (congrArg Value.bool (dF fun h=>h3 h.2.2.1).symm)
 refine wU 24 true I ((Ei _ _).trans (dT h3))<|Ae I<|wB 0 I I I<|wP I<|wB 1 I I I<|wC I I (fun W1 hp=>Dt a.o b.i s3 W1 (hv.hp hp) (ht.hp hp))<|wP I<|?_
 by_cases h4:a.o<b.i
 rotate_left
 ·refine wU 32 false I ((Ei _ _).trans (dF h4))<|Aa I<|?_
  iterate 6 refine Ac I I ?_
  exact Aa I<|xc<|wR1 I I (congrArg Value.bool (dF fun h=>h4 h.2.2.2.1).symm)
 refine wU 32 true I ((Ei _ _).trans (dT h4))<|Ae I<|wB 1 I I I<|wP I<|wB 0 I I I<|wC I I (fun W1 hp=>Dt b.o a.i s4 W1 (hv.hp hp) (ht.hp hp))<|wP I<|?_
 by_cases h5:b.o<a.i
 rotate_left
 ·exact wU 40 false I ((Ei _ _).trans (dF h5))<|Aa I<|xc<|wR1 I I (congrArg Value.bool (dF fun h=>h5 h.2.2.2.2).symm)
 exact wU 40 true I ((Ei _ _).trans (dT h5))<|Aa I<|xc<|wR1 I I (congrArg Value.bool (dT ⟨h1,h2,h3,h4,h5⟩).symm)
structure OpS where
 s:Int
 l:List UInt8
 r:List UInt8
 o:List UInt8
 i:List UInt8
 deriving Inhabited
def opC (x:OpS):List Value:=[.int .i64 x.s,str x.l,str x.r,str x.o,str x.i]
theorem Zu (x:OpS):(opC x).length=5:=rfl
def OpS.toR (x:OpS):OpR:=⟨x.s,rdQ x.l,rdQ x.r,rdQ x.o,rdQ x.i⟩
def shE (x:OpS):Int:=if nrs [x.l,x.r,x.o,x.i]≠0 then nrs [x.l,x.r,x.o,x.i] else if rdQ x.r<=rdQ x.l\/rdQ x.i<=rdQ x.o then 10 else 0
theorem R9 {a b c d:List UInt8} (h:nrs [a,b,c,d]=0): ∀x∈[a,b,c,d],x=B4 (rdQ x)/\szQ (rdQ x) 12:=fun x hx=>by
 obtain⟨q,rfl,_,hs⟩:=Xi h x hx
 rw[DD]
 exact⟨I,hs⟩
theorem WA {x:OpS} (h:shE x=0):x.toR.OK/\opC x=x.toR.v.cells.toList:=by
 unfold shE at h
 by_cases h1:nrs [x.l,x.r,x.o,x.i]=0
 rotate_left
 ·rw[if_pos h1] at h;exact absurd h h1
 rw[if_neg fun h=>h h1] at h
 by_cases h2:rdQ x.r<=rdQ x.l\/rdQ x.i<=rdQ x.o
 ·rw[if_pos h2] at h;cases h
 have hl:=R9 h1 x.l (by simp)
 have hr:=R9 h1 x.r (by simp)
 have ho:=R9 h1 x.o (by simp)
 have hi:=R9 h1 x.i (by simp)
 refine⟨⟨hl.2,hr.2,ho.2,hi.2,Rat.not_le.1 fun h=>h2 (.inl h),Rat.not_le.1 fun h=>h2 (.inr h)⟩, ?_⟩
 show[.int .i64 x.s,str x.l,str x.r,str x.o,str x.i]=[.int .i64 x.s,str (B4 (rdQ x.l)),str (B4 (rdQ x.r)),str (B4 (rdQ x.o)),str (B4 (rdQ x.i))]
 rw[<-hl.1, <-hr.1, <-ho.1, <-hi.1]
theorem Ml (x:OpS) (hs: ∀a∈[x.l,x.r,x.o,x.i],a.length<=4000000) (W:World) (hv:DM W) (ht:AZ W):
  Ag Tryz.prog 252 #[.agg (opC x).toArray] W (fun _:Unit=> .int .i64 (shE x)) (fun _=>True) (fun _=>[]):=by
 refine Ab Tryz.func252 I I I<|xb<|wF I I fun _=>wP I<|xa<|xd<|wP I<|wB 0 I I I<|wP I<|wB 0 I I I<|wP I<|wB 0 I I I<|wP I<|wB 0 I I I<|Ai Tryz.hZ tH I I I I I I I I I I I fun bS=> ?_
 refine wC I I (fun W1 hp=>OQ W1 (some ⟨bS,0,none⟩) 4 [x.l,x.r,x.o,x.i] (.inr ⟨bS,0,I,Al.of_bx hp 1 I I⟩) (show 4<=100000 by decide) hs (hv.hp hp) (ht.hp hp))<|wP I<|xg<|Aa I<|?_
 by_cases h1:nrs [x.l,x.r,x.o,x.i]=0
 rotate_left
 ·have he:shE x=nrs [x.l,x.r,x.o,x.i]:=by unfold shE;rw[if_pos h1]
  exact wU 15 true I (bne_iff_ne.2 h1)<|xa<|zR I<|xb<|Aa I<|xc<|zP<|wR1 I I (by rw[he])
 have he:shE x=if rdQ x.r<=rdQ x.l\/rdQ x.i<=rdQ x.o then 10 else 0:=by unfold shE;rw[if_neg fun h=>h h1]
 refine wU 15 false I (bne_eq_false_iff_eq.2 h1)<|xa<|zS I<|zI<|zE<|xd<|?_
 have hl:=R9 h1 x.l (by simp)
 have hr:=R9 h1 x.r (by simp)
 have ho:=R9 h1 x.o (by simp)
 have hi:=R9 h1 x.i (by simp)
 refine wP I<|wB 0 I I I<|wP I<|wB 0 I I I<|wC I I (fun W1 hp=>(by rw[hl.1,hr.1,DD,DD];exact Dt (rdQ x.l) (rdQ x.r) (sz2 hl.2 hr.2 (by decide)) W1 (hv.hp hp) (ht.hp hp):Ag Tryz.prog 279 #[str x.l,str x.r] W1 (fun _:Unit=> .int .i64 (PN (rdQ x.l) (rdQ x.r))) (fun _=>True) (fun _=>[])))<|wP I<|?_
 by_cases c1:rdQ x.r<=rdQ x.l
 ·refine wU 22 true I ((Jv _ _).trans (dT c1))<|wP I<|?_
  iterate 6 refine Ac I I ?_
  exact wP I<|xa<|zR I<|xb<|wP I<|xc<|zP<|wR1 I I (by rw[he,if_pos (.inl c1)])
 refine wU 22 false I ((Jv _ _).trans (dF c1))<|Aa I<|wB 0 I I I<|wP I<|wB 0 I I I<|wC I I (fun W1 hp=>(by rw[ho.1,hi.1,DD,DD];exact Dt (rdQ x.o) (rdQ x.i) (sz2 ho.2 hi.2 (by decide)) W1 (hv.hp hp) (ht.hp hp):Ag Tryz.prog 279 #[str x.o,str x.i] W1 (fun _:Unit=> .int .i64 (PN (rdQ x.o) (rdQ x.i))) (fun _=>True) (fun _=>[])))<|wP I<|?_
 by_cases c2:rdQ x.i<=rdQ x.o
 ·exact wU 29 true I ((Jv _ _).trans (dT c2))<|wP I<|xa<|zR I<|xb<|wP I<|xc<|zP<|wR1 I I (by rw[he,if_pos (.inr c2)])
 exact wU 29 false I ((Jv _ _).trans (dF c2))<|wP I<|xa<|zS I<|zI<|xe<|wP I<|xc<|wR1 I I (by rw[he,if_neg fun h=>h.elim c1 c2])
theorem W4 {x:OpR} (h:x.OK) (W:World) (hv:DM W) (ht:AZ W):
  Ag Tryz.prog 252 #[x.v] W (fun _:Unit=> .int .i64 0) (fun _=>True) (fun _=>[]):=by
 have len: ∀ {q:Rat},szQ q 12->(B4 q).length<=4000000:=fun hq=>by have:=Jz (hq.ok (by decide));omega
 have hn:nrs [B4 x.l,B4 x.r,B4 x.o,B4 x.i]=0:=by
  have ok: ∀ {q:Rat},szQ q 12->(rdR (B4 q)).2=0/\Kk (B4 q)=false:=fun {q} hq=>⟨by rw[cT (hq.ok (by decide))],by unfold Kk;rw[DD];exact S3 hq⟩
  have hner:ner [B4 x.l,B4 x.r,B4 x.o,B4 x.i]=0:=by
   unfold ner ner ner ner ner
   rw[(ok h.zl).1,(ok h.zr).1,(ok h.zo).1,(ok h.zi).1]
   rfl
  unfold nrs
  rw[if_neg fun h=>h hner]
  simp[(ok h.zl).2,(ok h.zr).2,(ok h.zo).2,(ok h.zi).2]
 have hs:=Ml ⟨x.s,B4 x.l,B4 x.r,B4 x.o,B4 x.i⟩ (fun a ha=>by
  simp only[List.mem_cons,List.not_mem_nil,or_false] at ha
  rcases ha with rfl|rfl|rfl|rfl
  ·exact len h.zl
  ·exact len h.zr
  ·exact len h.zo
  ·exact len h.zi) W hv ht
 have he:shE ⟨x.s,B4 x.l,B4 x.r,B4 x.o,B4 x.i⟩=0:=by
  unfold shE
  rw[if_neg fun h=>h hn]
  show(if rdQ (B4 x.r)<=rdQ (B4 x.l)\/rdQ (B4 x.i)<=rdQ (B4 x.o) then(10:Int) else 0)=0
  rw[DD,DD,DD,DD,if_neg fun h'=>h'.elim (Rat.not_le.2 h.h1) (Rat.not_le.2 h.h2)]
 rw[he] at hs
 exact hs
def Z1 (W:World) (p:Option Addr) (L:List OpR):Prop:=L=[]\/ ∃g off,p=some ⟨g,off,none⟩/\ ∀i (hi:i<L.length),Al W g (off+i*5) (L[i]).v.cells.toList
theorem Z1.row {W:World} {p:Option Addr} {L:List OpR} (h:Z1 W p L) {i:Nat} (hi:i<L.length): ∃g off,p=some ⟨g,off,none⟩/\ ∀k (hk:k<L.length),Al W g (off+k*5) (L[k]).v.cells.toList:=by
 rcases h with rfl|h
 ·exact absurd hi (Nat.not_lt_zero _)
 ·exact h
def djt (L:List OpR):Bool:=decide (∀i,i<L.length-> ∀j,j<i->ovl (L.getD i default) (L.getD j default)=false)
def djK (L:List OpR) (i:Nat):Prop:= ∀i',i'<i-> ∀j,j<i'->ovl (L.getD i' default) (L.getD j default)=false
theorem opg {L:List OpR} {i:Nat} (h:i<L.length):L.getD i default=L[i]:=by rw[List.getD_eq_getElem?_getD,List.getElem?_eq_getElem h];rfl
theorem cW {L:List OpR} {i j:Nat} (hi:i<L.length) (hj:j<i) (h:ovl L[i] (L[j]'(by omega))=true):djt L=false:=by
 refine dF fun hh=> ?_
 have:=hh i hi j hj
 rw[opg hi,opg (by omega),h] at this
 cases this
theorem Zx {L:List OpR} (h:djK L L.length):djt L=true:=dT h
abbrev opB (b:Nat) (x:OpR):Bx:=⟨b,82,x.v.cells.toList,true,none⟩
theorem Qz (L:List OpR) (hL: ∀x∈L,x.OK) (hn:L.length<=32) (p:Option Addr) (cap:Nat) (hcap:L.length<=cap) (W:World) (hA:Z1 W p L) (hv:DM W) (ht:AZ W):
  Ag Tryz.prog 211 #[slv p L.length cap] W (fun _:Unit=> .tuple #[.bool (djt L), .int .i64 0]) (fun _=>True) (fun _=>[]):=by
 refine Ab Tryz.func211 I I I<|xb<|Aa I<|xa<|xd<|Ae I<|wU 13 false I (dF (by omega))<|xa<|zS I<|zI<|zE<|xd<|Ae I<|?_
 refine xa<|zH<|A6 (X:=Nat) (fun i=>[(0,slv p L.length cap),(2, .bool false),(3, .int .i64 0),(14,slv p L.length cap),(15, .int .i64 (L.length:Nat)),(16, .int .i64 (i:Nat))]) (fun _=>[]) (fun i=>i<=L.length) (fun i=>L.length-i) 0 (Nat.zero_le _) ⟨I,I,I,I,I,I,tO⟩ [] I ?_
 intro i hi
 have hi:i<=L.length:=hi
 refine xb<|wP I<|?_
 by_cases hlt:i<L.length
 ·refine wU 17 true I (dT (by omega))<|xa<|zA<|zR I<|xh<|?_
  obtain⟨g,off,rfl,hrow⟩:=hA.row hlt
  have hr:=hrow i hlt
  have hx:=hL L[i] (List.getElem_mem _)
  obtain⟨x,hxe⟩: ∃x,x=L[i]:=⟨_,rfl⟩
  rw[<-hxe] at hr hx
  refine wJ ?_
  refine wL 0 I I (fun W1 hp=>hr.hp hp) I<|wG I I fun _=>wS 0 I I I<|zC<|?_
  rename_i b5
  exact xe<|wB 0 I I I<|wC I I (fun W1 hp=>W4 hx W1 (hv.hp hp) (ht.hp hp))<|wP I<|xg<|Aa I<|xa<|zS I<|zI<|xj<|wP I<|wV 25 ((i+1:Nat):Int) I (Az (by omega))<|wP I<|zC<|Ax (i+1) hlt (by show L.length-(i+1)<L.length-i;omega) ⟨I,I,I,I,I,I,tO⟩ [_] I
 refine wU 17 false I (dF (by omega))<|xa<|zA<|zS I<|xf<|zE<|xd<|?_
 clear hi hlt
 refine Ae I<|xa<|zH<|A6 (X:=Nat) (fun i=>[(0,slv p L.length cap),(2, .bool false),(3, .int .i64 0),(26,slv p L.length cap),(27, .int .i64 (L.length:Nat)),(28, .int .i64 (i:Nat))]) (fun _=>[]) (fun i=>i<=L.length/\djK L i) (fun i=>L.length-i) 0 ⟨Nat.zero_le _,fun i' hi'=>absurd hi' (Nat.not_lt_zero _)⟩ ⟨I,I,I,I,I,I,tO⟩ [] I ?_
 rintro i ⟨hi,hK⟩
 have hi:i<=L.length:=hi
 have hK:djK L i:=hK
 refine xb<|wP I<|?_
 by_cases hlt:i<L.length
 rotate_left
 ·exact wU 29 false I (dF (by omega))<|xa<|zA<|zS I<|xf<|xe<|Aa I<|xc<|wR2 I I (by rw[Zx (by rw[show L.length=i by omega];exact hK)])
 refine wU 29 true I (dT (by omega))<|xa<|zA<|zR I<|xh<|?_
 obtain⟨g,off,rfl,hrow⟩:=hA.row hlt
 have hr:=hrow i hlt
 have hx:=hL L[i] (List.getElem_mem _)
 have hno: ∀j (hj:j<i),ovl L[i] (L[j]'(by omega))=true->djt L=false:=fun j hj h=>cW hlt hj h
 have hgi:=opg hlt
 obtain⟨x,hxe⟩: ∃x,x=L[i]:=⟨_,rfl⟩
 rw[<-hxe] at hr hx hno hgi
 refine wP I<|wJ ?_
 refine wL 0 I I (fun W1 hp=>hr.hp hp) I<|wG I I fun _=>wP I<|wS 0 I I I<|zC<|?_
 rename_i b8
 refine xe<|Aa I<|De i tH I I I I I I I I (by omega) ?_
 refine Aa I<|xa<|zH<|A6 (X:=Nat) (fun j=>[(0,slv (some ⟨g,off,none⟩) L.length cap),(2, .bool false),(3, .int .i64 0),(8,Af b8),(26,slv (some ⟨g,off,none⟩) L.length cap),(27, .int .i64 (L.length:Nat)),(28, .int .i64 (i:Nat)),(35,slv (some ⟨g,off,none⟩) i cap),(36, .int .i64 (i:Nat)),(37, .int .i64 (j:Nat))]) (fun _=>[opB b8 x]) (fun j=>j<=i/\ ∀j' (hj:j'<j) (hi:j'<i),ovl x (L[j']'(by omega))=false) (fun j=>i-j) 0 ⟨Nat.zero_le _,fun _ h=>absurd h (Nat.not_lt_zero _)⟩ ⟨I,I,I,I,I,I,I,I,I,I,tO⟩ [] I ?_
 rintro j ⟨hj,hF⟩
 have hj:j<=i:=hj
 have hF: ∀j' (hj:j'<j) (hi:j'<i),ovl x (L[j']'(by omega))=false:=hF
 refine xb<|wP I<|?_
 by_cases hlj:j<i
 rotate_left
 ·refine wU 38 false I (dF (by omega))<|xa<|zA<|zS I<|xf<|xj<|wP I<|wV 45 ((i+1:Nat):Int) I (Az (by omega))<|wP I<|zC<|?_
  refine Ax (i+1) ⟨hlt,fun i' hi' j' hj'=> ?_⟩ (by show L.length-(i+1)<L.length-i;omega) ⟨I,I,I,I,I,I,tO⟩ [_] I
  by_cases e:i'=i
  ·subst e
   rw[hgi,opg (by omega)]
   exact hF j' (by omega) (by omega)
  ·exact hK i' (by omega) j' hj'
 refine wU 38 true I (dT (by omega))<|xa<|zA<|zR I<|xh<|?_
 have hjL:j<L.length:=by omega
 have hr2:=hrow j hjL
 have hy:=hL L[j] (List.getElem_mem _)
 have hno:=hno j hlj
 have hF2: ∀b,ovl x L[j]=b->b=false-> ∀j' (hj:j'<j+1) (hi:j'<i),ovl x (L[j']'(by omega))=false:=fun b e eb j' h1 h2=>by
  by_cases e':j'=j
  ·subst e';rw[e,eb]
  ·exact hF j' (by omega) h2
 obtain⟨y,hye⟩: ∃y,y=L[j]:=⟨_,rfl⟩
 rw[<-hye] at hr2 hy hno hF2
 refine wJ ?_
 refine wL 0 I I (fun W1 hp=>hr2.hp hp) I<|wG I I fun _=>wS 1 I I I<|zC<|?_
 rename_i b10
 refine xe<|wB 0 I I I<|wB 1 I I I<|wC I I (fun W1 hp=>Lu x y hx hy W1 (hv.hp hp) (ht.hp hp))<|xa<|Av I (fun hov=> ?_) (fun hov=> ?_)
 ·have hov:ovl x y=true:=hov
  exact xb<|Aa I<|xc<|zQ<|zP<|zP<|zQ<|xi<|wR2 I I (by rw[hno hov])
 ·have hov:ovl x y=false:=hov
  exact zI<|xj<|wP I<|wV 44 ((j+1:Nat):Int) I (Az (by omega))<|wP I<|zC<|Ax (j+1) ⟨hlj,hF2 _ hov I⟩ (by show i-(j+1)<i-j;omega) ⟨I,I,I,I,I,I,I,I,I,I,tO⟩ [_] I
def djE:List OpS->Int
 |[]=>0
 |x::l=>if shE x≠0 then shE x else djE l
theorem Y8 {l:List OpS} {i:Nat} (h:i<l.length):djE (l.drop i)=if shE l[i]≠0 then shE l[i] else djE (l.drop (i+1)):=by
 rw[List.drop_eq_getElem_cons h];rfl
theorem Sn: ∀ {l:List OpS},djE l=0-> ∀x∈l,shE x=0
 |[],_,_,h=>by cases h
 |b::l,h,x,hx=>by
  unfold djE at h
  by_cases hb:shE b=0
  ·rw[if_neg fun h'=>h' hb] at h
   rcases List.mem_cons.1 hx with rfl|hx
   ·exact hb
   ·exact Sn h x hx
  ·rw[if_pos hb] at h
   exact absurd h hb
def Es (L:List OpS):Bool×Int:=if 32<L.length then(false,4) else if djE L≠0 then(false,djE L) else(djt (L.map OpS.toR),0)
theorem Y4 (L:List OpS) (hn:L.length<=1000000) (hs: ∀x∈L, ∀a∈[x.l,x.r,x.o,x.i],a.length<=4000000) (p:Option Addr) (cap:Nat) (hcap:L.length<=cap) (W:World) (hA:AB 5 opC W p L) (hv:DM W) (ht:AZ W):
  Ag Tryz.prog 211 #[slv p L.length cap] W (fun _:Unit=> .tuple #[.bool (Es L).1, .int .i64 (Es L).2]) (fun _=>True) (fun _=>[]):=by
 by_cases h32:32<L.length
 ·have hO:Es L=(false,4):=by unfold Es;rw[if_pos h32]
  rw[hO]
  refine Ab Tryz.func211 I I I<|xb<|Aa I<|xa<|xd<|Ae I<|wU 13 true I (dT (by omega))<|xa<|zR I<|xb<|Aa I<|xc<|?_
  exact zP<|wR2 I I I
 by_cases hE:djE L=0
 ·have hO:Es L=(djt (L.map OpS.toR),0):=by unfold Es;rw[if_neg h32,if_neg fun h=>h hE]
  rw[hO]
  have hz:=Sn hE
  have hL: ∀x∈L.map OpS.toR,x.OK:=fun x hx=>by
   obtain⟨y,hy,rfl⟩:=List.mem_map.1 hx
   exact(WA (hz y hy)).1
  have hP:Z1 W p (L.map OpS.toR):=by
   rcases hA with h|⟨b,off,e,h⟩
   ·exact .inl (by rw[h];rfl)
   ·refine .inr ⟨b,off,e,fun i hi=> ?_⟩
    have hi':i<L.length:=by rw[List.length_map] at hi;exact hi
    have h1:=h i hi'
    rw[(WA (hz L[i] (List.getElem_mem hi'))).2] at h1
    rw[List.getElem_map]
    exact h1
  have h:=Qz (L.map OpS.toR) hL (by rw[List.length_map];omega) p cap (by rw[List.length_map];exact hcap) W hP hv ht
  rw[List.length_map] at h
  exact h
 have hO:Es L=(false,djE L):=by unfold Es;rw[if_neg h32,if_pos hE]
 rw[hO]
 refine Ab Tryz.func211 I I I<|xb<|Aa I<|xa<|xd<|Ae I<|wU 13 false I (dF (by omega))<|xa<|zS I<|zI<|zE<|xd<|Ae I<|?_
 refine xa<|zH<|A6 (X:=Nat) (fun i=>[(0,slv p L.length cap),(2, .bool false),(3, .int .i64 0),(14,slv p L.length cap),(15, .int .i64 (L.length:Nat)),(16, .int .i64 (i:Nat))]) (fun _=>[]) (fun i=>i<=L.length/\djE L=djE (L.drop i)) (fun i=>L.length-i) 0 ⟨Nat.zero_le _,I⟩ ⟨I,I,I,I,I,I,tO⟩ [] I ?_
 rintro i ⟨hi,hD⟩
 have hi:i<=L.length:=hi
 have hD:djE L=djE (L.drop i):=hD
 refine xb<|wP I<|?_
 by_cases hlt:i<L.length
 rotate_left
 ·rw[List.drop_of_length_le (by omega)] at hD
  exact absurd hD hE
 refine wU 17 true I (dT (by omega))<|xa<|zA<|zR I<|xh<|?_
 rw[Y8 hlt] at hD
 obtain⟨g,off,rfl,hrow⟩:=hA.row hlt
 have hr:=hrow i hlt
 have hx:=hs L[i] (List.getElem_mem _)
 obtain⟨x,hxe⟩: ∃x,x=L[i]:=⟨_,rfl⟩
 rw[<-hxe] at hr hx hD
 refine wJ ?_
 refine wL 0 I I (fun W1 hp=>hr.hp hp) I<|wG I I fun _=>wS 0 I I I<|zC<|?_
 rename_i b5
 refine xe<|wB 0 I I I<|wC I I (fun W1 hp=>Ml x hx W1 (hv.hp hp) (ht.hp hp))<|wP I<|xg<|Aa I<|?_
 by_cases hz:shE x=0
 ·rw[if_neg fun h=>h hz] at hD
  exact wU 23 false I (bne_eq_false_iff_eq.2 hz)<|xa<|zS I<|zI<|xj<|wP I<|wV 25 ((i+1:Nat):Int) I (Az (by omega))<|wP I<|zC<|Ax (i+1) ⟨hlt,hD⟩ (by show L.length-(i+1)<L.length-i;omega) ⟨I,I,I,I,I,I,tO⟩ [_] I
 ·rw[if_pos hz] at hD
  exact wU 23 true I (bne_iff_ne.2 hz)<|xa<|zR I<|xb<|Ae I<|xc<|xi<|wR2 I I (by rw[hD])
theorem MF (g:Nat) (hE:Bm Tryz.prog g=true) (capt:List Value) (F:OpS->Bool) (xs:List OpS) (hn:xs.length<=100000) (p:Option Addr) (cap:Nat) (W:World) (hg: ∀x∈xs, ∀W1,Below W.heap.size W W1->Ag Tryz.prog g ([Value.agg (opC x).toArray]++capt).toArray W1 (fun _:Unit=> .bool (F x)) (fun _=>True) (fun _=>[])) (hS:AB 5 opC W p xs):
  Ag Tryz.prog 254 #[slv p xs.length cap, .func (.func g) #[] capt.toArray] W (fun z:Int=> .int .i64 z) (fun z=>0<=z↔xs.any F=true) (fun _=>[]):=by
 refine Ab Tryz.func254 I I I<|xb<|wP I<|xa<|xd<|Ae I<|xa<|zH<|A6 (X:=Nat) (fun i=>[(0,slv p xs.length cap),(1, .func (.func g) #[] capt.toArray),(6,slv p xs.length cap),(7, .int .i64 (xs.length:Nat)),(8, .int .i64 (i:Nat))]) (fun _=>[]) (fun i=>i<=xs.length/\xs.any F=(xs.drop i).any F) (fun i=>xs.length-i) 0 ⟨Nat.zero_le _,by rw[List.drop_zero]⟩ ⟨I,I,I,I,I,tO⟩ [] I ?_
 intro i hi
 obtain⟨hi,hA⟩:i<=xs.length/\xs.any F=(xs.drop i).any F:=hi
 refine xb<|wP I<|?_
 by_cases hlt:i<xs.length
 rotate_left
 ·refine wU 9 false I (dF (by omega))<|xa<|zA<|zS I<|xf<|xe<|wP I<|xc<|?_
  rw[List.drop_of_length_le (by omega)] at hA
  exact Ar tH I (.tmp I) (-1:Int) I (by rw[hA];exact⟨fun h=>absurd h (by decide),fun h=>absurd (show false=true from h) (by decide)⟩) fun W _=>As.nil _ _
 refine wU 9 true I (dT (by omega))<|xa<|zA<|zR I<|xh<|?_
 obtain⟨b,off,rfl,hrow⟩:=hS.row hlt
 have hr:=hrow i hlt
 rw[Of hlt] at hA
 have hxm:xs[i]∈xs:=List.getElem_mem _
 obtain⟨x,hq⟩: ∃x,x=xs[i]:=⟨_,rfl⟩
 rw[<-hq] at hr hA hxm
 refine Aa I<|xg<|Ae I<|wJ ?_
 refine wL 0 I I (fun W1 hp=>hr.hp hp) I<|BK (capt:=capt) I I I I I I hE (fun W1 hp=>hg x hxm W1 hp.below)<|xa<|Av I (fun hc=> ?_) (fun hc=> ?_)
 ·have hc:F x=true:=hc
  exact xb<|Aa I<|xc<|xi<|Ar tH I (.tmp I) ((i:Nat):Int) I ⟨fun _=>by rw[hA,hc];rfl,fun _=>by omega⟩ fun W _=>As.nil _ _
 ·have hc:F x=false:=hc
  rw[hc,Bool.false_or] at hA
  exact zI<|xj<|wP I<|wV 18 ((i+1:Nat):Int) I (Az (by omega))<|wP I<|zC<|Ax (i+1) ⟨hlt,hA⟩ (by show xs.length-(i+1)<xs.length-i;omega) ⟨I,I,I,I,I,tO⟩ [] I
theorem Jd (g:Nat) (hE:Bm Tryz.prog g=true) (capt:List Value) (F:OpS->Bool) (xs:List OpS) (hn:xs.length<=100000) (p:Option Addr) (cap:Nat) (W:World) (hg: ∀x∈xs, ∀W1,Below W.heap.size W W1->Ag Tryz.prog g ([Value.agg (opC x).toArray]++capt).toArray W1 (fun _:Unit=> .bool (F x)) (fun _=>True) (fun _=>[])) (hS:AB 5 opC W p xs):
  Ag Tryz.prog 213 #[slv p xs.length cap, .func (.func g) #[] capt.toArray] W (fun _:Unit=> .bool (xs.any F)) (fun _=>True) (fun _=>[]):=by
 refine Ab Tryz.func213 I I I<|xb<|wP I<|xg<|Aa I<|wD (X:=Int) I I (fun W1 hp=>MF g hE capt F xs hn p cap W1 (fun x hx W2 h2=>hg x hx W2 (hp.below.trans (h2.mono hp.below.size))) (hS.hp hp)) ?_
 intro z hz
 have hz:0<=z↔xs.any F=true:=hz
 refine wP I ?_
 refine Ao 8 (.bool (xs.any F)) I (congrArg Value.bool (by
  cases h:xs.any F with
  |true=>exact dT (hz.2 h)
  |false=>exact dF fun h2=>by rw[hz.1 h2] at h;cases h)) ?_
 exact wP I<|xc<|wR1 I I I
theorem Pd (x:OpS) (b7:Nat) (q:Option Addr) (n cap:Nat) (hn:n<=4000000000000) (W:World) (hb:Al W b7 0 [.slice q n cap]):
  Ag Tryz.prog 214 ([Value.agg (opC x).toArray]++[Value.pointer (some ⟨b7,0,none⟩)]).toArray W (fun _:Unit=> .bool (!decide (wn x.s 0 ((n:Int)-1)))) (fun _=>True) (fun _=>[]):=by
 exact Ab Tryz.func214 I I I<|xb<|wF I I fun _=>wP I<|xg<|wP I<|wB 0 I I I<|wL 0 I I (fun W1 hp=>hb.hp hp) I<|Aa I<|wV 8 ((n:Int)-1) I (AC (by omega) (by omega))<|wC I I (fun W1 _=>D7 x.s 0 ((n:Int)-1) W1)<|Aa I<|xc<|wR1 I I I
def Lp (rs:List (List Sd)) (L:List OpS):Int:=if (Es L).2≠0 then(Es L).2 else if chk rs≠0 then 1 else if L.any (fun x=> !decide (wn x.s 0 ((rs.flatten.length:Int)-1))) then 2 else if (Es L).1=false then 28 else 0
theorem Kx (rs:List (List Sd)):rs.flatten.length=tot rs:=by
 unfold tot
 induction rs with
 |nil=>rfl
 |cons l r ih=>simp_all
theorem RR (rs:List (List Sd)) (L:List OpS) (hn:L.length<=100000) (hs: ∀x∈L, ∀a∈[x.l,x.r,x.o,x.i],a.length<=4000000) (p q:Option Addr) (cap cap2:Nat) (hcap:L.length<=cap2) (hr:rs.length<4611686018427387904) (hT:tot rs<1099511627776) (W:World) (hR:C6 W p rs) (hA:AB 5 opC W q L) (hv:DM W) (ht:AZ W):
  Ag Tryz.prog 162 #[Sb p rs.length cap,slv q L.length cap2] W (fun _:Unit=> .int .i64 (Lp rs L)) (fun _=>True) (fun _=>[]):=by
 refine Ab Tryz.func162 I I I ?_
 have hE:Lp rs L=if (Es L).2≠0 then(Es L).2 else if chk rs≠0 then 1 else if L.any (fun x=> !decide (wn x.s 0 ((rs.flatten.length:Int)-1))) then 2 else if (Es L).1=false then 28 else 0:=rfl
 refine xb<|wF I I fun _=>wP I<|zC<|?_
 rename_i b2
 refine xe<|wP I<|wC I I (fun W1 hp=>Y4 L (by omega) hs q cap2 hcap W1 (hA.hp hp) (hv.hp hp) (ht.hp hp))<|?_
 obtain⟨ap,er,ed⟩: ∃ap er,Es L=(ap,er):=⟨_,_,rfl⟩
 rw[ed] at hE⊢
 simp only at hE⊢
 refine A8 I<|xa<|xd<|Aa I<|?_
 by_cases h1:er=0
 rotate_left
 ·exact wU 14 true I (bne_iff_ne.2 h1)<|xa<|zR I<|xb<|Aa I<|xc<|zP<|wR1 I I (by rw[hE,if_pos h1])
 rw[if_neg fun h=>h h1] at hE
 refine wU 14 false I (bne_eq_false_iff_eq.2 h1)<|xa<|zS I<|zI<|xe<|wB 0 I I I<|?_
 by_cases hc:chk rs=0
 rotate_left
 ·refine wC I I (fun W1 hp=>Wr W1 p cap rs hr hT (hR.hp hp) hc)<|Ae I<|wG I I fun _=>wS 1 I I I<|wP I<|xa<|xd<|Aa I<|xa<|zR I<|xb<|Aa I<|xc<|?_
  exact zP<|wR1 I I (by rw[hE,if_pos hc])
 rw[if_neg fun h=>h hc] at hE
 refine wD (X:=Vec) I I (fun W1 hp=>YA W1 p cap rs hr (hR.hp hp) hc) ?_
 intro V hV
 rw[Bs hV]
 refine Ae I<|wG I I fun _=>wS 2 I I I<|wP I<|zC<|?_
 rename_i b7
 refine zE<|xd<|Aa I<|xa<|zS I<|zI<|zE<|xd<|Aa I<|wC I I (fun W1 hp=>Jd 214 (by kernel_rfl) [.pointer (some ⟨b7,0,none⟩)] (fun x=> !decide (wn x.s 0 ((rs.flatten.length:Int)-1))) L hn q cap2 W1 (fun x _ W2 hb=>Pd x b7 (AU V) rs.flatten.length (Bd V) (by rw[Kx];omega) W2 ((Al.of_bx hp 2 I I).below (Nat.le_refl _) hb)) (hA.hp hp))<|?_
 cases hany:L.any (fun x=> !decide (wn x.s 0 ((rs.flatten.length:Int)-1))) with
 |true=>
  rw[hany] at hE
  exact xa<|zR I<|xb<|wP I<|xc<|zP<|wR1 I I (by rw[hE];rfl)
 |false=>
  rw[hany] at hE
  refine xa<|zS I<|zI<|zE<|xd<|?_
  cases ap with
  |false=>
   exact Aa I<|xa<|zR I<|xb<|wP I<|xc<|zP<|wR1 I I (by rw[hE];rfl)
  |true=>
   exact Aa I<|xa<|zS I<|zI<|xe<|wP I<|xc<|wR1 I I (by rw[hE];rfl)
structure JbS where
 name:List UInt8
 rs:List (List Sd)
 o:Int
 sp:Int
 pu:List Int
 op:List OpS
 sz:List SzS
 br:List BrS
 k:Int
 tw:Int
 tl:Int
 tp:Int
 tt:Int
 ld:List LdS
 sn:List AlS
structure JbA where
 pR:Option Addr
 cR:Nat
 pP:Option Addr
 cP:Nat
 pO:Option Addr
 cO:Nat
 pS:Option Addr
 cS:Nat
 pB:Option Addr
 cB:Nat
 pL:Option Addr
 cL:Nat
 pN:Option Addr
 cN:Nat
def CT (j:JbS) (a:JbA):List Value:=[str j.name, .slice a.pR j.rs.length a.cR, .int .i64 j.o, .int .i64 j.sp, .slice a.pP j.pu.length a.cP, .slice a.pO j.op.length a.cO, .slice a.pS j.sz.length a.cS, .slice a.pB j.br.length a.cB, .int .i64 j.k, .int .i64 j.tw, .int .i64 j.tl, .int .i64 j.tp, .int .i64 j.tt, .slice a.pL j.ld.length a.cL, .slice a.pN j.sn.length a.cN]
structure Gb (W:World) (j:JbS) (a:JbA):Prop where
 rs:C6 W a.pR j.rs
 pu:AB 1 C9 W a.pP j.pu
 op:AB 5 opC W a.pO j.op
 sz:AB 3 szC W a.pS j.sz
 br:Hg W a.pB j.br
 ld:AB 3 ldC W a.pL j.ld
 sn:AB 5 alC W a.pN j.sn
theorem Gb.hp {W0 W:World} {bxs:List Bx} {j:JbS} {a:JbA} (h:Gb W0 j a) (hp:Hp W0 bxs W):Gb W j a:=⟨h.rs.hp hp,h.pu.hp hp,h.op.hp hp,h.sz.hp hp,h.br.hp hp,h.ld.hp hp,h.sn.hp hp⟩
structure RE (j:JbS) (a:JbA):Prop where
 name:j.name.length<=1000000
 rs:j.rs.length<4611686018427387904
 tot:tot j.rs<1099511627776
 pu:j.pu.length<=1000000
 op:j.op.length<=100000
 ops: ∀x∈j.op, ∀a∈[x.l,x.r,x.o,x.i],a.length<=4000000
 cO:j.op.length<=a.cO
 sz:j.sz.length<=1000000
 br:j.br.length<=1000000
 brs: ∀b∈j.br,b.g.length<=1000000
 ld:j.ld.length<=1000000
 lds: ∀x∈j.ld,x.w.length<=4000000
 sn:j.sn.length<=1000000
noncomputable def jobE (j:JbS):Int:=
 if ¬Er j.name then 13 else if chk j.rs≠0 then chk j.rs else if ¬(wn j.o 0 65536/\wn j.sp 1 65536) then 2
 else if F4 j.pu≠0 then F4 j.pu else if Lp j.rs j.op≠0 then Lp j.rs j.op else if D4 j.sz≠0 then D4 j.sz else if Cz j.br≠0 then Cz j.br
 else if ¬wn j.k 0 100 then 2 else if Gi j.tw j.tl j.tp j.tt≠0 then Gi j.tw j.tl j.tp j.tt else if loadE j.ld≠0 then loadE j.ld else DX j.sn
theorem SH (j:JbS) (a:JbA) (hz:RE j a) (b1:Nat) (W:World) (hb:Al W b1 0 (CT j a)) (hm:Gb W j a):
  Ag Tryz.prog 159 ([]++[Value.pointer (some ⟨b1,0,none⟩)]).toArray W (fun _:Unit=> .int .i64 (F4 j.pu)) (fun _=>True) (fun _=>[]):=by
 exact Ab Tryz.func159 I I I<|xb<|wP I<|xg<|wP I<|wL 4 I I (fun W1 hp=>hb.hp hp) I<|wC I I (fun W1 hp=>Tf j.pu a.pP a.cP hz.pu W1 (hm.hp hp).pu)<|wP I<|xc<|wR1 I I I
theorem Ti (j:JbS) (a:JbA) (hz:RE j a) (b1:Nat) (W:World) (hb:Al W b1 0 (CT j a)) (hm:Gb W j a) (hv:DM W) (ht:AZ W):
  Ag Tryz.prog 161 ([]++[Value.pointer (some ⟨b1,0,none⟩)]).toArray W (fun _:Unit=> .int .i64 (Lp j.rs j.op)) (fun _=>True) (fun _=>[]):=by
 exact Ab Tryz.func161 I I I<|xb<|wP I<|xg<|wP I<|wL 1 I I (fun W1 hp=>hb.hp hp) I<|wP I<|wL 5 I I (fun W1 hp=>hb.hp hp) I<|wC I I (fun W1 hp=>RR j.rs j.op hz.op hz.ops a.pR a.pO a.cR a.cO hz.cO hz.rs hz.tot W1 (hm.hp hp).rs (hm.hp hp).op (hv.hp hp) (ht.hp hp))<|wP I<|xc<|wR1 I I I
theorem Tv (j:JbS) (a:JbA) (hz:RE j a) (b1:Nat) (W:World) (hb:Al W b1 0 (CT j a)) (hm:Gb W j a):
  Ag Tryz.prog 163 ([]++[Value.pointer (some ⟨b1,0,none⟩)]).toArray W (fun _:Unit=> .int .i64 (D4 j.sz)) (fun _=>True) (fun _=>[]):=by
 exact Ab Tryz.func163 I I I<|xb<|wP I<|xg<|wP I<|wL 6 I I (fun W1 hp=>hb.hp hp) I<|wC I I (fun W1 hp=>GP j.sz a.pS a.cS hz.sz W1 (hm.hp hp).sz)<|wP I<|xc<|wR1 I I I
theorem SP (j:JbS) (a:JbA) (hz:RE j a) (b1:Nat) (W:World) (hb:Al W b1 0 (CT j a)) (hm:Gb W j a):
  Ag Tryz.prog 164 ([]++[Value.pointer (some ⟨b1,0,none⟩)]).toArray W (fun _:Unit=> .int .i64 (Cz j.br)) (fun _=>True) (fun _=>[]):=by
 exact Ab Tryz.func164 I I I<|xb<|wP I<|xg<|wP I<|wL 7 I I (fun W1 hp=>hb.hp hp) I<|wC I I (fun W1 hp=>GO j.br a.pB a.cB hz.br hz.brs W1 (hm.hp hp).br)<|wP I<|xc<|wR1 I I I
theorem Pr (j:JbS) (a:JbA) (hz:RE j a) (W:World) (hm:Gb W j a) (hv:DM W) (ht:AZ W):
  Ag Tryz.prog 106 #[.agg (CT j a).toArray] W (fun _:Unit=> .int .i64 (jobE j)) (fun _=>True) (fun _=>[]):=by
 have hE:jobE j=if ¬Er j.name then 13 else if chk j.rs≠0 then chk j.rs else if ¬(wn j.o 0 65536/\wn j.sp 1 65536) then 2
  else if F4 j.pu≠0 then F4 j.pu else if Lp j.rs j.op≠0 then Lp j.rs j.op else if D4 j.sz≠0 then D4 j.sz else if Cz j.br≠0 then Cz j.br
  else if ¬wn j.k 0 100 then 2 else if Gi j.tw j.tl j.tp j.tt≠0 then Gi j.tw j.tl j.tp j.tt else if loadE j.ld≠0 then loadE j.ld else DX j.sn:=rfl
 refine Ab Tryz.func106 I I I<|xb<|wF I I fun _=>wP I<|zC<|?_
 rename_i b1
 refine zE<|xd<|wP I<|wB 0 I I I<|wC I I (fun W1 _=>GZ j.name hz.name W1)<|?_
 by_cases c0:Er j.name
 rotate_left
 ·exact wU 11 false I (dF c0)<|wP I<|xa<|zR I<|xb<|wP I<|xc<|zP<|wR1 I I (by rw[hE,if_pos c0])
 rw[if_neg fun h=>h c0] at hE
 refine wU 11 true I (dT c0)<|wP I<|xa<|zS I<|zI<|zE<|xd<|wP I<|wB 0 I I I<|wC I I (fun W1 hp=>ER W1 a.pR a.cR j.rs hz.rs hz.tot (hm.hp hp).rs)<|wP I<|xg<|Aa I<|?_
 by_cases c1:chk j.rs=0
 rotate_left
 ·exact wU 17 true I (bne_iff_ne.2 c1)<|xa<|zR I<|xb<|Aa I<|xc<|zP<|wR1 I I (by rw[hE,if_pos c1])
 rw[if_neg fun h=>h c1] at hE
 refine wU 17 false I (bne_eq_false_iff_eq.2 c1)<|xa<|zS I<|zI<|zE<|xd<|wP I<|wB 0 I I I<|wC I I (fun W1 _=>D7 j.o 0 65536 W1)<|?_
 by_cases c2:wn j.o 0 65536
 rotate_left
 ·refine wU 21 false I (dF c2)<|Aa I<|?_
  iterate 4 refine Ac I I ?_
  exact wP I<|xa<|zR I<|xb<|wP I<|xc<|zP<|wR1 I I (by rw[hE,if_pos fun h=>c2 h.1])
 refine wU 21 true I (dT c2)<|Ae I<|wB 0 I I I<|wC I I (fun W1 _=>D7 j.sp 1 65536 W1)<|?_
 by_cases c3:wn j.sp 1 65536
 rotate_left
 ·exact wU 26 false I (dF c3)<|Aa I<|xa<|zR I<|xb<|wP I<|xc<|zP<|wR1 I I (by rw[hE,if_pos fun h=>c3 h.2])
 rw[if_neg fun h=>h ⟨c2,c3⟩] at hE
 refine wU 26 true I (dT c3)<|Aa I<|xa<|zS I<|zI<|zE<|xd<|A3 I<|EQ .nilFunc tH I I I I I (fun W=>by kernel_rfl) I I I I I (fun b33=> ?_)
 refine Aa I<|xa<|zH<|?_
 refine A6 (X:=Nat) (fun i=>[(1, .pointer (some ⟨b1,0,none⟩)),(2, .int .i64 0),(33, .slice (some ⟨b33,0,none⟩) 4 4),(34, .int .i64 4),(35, .int .i64 (i:Nat))])
  (fun _=>[⟨b1,75,CT j a,true,none⟩,⟨b33,228,[.func (.func 159) #[] #[.pointer (some ⟨b1,0,none⟩)], .func (.func 161) #[] #[.pointer (some ⟨b1,0,none⟩)], .func (.func 163) #[] #[.pointer (some ⟨b1,0,none⟩)], .func (.func 164) #[] #[.pointer (some ⟨b1,0,none⟩)]],true,none⟩])
  (fun i=>i<=4/\(0<i->F4 j.pu=0)/\(1<i->Lp j.rs j.op=0)/\(2<i->D4 j.sz=0)/\(3<i->Cz j.br=0)) (fun i=>4-i) 0 ⟨Nat.zero_le _,fun h=>absurd h (by decide),fun h=>absurd h (by decide),fun h=>absurd h (by decide),fun h=>absurd h (by decide)⟩ ⟨rfl,rfl,rfl,rfl,rfl,trivial⟩ [] rfl ?_
 rintro i ⟨hi,e0,e1,e2,e3⟩
 have hi:i<=4:=hi
 refine xb<|wP I<|?_
 by_cases hlt:i<4
 ·refine wU 36 true I (dT (by omega))<|xa<|zA<|zR I<|xh<|?_
  rcases(show i=0\/i=1\/i=2\/i=3 by omega) with rfl|rfl|rfl|rfl
  ·refine wJ ?_
   refine wL 0 I I (fun W1 hp=>(Al.of_bx hp 1 I I).sub (0+0*1)) I<|wP I<|xg<|wP I<|BK (capt:=[.pointer (some ⟨b1,0,none⟩)]) I I I I I I (by kernel_rfl) (fun W1 hp=>SH j a hz b1 W1 (Al.of_bx hp 0 I I) (hm.hp hp))<|wP I<|xg<|Aa I<|?_
   by_cases hq:F4 j.pu=0
   rotate_left
   ·exact wU 42 true I (bne_iff_ne.2 hq)<|xa<|zR I<|xb<|Aa I<|xc<|xi<|wR1 I I (by rw[hE,if_pos hq])
   exact wU 42 false I (bne_eq_false_iff_eq.2 hq)<|xa<|zS I<|zI<|xj<|Aa I<|zC<|Ax 1 ⟨by decide,fun _=>hq,fun h=>absurd h (by decide),fun h=>absurd h (by decide),fun h=>absurd h (by decide)⟩ (by decide) ⟨I,I,I,I,I,tO⟩ [] I
  ·refine wJ ?_
   refine wL 0 I I (fun W1 hp=>(Al.of_bx hp 1 I I).sub (0+1*1)) I<|wP I<|xg<|wP I<|BK (capt:=[.pointer (some ⟨b1,0,none⟩)]) I I I I I I (by kernel_rfl) (fun W1 hp=>Ti j a hz b1 W1 (Al.of_bx hp 0 I I) (hm.hp hp) (hv.hp hp) (ht.hp hp))<|wP I<|xg<|Aa I<|?_
   by_cases hq:Lp j.rs j.op=0
   rotate_left
   ·refine wU 42 true I (bne_iff_ne.2 hq)<|xa<|zR I<|xb<|?_
    rw[if_neg fun h=>h (e0 (by decide))] at hE
    exact Aa I<|xc<|xi<|wR1 I I (by rw[hE,if_pos hq])
   exact wU 42 false I (bne_eq_false_iff_eq.2 hq)<|xa<|zS I<|zI<|xj<|Aa I<|zC<|Ax 2 ⟨by decide,fun _=>e0 (by decide),fun _=>hq,fun h=>absurd h (by decide),fun h=>absurd h (by decide)⟩ (by decide) ⟨I,I,I,I,I,tO⟩ [] I
  ·refine wJ ?_
   refine wL 0 I I (fun W1 hp=>(Al.of_bx hp 1 I I).sub (0+2*1)) I<|wP I<|xg<|wP I<|BK (capt:=[.pointer (some ⟨b1,0,none⟩)]) I I I I I I (by kernel_rfl) (fun W1 hp=>Tv j a hz b1 W1 (Al.of_bx hp 0 I I) (hm.hp hp))<|wP I<|xg<|Aa I<|?_
   by_cases hq:D4 j.sz=0
   rotate_left
   ·refine wU 42 true I (bne_iff_ne.2 hq)<|xa<|zR I<|xb<|?_
    rw[if_neg fun h=>h (e0 (by decide))] at hE
    rw[if_neg fun h=>h (e1 (by decide))] at hE
    exact Aa I<|xc<|xi<|wR1 I I (by rw[hE,if_pos hq])
   exact wU 42 false I (bne_eq_false_iff_eq.2 hq)<|xa<|zS I<|zI<|xj<|Aa I<|zC<|Ax 3 ⟨by decide,fun _=>e0 (by decide),fun _=>e1 (by decide),fun _=>hq,fun h=>absurd h (by decide)⟩ (by decide) ⟨I,I,I,I,I,tO⟩ [] I
  ·refine wJ ?_
   refine wL 0 I I (fun W1 hp=>(Al.of_bx hp 1 I I).sub (0+3*1)) I<|wP I<|xg<|wP I<|BK (capt:=[.pointer (some ⟨b1,0,none⟩)]) I I I I I I (by kernel_rfl) (fun W1 hp=>SP j a hz b1 W1 (Al.of_bx hp 0 I I) (hm.hp hp))<|wP I<|xg<|Aa I<|?_
   by_cases hq:Cz j.br=0
   rotate_left
   ·refine wU 42 true I (bne_iff_ne.2 hq)<|xa<|zR I<|xb<|?_
    rw[if_neg fun h=>h (e0 (by decide))] at hE
    rw[if_neg fun h=>h (e1 (by decide))] at hE
    rw[if_neg fun h=>h (e2 (by decide))] at hE
    exact Aa I<|xc<|xi<|wR1 I I (by rw[hE,if_pos hq])
   exact wU 42 false I (bne_eq_false_iff_eq.2 hq)<|xa<|zS I<|zI<|xj<|Aa I<|zC<|Ax 4 ⟨by decide,fun _=>e0 (by decide),fun _=>e1 (by decide),fun _=>e2 (by decide),fun _=>hq⟩ (by decide) ⟨I,I,I,I,I,tO⟩ [] I
 have ei:i=4:=by omega
 subst ei
 rw[if_neg fun h=>h (e0 (by decide)),if_neg fun h=>h (e1 (by decide)),if_neg fun h=>h (e2 (by decide)),if_neg fun h=>h (e3 (by decide))] at hE
 refine wU 36 false I (dF (by omega))<|xa<|zA<|zS I<|xf<|zE<|xd<|wP I<|wB 0 I I I<|wC I I (fun W1 _=>D7 j.k 0 100 W1)<|?_
 by_cases c4:wn j.k 0 100
 rotate_left
 ·exact wU 47 false I (dF c4)<|wP I<|xa<|zR I<|xb<|wP I<|xc<|zP<|wR1 I I (by rw[hE,if_pos c4])
 rw[if_neg fun h=>h c4] at hE
 refine wU 47 true I (dT c4)<|wP I<|xa<|zS I<|zI<|zE<|xd<|wP I<|wB 0 I I I<|wC I I (fun W1 _=>PU j.tw j.tl j.tp j.tt W1)<|wP I<|xg<|Aa I<|?_
 by_cases c5:Gi j.tw j.tl j.tp j.tt=0
 rotate_left
 ·exact wU 53 true I (bne_iff_ne.2 c5)<|xa<|zR I<|xb<|Aa I<|xc<|zP<|wR1 I I (by rw[hE,if_pos c5])
 rw[if_neg fun h=>h c5] at hE
 refine wU 53 false I (bne_eq_false_iff_eq.2 c5)<|xa<|zS I<|zI<|zE<|xd<|wP I<|wB 0 I I I<|wC I I (fun W1 hp=>PB j.ld a.pL a.cL hz.ld hz.lds W1 (hm.hp hp).ld (hv.hp hp) (ht.hp hp))<|wP I<|xg<|Aa I<|?_
 by_cases c6:loadE j.ld=0
 rotate_left
 ·exact wU 59 true I (bne_iff_ne.2 c6)<|xa<|zR I<|xb<|Aa I<|xc<|zP<|wR1 I I (by rw[hE,if_pos c6])
 rw[if_neg fun h=>h c6] at hE
 exact wU 59 false I (bne_eq_false_iff_eq.2 c6)<|xa<|zS I<|zI<|xe<|wP I<|wB 0 I I I<|wC I I (fun W1 hp=>FX j.sn a.pN a.cN hz.sn W1 (hm.hp hp).sn)<|wP I<|xc<|wR1 I I (by rw[hE])
def Ca:List Int->List (List UInt8)->Option (List Int)
 |acc,[]=>some acc
 |acc,w::r=>match atoiAll w with
  | .ok n=>Ca (acc++[n]) r
  |_=>none
theorem Yb {acc:List Int} {w:List UInt8} {r:List (List UInt8)} {n:Int} (h:atoiAll w= .ok n):Ca acc (w::r)=Ca (acc++[n]) r:=by
 show(match atoiAll w with
  | .ok n=>Ca (acc++[n]) r
  |_=>none)=_
 rw[h]
theorem YH {acc:List Int} {w:List UInt8} {r:List (List UInt8)} (h: ∀n,atoiAll w≠ .ok n):Ca acc (w::r)=none:=by
 show(match atoiAll w with
  | .ok n=>Ca (acc++[n]) r
  |_=>none)=_
 split
 ·rename_i n hn
  exact absurd hn (h n)
 ·rfl
def dP (ws:List (List UInt8)) (x:Vec×List Int×Bool):Prop:=x.1.OK 1 x.2.1.length (x.2.1.flatMap C9)/\((Ca [] ws=some x.2.1/\x.2.2=true)\/(Ca [] ws=none/\x.2.1=[]/\x.2.2=false))
theorem ET (ws:List (List UInt8)) (hn:ws.length<=1000000) (hl: ∀w∈ws,w.length<=1000000) (p:Option Addr) (cap:Nat) (W:World) (hA:AB 1 IH W p ws) (hv:AQ W):
  Ag Tryz.prog 83 #[slv p ws.length cap] W (fun x:Vec×List Int×Bool=> .tuple #[x.1.val x.2.1.length, .bool x.2.2]) (dP ws) (fun x=>[x.1.bx 3 (x.2.1.flatMap C9)]):=by
 refine Ab Tryz.func83 I I I<|xb<|Aa I<|xg<|wP I<|xa<|xd<|Ae I<|xa<|zH<|Be ?_
 refine A6 (X:=List Int×Vec×Nat) (fun x=>[(2, .slice none 0 0),(3, .bool false),(4,x.2.1.val x.1.length),(9,slv p ws.length cap),(10, .int .i64 (ws.length:Nat)),(11, .int .i64 (x.2.2:Nat))]) (fun x=>[x.2.1.bx 3 (x.1.flatMap C9)])
  (fun x=>x.2.1.OK 1 x.1.length (x.1.flatMap C9)/\x.2.2<=ws.length/\x.1.length=x.2.2/\Ca x.1 (ws.drop x.2.2)=Ca [] ws) (fun x=>ws.length-x.2.2) ([],Vec.empty,0) ⟨Vec.OK.empty 1,Nat.zero_le _,rfl,rfl⟩ ⟨rfl,rfl,rfl,rfl,rfl,rfl,trivial⟩ [] rfl ?_
 rintro⟨acc,V,i⟩ ⟨hV,hi,hal,hE⟩
 simp only at hV hi hal hE
 refine xb<|wP I<|?_
 by_cases hlt:i<ws.length
 rotate_left
 ·refine wU 12 false I (dF (by show¬((i:Nat):Int)<(ws.length:Nat);omega))<|xa<|zA<|zS I<|xf<|xe<|?_
  rw[List.drop_of_length_le (by omega)] at hE
  exact Ae I<|xc<|An tH I (.tmp I) (.tmp I) (V,acc,true) I ⟨hV, .inl ⟨hE.symm,I⟩⟩ fun W1 hp=>hp.own
 refine wU 12 true I (dT (by show((i:Nat):Int)<(ws.length:Nat);omega))<|xa<|zA<|zR I<|xh<|?_
 rw[List.drop_eq_getElem_cons hlt] at hE
 obtain⟨b,off,rfl,hrow⟩:=hA.row hlt
 have hr:=hrow i hlt
 have hwl:=hl ws[i] (List.getElem_mem hlt)
 obtain⟨w,hw⟩: ∃w,w=ws[i]:=⟨_,rfl⟩
 rw[<-hw] at hr hE hwl
 refine Ao 11 (.int .i64 (i:Nat)) I I<|wJ ?_
 refine wL 0 I I (fun W1 hp=>hr.hp hp) I<|wP I<|xg<|wP I<|wD (X:=Int×Value) I I (fun W1 hp=>EA W1 w hwl (hv.hp hp)) ?_
 rintro⟨z,ev⟩ hz
 refine A8 I<|xa<|xd<|wP I<|?_
 rcases hz with⟨n,hn',e⟩|⟨hno,a,ha⟩
 rotate_left
 ·change ev=_ at ha
  subst ha
  rw[YH hno] at hE
  refine Bf (v:= .bool true) rfl rfl (fun c e=>by cases e) (fun ρ W hρ _=>C4 Tryz.underlying104 rfl (hρ _ _ rfl) (hρ _ _ rfl) (.inr ⟨⟨_,_,rfl⟩,rfl⟩) W) ?_
  exact xa<|zR I<|xb<|Aa I<|xc<|zP<|xi<|An tH I (.tmp I) (.tmp I) (Vec.empty,[],false) I ⟨Vec.OK.empty 1, .inr ⟨hE.symm,I,I⟩⟩ fun W1 hp=>Ej _ _
 injection e with e1 e2
 subst e1 e2
 rw[Yb hn'] at hE
 refine Bf (v:= .bool false) rfl rfl (fun c e=>by cases e) (fun ρ W hρ _=>C4 Tryz.underlying104 rfl (hρ _ _ rfl) (hρ _ _ rfl) (.inl ⟨rfl,rfl⟩) W) ?_
 refine xa<|zS I<|zI<|zE<|zB<|Aa I<|?_
 (refine Ai Tryz.hZ tH rfl rfl rfl rfl rfl rfl rfl rfl rfl rfl rfl ?_;intro)
 refine AA (V:=V) (len:=acc.length) (xs:=acc.flatMap C9) 0 1 Tryz.vec43 (acc++[z]).length ((acc++[z]).flatMap C9) I I I I I I I I I I I hV I I (by rw[List.length_append];rfl) (by rw[CV];rfl) (by rw[List.length_append,List.length_singleton];simp only[maxLen];omega) (by rw[List.length_append,List.length_singleton];omega) I ?_
 intro g c1 j1 hV1
 exact wP I<|zC<|xj<|wP I<|wV 26 ((i+1:Nat):Int) I (Az (by omega))<|wP I<|zC<|Ax (acc++[z],⟨some g,c1,j1⟩,i+1) ⟨hV1,hlt,by show(acc++[z]).length=i+1;rw[List.length_append,List.length_singleton,hal],hE⟩ (by show ws.length-(i+1)<ws.length-i;omega) ⟨I,I,I,I,I,I,tO⟩ [_] I
def BZ (s w:List UInt8):List UInt8×List UInt8×Bool:=if hasPrefix s (w++[10])=true then([],trimPrefix s (w++[10]),true) else((cut s (([10]++w)++[10])).1++[10],(cut s (([10]++w)++[10])).2.1,(cut s (([10]++w)++[10])).2.2)
theorem Qe (s w:List UInt8) (hs:s.length<=1000000) (hw:w.length<=1000) (W:World) (hv:AQ W):
  Ag Tryz.prog 56 #[str s,str w] W (fun _:Unit=> .tuple #[str (BZ s w).1,str (BZ s w).2.1, .bool (BZ s w).2.2]) (fun _=>True) (fun _=>[]):=by
 refine Ab Tryz.func56 I I I<|xb<|Ae I<|zC<|?_
 have hc:=(GU s (([10]++w)++[10])).1
 refine zE<|xd<|Aa I<|DR (a:=w) (b:=[10]) I I I I I (by omega) (by decide) ?_
 refine wC I I (fun W1 _=>DB s (w++[10]) W1) ?_
 cases hp:hasPrefix s (w++[10]) with
 |true=>
  have hU:BZ s w=([],trimPrefix s (w++[10]),true):=by unfold BZ;rw[if_pos hp]
  exact A8 I<|xg<|wP I<|xa<|zR I<|xb<|A3 I<|xc<|zP<|wR3 I I (by rw[hU])
 |false=>
  have hU:BZ s w=((cut s (([10]++w)++[10])).1++[10],(cut s (([10]++w)++[10])).2.1,(cut s (([10]++w)++[10])).2.2):=by unfold BZ;rw[if_neg (by rw[hp];decide)]
  refine A8 I<|xg<|wP I<|xa<|zS I<|zI<|xe<|Aa I<|DR (a:=[10]) (b:=w) I I I I I (by decide) (by omega) ?_
  refine DR (a:=[10]++w) (b:=[10]) I I I I I (by rw[List.length_append];show 1+_<=_;omega) (by decide) ?_
  refine wC I I (fun W1 hp=>C5 W1 s (([10]++w)++[10]) hs (hv.hp hp))<|Bb I<|wP I<|xg<|wP I<|DR (a:=(cut s (([10]++w)++[10])).1) (b:=[10]) I I I I I (by omega) (by decide) ?_
  exact A8 I<|xc<|wR3 I I (by rw[hU])
theorem U0 {s:Sd} (h:rgd s=true):fG s/\(DJ s).length<=200:=by
 have hi: ∀n:Int,0<=n->n<=65536->okI n/\(itoa n).length<=18:=fun n h0 h1=>by
  have hl:(itoa n).length<=9:=by
   unfold itoa
   rw[if_neg (by omega)]
   exact Fa 9 n.toNat (by omega) (by omega)
  exact⟨⟨h0,hl⟩,by omega⟩
 unfold rgd btw at h
 simp only[Bool.and_eq_true,decide_eq_true_eq] at h
 obtain⟨hp,⟨⟨hx,hy⟩,hpl⟩,ho⟩:=h
 obtain⟨ox,lx⟩:=hi s.x hx.1 hx.2
 obtain⟨oy,ly⟩:=hi s.y hy.1 hy.2
 obtain⟨op,lp⟩:=hi s.plate hpl.1 hpl.2
 obtain⟨oo,lo⟩:=hi s.over ho.1 ho.2
 cases hg:s.gable with
 |true=>
  rw[hg] at hp
  have hp':(s.rise==0&&s.run==0)=true:=hp
  simp only[Bool.and_eq_true,beq_iff_eq] at hp'
  refine⟨⟨ox,oy,fun _=>hp',fun h=>(by rw[hg] at h;cases h),op,oo⟩, ?_⟩
  unfold DJ C0
  rw[if_pos hg,join_length]
  simp only[lens,List.map_cons,List.map_nil,List.sum_cons,List.sum_nil,List.length_cons,List.length_nil,Fb]
  omega
 |false=>
  rw[hg] at hp
  have hp':((decide (1<=s.rise)&&decide (s.rise<=48))&&(decide (1<=s.run)&&decide (s.run<=48)))=true:=hp
  simp only[Bool.and_eq_true,decide_eq_true_eq] at hp'
  obtain⟨or_,lr⟩:=hi s.rise (by omega) (by omega)
  obtain⟨ou,lu⟩:=hi s.run (by omega) (by omega)
  refine⟨⟨ox,oy,fun h=>(by rw[hg] at h;cases h),fun _=>⟨or_,ou⟩,op,oo⟩, ?_⟩
  unfold DJ C0
  rw[if_neg (by rw[hg];decide),join_length]
  simp only[lens,List.map_cons,List.map_nil,List.sum_cons,List.sum_nil,List.length_cons,List.length_nil]
  omega
abbrev rl:List UInt8:=HI++[10]
def txt (rs:List (List Sd)) (r i:Nat):List UInt8:=Bj (rs.take r)++((HI++[10])++unl (((rg rs r).take i).map DJ))
theorem X7 (rs:List (List Sd)) (r:Nat):txt rs r 0=Bj (rs.take r)++rl:=by
 unfold txt
 rw[List.take_zero,List.map_nil]
 show _++((HI++[10])++[])=_
 rw[List.append_nil]
theorem XV {rs:List (List Sd)} {r i:Nat} (hi:i<(rg rs r).length):txt rs r (i+1)=(txt rs r i++DJ (sd (rg rs r) i))++[10]:=by
 have e:(rg rs r).take (i+1)=(rg rs r).take i++[sd (rg rs r) i]:=by rw[List.take_add_one,LD hi];rfl
 unfold txt
 rw[e,List.map_append,UK,List.map_cons,List.map_nil,Qt]
 simp[unl]
theorem UF {rs:List (List Sd)} {r:Nat} (hr:r<rs.length):txt rs r (rg rs r).length=Bj (rs.take (r+1)):=by
 have e:rs.take (r+1)=rs.take r++[rg rs r]:=by rw[List.take_add_one,CO hr];rfl
 unfold txt
 rw[e,P8,List.take_length]
 simp[Bj,If,lns,unl]
theorem U8 {l:List Sd} (h: ∀s∈l,rgd s=true): ∀i,i<=l.length->(unl ((l.take i).map DJ)).length<=201*i
 |0,_=>by simp[unl]
 |i+1,hi=>by
  have ih:=U8 h i (by omega)
  have e:l.take (i+1)=l.take i++[sd l i]:=by rw[List.take_add_one,LD (by omega)];rfl
  have hl:=(U0 (h _ (List.mem_of_getElem? (LD (show i<l.length by omega))))).2
  rw[e,List.map_append,UK,List.map_cons,List.map_nil,Qt,List.length_append,List.length_append,List.length_cons]
  simp only[unl,List.map_nil,List.flatten_nil,List.length_nil] at ih⊢
  omega
theorem Li {rs:List (List Sd)} (h: ∀l∈rs, ∀s∈l,rgd s=true): ∀r,r<=rs.length->(Bj (rs.take r)).length<=5*r+201*tot (rs.take r)/\(r<rs.length-> ∀i,i<=(rg rs r).length->(txt rs r i).length<=5*(r+1)+201*(tot (rs.take r)+i))
 |r,hr=>by
  have hp:(Bj (rs.take r)).length<=5*r+201*tot (rs.take r):=by
   cases r with
   |zero=>simp[Bj,If,unl]
   |succ r=>
    have ih:=(Li h r (by omega)).2 (by omega) _ (Nat.le_refl _)
    rw[UF (by omega)] at ih
    rw[Cm (show r<rs.length by omega)]
    exact ih
  refine⟨hp,fun hlt i hi=> ?_⟩
  have hu:=U8 (h _ (List.mem_of_getElem? (CO hlt))) i hi
  unfold txt
  rw[List.length_append,List.length_append]
  have:(HI++[10]).length=5:=rfl
  omega
theorem J5 {rs:List (List Sd)} (h: ∀l∈rs,l≠[]): ∀r,r<=rs.length->r<=tot (rs.take r)
 |0,_=>Nat.zero_le _
 |r+1,hr=>by
  have ih:=J5 h r (by omega)
  have:=List.length_pos_iff.2 (h _ (List.mem_of_getElem? (CO (show r<rs.length by omega))))
  rw[Cm (show r<rs.length by omega)]
  omega
def EU (s:Sd):List (List UInt8):=if s.gable then[itoa s.x,itoa s.y,Fb] else[itoa s.x,itoa s.y,itoa s.rise,itoa s.run]
theorem QD (s:Sd):EU s++[itoa s.plate,itoa s.over]=C0 s:=by
 unfold EU C0
 split<;>rfl
theorem GD {W0 W:World} {bxs:List Bx} (hp:Hp W0 bxs W) (k:Nat) {g cap:Nat} {junk:List Value} {ws:List (List UInt8)} (hk:nth bxs k=some ⟨g,9,ss ws++junk,true,none⟩) (hcap:ws.length<=cap) (hn:ws.length<=1000) (hl:(join ws [32]).length<=1000000):
  Ag Tryz.prog 143 #[.slice (some ⟨g,0,none⟩) ws.length cap,str [32]] W (fun _:Unit=>str (join ws [32])) (fun _=>True) (fun _=>[]):=by
 have hm:(ws.map fun l=>(⟨l.toArray⟩:ByteArray)).map (·.data.toList)=ws:=by
  rw[List.map_map]
  conv=>rhs;rw[<-List.map_id ws]
  exact List.map_congr_left fun l _=>rfl
 have hat:=Al.of_bx hp k hk rfl
 have h:=Tryz.strings_Join g 0 cap (ws.map fun l=>(⟨l.toArray⟩:ByteArray)) ⟨#[32]⟩ W (fun j x hx=>by
  rw[List.getElem?_map] at hx
  cases hw:ws[j]? with
  |none=>rw[hw] at hx;cases hx
  |some l=>
   rw[hw] at hx
   injection hx with hx
   have:=hat.get j (str l) (by
    show(ss ws++junk)[j]? =some (str l)
    rw[List.getElem?_append_left (by rw[List.length_map];exact(List.getElem?_eq_some_iff.1 hw).1),List.getElem?_map,hw];rfl)
   rw[<-hx]
   exact this) hat.lt (by rw[List.length_map];omega) (by rw[List.length_map];exact hcap) (by rw[hm];show(join ws [32]).length<=_;omega)
 rw[hm,List.length_map] at h
 refine Ag.of1 (h.mono ?_)
 rintro e w' ⟨rfl,hb⟩
 exact⟨I,hb⟩
theorem Yy (W:World) (p:Option Addr) (cap:Nat) (rs:List (List Sd)) (hn:rs.length<4611686018427387904) (hR:C6 W p rs) (hc:chk rs=0) (ht:AZ W):
  Ag Tryz.prog 86 #[Sb p rs.length cap] W (fun _:Unit=> .tuple #[str (Bj rs), .int .i64 0]) (fun _=>True) (fun _=>[]):=by
 obtain⟨hne,hT,_⟩:=Ln hc
 obtain⟨hrg,_⟩:=Ok hc
 have hl: ∀l∈rs,l.length<4611686018427387904:=fun l h=>by have:=IL h;omega
 have hrt:=J5 hne
 refine Ab Tryz.func86 I I I<|xb<|wF I I fun _=>Aa I<|zC<|?_
 rename_i b1
 refine zE<|xd<|wB 0 I I I<|wC I I (fun W hp=>(ER W p cap rs hn (by omega) (hR.hp hp)).cast (by rw[hc]))<|wP I<|xa<|zS I<|zI<|xe<|wG I I fun _=>zC<|?_
 rename_i b4
 refine zE<|xd<|wP I<|wB 0 I I I<|Aa I<|xa<|zH<|Be ?_
 refine En (X:=Nat×Vec×Value) (fun x=>[(4,Af b4),(14,slv p rs.length cap),(15, .int .i64 (rs.length:Nat)),(16, .int .i64 (x.1:Nat))]) (fun x=>Hp W [FR b4 x.2.2 (x.2.1.val (Bj (rs.take x.1)).length),x.2.1.bx 5 (bc (Bj (rs.take x.1)))])
  (fun x=>x.1<=rs.length/\x.2.1.OK 1 (Bj (rs.take x.1)).length (bc (Bj (rs.take x.1)))/\(x.2.2= .pointer none\/x.2.2=Af b4)) (fun x=>rs.length-x.1) (0,Vec.empty, .pointer none) ⟨Nat.zero_le _,Vec.OK.empty 1, .inl rfl⟩ ⟨rfl,rfl,rfl,rfl,trivial⟩ (fun W1 hp=>hp.pick [1,2] (by decide) rfl) ?_
 rintro⟨r,V,pv⟩ ⟨hr,hV,hpv⟩
 change r<=rs.length at hr
 change V.OK 1 (Bj (rs.take r)).length (bc (Bj (rs.take r))) at hV
 change pv= .pointer none\/pv=Af b4 at hpv
 refine xb<|wP I<|xa<|zA<|Av I (fun h=> ?_) (fun h=> ?_)
 rotate_left
 ·have e:r=rs.length:=by have h':decide ((r:Int)<(rs.length:Nat))=false:=h;rw[decide_eq_false_iff_not] at h';omega
  subst e
  rw[List.take_length] at hV
  refine xf<|xe<|?_
  refine Eg (X:=Unit) (val:=fun _=>str (Bj rs)) (Φ:=fun _=>True) (capt:=[]) (vs:=[Af b4]) (fun _=>[]) I I I I I I (by kernel_rfl) (fun W1 hp=>I1 hpv (by rw[List.take_length] at hp;exact hp) hV) ?_
  intro _ _
  exact Aa I<|xc<|wR2 I I I
 have hr:r<rs.length:=by have h':decide ((r:Int)<(rs.length:Nat))=true:=h;rw[decide_eq_true_iff] at h';omega
 clear h
 obtain⟨b,off,rfl,hrow⟩:=hR.row hr
 obtain⟨q,cap2,hq1,hq2⟩:=hrow r hr
 have t1:=Cm hr
 have t2:=EO rs (r+1)
 have hlr:=IL (List.mem_of_getElem? (CO hr))
 have hpl:=(Li hrg r (by omega)).1
 have htl:=(Li hrg r (by omega)).2 hr
 have hr1:=hrt r (by omega)
 refine xh<|wJ ?_
 refine wL 0 I I (fun W hp=>hq1.hp hp) I<|wP I<|xg<|?_
 refine Eg (X:=Vec) (val:=fun _=> .tuple #[.int .i64 (rl.length:Nat), .nilIface]) (Φ:=fun x=>x.OK 1 (Bj (rs.take r)++rl).length (bc (Bj (rs.take r)++rl))) (capt:=[]) (vs:=[Af b4,str rl]) (fun x=>[FR b4 (Af b4) (x.val (Bj (rs.take r)++rl).length),x.bx 5 (bc (Bj (rs.take r)++rl))])
  rfl rfl rfl rfl rfl rfl (by kernel_rfl) (fun W1 hp=>G5 (W0:=W) (b:=b4) (p:=pv) (V:=V) (l:=Bj (rs.take r)) rl hpv hp hV (by have:rl.length=5:=rfl;omega)) ?_
 rw[<-X7]
 intro V2 hV2
 refine xg<|Ae I<|xa<|zH<|?_
 refine A6 (X:=Nat×Vec) (fun x=>[(4,Af b4),(14,slv (some ⟨b,off,none⟩) rs.length cap),(15, .int .i64 (rs.length:Nat)),(16, .int .i64 (r:Nat)),(21,slv q (rg rs r).length cap2),(22, .int .i64 ((rg rs r).length:Nat)),(23, .int .i64 (x.1:Nat))]) (fun x=>[FR b4 (Af b4) (x.2.val (txt rs r x.1).length),x.2.bx 5 (bc (txt rs r x.1))])
  (fun x=>x.1<=(rg rs r).length/\x.2.OK 1 (txt rs r x.1).length (bc (txt rs r x.1))) (fun x=>(rg rs r).length-x.1) (0,V2) ⟨Nat.zero_le _,hV2⟩ ⟨rfl,rfl,rfl,rfl,rfl,rfl,rfl,trivial⟩ [] rfl ?_
 rintro⟨i,V3⟩ ⟨hi,hV3⟩
 change i<=(rg rs r).length at hi
 change V3.OK 1 (txt rs r i).length (bc (txt rs r i)) at hV3
 refine xb<|wP I<|xa<|zA<|Av I (fun h=> ?_) (fun h=> ?_)
 rotate_left
 ·have e:i=(rg rs r).length:=by have h':decide ((i:Int)<((rg rs r).length:Nat))=false:=h;rw[decide_eq_false_iff_not] at h';omega
  subst e
  rw[UF hr] at hV3⊢
  exact xf<|xj<|Aa I<|zC<|D5 (r+1,V3,Af b4) ⟨hr,hV3, .inr I⟩ (by show rs.length-(r+1)<rs.length-r;omega) ⟨I,I,I,congrArg (fun z=>some (Value.int .i64 z)) (BO (x:=(r:Int)+1) (by omega) (by omega)),tO⟩ (fun W1 hp=>hp)
 have hi:i<(rg rs r).length:=by have h':decide ((i:Int)<((rg rs r).length:Nat))=true:=h;rw[decide_eq_true_iff] at h';omega
 clear h
 obtain⟨bq,oq,rfl,hrq⟩:=hq2.row hi
 obtain⟨hok,hll⟩:=U0 (hrg _ (List.mem_of_getElem? (CO hr)) _ (List.mem_of_getElem? (LD hi)))
 have hti:=htl i (by omega)
 have hts:=XV hi
 have b64: ∀n:Int,okI n-> -9223372036854775808<=n/\n<=9223372036854775807:=fun n h=>by
  have hb:n.toNat<10^9:=Py 9 _ (by have h9:=h.2;unfold itoa at h9;rwa [if_neg (by have:=h.1;omega)] at h9)
  have:=h.1
  omega
 refine xh<|wJ ?_
 refine wL 0 I I (fun W hp=>(hrq i hi).hp hp) I<|wG I I fun _=>wS 2 I I I<|zC<|?_
 rename_i b8
 generalize hsd:sd (rg rs r) i=s at*
 refine zE<|zA<|zU<|qP I<|qB 2 I I I<|qC I I (fun W hp=>AF s.x (b64 _ hok.1).1 (b64 _ hok.1).2 W (ht.hp hp))<|qP I<|qB 2 I I I<|qC I I (fun W hp=>AF s.y (b64 _ hok.2.1).1 (b64 _ hok.2.1).2 W (ht.hp hp))<|zD<|?_
 (refine Ai Tryz.hZ tH rfl rfl rfl rfl rfl rfl rfl rfl rfl rfl rfl ?_;intro)
 refine wP I<|zC<|?_
 rename_i b33
 refine Le ?_
 refine F2 (X:=Vec) (fun x=>[(4,Af b4),(8, .pointer (some ⟨b8,0,none⟩)),(9,x.val (EU s).length),(14,slv (some ⟨b,off,none⟩) rs.length cap),(15, .int .i64 (rs.length:Nat)),(16, .int .i64 (r:Nat)),(21,slv (some ⟨bq,oq,none⟩) (rg rs r).length cap2),(22, .int .i64 ((rg rs r).length:Nat)),(23, .int .i64 (i:Nat))]) (fun x=>[FR b4 (Af b4) (V3.val (txt rs r i).length),V3.bx 5 (bc (txt rs r i)),⟨b8,79,s.cells,true,none⟩,x.bx 9 (ss (EU s))])
  (fun x=>x.OK 1 (EU s).length (ss (EU s))) ?_ ?_
 ·refine xb<|wP I<|wB 2 I I I<|xa<|Av I (fun hg=> ?_) (fun hg=> ?_)
  ·have hg:s.gable=true:=hg
   have hm:EU s=[itoa s.x,itoa s.y,Fb]:=by unfold EU;rw[if_pos hg]
   refine zB<|wP I<|?_
   (refine Ai Tryz.hZ tH rfl rfl rfl rfl rfl rfl rfl rfl rfl rfl rfl ?_;intro)
   refine AA (V:=⟨some b33,2,[]⟩) (len:=2) (xs:=ss [itoa s.x,itoa s.y]) 3 4 Tryz.vec126 (EU s).length (ss (EU s)) rfl rfl rfl rfl rfl rfl rfl rfl rfl rfl rfl ⟨rfl,fun h=>(by cases h),fun _=>⟨Nat.le_refl _,by simp only[maxLen];omega,rfl⟩⟩ rfl rfl (by rw[hm];rfl) (by rw[hm];rfl) (by rw[hm];simp only[maxLen,List.length_cons,List.length_nil];omega) (by rw[hm];simp only[List.length_cons,List.length_nil];omega) rfl ?_
   intro g c1 j1 hV4
   exact wP I<|zC<|Jp ⟨some g,c1,j1⟩ hV4 ⟨I,I,I,I,I,I,I,I,I,tO⟩ [0,1,2,3] (by decide) I
  ·have hg:s.gable=false:=hg
   have hm:EU s=[itoa s.x,itoa s.y,itoa s.rise,itoa s.run]:=by unfold EU;rw[if_neg (by rw[hg];decide)]
   obtain⟨o1,o2⟩:=hok.2.2.2.1 hg
   refine Bh (X:= { x:Vec//x.OK 1 (EU s).length (ss (EU s)) }) [true,true,true,true,true,true,true,false,false,false] (fun x=>[(4,Af b4),(8, .pointer (some ⟨b8,0,none⟩)),(9,x.1.val (EU s).length),(14,slv (some ⟨b,off,none⟩) rs.length cap),(15, .int .i64 (rs.length:Nat)),(16, .int .i64 (r:Nat)),(21,slv (some ⟨bq,oq,none⟩) (rg rs r).length cap2),(22, .int .i64 ((rg rs r).length:Nat)),(23, .int .i64 (i:Nat))]) (fun x=>[FR b4 (Af b4) (V3.val (txt rs r i).length),V3.bx 5 (bc (txt rs r i)),⟨b8,79,s.cells,true,none⟩,x.1.bx 9 (ss (EU s))])
    3 [FR b4 (Af b4) (V3.val (txt rs r i).length),V3.bx 5 (bc (txt rs r i)),⟨b8,79,s.cells,true,none⟩,⟨b33,9,ss [itoa s.x,itoa s.y],true,none⟩] Tryz.mixed (by kernel_rfl) ?_ ?_
   ·refine AO I<|qB 2 I I I<|qC I I (fun W hp=>AF s.rise (b64 _ o1).1 (b64 _ o1).2 W (ht.hp hp))<|qP I<|qB 2 I I I<|qC I I (fun W hp=>AF s.run (b64 _ o2).1 (b64 _ o2).2 W (ht.hp hp))<|Cp<|wX<|wZ<|?_
    (refine Ai Tryz.hZ tH rfl rfl rfl rfl rfl rfl rfl rfl rfl rfl rfl ?_;intro)
    refine zC<|Aw<|wX<|wZ<|?_
    refine AA (V:=⟨some b33,2,[]⟩) (len:=2) (xs:=ss [itoa s.x,itoa s.y]) 3 4 Tryz.vec126 (EU s).length (ss (EU s)) rfl rfl rfl rfl rfl rfl rfl rfl rfl rfl rfl ⟨rfl,fun h=>(by cases h),fun _=>⟨Nat.le_refl _,by simp only[maxLen];omega,rfl⟩⟩ rfl rfl (by rw[hm];rfl) (by rw[hm];rfl) (by rw[hm];simp only[maxLen,List.length_cons,List.length_nil];omega) (by rw[hm];simp only[List.length_cons,List.length_nil];omega) rfl ?_;intro g c1 j1 hV4
    refine zC<|Aw<|wY<|wZ<|wP I<|zC<|Aw<|Cq I (by kernel_rfl) ?_
    exact AR ⟨⟨some g,c1,j1⟩,hV4⟩ ⟨I,I,I,I,I,I,I,I,I,tO⟩ [0,1,2,3] (by decide) I
   rintro⟨V4,hV4⟩
   exact Jp V4 hV4 ⟨I,I,I,I,I,I,I,I,I,tO⟩ [0,1,2,3] (by decide) I
 intro V4 hV4
 have hml:(EU s).length<=4:=by unfold EU;split<;>simp
 have hwl:(C0 s).length=(EU s).length+2:=by rw[<-QD,List.length_append];rfl
 repeat refine EX ?_
 refine Bh (X:= { x:Nat×Nat×List Value//(⟨some x.1,x.2.1,x.2.2⟩:Vec).OK 1 (C0 s).length (ss (C0 s)) }) [true,true,true,true,true,true,true,false,false,false] (fun x=>[(4,Af b4),(8, .pointer (some ⟨b8,0,none⟩)),(9, .slice (some ⟨x.1.1,0,none⟩) (C0 s).length x.1.2.1),(14,slv (some ⟨b,off,none⟩) rs.length cap),(15, .int .i64 (rs.length:Nat)),(16, .int .i64 (r:Nat)),(21,slv (some ⟨bq,oq,none⟩) (rg rs r).length cap2),(22, .int .i64 ((rg rs r).length:Nat)),(23, .int .i64 (i:Nat))]) (fun x=>[FR b4 (Af b4) (V3.val (txt rs r i).length),V3.bx 5 (bc (txt rs r i)),⟨b8,79,s.cells,true,none⟩,⟨x.1.1,9,ss (C0 s)++x.1.2.2,true,none⟩])
  3 [FR b4 (Af b4) (V3.val (txt rs r i).length),V3.bx 5 (bc (txt rs r i)),⟨b8,79,s.cells,true,none⟩,V4.bx 9 (ss (EU s))] Tryz.mixed (by kernel_rfl) ?_ ?_
 ·refine AO I<|qB 2 I I I<|qC I I (fun W hp=>AF s.plate (b64 _ hok.2.2.2.2.1).1 (b64 _ hok.2.2.2.2.1).2 W (ht.hp hp))<|qP I<|qB 2 I I I<|qC I I (fun W hp=>AF s.over (b64 _ hok.2.2.2.2.2).1 (b64 _ hok.2.2.2.2.2).2 W (ht.hp hp))<|Cp<|wX<|wZ<|?_
  (refine Ai Tryz.hZ tH rfl rfl rfl rfl rfl rfl rfl rfl rfl rfl rfl ?_;intro)
  refine zC<|Aw<|wX<|wZ<|?_
  refine AA (V:=V4) (len:=(EU s).length) (xs:=ss (EU s)) 3 4 Tryz.vec126 (C0 s).length (ss (C0 s)) rfl rfl rfl rfl rfl rfl rfl rfl rfl rfl rfl hV4 rfl rfl hwl.symm (by show ss (EU s)++ss [itoa s.plate,itoa s.over]=_;rw[<-QD];exact List.map_append.symm) (by simp only[maxLen];omega) (by omega) rfl ?_;intro g c1 j1 hV5
  refine zC<|Aw<|wY<|wZ<|wP I<|zC<|Aw<|Cq I (by kernel_rfl) ?_
  exact AR ⟨(g,c1,j1),hV5⟩ ⟨I,I,I,I,I,I,I,I,I,tO⟩ [0,1,2,3] (by decide) I
 rintro⟨⟨g,c1,j1⟩,hV5⟩
 change (⟨some g,c1,j1⟩:Vec).OK 1 (C0 s).length (ss (C0 s)) at hV5
 have hc1:(C0 s).length<=c1:=(hV5.cap (by simp)).1
 refine xe<|wP I<|wC I I (fun W hp=>GD hp 3 (g:=g) (cap:=c1) (junk:=j1) (ws:=C0 s) I hc1 (by omega) (by have:(join (C0 s) [32]).length<=200:=hll;omega))<|?_
 refine Eg (X:=Vec) (val:=fun _=> .tuple #[.int .i64 ((DJ s).length:Nat), .nilIface]) (Φ:=fun x=>x.OK 1 (txt rs r i++DJ s).length (bc (txt rs r i++DJ s))) (capt:=[]) (vs:=[Af b4,str (DJ s)]) (fun x=>[FR b4 (Af b4) (x.val (txt rs r i++DJ s).length),x.bx 5 (bc (txt rs r i++DJ s))])
  rfl rfl rfl rfl rfl rfl (by kernel_rfl) (fun W1 hp=>G5 (W0:=W) (b:=b4) (p:=Af b4) (V:=V3) (l:=txt rs r i) (DJ s) (.inr rfl) (hp.pick [0,1] (by decide) rfl) hV3 (by omega)) ?_
 intro V6 hV6
 refine xa<|zB<|?_
 refine Eg (X:=Vec) (val:=fun _=> .nilIface) (Φ:=fun x=>x.OK 1 (txt rs r (i+1)).length (bc (txt rs r (i+1)))) (capt:=[]) (vs:=[Af b4, .int .u8 10]) (fun x=>[FR b4 (Af b4) (x.val (txt rs r (i+1)).length),x.bx 5 (bc (txt rs r (i+1)))])
  rfl rfl rfl rfl rfl rfl (by kernel_rfl) (fun W1 hp=>by rw[hts];exact Re (W0:=W) (b:=b4) (p:=Af b4) (V:=V6) (l:=txt rs r i++DJ s) 10 (.inr rfl) hp hV6 (by rw[List.length_append];omega)) ?_
 intro V7 hV7
 exact zC<|xj<|Aa I<|zC<|Ax (i+1,V7) ⟨hi,hV7⟩ (by show(rg rs r).length-(i+1)<(rg rs r).length-i;omega) ⟨I,I,I,I,I,I,congrArg (fun z=>some (Value.int .i64 z)) (BO (x:=(i:Int)+1) (by omega) (by omega)),tO⟩ [] I
def DQ (w:List UInt8) (l:List Int):List UInt8:=join ((if w=[] then[] else[w])++l.map itoa) [32]++[10]
theorem HS (w:List UInt8) (l:List Int) (h0:l≠[]) (hn:l.length<=900) (hb: ∀z∈l, -9223372036854775808<=z/\z<=9223372036854775807) (hj:(DQ w l).length<=1000000) (p:Option Addr) (cap:Nat) (W:World) (hA:AB 1 C9 W p l) (ht:AZ W):
  Ag Tryz.prog 146 #[str w,slv p l.length cap] W (fun _:Unit=>str (DQ w l)) (fun _=>True) (fun _=>[]):=by
 have hpos:0<l.length:=List.length_pos_iff.2 h0
 refine Ab Tryz.func146 I I I<|xb<|wP I<|xg<|wP I<|xa<|xd<|Aa I<|?_
 by_cases hw:w=[]
 ·have hS:DQ w l=join (([]:List (List UInt8))++l.map itoa) [32]++[10]:=by unfold DQ;rw[if_pos hw]
  have hWn:(([]:List (List UInt8))++l.map itoa).length<=1000:=by rw[List.length_append,List.length_map,List.length_nil];omega
  have hWj:(join (([]:List (List UInt8))++l.map itoa) [32]).length<=1000000:=by rw[hS,List.length_append] at hj;omega
  refine wU 9 false I ((Ig w).trans (dF fun h=>h hw))<|xa<|zS I<|zI<|zE<|xd<|Ae I<|xa<|zH<|Be ?_
  refine A6 (X:=Nat×Vec) (fun x=>[(4,str []),(5,x.2.val (([]:List (List UInt8))++(l.take x.1).map itoa).length),(14,slv p l.length cap),(15, .int .i64 (l.length:Nat)),(16, .int .i64 (x.1:Nat))]) (fun x=>[x.2.bx 9 (ss (([]:List (List UInt8))++(l.take x.1).map itoa))])
   (fun x=>x.1<=l.length/\x.2.OK 1 (([]:List (List UInt8))++(l.take x.1).map itoa).length (ss (([]:List (List UInt8))++(l.take x.1).map itoa))) (fun x=>l.length-x.1) (0,Vec.empty) ⟨Nat.zero_le _,Vec.OK.empty 1⟩ ⟨rfl,rfl,rfl,rfl,rfl,trivial⟩ [] rfl ?_
  rintro⟨i,V⟩ ⟨hi,hV⟩
  simp only at hi hV
  refine xb<|wP I<|?_
  by_cases hlt:i<l.length
  rotate_left
  ·have ei:i=l.length:=by omega
   subst ei
   rw[List.take_length] at hV
   refine wU 17 false I (dF (by show¬((l.length:Nat):Int)<(l.length:Nat);omega))<|xa<|zA<|zS I<|xf<|xe<|?_
   obtain⟨vp,vc,vj⟩:=V
   cases vp with
   |none=>
    have h0:=hV.nil rfl
    rw[List.length_append,List.length_map] at h0
    exact absurd h0 (by omega)
   |some g2=>
    have hcp:=(hV.cap (by simp)).1
    refine Ao 5 (.slice (some ⟨g2,0,none⟩) (([]:List (List UInt8))++l.map itoa).length vc) I (by show Value.slice _ (([]:List (List UInt8))++(l.take l.length).map itoa).length _=_;rw[List.take_length])<|wP I<|wC I I (fun W1 hp=>GD hp 0 (g:=g2) (cap:=vc) (junk:=vj) (ws:=([]:List (List UInt8))++l.map itoa) (by show some (Bx.mk g2 _ (ss (([]:List (List UInt8))++(l.take l.length).map itoa)++vj) true none)=_;rw[List.take_length]) hcp hWn hWj)<|DR (a:=join (([]:List (List UInt8))++l.map itoa) [32]) (b:=[10]) I I I I I (by omega) (by decide) ?_
    exact wP I<|xc<|wR1 I I (by rw[hS])
  refine wU 17 true I (dT (by show((i:Nat):Int)<(l.length:Nat);omega))<|xa<|zA<|zR I<|xh<|?_
  obtain⟨b,off,rfl,hrow⟩:=hA.row hlt
  have hr:=hrow i hlt
  have hzb:=hb l[i] (List.getElem_mem hlt)
  have htk:l.take (i+1)=l.take i++[l[i]]:=by rw[List.take_add_one,List.getElem?_eq_getElem hlt];rfl
  obtain⟨z,hz⟩: ∃z,z=l[i]:=⟨_,rfl⟩
  rw[<-hz] at hr hzb htk
  refine Ao 16 (.int .i64 (i:Nat)) I I<|wJ ?_
  refine wL 0 I I (fun W1 hp=>hr.hp hp) I<|wP I<|xa<|zB<|Aa I<|wC I I (fun W1 hp=>AF z hzb.1 hzb.2 W1 (ht.hp hp))<|Ai Tryz.hZ tH I I I I I I I I I I I fun bS=> ?_
  refine AA (V:=V) (len:=(([]:List (List UInt8))++(l.take i).map itoa).length) (xs:=ss (([]:List (List UInt8))++(l.take i).map itoa)) 0 1 Tryz.vec126 (([]:List (List UInt8))++(l.take (i+1)).map itoa).length (ss (([]:List (List UInt8))++(l.take (i+1)).map itoa)) I I I I I I I I I I I hV I I (by rw[htk,List.map_append,List.length_append,List.length_append,List.length_append];rfl) (by rw[htk,List.map_append, <-List.append_assoc];show ss (([]:List (List UInt8))++(l.take i).map itoa)++ss [itoa z]=ss (([]:List (List UInt8))++(l.take i).map itoa++[itoa z]);exact(List.map_append ..).symm) (by rw[List.length_append,List.length_map,List.length_take];have:(([]:List (List UInt8))).length<=1:=(Nat.zero_le _);simp only[maxLen];omega) (by rw[List.length_append,List.length_map,List.length_take];have:(([]:List (List UInt8))).length<=1:=(Nat.zero_le _);omega) I ?_
  intro g2 c2 j2 hV2
  exact wP I<|zC<|xj<|wP I<|wV 25 ((i+1:Nat):Int) I (Az (by omega))<|wP I<|zC<|Ax (i+1,⟨some g2,c2,j2⟩) ⟨hlt,hV2⟩ (by show l.length-(i+1)<l.length-i;omega) ⟨I,I,I,I,I,tO⟩ [_] I
 ·have hS:DQ w l=join ([w]++l.map itoa) [32]++[10]:=by unfold DQ;rw[if_neg hw]
  have hWn:([w]++l.map itoa).length<=1000:=by rw[List.length_append,List.length_map,List.length_singleton];omega
  have hWj:(join ([w]++l.map itoa) [32]).length<=1000000:=by rw[hS,List.length_append] at hj;omega
  refine wU 9 true I ((Ig w).trans (dT hw))<|xa<|zR I<|Be ?_
  refine zB<|Aa I<|?_
  (refine Ai Tryz.hZ tH rfl rfl rfl rfl rfl rfl rfl rfl rfl rfl rfl ?_;intro)
  refine AA (V:=Vec.empty) (len:=0) (xs:=[]) 0 1 Tryz.vec126 1 (ss [w]) I I I I I I I I I I I (Vec.OK.empty 1) I I I I (by simp only[maxLen];omega) (by decide) I ?_
  intro g1 c1 j1 hV1
  refine wP I<|xa<|xd<|Ae I<|xa<|zH<|?_
  refine A6 (X:=Nat×Vec) (fun x=>[(4,str []),(5,x.2.val ([w]++(l.take x.1).map itoa).length),(14,slv p l.length cap),(15, .int .i64 (l.length:Nat)),(16, .int .i64 (x.1:Nat))]) (fun x=>[x.2.bx 9 (ss ([w]++(l.take x.1).map itoa))])
   (fun x=>x.1<=l.length/\x.2.OK 1 ([w]++(l.take x.1).map itoa).length (ss ([w]++(l.take x.1).map itoa))) (fun x=>l.length-x.1) (0,⟨some g1,c1,j1⟩) ⟨Nat.zero_le _,hV1⟩ ⟨rfl,rfl,rfl,rfl,rfl,trivial⟩ [_] rfl ?_
  rintro⟨i,V⟩ ⟨hi,hV⟩
  simp only at hi hV
  refine xb<|wP I<|?_
  by_cases hlt:i<l.length
  rotate_left
  ·have ei:i=l.length:=by omega
   subst ei
   rw[List.take_length] at hV
   refine wU 17 false I (dF (by show¬((l.length:Nat):Int)<(l.length:Nat);omega))<|xa<|zA<|zS I<|xf<|xe<|?_
   obtain⟨vp,vc,vj⟩:=V
   cases vp with
   |none=>
    have h0:=hV.nil rfl
    rw[List.length_append,List.length_map] at h0
    exact absurd h0 (by omega)
   |some g2=>
    have hcp:=(hV.cap (by simp)).1
    refine Ao 5 (.slice (some ⟨g2,0,none⟩) ([w]++l.map itoa).length vc) I (by show Value.slice _ ([w]++(l.take l.length).map itoa).length _=_;rw[List.take_length])<|wP I<|wC I I (fun W1 hp=>GD hp 0 (g:=g2) (cap:=vc) (junk:=vj) (ws:=[w]++l.map itoa) (by show some (Bx.mk g2 _ (ss ([w]++(l.take l.length).map itoa)++vj) true none)=_;rw[List.take_length]) hcp hWn hWj)<|DR (a:=join ([w]++l.map itoa) [32]) (b:=[10]) I I I I I (by omega) (by decide) ?_
    exact wP I<|xc<|wR1 I I (by rw[hS])
  refine wU 17 true I (dT (by show((i:Nat):Int)<(l.length:Nat);omega))<|xa<|zA<|zR I<|xh<|?_
  obtain⟨b,off,rfl,hrow⟩:=hA.row hlt
  have hr:=hrow i hlt
  have hzb:=hb l[i] (List.getElem_mem hlt)
  have htk:l.take (i+1)=l.take i++[l[i]]:=by rw[List.take_add_one,List.getElem?_eq_getElem hlt];rfl
  obtain⟨z,hz⟩: ∃z,z=l[i]:=⟨_,rfl⟩
  rw[<-hz] at hr hzb htk
  refine Ao 16 (.int .i64 (i:Nat)) I I<|wJ ?_
  refine wL 0 I I (fun W1 hp=>hr.hp hp) I<|wP I<|xa<|zB<|Aa I<|wC I I (fun W1 hp=>AF z hzb.1 hzb.2 W1 (ht.hp hp))<|Ai Tryz.hZ tH I I I I I I I I I I I fun bS=> ?_
  refine AA (V:=V) (len:=([w]++(l.take i).map itoa).length) (xs:=ss ([w]++(l.take i).map itoa)) 0 1 Tryz.vec126 ([w]++(l.take (i+1)).map itoa).length (ss ([w]++(l.take (i+1)).map itoa)) I I I I I I I I I I I hV I I (by rw[htk,List.map_append,List.length_append,List.length_append,List.length_append];rfl) (by rw[htk,List.map_append, <-List.append_assoc];show ss ([w]++(l.take i).map itoa)++ss [itoa z]=ss ([w]++(l.take i).map itoa++[itoa z]);exact(List.map_append ..).symm) (by rw[List.length_append,List.length_map,List.length_take];have:([w]).length<=1:=(Nat.le_refl _);simp only[maxLen];omega) (by rw[List.length_append,List.length_map,List.length_take];have:([w]).length<=1:=(Nat.le_refl _);omega) I ?_
  intro g2 c2 j2 hV2
  exact wP I<|zC<|xj<|wP I<|wV 25 ((i+1:Nat):Int) I (Az (by omega))<|wP I<|zC<|Ax (i+1,⟨some g2,c2,j2⟩) ⟨hlt,hV2⟩ (by show l.length-(i+1)<l.length-i;omega) ⟨I,I,I,I,I,tO⟩ [_] I
noncomputable def barsJ (s:List UInt8):Int:=if (outBr s).2=0/\(outBr s).1.length=0 then 5 else(outBr s).2
theorem QP (s:List UInt8) (hs:s.length<=1000000) (W:World) (hv:AQ W) (ht:AZ W):
  Ag Tryz.prog 42 #[str s] W (fun x:Vec×MkB=> .tuple #[x.1.val (outBr s).1.length, .int .i64 (barsJ s)]) (fun x=>Nh x.2 (outBr s).1/\x.1.OK 6 (outBr s).1.length (mbC x.2)/\ ∀b∈(outBr s).1,b.g.length<=1000000) (fun x=>[x.1.bx 87 (mbC x.2),mbB x.2]):=by
 have hJ:barsJ s=if (outBr s).2=0/\(outBr s).1.length=0 then 5 else(outBr s).2:=rfl
 refine Ab Tryz.func42 I I I<|xb<|Aa I<|xg<|wP I<|wD (X:=Vec×MkB) I I (fun W1 hp=>Jc s hs W1 (hv.hp hp) (ht.hp hp)) ?_
 rintro⟨V,mk⟩ hx
 have hV:V.OK 6 (outBr s).1.length (mbC mk):=hx.2.1
 have hval:V.val (outBr s).1.length=slv (AU V) (outBr s).1.length (Bd V):=Bs hV
 simp only[hval]
 refine A8 I<|xa<|xd<|Aa I<|?_
 by_cases h1:(outBr s).2=0
 rotate_left
 ·rw[if_neg fun h=>h1 h.1] at hJ
  refine wU 12 false I (beq_eq_false_iff_ne.2 h1)<|wP I<|?_
  iterate 3 refine Ac I I ?_
  exact wP I<|xa<|zS I<|zI<|xe<|A3 I<|xc<|An tH I (.tmp I) (.tmp I) (V,mk) (by rw[hJ];simp only[hval]) hx fun W1 hp=>hp.own
 refine wU 12 true I (beq_iff_eq.2 h1)<|A3 I<|?_
 by_cases h2:(outBr s).1.length=0
 ·rw[if_pos ⟨h1,h2⟩] at hJ
  exact wU 16 true I (beq_iff_eq.2 (show(((outBr s).1.length:Nat):Int)=0 by omega))<|wP I<|xa<|zR I<|zB<|wP I<|xg<|A3 I<|xc<|An tH I (.tmp I) (.tmp I) (V,mk) (by rw[hJ];simp only[hval]) hx fun W1 hp=>hp.own
 ·rw[if_neg fun h=>h2 h.2] at hJ
  exact wU 16 false I (beq_eq_false_iff_ne.2 (show(((outBr s).1.length:Nat):Int)≠0 by omega))<|wP I<|xa<|zS I<|zI<|xe<|A3 I<|xc<|An tH I (.tmp I) (.tmp I) (V,mk) (by rw[hJ];simp only[hval]) hx fun W1 hp=>hp.own
theorem Qw (s:List UInt8) (hs:s.length<=1000000) (W:World) (hv:AQ W):
  Ag Tryz.prog 36 #[str s] W (fun _:Unit=> .int .i64 (HT 4096 s)) (fun _=>True) (fun _=>[]):=by
 exact Ab Tryz.func36 I I I<|xb<|wP I<|xg<|wP I<|wC I I (fun W1 hp=>J6 s 4096 hs W1 (hv.hp hp))<|A8 I<|xg<|Aa I<|xc<|wR1 I I I
theorem RN (s:List UInt8) (hs:s.length<=1000000) (W:World) (hv:AQ W):
  Ag Tryz.prog 44 #[str s] W (fun _:Unit=> .int .i64 (HT 512 s)) (fun _=>True) (fun _=>[]):=by
 exact Ab Tryz.func44 I I I<|xb<|wP I<|xg<|wP I<|wC I I (fun W1 hp=>J6 s 512 hs W1 (hv.hp hp))<|A8 I<|xg<|Aa I<|xc<|wR1 I I I
theorem R4 (s:List UInt8) (hs:s.length<=1000000) (W:World) (hv:AQ W) (ht:AZ W):
  Ag Tryz.prog 41 #[str s] W (fun _:Unit=> .int .i64 (barsJ s)) (fun _=>True) (fun _=>[]):=by
 refine Ab Tryz.func41 I I I<|xb<|wP I<|xg<|wP I<|wD (X:=Vec×MkB) I I (fun W1 hp=>QP s hs W1 (hv.hp hp) (ht.hp hp)) ?_
 rintro⟨V,mk⟩ _
 exact A8 I<|xg<|Aa I<|xc<|wR1 I I I
theorem Pb (b:UInt8) (W:World):
  Ag Tryz.prog 50 #[.int .u8 b.toNat] W (fun _:Unit=> .bool (decide (b=58))) (fun _=>True) (fun _=>[]):=by
 exact Ab Tryz.func50 I I I<|xb<|wP I<|xg<|Aa I<|wU 4 (decide (b=58)) I (He b 58)<|wP I<|xc<|wR1 I I I
theorem Qo (b:UInt8) (W:World):
  Ag Tryz.prog 52 #[.int .u8 b.toNat] W (fun _:Unit=> .bool (decide (b=58))) (fun _=>True) (fun _=>[]):=by
 exact Ab Tryz.func52 I I I<|xb<|wP I<|xg<|Aa I<|wU 4 (decide (b=58)) I (He b 58)<|wP I<|xc<|wR1 I I I
theorem PA (b:UInt8) (W:World):
  Ag Tryz.prog 51 #[.int .u8 b.toNat] W (fun _:Unit=> .bool (decide (1<=(b.toNat:Int)-48/\(b.toNat:Int)-48<=6))) (fun _=>True) (fun _=>[]):=by
 have hb:b.toNat<256:=b.toNat_lt
 refine Ab Tryz.func51 I I I<|xb<|wP I<|xg<|wP I<|XP Tryz.underlying5 Tryz.underlying3 I I I I ?_
 exact wV 4 (b.toNat:Nat) I (AC (by omega) (by omega))<|wP I<|wV 5 ((b.toNat:Int)-48) I (AC (by omega) (by omega))<|wC I I (fun W1 _=>FM ((b.toNat:Int)-48) W1)<|wP I<|xc<|wR1 I I I
structure EnS where
 k:Int
 t:List UInt8
 deriving DecidableEq,Inhabited
def enC (x:EnS):List Value:=[.int .i64 x.k,str x.t]
theorem Ij (x:EnS):(enC x).length=2:=rfl
theorem Vn : ∃ f1 f2 : Field, (Tryz.prog.fieldsOf 31).toList = [f1, f2] /\ (f1.name ≠ "_" /\ f1.type = 3 /\ f1.offset = 0) /\ (f2.name ≠ "_" /\ f2.type = 9 /\ f2.offset = 1) := by
 exact⟨_,_,I,⟨by decide,I,I⟩,⟨by decide,I,I⟩⟩
theorem Xb (W:World) (x y:EnS):(binOp .eql 31 (.agg #[.int .i64 x.k,str x.t]) (.agg #[.int .i64 y.k,str y.t])).run Tryz.prog W= .ok (.bool (decide (x=y))) W:=by
 obtain⟨a,b⟩:=x
 obtain⟨c,d⟩:=y
 rw[run_eql_struct,run_equalIn_agg W 9999 31 _ _ (by kernel_rfl) (by kernel_rfl)]
 obtain⟨f1,f2,hf,⟨n1,t1,o1⟩,⟨n2,t2,o2⟩⟩:=Vn
 rw[hf]
 have e: ∀(x y:List UInt8) W,(Op.equalIn 9999 9 (str x) (str y)).run Tryz.prog W= .ok (decide (x=y)) W:=fun x y W=>by
  rw[run_equalIn_string W 9998 9 _ _ Tryz.underlying9,Hk]
 have e0: ∀(x y:Int) W,(Op.equalIn 9999 3 (.int .i64 x) (.int .i64 y)).run Tryz.prog W= .ok (decide (x=y)) W:=fun x y W=>by
  rw[run_equalIn_int W 9998 3 _ _ _ _ Tryz.underlying3]
  by_cases h:x=y
  ·subst h;simp
  ·simp[h]
 by_cases h1:a=c<;>by_cases h2:b=d<;>simp[Op.eqFields,part,Tryz.isAgg3,Tryz.isAgg9,e,e0,h1,h2,n1,n2,t1,t2,o1,o2]
section
variable {r:Option Nat} {n:Nat} {N:Nat} {D:List Deferred} {ops:List Oper} {Q:Exit->Act->World->Prop} {o:Oper} {rest:List Oper} {env:Env} {A A2:World->Prop} {R:Act->World->Prop}
theorem Zl (a b:EnS) {t:Nat} {u:TypeId} {x y:Operand} (hg:Aj ops N env o=some true) (hd:o.dst=some t) (ho:o.op= .binOp .eql 31 x y u)
  (hx:evO N env x=some (.agg #[.int .i64 a.k,str a.t])) (hy:evO N env y=some (.agg #[.int .i64 b.k,str b.t]))
  (h:WQ Tryz.prog N D ops A2 R rest ((t, .bool (decide (a=b)))::env) A):WQ Tryz.prog N D ops A2 R (o::rest) env A:=
 CD hg hd (fun c e=>by rw[ho] at e;cases e) (fun _ W hρ _=>by
  have hm:Tryz.prog.eqGuardType Tryz.prog.depth 31=false:=by kernel_rfl
  simp[execOp,ho,hρ _ _ hx,hρ _ _ hy,run_eqGuard_agg W .eql 31 x y _ _ hm,Xb]) h
end
theorem dD (W:World) (x y:EnS):(binOp .neq 31 (.agg #[.int .i64 x.k,str x.t]) (.agg #[.int .i64 y.k,str y.t])).run Tryz.prog W= .ok (.bool (!decide (x=y))) W:=by
 have h:=Xb W x y
 rw[run_eql_struct] at h
 rw[run_neq_struct]
 cases hq:(Op.equalIn 10000 31 (.agg #[.int .i64 x.k,str x.t]) (.agg #[.int .i64 y.k,str y.t])).run Tryz.prog W with
 |ok b w=>
  rw[hq] at h
  simp only[Result.andThen_ok] at h⊢
  injection h with h1 h2
  injection h1 with h1
  rw[h1,h2]
 |_=>rw[hq] at h;cases h
section
variable {r:Option Nat} {n:Nat} {N:Nat} {D:List Deferred} {ops:List Oper} {Q:Exit->Act->World->Prop} {o:Oper} {rest:List Oper} {env:Env} {A A2:World->Prop} {R:Act->World->Prop}
theorem Z0 (a b:EnS) {t:Nat} {u:TypeId} {x y:Operand} (hg:Aj ops N env o=some true) (hd:o.dst=some t) (ho:o.op= .binOp .neq 31 x y u)
  (hx:evO N env x=some (.agg #[.int .i64 a.k,str a.t])) (hy:evO N env y=some (.agg #[.int .i64 b.k,str b.t]))
  (h:WQ Tryz.prog N D ops A2 R rest ((t, .bool (!decide (a=b)))::env) A):WQ Tryz.prog N D ops A2 R (o::rest) env A:=
 CD hg hd (fun c e=>by rw[ho] at e;cases e) (fun _ W hρ _=>by
  have hm:Tryz.prog.eqGuardType Tryz.prog.depth 31=false:=by kernel_rfl
  simp[execOp,ho,hρ _ _ hx,hρ _ _ hy,run_eqGuard_agg W .neq 31 x y _ _ hm,dD]) h
end
theorem Wt {l m:List EnS} (hl:l.length=m.length) (h: ∀j,j<l.length->l[j]? =m[j]?):l=m:=by
 refine List.ext_getElem? fun j=> ?_
 by_cases hj:j<l.length
 ·exact h j hj
 ·rw[List.getElem?_eq_none (by omega),List.getElem?_eq_none (by omega)]
theorem Pm (l m:List EnS) (p q:Option Addr) (cap cap2:Nat) (hn:l.length<=1000000) (W:World) (hA:AB 2 enC W p l) (hB:AB 2 enC W q m):
  Ag Tryz.prog 12 #[slv p l.length cap,slv q m.length cap2] W (fun _:Unit=> .bool (decide (l=m))) (fun _=>True) (fun _=>[]):=by
 refine Ab Tryz.func12 I I I<|xb<|wP I<|xa<|xd<|A8 I<|?_
 by_cases hl:l.length=m.length
 rotate_left
 ·exact wU 10 true I (bne_iff_ne.2 (show((l.length:Nat):Int)≠(m.length:Nat) by omega))<|xa<|zR I<|xb<|wP I<|xc<|zP<|wR1 I I (congrArg Value.bool (dF fun h=>hl (by rw[h])).symm)
 refine wU 10 false I (bne_eq_false_iff_eq.2 (show((l.length:Nat):Int)=(m.length:Nat) by omega))<|xa<|zS I<|zI<|zE<|xd<|wP I<|xa<|zH<|A6 (X:=Nat) (fun i=>[(0,slv p l.length cap),(1,slv q m.length cap2),(4, .bool false),(5, .int .i64 (i:Nat))]) (fun _=>[]) (fun i=>i<=l.length/\ ∀j,j<i->l[j]? =m[j]?) (fun i=>l.length-i) 0 ⟨Nat.zero_le _,fun j h=>absurd h (Nat.not_lt_zero _)⟩ ⟨I,I,I,I,tO⟩ [] I ?_
 rintro i ⟨hi,hall⟩
 have hi:i<=l.length:=hi
 refine xd<|A3 I<|?_
 by_cases hlt:i<l.length
 rotate_left
 ·exact wU 14 false I (dF (by omega))<|xa<|zS I<|xf<|xe<|wP I<|xc<|wR1 I I (congrArg Value.bool (dT (Wt hl fun j hj=>hall j (by omega))).symm)
 refine wU 14 true I (dT (by omega))<|xa<|zR I<|zI<|zE<|zA<|zH<|zA<|zU<|?_
 have hlm:i<m.length:=by omega
 obtain⟨b,off,rfl,hrow⟩:=hA.row hlt
 obtain⟨b2,off2,rfl,hrow2⟩:=hB.row hlm
 have hr:=hrow i hlt
 have hr2:=hrow2 i hlm
 have hgl:l[i]? =some l[i]:=List.getElem?_eq_getElem hlt
 have hgm:m[i]? =some m[i]:=List.getElem?_eq_getElem hlm
 obtain⟨x,hx⟩: ∃x,x=l[i]:=⟨_,rfl⟩
 obtain⟨y,hy⟩: ∃y,y=m[i]:=⟨_,rfl⟩
 rw[<-hx] at hr hgl
 rw[<-hy] at hr2 hgm
 refine AO I<|qJ ?_
 refine qL 0 I I (fun W1 hp=>hr.hp hp) I<|AO I<|qJ ?_
 refine qL 0 I I (fun W1 hp=>hr2.hp hp) I<|Z0 x y I I I I I ?_
 by_cases hz:x=y
 rotate_left
 ·exact qU 25 true I (by rw[dF hz];rfl)<|zD<|xa<|zR I<|xb<|wP I<|xc<|xi<|wR1 I I (congrArg Value.bool (dF fun h=>hz (by rw[h,hgm] at hgl;injection hgl with hgl;exact hgl.symm)).symm)
 refine qU 25 false I (by rw[dT hz];rfl)<|zD<|xa<|zS I<|zI<|xj<|Aa I<|wV 16 ((i+1:Nat):Int) I (Az (by omega))<|wP I<|zC<|?_
 exact Ax (i+1) ⟨hlt,fun j hj=>by
  by_cases e:j=i
  ·subst e;rw[hgl,hgm,hz]
  ·exact hall j (by omega)⟩ (by show l.length-(i+1)<l.length-i;omega) ⟨I,I,I,I,tO⟩ [] I
section
variable {P:Program} {N:Nat} {D:List Deferred} {ops:List Oper} {o:Oper} {rest:List Oper} {env:Env} {A A2:World->Prop} {R:Act->World->Prop}
theorem AP {d:Nat} {t u:TypeId} {x y:Operand} {a b:List UInt8} (hg:Aj ops N env o=some true) (hd:o.dst=some d) (ho:o.op= .binOp .add t x y u) (hx:evO N env x=some (str a)) (hy:evO N env y=some (str b)) (ha:a.length<=8388608) (hb:b.length<=8388608)
  (h:WQ P N D ops A2 R rest ((d,str (a++b))::env) A):WQ P N D ops A2 R (o::rest) env A:=
 CD hg hd (fun c e=>by rw[ho] at e;cases e) (fun ρ W hρ _=>by
  have hs:=run_string_add_lists (P:=P) W a b (by omega) (by omega)
  simp[execOp,ho,hρ _ _ hx,hρ _ _ hy,eqGuard,binOp,hs]) h
end
def Bv (x:EnS):List UInt8:=((((itoa (x.t.length:Nat)++[58])++itoa x.k)++[58])++x.t)++[10]
theorem PR (x:EnS) (hl:x.t.length<=1000000) (h0:0<=x.k) (h1:x.k<=1000) (W:World) (ht:AZ W):
  Ag Tryz.prog 24 #[.agg #[.int .i64 x.k,str x.t]] W (fun _:Unit=>str (Bv x)) (fun _=>True) (fun _=>[]):=by
 have l1:(itoa (x.t.length:Nat)).length<=20:=Lb _ (by omega) (by omega)
 have l2:(itoa x.k).length<=20:=Lb _ (by omega) (by omega)
 have s1:(itoa (x.t.length:Nat)++[58]).length<=21:=by rw[List.length_append,List.length_singleton];omega
 have s2:((itoa (x.t.length:Nat)++[58])++itoa x.k).length<=41:=by rw[List.length_append];omega
 have s3:(((itoa (x.t.length:Nat)++[58])++itoa x.k)++[58]).length<=42:=by rw[List.length_append,List.length_singleton];omega
 have s4:((((itoa (x.t.length:Nat)++[58])++itoa x.k)++[58])++x.t).length<=1000042:=by rw[List.length_append];omega
 refine Ab Tryz.func24 I I I<|xb<|wF I I fun _=>wP I<|xa<|zA<|zU<|qP I<|qB 0 I I I<|qP I<|DO 5 (.int .i64 (x.t.length:Nat)) I (congrArg (fun n:Nat=>Value.int .i64 (n:Int)) (A5 _))<|qC I I (fun W1 hp=>AF (x.t.length:Nat) (by omega) (by omega) W1 (ht.hp hp))<|AP (a:=itoa (x.t.length:Nat)) (b:=[58]) I I I I I (by omega) (by decide) ?_
 refine qP I<|qB 0 I I I<|qC I I (fun W1 hp=>AF x.k (by omega) (by omega) W1 (ht.hp hp))<|AP (a:=itoa (x.t.length:Nat)++[58]) (b:=itoa x.k) I I I I I (by omega) (by omega) ?_
 refine AP (a:=(itoa (x.t.length:Nat)++[58])++itoa x.k) (b:=[58]) I I I I I (by omega) (by decide) ?_
 refine qP I<|qB 0 I I I<|AP (a:=((itoa (x.t.length:Nat)++[58])++itoa x.k)++[58]) (b:=x.t) I I I I I (by omega) (by omega) ?_
 refine AP (a:=(((itoa (x.t.length:Nat)++[58])++itoa x.k)++[58])++x.t) (b:=[10]) I I I I I (by omega) (by decide) ?_
 exact qP I<|zD<|xc<|wR1 I I I
def grN (n:Nat):Prop:=(10<n/\n<=4096)\/4098<n
instance (n:Nat):Decidable (grN n):=by unfold grN;infer_instance
def grT (n:Nat):Prop:=(2000<n/\n<=65536)\/65538<n
instance (n:Nat):Decidable (grT n):=by unfold grT;infer_instance
def Mt (l:List EnS):Prop:=grN l.length\/ ∃i,i<l.length/\i<10/\grT (l.getD i default).t.length
theorem Nf (l:List EnS) (p:Option Addr) (cap:Nat) (hn:l.length<=2000000) (W:World) (hA:AB 2 enC W p l):
  Ag Tryz.prog 6 #[slv p l.length cap] W (fun b:Bool=> .bool b) (fun b=>b=true↔Mt l) (fun _=>[]):=by
 refine Ab Tryz.func6 I I I<|xb<|wP I<|xa<|zA<|zA<|Bz (X:=Unit) (fun _=>[(0,slv p l.length cap),(2, .bool false),(16, .bool (decide (grN l.length)))]) (fun _=>[]) (fun _=>True) ?_ ?_
 ·refine zB<|Ae I<|?_
  by_cases c1:10<l.length
  rotate_left
  ·refine wU 6 false I (dF (by omega))<|wP I<|?_
   iterate 3 refine Ac I I ?_
   exact A8 I<|wU 15 false I (dF (by omega))<|wP I<|zC<|Au () tO ⟨I,I,congrArg (fun c=>some (Value.bool c)) (dF (p:=grN l.length) (by unfold grN;omega)).symm,tO⟩ [] I
  refine wU 6 true I (dT (by omega))<|A3 I<|?_
  by_cases c2:l.length<=4096
  ·refine wU 10 true I (dT (by omega))<|Aa I<|?_
   iterate 3 refine Ac I I ?_
   exact wP I<|zC<|Au () tO ⟨I,I,congrArg (fun c=>some (Value.bool c)) (dT (p:=grN l.length) (by unfold grN;omega)).symm,tO⟩ [] I
  refine wU 10 false I (dF (by omega))<|A8 I<|?_
  by_cases c3:4098<l.length
  ·exact wU 15 true I (dT (by omega))<|wP I<|zC<|Au () tO ⟨I,I,congrArg (fun c=>some (Value.bool c)) (dT (p:=grN l.length) (by unfold grN;omega)).symm,tO⟩ [] I
  ·exact wU 15 false I (dF (by omega))<|wP I<|zC<|Au () tO ⟨I,I,congrArg (fun c=>some (Value.bool c)) (dF (p:=grN l.length) (by unfold grN;omega)).symm,tO⟩ [] I
 intro _ _
 refine Av I (fun hx=> ?_) (fun hx=> ?_)
 ·have hx:grN l.length:=of_decide_eq_true hx
  exact xb<|wP I<|xc<|zP<|Ar tH I (.tmp I) true I ⟨fun _=> .inl hx,fun _=>rfl⟩ fun W _=>As.nil _ _
 have hx: ¬grN l.length:=of_decide_eq_false hx
 refine zI<|zE<|xd<|wP I<|xa<|zH<|A6 (X:=Nat) (fun i=>[(0,slv p l.length cap),(2, .bool false),(3, .int .i64 (i:Nat))]) (fun _=>[]) (fun i=>i<=l.length/\i<=10/\ ∀j,j<i-> ¬grT (l.getD j default).t.length) (fun i=>l.length-i) 0 ⟨Nat.zero_le _,Nat.zero_le _,fun j h=>absurd h (Nat.not_lt_zero _)⟩ ⟨I,I,I,tO⟩ [] I ?_
 rintro i ⟨hi,hi10,hall⟩
 have hi:i<=l.length:=hi
 have hi10:i<=10:=hi10
 have out:(i=l.length\/i=10)->(false=true↔Mt l):=fun h=>⟨fun h'=>Bool.noConfusion h',fun h'=>by
  rcases h' with h'|⟨j,h1,h2,h3⟩
  ·exact absurd h' hx
  ·exact absurd h3 (hall j (by omega))⟩
 refine xd<|A3 I<|?_
 by_cases hlt:i<l.length
 rotate_left
 ·refine wU 20 false I (dF (by omega))<|wP I<|?_
  iterate 2 refine Ac I I ?_
  exact wP I<|xa<|zS I<|xf<|xe<|wP I<|xc<|Ar tH I (.tmp I) false I (out (by omega)) fun W _=>As.nil _ _
 refine wU 20 true I (dT (by omega))<|Ae I<|?_
 by_cases h10:i<10
 rotate_left
 ·exact wU 23 false I (dF (by omega))<|wP I<|xa<|zS I<|xf<|xe<|wP I<|xc<|Ar tH I (.tmp I) false I (out (by omega)) fun W _=>As.nil _ _
 refine wU 23 true I (dT (by omega))<|wP I<|zC<|?_
 obtain⟨b,off,rfl,hrow⟩:=hA.row hlt
 have hr:=CU default hrow hlt
 obtain⟨x,hxe⟩: ∃x,x=l.getD i default:=⟨_,rfl⟩
 have yes:grT x.t.length->(true=true↔Mt l):=fun h=>⟨fun _=> .inr ⟨i,hlt,h10,by rw[<-hxe];exact h⟩,fun _=>rfl⟩
 rw[<-hxe] at hr
 refine zE<|zR I<|zI<|zE<|zA<|zH<|zA<|Bz (X:=Unit) (fun _=>[(0,slv (some ⟨b,off,none⟩) l.length cap),(2, .bool false),(3, .int .i64 (i:Nat)),(51, .bool (decide (grT x.t.length)))]) (fun _=>[]) (fun _=>True) ?_ ?_
 ·refine zB<|Aa I<|wJ ?_
  refine wP I<|wL 1 I I (fun W1 hp=>hr.hp hp) I<|wP I<|Ao 32 (.int .i64 (x.t.length:Nat)) I (congrArg (fun n:Nat=>Value.int .i64 (n:Int)) (A5 _))<|wP I<|?_
  by_cases c1:2000<x.t.length
  rotate_left
  ·refine wU 33 false I (dF (by omega))<|wP I<|?_
   iterate 7 refine Ac I I ?_
   refine A3 I<|wJ ?_
   exact wP I<|wL 1 I I (fun W1 hp=>hr.hp hp) I<|wP I<|Ao 49 (.int .i64 (x.t.length:Nat)) I (congrArg (fun n:Nat=>Value.int .i64 (n:Int)) (A5 _))<|wP I<|wU 50 false I (dF (by omega))<|wP I<|zC<|Au () tO ⟨I,I,I,congrArg (fun c=>some (Value.bool c)) (dF (p:=grT x.t.length) (by unfold grT;omega)).symm,tO⟩ [] I
  refine wU 33 true I (dT (by omega))<|Ae I<|wJ ?_
  refine wP I<|wL 1 I I (fun W1 hp=>hr.hp hp) I<|wP I<|Ao 40 (.int .i64 (x.t.length:Nat)) I (congrArg (fun n:Nat=>Value.int .i64 (n:Int)) (A5 _))<|wP I<|?_
  by_cases c2:x.t.length<=65536
  ·refine wU 41 true I (dT (by omega))<|Aa I<|?_
   iterate 7 refine Ac I I ?_
   exact wP I<|zC<|Au () tO ⟨I,I,I,congrArg (fun c=>some (Value.bool c)) (dT (p:=grT x.t.length) (by unfold grT;omega)).symm,tO⟩ [] I
  refine wU 41 false I (dF (by omega))<|A3 I<|wJ ?_
  refine wP I<|wL 1 I I (fun W1 hp=>hr.hp hp) I<|wP I<|Ao 49 (.int .i64 (x.t.length:Nat)) I (congrArg (fun n:Nat=>Value.int .i64 (n:Int)) (A5 _))<|wP I<|?_
  by_cases c3:65538<x.t.length
  ·exact wU 50 true I (dT (by omega))<|wP I<|zC<|Au () tO ⟨I,I,I,congrArg (fun c=>some (Value.bool c)) (dT (p:=grT x.t.length) (by unfold grT;omega)).symm,tO⟩ [] I
  ·exact wU 50 false I (dF (by omega))<|wP I<|zC<|Au () tO ⟨I,I,I,congrArg (fun c=>some (Value.bool c)) (dF (p:=grT x.t.length) (by unfold grT;omega)).symm,tO⟩ [] I
 intro _ _
 refine Av I (fun hg=> ?_) (fun hg=> ?_)
 ·have hg:grT x.t.length:=of_decide_eq_true hg
  exact xb<|wP I<|xc<|xi<|Ar tH I (.tmp I) true I (yes hg) fun W _=>As.nil _ _
 have hg: ¬grT x.t.length:=of_decide_eq_false hg
 refine zI<|xj<|Aa I<|wV 26 ((i+1:Nat):Int) I (Az (by omega))<|wP I<|zC<|?_
 exact Ax (i+1) ⟨hlt,h10,fun j hj=>by
  by_cases e:j=i
  ·subst e;rw[<-hxe];exact hg
  ·exact hall j (by omega)⟩ (by show l.length-(i+1)<l.length-i;omega) ⟨I,I,I,tO⟩ [] I
theorem Uj {z:Int} (h0:0<=z) (h1:z<1000000000):(itoa z).length<=9:=by
 unfold itoa
 rw[if_neg (by omega)]
 exact Fa 9 z.toNat (by omega) (by omega)
theorem BP {p:Prop} [Decidable p] {c x:Int} (hc:c≠0) (h:(if p then c else x)=0): ¬p/\x=0:=by
 by_cases hp:p
 ·rw[if_pos hp] at h;exact absurd h hc
 ·rw[if_neg hp] at h;exact⟨hp,h⟩
theorem Ew {α:Type} (f:α->List UInt8) {l:List α} {i:Nat} (hi:i<l.length):(l.take (i+1)).flatMap f=(l.take i).flatMap f++f l[i]:=by
 rw[List.take_add_one,List.getElem?_eq_getElem hi,List.flatMap_append]
 show _++(f l[i]++[])=_
 rw[List.append_nil]
theorem Cc {α:Type} (f:α->List UInt8) {l:List α} {n:Nat} (h: ∀x∈l,(f x).length<=n): ∀i,((l.take i).flatMap f).length<=n*i
 |0=>by rw[List.take_zero];exact Nat.zero_le _
 |i+1=>by
  by_cases hi:i<l.length
  ·have h1:=Cc f h i
   have h2:=h _ (List.getElem_mem hi)
   rw[Ew f hi,List.length_append,Nat.mul_succ]
   omega
  ·have h1:=Cc f h i
   rw[List.take_of_length_le (by omega)] at h1⊢
   rw[Nat.mul_succ]
   omega
theorem UY (l:List SzS): ∀(k:Nat) (sn:List Bool) (i:Nat),Ta l sn i k=0-> ∀j,i<=j->j<i+k-> ¬szK (l.getD j default)/\ ¬szW (l.getD j default)
 |0,_,_,_,_,h1,h2=>absurd h2 (by omega)
 |k+1,sn,i,h,j,h1,h2=>by
  rw[NA] at h
  obtain⟨a,h⟩:=BP (by decide) h
  obtain⟨b,h⟩:=BP (by decide) h
  obtain⟨_,h⟩:=BP (by decide) h
  by_cases e:j=i
  ·subst e;exact⟨a,b⟩
  ·exact UY l k _ (i+1) h j (by omega) (by omega)
theorem M6 {l:List SzS} (h:D4 l=0) {i:Nat} (hi:i<l.length):(1<=l[i].k/\l[i].k<13)/\(1<=l[i].w/\l[i].w<=1000)/\1<=l[i].d/\l[i].d<=1000:=by
 obtain⟨a,b⟩:=UY l _ _ 0 h i (Nat.zero_le _) (by omega)
 rw[List.getD_eq_getElem?_getD,List.getElem?_eq_getElem hi] at a b
 have a: ¬szK l[i]:=a
 have b: ¬szW l[i]:=b
 unfold szK at a
 unfold szW at b
 omega
def szL (x:SzS):List UInt8:=((((Ba.getD x.k.toNat []++[32])++itoa x.w)++[32])++itoa x.d)++[10]
abbrev szT (l:List SzS):List UInt8:=l.flatMap szL
theorem NJ: ∀w∈Ba,w.length<=10:=by decide
theorem P9 {x:SzS} (hk:1<=x.k/\x.k<13) (hw:1<=x.w/\x.w<=1000) (hd:1<=x.d/\x.d<=1000):(szL x).length<=31:=by
 have h1:=Uj (z:=x.w) (by omega) (by omega)
 have h2:=Uj (z:=x.d) (by omega) (by omega)
 have h3:(Ba.getD x.k.toNat []).length<=10:=NJ _ (by
  have:x.k.toNat<Ba.length:=by show _<13;omega
  rw[List.getD_eq_getElem?_getD,List.getElem?_eq_getElem this];exact List.getElem_mem this)
 unfold szL
 simp only[List.length_append,List.length_cons,List.length_nil]
 omega
theorem XI {W:World} (h:Bo W) {i:Nat} (hi:i<Ba.length):Al W 1 (0+i*1) [str (Ba.getD i [])]:=by
 obtain⟨b,off,e,hr⟩:=h.rows.row hi
 injection e with e
 injection e with e1 e2 _
 subst e1 e2
 rw[List.getD_eq_getElem?_getD,List.getElem?_eq_getElem hi]
 exact hr i hi
theorem P6 (l:List SzS) (p:Option Addr) (cap:Nat) (hn:l.length<=70000) (hE:D4 l=0) (W:World) (hA:AB 3 szC W p l) (ht:AZ W) (hw:Bo W):
  Ag Tryz.prog 94 #[slv p l.length cap] W (fun _:Unit=> .tuple #[str (szT l), .int .i64 0]) (fun _=>True) (fun _=>[]):=by
 refine Ab Tryz.func94 I I I<|xb<|Aa I<|xa<|xd<|wP I<|wC I I (fun W1 hp=>(GP l p cap (by omega) W1 (hA.hp hp)).cast (by rw[hE]))<|wP I<|xa<|zS I<|zI<|xe<|wG I I fun _=>zC<|?_
 rename_i b4
 refine zE<|xd<|Ae I<|xa<|zH<|Be ?_
 refine En (X:=Nat×Vec×Value) (fun x=>[(4,Af b4),(10,slv p l.length cap),(11, .int .i64 (l.length:Nat)),(12, .int .i64 (x.1:Nat))]) (fun x=>Hp W [FR b4 x.2.2 (x.2.1.val (szT (l.take x.1)).length),x.2.1.bx 5 (bc (szT (l.take x.1)))])
  (fun x=>x.1<=l.length/\x.2.1.OK 1 (szT (l.take x.1)).length (bc (szT (l.take x.1)))/\(x.2.2= .pointer none\/x.2.2=Af b4)) (fun x=>l.length-x.1) (0,Vec.empty, .pointer none) ⟨Nat.zero_le _,Vec.OK.empty 1, .inl rfl⟩ ⟨rfl,rfl,rfl,rfl,trivial⟩ (fun W1 hp=>hp) ?_
 rintro⟨i,V,pv⟩ ⟨hi,hV,hpv⟩
 change i<=l.length at hi
 change V.OK 1 (szT (l.take i)).length (bc (szT (l.take i))) at hV
 change pv= .pointer none\/pv=Af b4 at hpv
 refine xb<|wP I<|?_
 by_cases hlt:i<l.length
 rotate_left
 ·have e:i=l.length:=by omega
  subst e
  rw[List.take_length] at hV
  refine wU 13 false I (dF (by omega))<|xa<|zA<|zS I<|xf<|xe<|?_
  refine Eg (X:=Unit) (val:=fun _=>str (szT l)) (Φ:=fun _=>True) (capt:=[]) (vs:=[Af b4]) (fun _=>[]) I I I I I I (by kernel_rfl) (fun W1 hp=>I1 hpv (by rw[List.take_length] at hp;exact hp) hV) ?_
  intro _ _
  exact Aa I<|xc<|wR2 I I I
 refine wU 13 true I (dT (by show(i:Int)<(l.length:Nat);omega))<|xa<|zA<|zR I<|xh<|?_
 obtain⟨b,off,rfl,hrow⟩:=hA.row hlt
 have hr:=hrow i hlt
 obtain⟨hk,hxw,hxd⟩:=M6 hE hlt
 have hlen:(szT (l.take i)).length<=31*i:=Cc szL (l:=l) (n:=31) (fun x hx=>by
  obtain⟨j,hj,rfl⟩:=List.getElem_of_mem hx
  obtain⟨a,b,c⟩:=M6 hE hj
  exact P9 a b c) i
 have hts:=Ew szL hlt
 have hll:=P9 hk hxw hxd
 obtain⟨x,hx⟩: ∃x,x=l[i]:=⟨_,rfl⟩
 rw[<-hx] at hr hk hxw hxd hts hll
 have hkl:x.k.toNat<Ba.length:=by show _<13;omega
 have l1:(Ba.getD x.k.toNat []).length<=10:=NJ _ (by rw[List.getD_eq_getElem?_getD,List.getElem?_eq_getElem hkl];exact List.getElem_mem hkl)
 have l2:=Uj (z:=x.w) (by omega) (by omega)
 have l3:=Uj (z:=x.d) (by omega) (by omega)
 have s1:(Ba.getD x.k.toNat []++[32]).length<=11:=by rw[List.length_append,List.length_singleton];omega
 have s2:((Ba.getD x.k.toNat []++[32])++itoa x.w).length<=20:=by rw[List.length_append];omega
 have s3:(((Ba.getD x.k.toNat []++[32])++itoa x.w)++[32]).length<=21:=by rw[List.length_append,List.length_singleton];omega
 have s4:((((Ba.getD x.k.toNat []++[32])++itoa x.w)++[32])++itoa x.d).length<=30:=by rw[List.length_append];omega
 refine wJ ?_
 refine wL 0 I I (fun W1 hp=>hr.hp hp) I<|wG I I fun _=>wS 2 I I I<|zC<|?_
 rename_i b6
 refine zE<|zU<|qP I<|qB 2 I I I<|?_
 refine Zh Tryz.underlying217 Tryz.sizeOf9 I I I I I ⟨by omega,by show x.k<((13:Nat):Int);omega⟩ ?_
 refine qL 0 I I (fun W1 hp=>XI (hw.hp hp) hkl) I<|AP (a:=Ba.getD x.k.toNat []) (b:=[32]) I I I I I (by omega) (by decide) ?_
 refine qP I<|qB 2 I I I<|qC I I (fun W1 hp=>AF x.w (by omega) (by omega) W1 (ht.hp hp))<|AP (a:=Ba.getD x.k.toNat []++[32]) (b:=itoa x.w) I I I I I (by omega) (by omega) ?_
 refine AP (a:=(Ba.getD x.k.toNat []++[32])++itoa x.w) (b:=[32]) I I I I I (by omega) (by decide) ?_
 refine qP I<|qB 2 I I I<|qC I I (fun W1 hp=>AF x.d (by omega) (by omega) W1 (ht.hp hp))<|AP (a:=((Ba.getD x.k.toNat []++[32])++itoa x.w)++[32]) (b:=itoa x.d) I I I I I (by omega) (by omega) ?_
 refine AP (a:=(((Ba.getD x.k.toNat []++[32])++itoa x.w)++[32])++itoa x.d) (b:=[10]) I I I I I (by omega) (by decide) ?_
 refine Tc ?_
 refine Eg (X:=Vec) (val:=fun _=> .tuple #[.int .i64 ((szL x).length:Nat), .nilIface]) (Φ:=fun y=>y.OK 1 (szT (l.take i)++szL x).length (bc (szT (l.take i)++szL x))) (capt:=[]) (vs:=[Af b4,str (szL x)]) (fun y=>[FR b4 (Af b4) (y.val (szT (l.take i)++szL x).length),y.bx 5 (bc (szT (l.take i)++szL x))])
  rfl rfl rfl rfl rfl rfl (by kernel_rfl) (fun W1 hp=>G5 (W0:=W) (b:=b4) (p:=pv) (V:=V) (l:=szT (l.take i)) (szL x) hpv (hp.pick [0,1] (by decide) rfl) hV (by omega)) ?_
 rw[<-hts]
 intro V2 hV2
 exact zC<|xj<|wP I<|wV 32 ((i+1:Nat):Int) I (Az (by omega))<|wP I<|zC<|D5 (i+1,V2,Af b4) ⟨hlt,hV2, .inr I⟩ (by show l.length-(i+1)<l.length-i;omega) ⟨I,I,I,I,tO⟩ (fun W1 hp=>hp)
def Vh:List (List UInt8)->List (List UInt8)
 |[]=>[]
 |a::ls=>match ls with
  |[]=>if a=[] then[] else[a]
  |_::_=>(a++[10])::Vh ls
def Bg (s:List UInt8):List (List UInt8):=Vh (AI 10 s)
theorem WE:Bg []=[]:=rfl
theorem VB {s:List UInt8} (h:(10:UInt8)∉s) (h0:s≠[]):Bg s=[s]:=by
 unfold Bg
 rw[HM h]
 show(if s=[] then _ else _)=_
 rw[if_neg h0]
theorem aH {a:List UInt8} (b:List UInt8) (h:(10:UInt8)∉a):Bg (a++10::b)=(a++[10])::Bg b:=by
 unfold Bg
 rw[J9 b h,Gv 10 b]
 rfl
theorem K5: ∀ {s:List UInt8},(10:UInt8)∉s->indexByte s 10= -1
 |[],_=>rfl
 |x::s,h=>by
  have hx: ¬((x==10)=true):=fun e=>h (by rw[eq_of_beq e];exact List.mem_cons_self ..)
  unfold indexByte
  rw[if_neg hx,K5 fun h'=>h (List.mem_cons_of_mem _ h')]
  rfl
theorem Ou: ∀ {a:List UInt8} (b:List UInt8),(10:UInt8)∉a->indexByte (a++10::b) 10=(a.length:Nat)
 |[],b,_=>by
  exact(if_pos (show((10:UInt8)==10)=true by decide)).trans I
 |x::a,b,h=>by
  have hx: ¬((x==10)=true):=fun e=>h (by rw[eq_of_beq e];exact List.mem_cons_self ..)
  rw[List.cons_append]
  unfold indexByte
  rw[if_neg hx,Ou b fun h'=>h (List.mem_cons_of_mem _ h'),if_neg (by rw[beq_iff_eq];omega),List.length_cons]
  omega
theorem I2 (s:List UInt8):Cd Tryz.prog 17 [str s, .int .u8 10] (.int .i64 (indexByte s 10)):=by
 intro W
 refine Ag.of1 ((Tryz.strings_IndexByte ⟨s.toArray⟩ 10 W).mono ?_)
 rintro e w' ⟨rfl,rfl⟩
 exact⟨I,Below.refl _ _⟩
theorem Nx (l p:List UInt8) (hl:l.length<=1000000):Cd Tryz.prog 204 [str l,str p] (str (trimSuffix l p)):=by
 intro W
 refine Ag.of1 ((Tryz.strings_TrimSuffix ⟨l.toArray⟩ ⟨p.toArray⟩ W (by have:=A5 l;omega)).mono ?_)
 rintro e w' ⟨rfl,rfl⟩
 exact⟨I,Below.refl _ _⟩
theorem PT (l p:List UInt8) (hl:l.length<=1000000):Cd Tryz.prog 156 [str l,str p] (.tuple #[str (trimSuffix l p), .bool (hasSuffix l p)]):=by
 intro W
 refine Ag.of1 ((Tryz.strings_CutSuffix ⟨l.toArray⟩ ⟨p.toArray⟩ W (by have:=A5 l;omega)).mono ?_)
 rintro e w' ⟨rfl,rfl⟩
 exact⟨I,Below.refl _ _⟩
section
variable {P:Program} {N:Nat} {D:List Deferred} {ops:List Oper} {o:Oper} {rest:List Oper} {env:Env} {A A2:World->Prop} {R:Act->World->Prop}
theorem Xa (l:Nat) {T:Tbl} {i:TI} {a:List UInt8} {d:Nat} {t:TypeId} {x y:Operand} {k:IntKind} {z:Int} (hT:Go.Am.okB P T=true) (hg:Aj ops N env o=some true) (hd:o.dst=some d) (ho:o.op= .slice t x none (some y) none) (ht:find T t=some i) (hk:i.kind=1)
  (hx:evO N env x=some (str a)) (hy:evO N env y=some (.int k z)) (hz:z=l) (h1:l<=a.length)
  (hn:WQ P N D ops A2 R rest ((d,str (a.take l))::env) A):WQ P N D ops A2 R (o::rest) env A:=
 CD hg hd (fun c e=>by rw[ho] at e;cases e) (fun ρ W hρ _=>by
  have hu:=E1 (B8 hT ht) hk
  subst hz
  have hsz:(⟨a.toArray⟩:ByteArray).size=a.length:=by show a.toArray.size=_;simp
  have e:(⟨a.toArray⟩:ByteArray).extract 0 l=⟨(a.take l).toArray⟩:=by
   apply ByteArray.ext
   rw[ByteArray.data_extract]
   apply Array.toList_inj.1
   simp[List.extract_eq_take_drop]
  simp[execOp,ho,Instr.sliceAt,Instr.slice,Instr.sliceBounds,Instr.sliceBound,hρ _ _ hx,hρ _ _ hy,asIntOf,run_underlying hu,hsz,h1,e]) hn
end
abbrev KJ (s:List UInt8):Obj:= .cells (str s).cells 9 (0,0)
theorem KG (s:List UInt8) (W:World):Ag Tryz.prog 155 #[str s] W (fun b:Nat=> .func (.func 209) #[] #[.pointer (some ⟨b,0,none⟩)]) (fun _=>True) (fun b=>[⟨b,9,[str s],true,none⟩]):=by
 refine Ab Tryz.func155 I I I<|xb<|?_
 refine Lr rfl rfl rfl rfl ?_;intro b
 exact wP I<|xg<|Aa I<|xc<|Ar tH I (.tmp I) b I tO fun W1 hp=>hp.own
theorem LH (s0:List UInt8) (hs0:s0.length<=1000000) (b1:Nat):aR Tryz.prog 209 [Af b1] (Bg s0).length (fun k=>[str ((Bg s0).getD k [])]) (fun _ _=>True) [(b1,KJ s0)]:=by
 refine⟨fun y J Jx hN hB hU hY W hJ=> ?_⟩
 have hdr: ∀k L W,J k L W->J k L { W with drawn:=W.drawn+1 }:=fun k L W h=>hB k L W _ h ⟨rfl,rfl,rfl,Nat.le_refl _,fun _ _=>rfl⟩
 have row: ∀ {k:Nat} {s:List UInt8} {W:World},J k [(b1,KJ s)] W->Al W b1 0 [str s]:=fun h=>Al.of_block (c:=[str _]) ((hN _ _ _ h).2 (b1,KJ _) (List.mem_cons_self ..))
 refine E2 (args:=[.func (.yield y) #[] #[],Af b1]) (J0:=J 0 [(b1,KJ s0)]) (Jm:=fun W=> ∃L,J (Bg s0).length L W) Tryz.func209 I I I hJ ?_
 refine zH ?_
 refine En (X:=Nat×List UInt8) (fun x=>[(0, .func (.yield y) #[] #[]),(1,Af b1)]) (fun x W=>J x.1 [(b1,KJ x.2)] W)
  (fun x=>x.1<=(Bg s0).length/\Bg x.2=(Bg s0).drop x.1/\x.2.length<=s0.length) (fun x=>x.2.length) (0,s0) ⟨Nat.zero_le _,rfl,Nat.le_refl _⟩ ⟨rfl,rfl,trivial⟩ (fun W hp=>hp) ?_
 rintro⟨k,s⟩ ⟨hk,hE,hz⟩
 have hk:k<=(Bg s0).length:=hk
 have hE:Bg s=(Bg s0).drop k:=hE
 have hz:s.length<=s0.length:=hz
 refine xd<|wL 0 I I (fun W hp=>row hp) I<|wP I<|Ao 6 (.int .i64 (s.length:Nat)) I (congrArg (fun n:Nat=>Value.int .i64 (n:Int)) (A5 s))<|wP I<|?_
 by_cases hs:s=[]
 ·subst hs
  rw[WE] at hE
  have hkl:k=(Bg s0).length:=by have:=congrArg List.length hE;rw[List.length_drop,List.length_nil] at this;omega
  refine wU 7 false I (dF (by show¬((0:Nat):Int)>0;omega))<|xa<|zS I<|xf<|?_
  exact Io I fun W hp=>⟨_,by
   have hp:J k [(b1,KJ [])] W:=hp
   rw[hkl] at hp
   exact hp⟩
 have h0:0<s.length:=List.length_pos_iff.2 hs
 refine wU 7 true I (dT (by show((s.length:Nat):Int)>0;omega))<|xa<|zR I<|zI<|zE<|zH<|xb<|wP I<|xa<|xd<|wL 0 I I (fun W hp=>row hp) I<|?_
 rcases E9 10 s with hm|⟨a,b,rfl,ha⟩
 ·have hne:=VB hm hs
  rw[hne] at hE
  have hkl:k<(Bg s0).length:=by have:=congrArg List.length hE;rw[List.length_drop,List.length_singleton] at this;omega
  have hgk:(Bg s0).getD k []=s:=by
   rw[List.drop_eq_getElem_cons hkl] at hE
   injection hE with h1 h2
   rw[List.getD_eq_getElem?_getD,List.getElem?_eq_getElem hkl];exact h1.symm
  have hnx:Bg []=(Bg s0).drop (k+1):=by
   rw[List.drop_eq_getElem_cons hkl] at hE
   injection hE with h1 h2
  refine Mi (fun W W' hp hb=>hB _ _ W W' hp hb) I I I I I I (by kernel_rfl) (fun W _=>I2 s W) ?_
  refine wV 9 (-1) I (K5 hm)<|wP I<|xg<|Aa I<|xa<|zS I<|zB<|wL 0 I I (fun W hp=>row hp) I<|wP I<|Ke (cs:=[str s]) (ty:=9) (fun W=>J k [(b1,KJ [])] W) tH I I I I I I (fun W hp=>(hN _ _ W hp).2 (b1,_) (List.mem_cons_self ..)) I I I (fun W W' hp hu=>hU _ _ _ _ W W' hp hu) ?_
  refine xg<|Aa I<|?_
  refine F6 (A1:=fun W=>J (k+1) [(b1,KJ [])] W) (A2:=Jx) I I I I I I (fun W hp=>by have:=hY k _ W hkl hp;rwa [hgk] at this) ?_ ?_
  ·exact wP I<|xa<|zS I<|zI<|zN<|D5 (k+1,[]) ⟨hkl,hnx,Nat.zero_le _⟩ h0 ⟨I,I,tO⟩ fun W hp=>hp
  ·exact wP I<|xa<|zR I<|zO<|zQ<|zP<|zQ<|CP I fun W hp=>hp
 have hat:=aH b ha
 rw[hat] at hE
 have hkl:k<(Bg s0).length:=by have:=congrArg List.length hE;rw[List.length_drop,List.length_cons] at this;omega
 have hgk:(Bg s0).getD k []=a++[10]:=by
  rw[List.drop_eq_getElem_cons hkl] at hE
  injection hE with h1 h2
  rw[List.getD_eq_getElem?_getD,List.getElem?_eq_getElem hkl];exact h1.symm
 have hnx:Bg b=(Bg s0).drop (k+1):=by
  rw[List.drop_eq_getElem_cons hkl] at hE
  injection hE with h1 h2
 have hlab:(a++10::b).length=a.length+b.length+1:=by rw[List.length_append,List.length_cons];omega
 have ht:(a++10::b).take (a.length+1)=a++[10]:=by
  rw[show a++10::b=(a++[10])++b by simp]
  exact List.take_left' (by simp)
 have hdp:(a++10::b).drop (a.length+1)=b:=by
  rw[show a++10::b=(a++[10])++b by simp]
  exact List.drop_left' (by simp)
 refine Mi (fun W W' hp hb=>hB _ _ W W' hp hb) I I I I I I (by kernel_rfl) (fun W _=>I2 (a++10::b) W) ?_
 refine wV 9 (a.length:Nat) I (Ou b ha)<|wP I<|xg<|Aa I<|wU 11 true I (dT (by show((a.length:Nat):Int)≥0;omega))<|xa<|zR I<|Pg 9 (hdr _ _) Tryz.mixed (by kernel_rfl) I ?_
 refine qL 0 I I (fun W hp=>row hp) I<|AO I<|qV 14 ((a.length+1:Nat):Int) I (Az (by omega))<|?_
 refine Xa (a.length+1) tH I I I I I I I I (by show _<=(a++10::b).length;omega) ?_
 refine DO 15 (str (a++[10])) I (congrArg str ht)<|qL 0 I I (fun W hp=>row hp) I<|AO I<|qV 18 ((a.length+1:Nat):Int) I (Az (by omega))<|?_
 refine Ld (a.length+1) tH I I I I I I I I (by show _<=(a++10::b).length;omega) ?_
 refine DO 19 (str b) I (congrArg str hdp)<|qP I<|zD<|Ke (cs:=[str (a++10::b)]) (ty:=9) (fun W=>J k [(b1,KJ b)] W) tH I I I I I I (fun W hp=>(hN _ _ W hp).2 (b1,_) (List.mem_cons_self ..)) I I I (fun W W' hp hu=>hU _ _ _ _ W W' hp hu) ?_
 refine xg<|Aa I<|?_
 refine F6 (A1:=fun W=>J (k+1) [(b1,KJ b)] W) (A2:=Jx) I I I I I I (fun W hp=>by have:=hY k _ W hkl hp;rwa [hgk] at this) ?_ ?_
 ·exact wP I<|xa<|zS I<|zI<|zN<|D5 (k+1,b) ⟨hkl,hnx,by show b.length<=_;omega⟩ (by show b.length<(a++10::b).length;omega) ⟨I,I,tO⟩ fun W hp=>hp
 ·exact wP I<|xa<|zR I<|zO<|zQ<|zP<|zQ<|CP I fun W hp=>hp
noncomputable def rwJ (w:List UInt8):Option AlS:=if hasSuffix w [10]=true then rowP (trimSuffix w [10]) else none
noncomputable def rowsA:List AlS->List (List UInt8)->Option (List AlS)
 |acc,[]=>some acc
 |acc,w::r=>match rwJ w with
  |some x=>rowsA (acc++[x]) r
  |none=>none
theorem Ls {acc:List AlS} {w:List UInt8} {r:List (List UInt8)} {x:AlS} (h:rwJ w=some x):rowsA acc (w::r)=rowsA (acc++[x]) r:=by
 show(match rwJ w with
  |some x=>rowsA (acc++[x]) r
  |none=>none)=_
 rw[h]
theorem IV {acc:List AlS} {w:List UInt8} {r:List (List UInt8)} (h:rwJ w=none):rowsA acc (w::r)=none:=by
 show(match rwJ w with
  |some x=>rowsA (acc++[x]) r
  |none=>none)=_
 rw[h]
noncomputable def outSp (s:List UInt8):List AlS×Int:=if 65536<s.length then([],4) else match rowsA [] (Bg s) with
 |none=>([],3)
 |some l=>if DX l=0 then(l,0) else([],DX l)
theorem R0: ∀(ls:List (List UInt8)) (n:Nat),(join ls [10]).length<=n->(∀w∈Vh ls,w.length<=n)/\(Vh ls).length<=n
 |[],n,_=>⟨fun w hw=>absurd hw List.not_mem_nil,Nat.zero_le _⟩
 |[a],n,h=>by
  have ha:a.length<=n:=by simpa[join] using h
  show(∀w∈(if a=[] then[] else[a]),w.length<=n)/\(if a=[] then[] else[a]).length<=n
  by_cases h0:a=[]
  ·rw[if_pos h0];exact⟨fun w hw=>absurd hw List.not_mem_nil,Nat.zero_le _⟩
  ·rw[if_neg h0]
   have:=List.length_pos_iff.2 h0
   exact⟨fun w hw=>(by obtain rfl:=List.mem_singleton.1 hw;exact ha),by rw[List.length_singleton];omega⟩
 |a::b::r,n,h=>by
  rw[Gm,List.length_append,List.length_cons] at h
  obtain⟨h1,h2⟩:=R0 (b::r) (n-a.length-1) (by omega)
  show(∀w∈(a++[10])::Vh (b::r),w.length<=n)/\((a++[10])::Vh (b::r)).length<=n
  refine⟨fun w hw=> ?_,by rw[List.length_cons];omega⟩
  rcases List.mem_cons.1 hw with rfl|hw
  ·rw[List.length_append,List.length_singleton];omega
  ·have:=h1 w hw;omega
theorem MC (s:List UInt8):(∀w∈Bg s,w.length<=s.length)/\(Bg s).length<=s.length:=R0 _ _ (by rw[HZ];exact Nat.le_refl _)
theorem H3 (s p:List UInt8):(trimSuffix s p).length<=s.length:=by
 unfold trimSuffix
 split
 ·rw[List.length_take];omega
 ·exact Nat.le_refl _
theorem Nt (s0:List UInt8) (hs0:s0.length<=1000000) (W:World) (hv:AQ W) (ht:AZ W):
  Ag Tryz.prog 105 #[str s0] W (fun V:Vec=> .tuple #[V.val (outSp s0).1.length, .int .i64 (outSp s0).2]) (fun V=>V.OK 5 (outSp s0).1.length ((outSp s0).1.flatMap alC)) (fun V=>[V.bx 91 ((outSp s0).1.flatMap alC)]):=by
 refine Ab Tryz.func105 I I I<|xb<|wG I I fun _=>wG I I fun _=>zC<|?_
 rename_i b2 b3
 refine zE<|xd<|Aa I<|Ao 12 (.int .i64 (s0.length:Nat)) I (congrArg (fun n:Nat=>Value.int .i64 (n:Int)) (A5 s0))<|wP I<|?_
 by_cases h4:65536<s0.length
 ·have hout:outSp s0=([],4):=by unfold outSp;rw[if_pos h4]
  refine wU 13 true I (dT (by omega))<|xa<|zR I<|xb<|wS 0 I I I<|wS 1 I I I<|xc<|zP<|?_
  refine An tH I (.cell 0 I I I I I) (.cell 1 I I I I I) Vec.empty (by rw[hout];rfl) (by rw[hout];exact Vec.OK.empty 5) fun W1 hp=> ?_
  rw[hout]
  exact Ej _ _
 refine wU 13 false I (dF (by omega))<|xa<|zS I<|zI<|xe<|?_
 have hO:outSp s0=match rowsA [] (Bg s0) with
   |none=>([],3)
   |some l=>if DX l=0 then(l,0) else([],DX l):=by unfold outSp;rw[if_neg h4]
 refine wG I I fun _=>zC<|?_
 rename_i b4
 refine zE<|xd<|wP I<|wD (X:=Nat) I I (fun W1 _=>KG s0 W1) ?_
 intro bs _
 refine xa<|zH<|Be ?_
 refine B2 [Ad [(bs,KJ s0)],⟨b2,73,[.slice none 0 0],true,none⟩,⟨b3,27,[.int .i64 0],true,none⟩,⟨b4,73,[.slice none 0 0],true,none⟩,CN] [3,0,1,2,4] (by decide) I I ?_
 have hlen:=MC s0
 refine Ol (X:=List AlS×Vec×Int) (fun x=>[⟨b2,73,[.slice none 0 0],true,none⟩,⟨b3,27,[.int .i64 x.2.2],true,none⟩,⟨b4,73,[x.2.1.val x.1.length],true,none⟩,x.2.1.bx 91 (x.1.flatMap alC)])
  (fun k x=>x.2.2=0/\x.2.1.OK 5 x.1.length (x.1.flatMap alC)/\x.1.length=k/\rowsA x.1 ((Bg s0).drop k)=rowsA [] (Bg s0)) (fun c x=>c= .ret/\x.2.2=3/\rowsA [] (Bg s0)=none) ([],Vec.empty,0) rfl (by kernel_rfl) (LH s0 hs0 bs) (fun _=>rfl)
  ⟨rfl,Vec.OK.empty 5,rfl,rfl⟩ [] rfl (fun _ _ _ _ _=>trivial) ?_ ?_ ?_
 ·rintro k ⟨acc,V,e⟩ d l' rec L hk ⟨he,hV,hak,hE⟩ hrec
  obtain rfl:e=0:=he
  have hV:V.OK 5 acc.length (acc.flatMap alC):=hV
  have hak:acc.length=k:=hak
  have hE:rowsA acc ((Bg s0).drop k)=rowsA [] (Bg s0):=hE
  have hk:k<(Bg s0).length:=hk
  rw[List.drop_eq_getElem_cons hk] at hE
  have hgd:(Bg s0).getD k []=(Bg s0)[k]:=by rw[List.getD_eq_getElem?_getD,List.getElem?_eq_getElem hk];rfl
  have hwl:((Bg s0)[k]).length<=s0.length:=hlen.1 _ (List.getElem_mem hk)
  rw[hgd]
  obtain⟨w,hw⟩: ∃w,w=(Bg s0)[k]:=⟨_,rfl⟩
  rw[<-hw] at hE hwl⊢
  have htl:=H3 w [10]
  refine zB<|wP I<|zC<|CJ 6 hrec I ?_
  refine zH<|xb<|wP I<|wC I I (fun W1 _=>PT w [10] (by omega) W1)<|A8 I<|xg<|wP I<|wD (X:=AlS×Bool) I I (fun W1 hp=>Te (trimSuffix w [10]) (by omega) W1 (hv.hp hp) (ht.hp hp)) ?_
  rintro⟨x,ok⟩ hx
  refine Ae I<|wG I I fun _=>wS 7 I I I<|wP I<|zC<|?_
  rename_i b8
  cases hsf:hasSuffix w [10] with
  |false=>
   have hno:rwJ w=none:=by unfold rwJ;rw[if_neg (by rw[hsf];decide)]
   rw[IV hno] at hE
   refine zE<|xd<|Ae I<|?_
   iterate 2 refine Ac I I ?_
   exact wP I<|xa<|zR I<|xb<|wS 1 I I I<|wS 2 I I I<|xc<|zP<|zQ<|BA 6 (acc,V,3) hrec I ⟨I,I,hE.symm⟩ [_] I
  |true=>
   have hrw:rwJ w=rowP (trimSuffix w [10]):=by unfold rwJ;rw[if_pos hsf]
   rcases hx with⟨y,hy,e⟩|⟨hno,hok⟩
   rotate_left
   ·have hok:ok=false:=hok
    subst hok
    rw[IV (hrw.trans hno)] at hE
    exact zE<|xd<|Bb I<|xa<|zR I<|xb<|wS 1 I I I<|wS 2 I I I<|xc<|zP<|zQ<|BA 6 (acc,V,3) hrec I ⟨I,I,hE.symm⟩ [_] I
   injection e with e1 e2
   subst e1 e2
   rw[Ls (hrw.trans hy)] at hE
   refine zE<|xd<|Bb I<|xa<|zS I<|zI<|zE<|zB<|wB 3 I I I<|wB 7 I I I<|?_
   (refine Ai Tryz.hZ tH rfl rfl rfl rfl rfl rfl rfl rfl rfl rfl rfl ?_;intro)
   refine AA (V:=V) (len:=acc.length) (xs:=acc.flatMap alC) 4 8 Tryz.vec73 (acc++[x]).length ((acc++[x]).flatMap alC) I I I I I I I I I I I hV I I (by rw[List.length_append];rfl) (by rw[CV];rfl) (by rw[List.length_append,List.length_singleton];simp only[maxLen];omega) (by rw[List.length_append,List.length_singleton];omega) I ?_
   intro g c1 j1 hV1
   exact wS 3 I I I<|zC<|zN<|BQ 6 (acc++[x],⟨some g,c1,j1⟩,0) hrec I ⟨I,hV1,by show(acc++[x]).length=k+1;rw[List.length_append,List.length_singleton,hak],hE⟩ [_,_] I
 ·rintro⟨acc,V,e⟩ d l' rec ⟨he,hV,hak,hE⟩
  obtain rfl:e=0:=he
  have hV:V.OK 5 acc.length (acc.flatMap alC):=hV
  have hak:acc.length=(Bg s0).length:=hak
  have hE:rowsA acc ((Bg s0).drop (Bg s0).length)=rowsA [] (Bg s0):=hE
  rw[List.drop_of_length_le (Nat.le_refl _)] at hE
  rw[<-hE] at hO
  have hE:=trivial
  refine AM (bs':=[⟨b2,73,[.slice none 0 0],true,none⟩,⟨b3,27,[.int .i64 0],true,none⟩,⟨b4,73,[slv (AU V) acc.length (Bd V)],true,none⟩,V.bx 91 (acc.flatMap alC),B7 d,Bc l' rec .exhausted none]) (by rw[show slv (AU V) acc.length (Bd V)=V.val acc.length from(Bs hV).symm];rfl) ?_
  refine zN<|zE<|xd<|wB 2 I I I<|wC I I (fun W1 hp=>FX acc (AU V) (Bd V) (by omega) W1 (EI U7 hp 3 hV I))<|wP I<|xg<|Aa I<|?_
  by_cases hc:DX acc=0
  ·have hout:outSp s0=(acc,0):=by rw[hO];show(if _ then _ else _)=_;rw[if_pos hc]
   refine wU 40 false I (bne_eq_false_iff_eq.2 hc)<|xa<|zS I<|zI<|xe<|wB 2 I I I<|wS 0 I I I<|wS 1 I I I<|xc<|C2 4 I ?_
   refine An tH I (.cell 0 I I I I I) (.cell 1 I I I I I) V (by rw[hout,Bs hV]) (by rw[hout];exact hV) fun W1 hp=> ?_
   rw[hout]
   exact(hp.pick [3] (by decide) I).own
  ·have hout:outSp s0=([],DX acc):=by rw[hO];show(if _ then _ else _)=_;rw[if_neg hc]
   refine wU 40 true I (bne_iff_ne.2 hc)<|xa<|zR I<|xb<|wP I<|wS 0 I I I<|wS 1 I I I<|xc<|zP<|C2 4 I ?_
   refine An tH I (.cell 0 I I I I I) (.cell 1 I I I I I) Vec.empty (by rw[hout];rfl) (by rw[hout];exact Vec.OK.empty 5) fun W1 hp=> ?_
   rw[hout]
   exact Ej _ _
 ·rintro⟨acc,V,e⟩ d l' rec c ⟨rfl,he,hE⟩
  obtain rfl:e=3:=he
  rw[hE] at hO
  have hout:outSp s0=([],3):=hO
  refine zO<|zQ<|zP<|C2 4 I ?_
  refine An tH I (.cell 0 I I I I I) (.cell 1 I I I I I) Vec.empty (by rw[hout];rfl) (by rw[hout];exact Vec.OK.empty 5) fun W1 hp=> ?_
  rw[hout]
  exact Ej _ _
def Dw {σ:Type} (R:List (List UInt8)->σ->σ->Bool->Prop):List (List UInt8)->σ->σ->Bool->Prop
 |[],s,s',b=>s'=s/\b=true
 |w::r,s,s',b=> ∃s1 b1,R (AI 32 (trimSuffix w [10])) s s1 b1/\((b1=true/\Dw R r s1 s' b)\/(b1=false/\s'=s1/\b=false))
theorem Co (c:UInt8) (s:List UInt8):0<(AI c s).length:=by rw[Gv];exact Nat.succ_pos _
theorem Pa (s:List UInt8):(AI 32 s).length<=s.length+1:=NF s
theorem NU {σ:Type} {R:List (List UInt8)->σ->σ->Bool->Prop}: ∀ {pre:List (List UInt8)} {s0 s s1:σ} {b:Bool} {w:List UInt8},Dw R pre s0 s true->R (AI 32 (trimSuffix w [10])) s s1 b->Dw R (pre++[w]) s0 s1 b
 |[],s0,s,s1,b,w,⟨h1,_⟩,hR=>by
  subst h1
  cases b with
  |false=>exact⟨s1,false,hR, .inr ⟨rfl,rfl,rfl⟩⟩
  |true=>exact⟨s1,true,hR, .inl ⟨rfl,rfl,rfl⟩⟩
 |w0::pre,s0,s,s1,b,w,⟨s2,b2,h2,h⟩,hR=>by
  rcases h with⟨e,h⟩|⟨_,_,h⟩
  ·exact⟨s2,b2,h2, .inl ⟨e,NU h hR⟩⟩
  ·cases h
theorem HB {σ:Type} (G:σ->List (Nat×Obj)) (R:List (List UInt8)->σ->σ->Bool->Prop) (gf:Nat) (capt:List Value) (hE:Bm Tryz.prog gf=true) (s0:σ) (text:List UInt8) (ht:text.length<=900000) (Wb W:World) (hb0:Below Wb.heap.size Wb W) (hO:Go.Am.Own Wb.heap.size [Ad (G s0)] W) (hv:AQ Wb)
  (hf: ∀(pre:List (List UInt8)) (ws:List (List UInt8)) (s:σ) (g:Nat) (W1:World),Dw R pre s0 s true->pre.length<=text.length->Below Wb.heap.size Wb W1->LB W W1 (G s0)->(∀x o,W.heap[x]? =some o->Wb.heap.size<=x->(∀q∈G s0,q.1≠x)-> ∀q∈G s,q.1≠x)->Go.Am.Own Wb.heap.size [Ad (G s)] W1->Al W1 g 0 (ss ws)->(∀q∈G s,q.1≠g)->ws.length<=1000000->(∀w∈ws,w.length<=1000000)->0<ws.length->
   A0 Tryz.prog Wb.heap.size gf ([slv (some ⟨g,0,none⟩) ws.length ws.length]++capt) W1 (G s) (fun x:σ×Bool=> .bool x.2) (fun x=>R ws s x.1 x.2) (fun x=>G x.1)):
  A0 Tryz.prog Wb.heap.size 147 [str text, .func (.func gf) #[] capt.toArray] W (G s0) (fun x:σ×Bool=> .bool x.2) (fun x=>Dw R (Bg text) s0 x.1 x.2) (fun x=>G x.1):=by
 refine A0.enterL (bs:=[Ad (G s0)]) (bs':=fun x:σ×Bool=>[Ad (G x.1)]) hb0 hO (Ap _) (fun x=>Ap _) Tryz.func147 I I I ?_
 refine xb<|wF I I fun _=>wG I I fun _=>zC<|?_
 rename_i b3 b4
 refine zE<|xd<|wP I<|wD (X:=Nat) I I (fun W1 _=>KG text W1) ?_
 intro bs _
 refine xa<|zH<|B2 [Ad [(bs,KJ text)],Ad (Ay Wb.heap.size W (G s0)),Ad (G s0),⟨b3,215,[.func (.func gf) #[] capt.toArray],true,none⟩,⟨b4,4,[.bool false],true,none⟩] [4,0,1,2,3] (by decide) I I ?_
 have hlen:=MC text
 refine Ol (X:=σ×Bool) (fun x=>[Ad (Ay Wb.heap.size W (G s0)),Ad (G x.1),⟨b3,215,[.func (.func gf) #[] capt.toArray],true,none⟩,⟨b4,4,[.bool x.2],true,none⟩])
  (fun k x=>x.2=false/\Dw R ((Bg text).take k) s0 x.1 true/\ ∀s' b,Dw R ((Bg text).drop k) x.1 s' b->Dw R (Bg text) s0 s' b) (fun c x=>c= .ret/\x.2=false/\Dw R (Bg text) s0 x.1 false) (s0,false) rfl (by kernel_rfl) (LH text (by omega) bs) (fun _=>rfl)
  ⟨rfl,⟨rfl,rfl⟩,fun s' b h=>h⟩ [] rfl (fun _ _ _ _ _=>trivial) ?_ ?_ ?_
 ·rintro k ⟨s,e⟩ d l' rec L hk ⟨he,hF,hS⟩ hrec
  obtain rfl:e=false:=he
  have hF:Dw R ((Bg text).take k) s0 s true:=hF
  have hk:k<(Bg text).length:=hk
  have hS: ∀s' b,Dw R ((Bg text).drop k) s s' b->Dw R (Bg text) s0 s' b:=hS
  rw[List.drop_eq_getElem_cons hk] at hS
  have hgd:(Bg text).getD k []=(Bg text)[k]:=by rw[List.getD_eq_getElem?_getD,List.getElem?_eq_getElem hk];rfl
  have hwl:((Bg text)[k]).length<=text.length:=hlen.1 _ (List.getElem_mem hk)
  rw[hgd]
  obtain⟨w,hw⟩: ∃w,w=(Bg text)[k]:=⟨_,rfl⟩
  rw[<-hw] at hS hwl⊢
  have htk:(Bg text).take (k+1)=(Bg text).take k++[w]:=by rw[List.take_add_one,List.getElem?_eq_getElem hk,hw];rfl
  have hpl:((Bg text).take k).length<=text.length:=by rw[List.length_take];have:=hlen.2;omega
  have htl:=H3 w [10]
  have hsl:=Pa (trimSuffix w [10])
  have hs0:=Co 32 (trimSuffix w [10])
  have hws:=B0 (l:=trimSuffix w [10]) (n:=1000000) (by omega)
  refine zB<|wP I<|zC<|CJ 6 hrec I ?_
  refine zH<|zA<|?_
  refine Bh (X:= { x:σ×Bool//R (AI 32 (trimSuffix w [10])) s x.1 x.2 }) [true,true,true,false,false,false] (fun x=>[(3,Af b3),(4,Af b4),(14, .bool (!x.1.2))]) (fun x=>[Ad L,Ad (Ay Wb.heap.size W (G s0)),Ad (G x.1.1),⟨b3,215,[.func (.func gf) #[] capt.toArray],true,none⟩,⟨b4,4,[.bool false],true,none⟩,B7 d,Bc l' rec .busy none])
   3 [Ad L,Ad (Ay Wb.heap.size W (G s0)),Ad (G s),⟨b3,215,[.func (.func gf) #[] capt.toArray],true,none⟩,⟨b4,4,[.bool false],true,none⟩,B7 d,Bc l' rec .busy none] Tryz.mixed (by kernel_rfl) ?_ ?_
  ·refine qB 3 I I I<|qP I<|qC I I (fun W1 _=>Nx w [10] (by omega) W1)<|Cp<|wX<|wZ<|?_
   refine wD (X:=Nat) rfl rfl (fun W1 hp=>CL W1 (trimSuffix w [10]) (by omega) (hv.hp hp)) ?_;intro g _
   refine zC<|Aw<|wX<|wZ<|?_
   refine Ah 2 (capt:=capt) (fun x:σ×Bool=>Ad (G x.1)) rfl rfl rfl rfl rfl rfl hE rfl (fun _ _=>rfl) (fun W1 hp=>hf ((Bg text).take k) (AI 32 (trimSuffix w [10])) s g W1 hF hpl hp.below (EL hb0 (hp.pick [1] (by decide) rfl)) (fun x o ho hn hx q hq e=>hp.own.apart 1 2 _ _ rfl rfl (by decide) (x,o) (EB.2 ⟨fun h=>h.elim (fun h=>Nat.not_lt_of_le hn h) (fun h=>by obtain⟨q',hq',e'⟩:=List.mem_map.1 h;exact hx q' hq' e'),ho⟩) q hq e.symm) (hp.pick [2] (by decide) rfl).own (by have:=Al.of_bx hp 7 rfl rfl;rwa [List.append_nil] at this) (fun q hq=>hp.own.apart 2 7 _ _ rfl rfl (by decide) q hq (g,_) (List.mem_cons_self ..)) (by omega) hws hs0) ?_;rintro x hx
   refine zC<|Aw<|wY<|wZ<|wP I<|zC<|Aw<|Cq I (by kernel_rfl) ?_
   exact AR ⟨x,hx⟩ ⟨I,I,I,tO⟩ [0,1,2,3,4,5,6] (by decide) I
  rintro⟨⟨s1,b1⟩,hR⟩
  have hR:R (AI 32 (trimSuffix w [10])) s s1 b1:=hR
  cases b1 with
  |false=>
   exact zE<|zR I<|xb<|wS 4 I I I<|xc<|zQ<|BA 6 (s1,false) hrec I ⟨I,I,hS _ _ ⟨s1,false,hR, .inr ⟨I,I,I⟩⟩⟩ [] I
  |true=>
   exact zE<|zS I<|zI<|zN<|BQ 6 (s1,false) hrec I ⟨I,by rw[htk];exact NU hF hR,fun s' b h=>hS _ _ ⟨s1,true,hR, .inl ⟨I,h⟩⟩⟩ [] I
 ·rintro⟨s,e⟩ d l' rec ⟨he,_,hS⟩
  obtain rfl:e=false:=he
  have hS: ∀s' b,Dw R ((Bg text).drop (Bg text).length) s s' b->Dw R (Bg text) s0 s' b:=hS
  rw[List.drop_of_length_le (Nat.le_refl _)] at hS
  refine zN<|xe<|wS 3 I I I<|xc<|C2 4 I ?_
  exact Ar tH I (.cell 3 I I I I I) (s,true) I (hS s true ⟨I,I⟩) fun W1 hp=>(hp.pick [0,1] (by decide) I).own
 ·rintro⟨s,e⟩ d l' rec c ⟨rfl,he,hS⟩
  obtain rfl:e=false:=he
  refine zO<|zQ<|zP<|C2 4 I ?_
  exact Ar tH I (.cell 3 I I I I I) (s,false) I hS fun W1 hp=>(hp.pick [0,1] (by decide) I).own
def CZ {α:Type} (f:List (List UInt8)->Option α):List α->List (List UInt8)->Option (List α)
 |acc,[]=>some acc
 |acc,w::r=>match f (AI 32 (trimSuffix w [10])) with
  |some x=>CZ f (acc++[x]) r
  |none=>none
abbrev CX {α:Type} (k:Nat) (c:α->List Value):= { x:List α×Vec//x.2.OK k x.1.length (x.1.flatMap c) }
def CX.nil {α:Type} (k:Nat) (c:α->List Value):CX k c:=⟨([],Vec.empty),Vec.OK.empty k⟩
def RdR {α:Type} {k:Nat} {c:α->List Value} (f:List (List UInt8)->Option α) (ws:List (List UInt8)) (s s':CX k c) (b:Bool):Prop:=(∃x,f ws=some x/\b=true/\s'.1.1=s.1.1++[x])\/(f ws=none/\b=false)
theorem Gs {α:Type} {k:Nat} {c:α->List Value} {f:List (List UInt8)->Option α}: ∀ {l:List (List UInt8)} {s s':CX k c} {b:Bool},Dw (RdR f) l s s' b->(CZ f s.1.1 l=some s'.1.1/\b=true)\/(CZ f s.1.1 l=none/\b=false)
 |[],s,s',b,⟨h1,h2⟩=>by subst h1;exact .inl ⟨rfl,h2⟩
 |w::r,s,s',b,⟨s1,b1,hR,h⟩=>by
  have e:CZ f s.1.1 (w::r)=match f (AI 32 (trimSuffix w [10])) with
   |some x=>CZ f (s.1.1++[x]) r
   |none=>none:=rfl
  rcases hR with⟨x,h1,rfl,h2⟩|⟨h1,rfl⟩
  ·rw[e,h1]
   rcases h with⟨_,h⟩|⟨h,_⟩
   ·have:=Gs h
    rw[h2] at this
    exact this
   ·cases h
  ·rw[e,h1]
   rcases h with⟨h,_⟩|⟨_,_,h⟩
   ·cases h
   ·exact .inr ⟨I,h⟩
theorem Gn {α:Type} {f:List (List UInt8)->Option α}: ∀ {r:List (List UInt8)} {acc l:List α},CZ f acc r=some l->l.length=acc.length+r.length
 |[],acc,l,h=>by injection h with h;rw[<-h];rfl
 |w::r,acc,l,h=>by
  have e:(match f (AI 32 (trimSuffix w [10])) with
   |some x=>CZ f (acc++[x]) r
   |none=>none)=some l:=h
  cases hw:f (AI 32 (trimSuffix w [10])) with
  |none=>rw[hw] at e;cases e
  |some x=>
   rw[hw] at e
   have:=Gn e
   rw[List.length_append,List.length_singleton] at this
   rw[List.length_cons];omega
theorem LR {α:Type} {k:Nat} {c:α->List Value} {f:List (List UInt8)->Option α} {l:List (List UInt8)} {s s':CX k c} (h:Dw (RdR f) l s s' true):s'.1.1.length=s.1.1.length+l.length:=by
 rcases Gs h with⟨h,_⟩|⟨_,h⟩
 ·exact Gn h
 ·cases h
theorem Kq {α:Type} {f:List (List UInt8)->Option α} {p:α->Prop}: ∀ {r:List (List UInt8)} {acc l:List α},(∀w∈r, ∀x,f (AI 32 (trimSuffix w [10]))=some x->p x)->CZ f acc r=some l->(∀x∈acc,p x)-> ∀x∈l,p x
 |[],acc,l,_,h,ha=>by injection h with h;rw[<-h];exact ha
 |w::r,acc,l,hf,h,ha=>by
  have e:(match f (AI 32 (trimSuffix w [10])) with
   |some x=>CZ f (acc++[x]) r
   |none=>none)=some l:=h
  cases hw:f (AI 32 (trimSuffix w [10])) with
  |none=>rw[hw] at e;cases e
  |some x=>
   rw[hw] at e
   exact Kq (fun w' hw'=>hf w' (List.mem_cons_of_mem _ hw')) e fun y hy=>by
    rcases List.mem_append.1 hy with hy|hy
    ·exact ha y hy
    ·obtain rfl:=List.mem_singleton.1 hy;exact hf w (List.mem_cons_self ..) _ hw
section
variable {P:Program} {N:Nat} {D:List Deferred} {ops:List Oper} {o:Oper} {rest:List Oper} {env:Env} {A A2:World->Prop} {R:Act->World->Prop}
theorem H6 {d:Nat} {x:Operand} {a:Addr} (hg:Aj ops N env o=some true) (hd:o.dst=some d) (ho:o.op= .nilCheck x) (hx:evO N env x=some (.pointer (some a)))
  (h:WQ P N D ops A2 R rest ((d, .pointer (some a))::env) A):WQ P N D ops A2 R (o::rest) env A:=
 CD hg hd (fun c e=>by rw[ho] at e;cases e) (fun _ W hρ _=>by simp[execOp,ho,hρ _ _ hx]) h
end
theorem JL: ∀ws:List (List UInt8),ss ws=ws.flatMap IH
 |[]=>rfl
 |w::ws=>by show str w::ss ws=str w::ws.flatMap IH;rw[JL ws]
theorem Pf {W:World} {g:Nat} {ws:List (List UInt8)} (h:Al W g 0 (ss ws)):AB 1 IH W (some ⟨g,0,none⟩) ws:=AB.of_row (junk:=[]) Gr (by rw[List.append_nil, <-JL];exact h)
def F9 (j:JbS) (a:JbA) (k:Nat) (v:Value):List Value:=(CT j a).set k v
abbrev Kl {α:Type} {n:Nat} {c:α->List Value} (t:TypeId) (k bj:Nat) (j:JbS) (a:JbA) (s:CX n c):List Bx:=[⟨bj,75,F9 j a k (s.1.2.val s.1.1.length),true,none⟩,s.1.2.bx t (s.1.1.flatMap c)]
def C8 {α:Type} {n:Nat} {c:α->List Value} (t:TypeId) (k bj:Nat) (j:JbS) (a:JbA) (s:CX n c):List (Nat×Obj):=Ci (Kl t k bj j a s)
def IG (ws:List (List UInt8)):Option Int:=match Ca [] ws with
 |some [z]=>some z
 |_=>none
theorem Yf {ws:List (List UInt8)} {z:Int} (h:Ca [] ws=some [z]):IG ws=some z:=by unfold IG;rw[h]
theorem Vz {ws:List (List UInt8)} (h:Ca [] ws=none):IG ws=none:=by unfold IG;rw[h]
theorem Wy {ws:List (List UInt8)} {l:List Int} (h:Ca [] ws=some l) (hl:l.length≠1):IG ws=none:=by
 unfold IG
 rw[h]
 match l,hl with
 |[],_=>rfl
 |[_],hl=>exact absurd rfl hl
 |_::_::_,_=>rfl
theorem Rm (bj t2 g:Nat) (j:JbS) (a:JbA) (ws:List (List UInt8)) (s:CX 1 C9) (Wb W:World) (hb0:Below Wb.heap.size Wb W) (hO:Go.Am.Own Wb.heap.size [Ad (C8 3 4 bj j a s)] W) (h2:Al W t2 0 [Af bj]) (hne2: ∀q∈C8 3 4 bj j a s,q.1≠t2) (hg:Al W g 0 (ss ws)) (hneg: ∀q∈C8 3 4 bj j a s,q.1≠g)
  (hl1:ws.length<=1000000) (hl2: ∀w∈ws,w.length<=1000000) (hsl:s.1.1.length<=1000000) (hv:AQ Wb):
  A0 Tryz.prog Wb.heap.size 148 ([slv (some ⟨g,0,none⟩) ws.length ws.length]++[Af t2]) W (C8 3 4 bj j a s) (fun x:CX 1 C9×Bool=> .bool x.2) (fun x=>RdR IG ws s x.1 x.2) (fun x=>C8 3 4 bj j a x.1):=by
 obtain⟨⟨acc,V⟩,hV⟩:=s
 have hV:V.OK 1 acc.length (acc.flatMap C9):=hV
 have hsl:acc.length<=1000000:=hsl
 refine A0.enterL (args:=[slv (some ⟨g,0,none⟩) ws.length ws.length]++[Af t2]) (bs:=Kl 3 4 bj j a ⟨(acc,V),hV⟩) (bs':=fun x:CX 1 C9×Bool=>Kl 3 4 bj j a x.1) hb0 (hO.regroup (Ap _).symm) I (fun _=>rfl) Tryz.func148 I I I ?_
 have kp: ∀ {bs:List Bx} {W1:World},Hp Wb (Ad (Ay Wb.heap.size W (C8 3 4 bj j a ⟨(acc,V),hV⟩))::bs) W1->LB W W1 (C8 3 4 bj j a ⟨(acc,V),hV⟩):=fun hp=>EL hb0 hp
 generalize hoG:Ad (Ay Wb.heap.size W (C8 3 4 bj j a ⟨(acc,V),hV⟩))=oG at kp⊢
 refine xb<|wP I<|xg<|wP I<|wD (X:=Vec×List Int×Bool) I I (fun W1 hp=>ET ws hl1 hl2 (some ⟨g,0,none⟩) ws.length W1 (Pf ((kp hp).row hg hneg)) (hv.hp hp)) ?_
 rintro⟨U,l,ok⟩ ⟨hU,hx⟩
 have hU:U.OK 1 l.length (l.flatMap C9):=hU
 refine A3 I<|Ao 4 (slv (AU U) l.length (Bd U)) I (Bs hU)<|wP I<|zC<|?_
 rcases hx with⟨h1,h2'⟩|⟨h1,h2',h3⟩
 rotate_left
 ·have h3:ok=false:=h3
  subst h3
  refine zE<|xd<|Aa I<|?_
  iterate 3 refine Ac I I ?_
  refine wP I<|xa<|zS I<|zI<|xe<|Aa I<|?_
  iterate 3 refine Ac I I ?_
  exact Aa I<|xc<|Ar tH I (.tmp I) (⟨(acc,V),hV⟩,false) I (.inr ⟨Vz h1,I⟩) fun W1 hp=>(hp.pick [0,1,2] (by decide) I).own
 have h1:Ca [] ws=some l:=h1
 have h2':ok=true:=h2'
 subst h2'
 by_cases hl:l.length=1
 rotate_left
 ·refine zE<|xd<|A8 I<|wU 15 false I (beq_eq_false_iff_ne.2 (show((l.length:Nat):Int)≠1 by omega))<|wP I<|xa<|zS I<|zI<|xe<|A8 I<|wU 33 false I (beq_eq_false_iff_ne.2 (show((l.length:Nat):Int)≠1 by omega))<|?_
  exact Aa I<|xc<|Ar tH I (.tmp I) (⟨(acc,V),hV⟩,false) I (.inr ⟨Wy h1 hl,I⟩) fun W1 hp=>(hp.pick [0,1,2] (by decide) I).own
 obtain⟨z,rfl⟩: ∃z,l=[z]:=by
  match l,hl with
  |[z],_=>exact⟨z,rfl⟩
 obtain⟨up,uc,uj⟩:=U
 cases up with
 |none=>exact absurd (show([z]:List Int).length=0 from hU.nil rfl) (by simp)
 |some gu=>
 refine zE<|xd<|A8 I<|Ao 15 (.bool true) I I<|wP I<|xa<|zR I<|?_
 refine Bh (X:= { x:CX 1 C9//x.1.1=acc++[z] }) [true,true,true,true,true,true,true,true,false,false,false,false,false] (fun _=>[(4,slv (some ⟨gu,0,none⟩) 1 uc),(5, .bool true)]) (fun x=>oG::Kl 3 4 bj j a x.1)
  5 [oG,⟨bj,75,F9 j a 4 (V.val acc.length),true,none⟩,CN,⟨gu,3,[z].flatMap C9++uj,true,none⟩] Tryz.mixed (by kernel_rfl) ?_ ?_
 ·refine qL 0 I I (fun W1 hp=>(kp hp).row h2 hne2) I<|qL 0 I I (fun W1 hp=>(kp hp).row h2 hne2) I<|H6 I I I I ?_
  refine qP I<|qB 1 I I I<|qP I<|qJ ?_
  refine qB 3 I I I<|Cp<|wX<|wZ<|?_
  (refine Ai Tryz.hZ tH rfl rfl rfl rfl rfl rfl rfl rfl rfl rfl rfl ?_;intro)
  refine zC<|Aw<|wX<|wZ<|?_
  refine AA (V:=V) (len:=acc.length) (xs:=acc.flatMap C9) 2 4 Tryz.vec43 (acc++[z]).length ((acc++[z]).flatMap C9) rfl rfl rfl rfl rfl rfl rfl rfl rfl rfl rfl hV rfl rfl (by rw[List.length_append];rfl) (by rw[CV];rfl) (by rw[List.length_append,List.length_singleton];simp only[maxLen];omega) (by rw[List.length_append,List.length_singleton];omega) rfl ?_;intro g2 c2 j2 hV2
  refine zC<|Aw<|wX<|wZ<|AE I I I I<|zC<|Aw<|wX<|wZ<|wP I<|zC<|Aw<|wX<|wZ<|wS 1 I I I<|zC<|Aw<|Cq I (by kernel_rfl) ?_
  exact AR ⟨⟨(acc++[z],⟨some g2,c2,j2⟩),hV2⟩,I⟩ ⟨I,I,tO⟩ [0,1,2] (by decide) I
 rintro⟨s1,hs1⟩
 have hs1:s1.1.1=acc++[z]:=hs1
 exact xe<|A8 I<|Ao 33 (.bool true) I I<|Aa I<|xc<|Ar tH I (.tmp I) (s1,true) I (.inl ⟨z,Yf h1,I,hs1⟩) fun W1 hp=>(hp.pick [0,1,2] (by decide) I).own
structure RdX where
 b:Bool
 j:JbS
 a:JbA
 L:List (Nat×Obj)
abbrev Eb (j:JbS) (a:JbA):Obj:= .cells (CT j a).toArray 75 (0,0)
abbrev KM (bj:Nat) (x:RdX):List (Nat×Obj):=(bj,Eb x.j x.a)::x.L
def eF (k:Nat) (a:JbA) (p:Option Addr) (c:Nat):JbA:=match k with
 |0=> { a with pR:=p,cR:=c }
 |1=> { a with pP:=p,cP:=c }
 |2=> { a with pO:=p,cO:=c }
 |3=> { a with pS:=p,cS:=c }
 |4=> { a with pB:=p,cB:=c }
 |5=> { a with pL:=p,cL:=c }
 |_=> { a with pN:=p,cN:=c }
def dY (k:Nat) (o:Option JbS) (j:JbS) (a:JbA) (x:RdX):Prop:=(∃j1 p c,o=some j1/\x.b=true/\x.j=j1/\x.a=eF k a p c/\(∀W',Gb W' j a->(∀q∈x.L,W'.heap[q.1]? =some q.2)->(x.L.map (·.1)).Nodup->Gb W' x.j x.a)/\(j.op.length<=a.cO->x.j.op.length<=x.a.cO))\/(o=none/\x.b=false)
theorem LK {k n:Nat} {V:Vec} {xs:List Value} (h:V.OK k n xs):n<=Bd V:=by
 obtain⟨p,c,j⟩:=V
 cases p with
 |none=>have e:n=0:=h.nil rfl;omega
 |some g=>exact(h.cap (by simp)).1
theorem HA {α:Type} {k:Nat} {c:α->List Value} (hk: ∀x,(c x).length=k) {W:World} {V:Vec} {t:TypeId} {l:List α} (h:V.OK k l.length (l.flatMap c)) (hb: ∀q∈(V.bx t (l.flatMap c)).blk,W.heap[q.1]? =some q.2):AB k c W (AU V) l:=by
 obtain⟨p,c',j⟩:=V
 cases p with
 |none=>
  have e:l.length=0:=h.nil rfl
  exact .inl (List.length_eq_zero_iff.1 e)
 |some g=>exact AB.of_row hk (Al.of_block (hb (g, .cells (l.flatMap c++j).toArray t (0,0)) (List.mem_cons_self ..)))
abbrev KF (k f bj:Nat) (j:JbS) (a:JbA) (text:List UInt8) (Wb W:World) (o:Option JbS):Prop:=A0 Tryz.prog Wb.heap.size f [Af bj,str text] W [(bj,Eb j a)] (fun x:RdX=> .bool x.b) (dY k o j a) (KM bj)
theorem FE {n bj:Nat} {j:JbS} {a:JbA} {W:World} {c:List Value} (hO:Go.Am.Own n [Ad [(bj,Eb j a)]] W) (hc:CT j a=c):Go.Am.Own n [⟨bj,75,c,true,none⟩] W:=by subst hc;exact hO.regroup rfl
def Ze (text:List UInt8) (j:JbS):Option JbS:=(CZ IG [] (Bg text)).map fun l=> { j with pu:=l }
def d9 (a:JbA) (V:Vec):JbA:= { a with pP:=AU V,cP:=Bd V }
theorem cY (bj:Nat) (j:JbS) (a:JbA) (s:CX 1 C9):C8 3 4 bj j a s=KM bj ⟨true, { j with pu:=s.1.1 },d9 a s.1.2,(s.1.2.bx 3 (s.1.1.flatMap C9)).blk⟩:=by
 unfold C8 Kl
 rw[Bs s.2]
 show[(bj,_)]++(_++[])=_
 rw[List.append_nil]
 rfl
theorem TR (bj:Nat) (j:JbS) (a:JbA) (h0:j.pu=[]) (h1:a.pP=none) (h2:a.cP=0) (text:List UInt8) (ht:text.length<=100000) (Wb W:World) (hb0:Below Wb.heap.size Wb W) (hO:Go.Am.Own Wb.heap.size [Ad [(bj,Eb j a)]] W) (hv:AQ Wb):
  KF 1 90 bj j a text Wb W (Ze text j):=by
 have hc:CT j a=F9 j a 4 (.slice none 0 0):=by unfold F9 CT;rw[h0,h1,h2];rfl
 have hL:(bj,Eb j a)=(bj,Obj.cells (F9 j a 4 (.slice none 0 0)).toArray 75 (0,0)):=by rw[<-hc]
 refine A0.enterL (bs:=[⟨bj,75,F9 j a 4 (.slice none 0 0),true,none⟩]) (bs':=fun x:RdX=>[Ad (KM bj x)]) hb0 (FE hO hc) (by rw[hL];rfl) (fun x=>Ap _) Tryz.func90 I I I ?_
 refine xb<|wF I I fun _=>wP I<|zC<|?_
 rename_i b2
 refine xe<|Aa I<|Ah 1 (capt:=[]) (X:=CX 1 C9×Bool) (L':=fun x=>C8 3 4 bj j a x.1) (Φ:=fun x=>Dw (RdR IG) (Bg text) (CX.nil 1 C9) x.1 x.2) (val:=fun x=> .bool x.2) (fun x=>Ad (C8 3 4 bj j a x.1)) I I I I I I (by kernel_rfl) I (fun _ _=>rfl) (fun W1 hp=> ?_) ?_
 ·have h2:Al W1 b2 0 [Af bj]:=Al.of_bx hp 2 rfl rfl
  have hne: ∀q∈C8 3 4 bj j a (CX.nil 1 C9),q.1≠b2:=fun q hq=>hp.own.apart 1 2 _ _ rfl rfl (by decide) q hq (b2,_) (List.mem_cons_self ..)
  refine HB (fun s=>C8 3 4 bj j a s) (RdR IG) 148 [Af b2] (by kernel_rfl) (CX.nil 1 C9) text (by omega) Wb W1 hp.below ((hp.pick [1] (by decide) I).own.regroup I) hv fun pre ws s g W2 hpre hpl hb2 hk hap hO2 hg hng hl1 hl2 _=> ?_
  exact Rm bj b2 g j a ws s Wb W2 hb2 hO2 (hk.row h2 hne) (hap b2 _ (hp.own.cell 2 _ I (b2,_) (List.mem_cons_self ..)).1 (hp.own.cell 2 _ I (b2,_) (List.mem_cons_self ..)).2 hne) hg hng hl1 hl2 (by rw[LR hpre];show 0+_<=_;omega) hv
 rintro⟨s,b⟩ hx
 have hx:Dw (RdR IG) (Bg text) (CX.nil 1 C9) s b:=hx
 refine wP I<|xc<|Ar tH I (.tmp I) ⟨b, { j with pu:=s.1.1 },d9 a s.1.2,(s.1.2.bx 3 (s.1.1.flatMap C9)).blk⟩ I ?_ fun W1 hp=> ?_
 ·rcases Gs hx with⟨h,rfl⟩|⟨h,rfl⟩
  ·exact .inl ⟨_,_,_,by unfold Ze;rw[show CZ IG [] (Bg text)=some s.1.1 from h];rfl,I,I,I,fun W' hm hb _=>⟨hm.rs,HA BH s.2 hb,hm.op,hm.sz,hm.br,hm.ld,hm.sn⟩,fun h=>h⟩
  ·exact .inr ⟨by unfold Ze;rw[show CZ IG [] (Bg text)=none from h];rfl,I⟩
 ·have h1:=(hp.pick [0,1] (by decide) rfl).own
  rw[cY] at h1
  exact h1
theorem Gt: ∀ {ws:List (List UInt8)} {acc l:List Int},Ca acc ws=some l->l.length=acc.length+ws.length
 |[],acc,l,h=>by injection h with h;rw[<-h];rfl
 |w::r,acc,l,h=>by
  have e:(match atoiAll w with
   | .ok n=>Ca (acc++[n]) r
   |_=>none)=some l:=h
  split at e
  ·have:=Gt e
   rw[List.length_append,List.length_singleton] at this
   rw[List.length_cons];omega
  ·cases e
theorem O0 {W:World} {p:Option Addr} {ws:List (List UInt8)} (h:AB 1 IH W p ws) (n:Nat):AB 1 IH W p (ws.take n):=by
 rcases h with rfl|⟨b,off,e,h⟩
 ·exact .inl (List.take_nil ..)
 ·refine .inr ⟨b,off,e,fun i hi=> ?_⟩
  have hi':i<ws.length:=by rw[List.length_take] at hi;omega
  rw[List.getElem_take]
  exact h i hi'
def JQ (ws:List (List UInt8)):Option OpS:=match Ca [] (ws.take 1) with
 |some l=>if ws.length=5 then some ⟨l.getD 0 0,ws.getD 1 [],ws.getD 2 [],ws.getD 3 [],ws.getD 4 []⟩ else none
 |none=>none
theorem NR {ws:List (List UInt8)} {l:List Int} (h:Ca [] (ws.take 1)=some l):JQ ws=if ws.length=5 then some ⟨l.getD 0 0,ws.getD 1 [],ws.getD 2 [],ws.getD 3 [],ws.getD 4 []⟩ else none:=by unfold JQ;rw[h]
theorem Ow {ws:List (List UInt8)} (h:Ca [] (ws.take 1)=none):JQ ws=none:=by unfold JQ;rw[h]
theorem RQ (bj t2 g:Nat) (j:JbS) (a:JbA) (ws:List (List UInt8)) (s:CX 5 opC) (Wb W:World) (hb0:Below Wb.heap.size Wb W) (hO:Go.Am.Own Wb.heap.size [Ad (C8 82 5 bj j a s)] W) (h2:Al W t2 0 [Af bj]) (hne2: ∀q∈C8 82 5 bj j a s,q.1≠t2) (hg:Al W g 0 (ss ws)) (hneg: ∀q∈C8 82 5 bj j a s,q.1≠g)
  (hl1:ws.length<=1000000) (hl2: ∀w∈ws,w.length<=1000000) (hl0:0<ws.length) (hsl:s.1.1.length<=1000000) (hv:AQ Wb):
  A0 Tryz.prog Wb.heap.size 149 ([slv (some ⟨g,0,none⟩) ws.length ws.length]++[Af t2]) W (C8 82 5 bj j a s) (fun x:CX 5 opC×Bool=> .bool x.2) (fun x=>RdR JQ ws s x.1 x.2) (fun x=>C8 82 5 bj j a x.1):=by
 obtain⟨⟨acc,V⟩,hV⟩:=s
 have hV:V.OK 5 acc.length (acc.flatMap opC):=hV
 have hsl:acc.length<=1000000:=hsl
 refine A0.enterL (args:=[slv (some ⟨g,0,none⟩) ws.length ws.length]++[Af t2]) (bs:=Kl 82 5 bj j a ⟨(acc,V),hV⟩) (bs':=fun x:CX 5 opC×Bool=>Kl 82 5 bj j a x.1) hb0 (hO.regroup (Ap _).symm) I (fun _=>rfl) Tryz.func149 I I I ?_
 have kp: ∀ {bs:List Bx} {W1:World},Hp Wb (Ad (Ay Wb.heap.size W (C8 82 5 bj j a ⟨(acc,V),hV⟩))::bs) W1->LB W W1 (C8 82 5 bj j a ⟨(acc,V),hV⟩):=fun hp=>EL hb0 hp
 generalize hoG:Ad (Ay Wb.heap.size W (C8 82 5 bj j a ⟨(acc,V),hV⟩))=oG at kp⊢
 have ht1:(ws.take 1).length=1:=by rw[List.length_take];omega
 refine xb<|wP I<|xg<|wP I<|De 1 tH I I I I I I I I (by omega) ?_
 refine wD (X:=Vec×List Int×Bool) I I (fun W1 hp=>by have h:=ET (ws.take 1) (by omega) (fun w hw=>hl2 w (List.mem_of_mem_take hw)) (some ⟨g,0,none⟩) ws.length W1 (O0 (Pf ((kp hp).row hg hneg)) 1) (hv.hp hp);rw[ht1] at h;exact h) ?_
 rintro⟨U,l,ok⟩ ⟨hU,hx⟩
 have hU:U.OK 1 l.length (l.flatMap C9):=hU
 refine A8 I<|zC<|?_
 rcases hx with⟨h1,h2'⟩|⟨h1,h2',h3⟩
 rotate_left
 ·have h3:ok=false:=h3
  subst h3
  refine zE<|xd<|Ae I<|?_
  iterate 3 refine Ac I I ?_
  exact wP I<|xa<|zR I<|xb<|wP I<|xc<|zP<|Ar tH I (.tmp I) (⟨(acc,V),hV⟩,false) I (.inr ⟨Ow h1,I⟩) fun W1 hp=>(hp.pick [0,1,2] (by decide) I).own
 have h1:Ca [] (ws.take 1)=some l:=h1
 have h2':ok=true:=h2'
 subst h2'
 have hll:l.length=1:=by have:=Gt h1;rw[ht1] at this;exact this
 have hP:=NR h1
 obtain⟨z,rfl⟩: ∃z,l=[z]:=by
  match l,hll with
  |[z],_=>exact⟨z,rfl⟩
 by_cases h5:ws.length=5
 rotate_left
 ·rw[if_neg h5] at hP
  exact zE<|xd<|Bb I<|wU 17 true I (bne_iff_ne.2 (show((ws.length:Nat):Int)≠5 by omega))<|wP I<|xa<|zR I<|xb<|wP I<|xc<|zP<|Ar tH I (.tmp I) (⟨(acc,V),hV⟩,false) I (.inr ⟨hP,I⟩) fun W1 hp=>(hp.pick [0,1,2] (by decide) I).own
 rw[if_pos h5] at hP
 obtain⟨w0,w1,w2,w3,w4,rfl⟩: ∃w0 w1 w2 w3 w4,ws=[w0,w1,w2,w3,w4]:=by
  match ws,h5 with
  |[w0,w1,w2,w3,w4],_=>exact⟨w0,w1,w2,w3,w4,rfl⟩
 obtain⟨up,uc,uj⟩:=U
 cases up with
 |none=>exact absurd (show([z]:List Int).length=0 from hU.nil rfl) (by simp)
 |some gu=>
 refine zE<|xd<|Bb I<|Ao 17 (.bool false) I I<|wP I<|xa<|zS I<|zI<|zE<|zA<|?_
 refine Bh (X:= { x:CX 5 opC//x.1.1=acc++[(⟨z,w1,w2,w3,w4⟩:OpS)] }) [true,true,true,true,true,true,true,true,true,true,true,true,true,true,true,true,true,true,true,true,true,false,false,false,false,false] (fun _=>[]) (fun x=>oG::Kl 82 5 bj j a x.1)
  5 [oG,⟨bj,75,F9 j a 5 (V.val acc.length),true,none⟩,CN,⟨gu,3,[z].flatMap C9++uj,true,none⟩] Tryz.mixed (by kernel_rfl) ?_ ?_
 ·refine qL 0 I I (fun W1 hp=>(kp hp).row h2 hne2) I<|qL 0 I I (fun W1 hp=>(kp hp).row h2 hne2) I<|H6 I I I I ?_
  refine qP I<|qB 1 I I I<|qP I<|qI I I (by decide) (by show _<((1:Nat):Int);decide)<|qB 3 I I I<|qP I<|qI I I (by decide) (by show _<((5:Nat):Int);decide)<|qL 1 I I (fun W1 hp=>(kp hp).row hg hneg) I<|qP I<|qI I I (by decide) (by show _<((5:Nat):Int);decide)<|qL 2 I I (fun W1 hp=>(kp hp).row hg hneg) I<|qP I<|qI I I (by decide) (by show _<((5:Nat):Int);decide)<|qL 3 I I (fun W1 hp=>(kp hp).row hg hneg) I<|qP I<|qI I I (by decide) (by show _<((5:Nat):Int);decide)<|qL 4 I I (fun W1 hp=>(kp hp).row hg hneg) I<|Ie Tryz.hZ tH I I I I I I I I ?_
  refine Cp<|wX<|wZ<|?_
  (refine Ai Tryz.hZ tH rfl rfl rfl rfl rfl rfl rfl rfl rfl rfl rfl ?_;intro)
  refine zC<|Aw<|wX<|wZ<|?_
  refine AA (V:=V) (len:=acc.length) (xs:=acc.flatMap opC) 2 4 Tryz.vec67 (acc++[(⟨z,w1,w2,w3,w4⟩:OpS)]).length ((acc++[(⟨z,w1,w2,w3,w4⟩:OpS)]).flatMap opC) rfl rfl rfl rfl rfl rfl rfl rfl rfl rfl rfl hV rfl rfl (by rw[List.length_append];rfl) (by rw[CV];rfl) (by rw[List.length_append,List.length_singleton];simp only[maxLen];omega) (by rw[List.length_append,List.length_singleton];omega) rfl ?_;intro g2 c2 j2 hV2
  refine zC<|Aw<|wX<|wZ<|AE I I I I<|zC<|Aw<|wX<|wZ<|wP I<|zC<|Aw<|wX<|wZ<|wS 1 I I I<|zC<|Aw<|Cq I (by kernel_rfl) ?_
  exact AR ⟨⟨(acc++[(⟨z,w1,w2,w3,w4⟩:OpS)],⟨some g2,c2,j2⟩),hV2⟩,I⟩ tO [0,1,2] (by decide) I
 rintro⟨s1,hs1⟩
 have hs1:s1.1.1=acc++[(⟨z,w1,w2,w3,w4⟩:OpS)]:=hs1
 exact xe<|wP I<|xc<|Ar tH I (.tmp I) (s1,true) I (.inl ⟨_,hP,I,hs1⟩) fun W1 hp=>(hp.pick [0,1,2] (by decide) I).own
def ZR (text:List UInt8) (j:JbS):Option JbS:=(CZ JQ [] (Bg text)).map fun l=> { j with op:=l }
def eR (a:JbA) (V:Vec):JbA:= { a with pO:=AU V,cO:=Bd V }
theorem bC (bj:Nat) (j:JbS) (a:JbA) (s:CX 5 opC):C8 82 5 bj j a s=KM bj ⟨true, { j with op:=s.1.1 },eR a s.1.2,(s.1.2.bx 82 (s.1.1.flatMap opC)).blk⟩:=by
 unfold C8 Kl
 rw[Bs s.2]
 show[(bj,_)]++(_++[])=_
 rw[List.append_nil]
 rfl
theorem SZ (bj:Nat) (j:JbS) (a:JbA) (h0:j.op=[]) (h1:a.pO=none) (h2:a.cO=0) (text:List UInt8) (ht:text.length<=100000) (Wb W:World) (hb0:Below Wb.heap.size Wb W) (hO:Go.Am.Own Wb.heap.size [Ad [(bj,Eb j a)]] W) (hv:AQ Wb):
  KF 2 92 bj j a text Wb W (ZR text j):=by
 have hc:CT j a=F9 j a 5 (.slice none 0 0):=by unfold F9 CT;rw[h0,h1,h2];rfl
 have hL:(bj,Eb j a)=(bj,Obj.cells (F9 j a 5 (.slice none 0 0)).toArray 75 (0,0)):=by rw[<-hc]
 refine A0.enterL (bs:=[⟨bj,75,F9 j a 5 (.slice none 0 0),true,none⟩]) (bs':=fun x:RdX=>[Ad (KM bj x)]) hb0 (FE hO hc) (by rw[hL];rfl) (fun x=>Ap _) Tryz.func92 I I I ?_
 refine xb<|wF I I fun _=>wP I<|zC<|?_
 rename_i b2
 refine xe<|Aa I<|Ah 1 (capt:=[]) (X:=CX 5 opC×Bool) (L':=fun x=>C8 82 5 bj j a x.1) (Φ:=fun x=>Dw (RdR JQ) (Bg text) (CX.nil 5 opC) x.1 x.2) (val:=fun x=> .bool x.2) (fun x=>Ad (C8 82 5 bj j a x.1)) I I I I I I (by kernel_rfl) I (fun _ _=>rfl) (fun W1 hp=> ?_) ?_
 ·have h2:Al W1 b2 0 [Af bj]:=Al.of_bx hp 2 rfl rfl
  have hne: ∀q∈C8 82 5 bj j a (CX.nil 5 opC),q.1≠b2:=fun q hq=>hp.own.apart 1 2 _ _ rfl rfl (by decide) q hq (b2,_) (List.mem_cons_self ..)
  refine HB (fun s=>C8 82 5 bj j a s) (RdR JQ) 149 [Af b2] (by kernel_rfl) (CX.nil 5 opC) text (by omega) Wb W1 hp.below ((hp.pick [1] (by decide) I).own.regroup I) hv fun pre ws s g W2 hpre hpl hb2 hk hap hO2 hg hng hl1 hl2 hl0=> ?_
  exact RQ bj b2 g j a ws s Wb W2 hb2 hO2 (hk.row h2 hne) (hap b2 _ (hp.own.cell 2 _ I (b2,_) (List.mem_cons_self ..)).1 (hp.own.cell 2 _ I (b2,_) (List.mem_cons_self ..)).2 hne) hg hng hl1 hl2 hl0 (by rw[LR hpre];show 0+_<=_;omega) hv
 rintro⟨s,b⟩ hx
 have hx:Dw (RdR JQ) (Bg text) (CX.nil 5 opC) s b:=hx
 refine wP I<|xc<|Ar tH I (.tmp I) ⟨b, { j with op:=s.1.1 },eR a s.1.2,(s.1.2.bx 82 (s.1.1.flatMap opC)).blk⟩ I ?_ fun W1 hp=> ?_
 ·rcases Gs hx with⟨h,rfl⟩|⟨h,rfl⟩
  ·exact .inl ⟨_,_,_,by unfold ZR;rw[show CZ JQ [] (Bg text)=some s.1.1 from h];rfl,I,I,I,fun W' hm hb _=>⟨hm.rs,hm.pu,HA Zu s.2 hb,hm.sz,hm.br,hm.ld,hm.sn⟩,fun _=>LK s.2⟩
  ·exact .inr ⟨by unfold ZR;rw[show CZ JQ [] (Bg text)=none from h];rfl,I⟩
 ·have h1:=(hp.pick [0,1] (by decide) rfl).own
  rw[bC] at h1
  exact h1
def IN (ws:List (List UInt8)):Option LdS:=if ws.length=3 then match Ca [] (ws.take 2) with
 |some l=>some ⟨l.getD 0 0,l.getD 1 0,ws.getD 2 []⟩
 |none=>none else none
theorem NM {ws:List (List UInt8)} {l:List Int} (h3:ws.length=3) (h:Ca [] (ws.take 2)=some l):IN ws=some ⟨l.getD 0 0,l.getD 1 0,ws.getD 2 []⟩:=by unfold IN;rw[if_pos h3,h]
theorem Oq {ws:List (List UInt8)} (h:Ca [] (ws.take 2)=none):IN ws=none:=by
 unfold IN
 rw[h]
 split<;>rfl
theorem Lx {ws:List (List UInt8)} (h3:ws.length≠3):IN ws=none:=by unfold IN;rw[if_neg h3]
theorem Rf (bj t2 g:Nat) (j:JbS) (a:JbA) (ws:List (List UInt8)) (s:CX 3 ldC) (Wb W:World) (hb0:Below Wb.heap.size Wb W) (hO:Go.Am.Own Wb.heap.size [Ad (C8 89 13 bj j a s)] W) (h2:Al W t2 0 [Af bj]) (hne2: ∀q∈C8 89 13 bj j a s,q.1≠t2) (hg:Al W g 0 (ss ws)) (hneg: ∀q∈C8 89 13 bj j a s,q.1≠g)
  (hl1:ws.length<=1000000) (hl2: ∀w∈ws,w.length<=1000000) (hsl:s.1.1.length<=1000000) (hv:AQ Wb):
  A0 Tryz.prog Wb.heap.size 152 ([slv (some ⟨g,0,none⟩) ws.length ws.length]++[Af t2]) W (C8 89 13 bj j a s) (fun x:CX 3 ldC×Bool=> .bool x.2) (fun x=>RdR IN ws s x.1 x.2) (fun x=>C8 89 13 bj j a x.1):=by
 obtain⟨⟨acc,V⟩,hV⟩:=s
 have hV:V.OK 3 acc.length (acc.flatMap ldC):=hV
 have hsl:acc.length<=1000000:=hsl
 refine A0.enterL (args:=[slv (some ⟨g,0,none⟩) ws.length ws.length]++[Af t2]) (bs:=Kl 89 13 bj j a ⟨(acc,V),hV⟩) (bs':=fun x:CX 3 ldC×Bool=>Kl 89 13 bj j a x.1) hb0 (hO.regroup (Ap _).symm) I (fun _=>rfl) Tryz.func152 I I I ?_
 have kp: ∀ {bs:List Bx} {W1:World},Hp Wb (Ad (Ay Wb.heap.size W (C8 89 13 bj j a ⟨(acc,V),hV⟩))::bs) W1->LB W W1 (C8 89 13 bj j a ⟨(acc,V),hV⟩):=fun hp=>EL hb0 hp
 generalize hoG:Ad (Ay Wb.heap.size W (C8 89 13 bj j a ⟨(acc,V),hV⟩))=oG at kp⊢
 refine xb<|wP I<|xa<|xd<|Ae I<|?_
 by_cases h3:ws.length=3
 rotate_left
 ·exact wU 8 true I (bne_iff_ne.2 (show((ws.length:Nat):Int)≠3 by omega))<|xa<|zR I<|xb<|wP I<|xc<|zP<|Ar tH I (.tmp I) (⟨(acc,V),hV⟩,false) I (.inr ⟨Lx h3,I⟩) fun W1 hp=>(hp.pick [0,1,2] (by decide) I).own
 refine wU 8 false I (bne_eq_false_iff_eq.2 (show((ws.length:Nat):Int)=3 by omega))<|xa<|zS I<|zI<|xe<|?_
 have ht1:(ws.take 2).length=2:=by rw[List.length_take];omega
 refine wP I<|De 2 tH I I I I I I I I (by omega) ?_
 refine wD (X:=Vec×List Int×Bool) I I (fun W1 hp=>by have h:=ET (ws.take 2) (by omega) (fun w hw=>hl2 w (List.mem_of_mem_take hw)) (some ⟨g,0,none⟩) ws.length W1 (O0 (Pf ((kp hp).row hg hneg)) 2) (hv.hp hp);rw[ht1] at h;exact h) ?_
 rintro⟨U,l,ok⟩ ⟨hU,hx⟩
 have hU:U.OK 1 l.length (l.flatMap C9):=hU
 refine A8 I<|xa<|xd<|wP I<|zC<|?_
 rcases hx with⟨h1,h2'⟩|⟨h1,h2',h3'⟩
 rotate_left
 ·have h3':ok=false:=h3'
  subst h3'
  exact zE<|zS I<|zI<|xe<|Aa I<|xc<|Ar tH I (.tmp I) (⟨(acc,V),hV⟩,false) I (.inr ⟨Oq h1,I⟩) fun W1 hp=>(hp.pick [0,1,2] (by decide) I).own
 have h1:Ca [] (ws.take 2)=some l:=h1
 have h2':ok=true:=h2'
 subst h2'
 have hll:l.length=2:=by have:=Gt h1;rw[ht1] at this;exact this
 have hP:=NM h3 h1
 obtain⟨z,y,rfl⟩: ∃z y,l=[z,y]:=by
  match l,hll with
  |[z,y],_=>exact⟨z,y,rfl⟩
 obtain⟨w0,w1,w2,rfl⟩: ∃w0 w1 w2,ws=[w0,w1,w2]:=by
  match ws,h3 with
  |[w0,w1,w2],_=>exact⟨w0,w1,w2,rfl⟩
 obtain⟨up,uc,uj⟩:=U
 cases up with
 |none=>exact absurd (show([z,y]:List Int).length=0 from hU.nil rfl) (by simp)
 |some gu=>
 refine zE<|zR I<|?_
 refine Bh (X:= { x:CX 3 ldC//x.1.1=acc++[(⟨z,y,w2⟩:LdS)] }) [true,true,true,true,true,true,true,true,true,true,true,true,true,true,true,false,false,false,false,false] (fun _=>[(5, .bool true)]) (fun x=>oG::Kl 89 13 bj j a x.1)
  5 [oG,⟨bj,75,F9 j a 13 (V.val acc.length),true,none⟩,CN,⟨gu,3,[z,y].flatMap C9++uj,true,none⟩] Tryz.mixed (by kernel_rfl) ?_ ?_
 ·refine qL 0 I I (fun W1 hp=>(kp hp).row h2 hne2) I<|qL 0 I I (fun W1 hp=>(kp hp).row h2 hne2) I<|H6 I I I I ?_
  refine qP I<|qB 1 I I I<|qP I<|qI I I (by decide) (by show _<((2:Nat):Int);decide)<|qB 3 I I I<|qP I<|qI I I (by decide) (by show _<((2:Nat):Int);decide)<|qB 3 I I I<|qP I<|qI I I (by decide) (by show _<((3:Nat):Int);decide)<|qL 2 I I (fun W1 hp=>(kp hp).row hg hneg) I<|Ie Tryz.hZ tH I I I I I I I I ?_
  refine Cp<|wX<|wZ<|?_
  (refine Ai Tryz.hZ tH rfl rfl rfl rfl rfl rfl rfl rfl rfl rfl rfl ?_;intro)
  refine zC<|Aw<|wX<|wZ<|?_
  refine AA (V:=V) (len:=acc.length) (xs:=acc.flatMap ldC) 2 4 Tryz.vec72 (acc++[(⟨z,y,w2⟩:LdS)]).length ((acc++[(⟨z,y,w2⟩:LdS)]).flatMap ldC) rfl rfl rfl rfl rfl rfl rfl rfl rfl rfl rfl hV rfl rfl (by rw[List.length_append];rfl) (by rw[CV];rfl) (by rw[List.length_append,List.length_singleton];simp only[maxLen];omega) (by rw[List.length_append,List.length_singleton];omega) rfl ?_;intro g2 c2 j2 hV2
  refine zC<|Aw<|wX<|wZ<|AE I I I I<|zC<|Aw<|wX<|wZ<|wP I<|zC<|Aw<|wX<|wZ<|wS 1 I I I<|zC<|Aw<|Cq I (by kernel_rfl) ?_
  exact AR ⟨⟨(acc++[(⟨z,y,w2⟩:LdS)],⟨some g2,c2,j2⟩),hV2⟩,I⟩ ⟨I,tO⟩ [0,1,2] (by decide) I
 rintro⟨s1,hs1⟩
 have hs1:s1.1.1=acc++[(⟨z,y,w2⟩:LdS)]:=hs1
 exact xe<|Aa I<|xc<|Ar tH I (.tmp I) (s1,true) I (.inl ⟨_,hP,I,hs1⟩) fun W1 hp=>(hp.pick [0,1,2] (by decide) I).own
def ZT (text:List UInt8) (j:JbS):Option JbS:=(CZ IN [] (Bg text)).map fun l=> { j with ld:=l }
def dZ (a:JbA) (V:Vec):JbA:= { a with pL:=AU V,cL:=Bd V }
theorem cA (bj:Nat) (j:JbS) (a:JbA) (s:CX 3 ldC):C8 89 13 bj j a s=KM bj ⟨true, { j with ld:=s.1.1 },dZ a s.1.2,(s.1.2.bx 89 (s.1.1.flatMap ldC)).blk⟩:=by
 unfold C8 Kl
 rw[Bs s.2]
 show[(bj,_)]++(_++[])=_
 rw[List.append_nil]
 rfl
theorem TY (bj:Nat) (j:JbS) (a:JbA) (h0:j.ld=[]) (h1:a.pL=none) (h2:a.cL=0) (text:List UInt8) (ht:text.length<=100000) (Wb W:World) (hb0:Below Wb.heap.size Wb W) (hO:Go.Am.Own Wb.heap.size [Ad [(bj,Eb j a)]] W) (hv:AQ Wb):
  KF 5 101 bj j a text Wb W (ZT text j):=by
 have hc:CT j a=F9 j a 13 (.slice none 0 0):=by unfold F9 CT;rw[h0,h1,h2];rfl
 have hL:(bj,Eb j a)=(bj,Obj.cells (F9 j a 13 (.slice none 0 0)).toArray 75 (0,0)):=by rw[<-hc]
 refine A0.enterL (bs:=[⟨bj,75,F9 j a 13 (.slice none 0 0),true,none⟩]) (bs':=fun x:RdX=>[Ad (KM bj x)]) hb0 (FE hO hc) (by rw[hL];rfl) (fun x=>Ap _) Tryz.func101 I I I ?_
 refine xb<|wF I I fun _=>wP I<|zC<|?_
 rename_i b2
 refine xe<|Aa I<|Ah 1 (capt:=[]) (X:=CX 3 ldC×Bool) (L':=fun x=>C8 89 13 bj j a x.1) (Φ:=fun x=>Dw (RdR IN) (Bg text) (CX.nil 3 ldC) x.1 x.2) (val:=fun x=> .bool x.2) (fun x=>Ad (C8 89 13 bj j a x.1)) I I I I I I (by kernel_rfl) I (fun _ _=>rfl) (fun W1 hp=> ?_) ?_
 ·have h2:Al W1 b2 0 [Af bj]:=Al.of_bx hp 2 rfl rfl
  have hne: ∀q∈C8 89 13 bj j a (CX.nil 3 ldC),q.1≠b2:=fun q hq=>hp.own.apart 1 2 _ _ rfl rfl (by decide) q hq (b2,_) (List.mem_cons_self ..)
  refine HB (fun s=>C8 89 13 bj j a s) (RdR IN) 152 [Af b2] (by kernel_rfl) (CX.nil 3 ldC) text (by omega) Wb W1 hp.below ((hp.pick [1] (by decide) I).own.regroup I) hv fun pre ws s g W2 hpre hpl hb2 hk hap hO2 hg hng hl1 hl2 _=> ?_
  exact Rf bj b2 g j a ws s Wb W2 hb2 hO2 (hk.row h2 hne) (hap b2 _ (hp.own.cell 2 _ I (b2,_) (List.mem_cons_self ..)).1 (hp.own.cell 2 _ I (b2,_) (List.mem_cons_self ..)).2 hne) hg hng hl1 hl2 (by rw[LR hpre];show 0+_<=_;omega) hv
 rintro⟨s,b⟩ hx
 have hx:Dw (RdR IN) (Bg text) (CX.nil 3 ldC) s b:=hx
 refine wP I<|xc<|Ar tH I (.tmp I) ⟨b, { j with ld:=s.1.1 },dZ a s.1.2,(s.1.2.bx 89 (s.1.1.flatMap ldC)).blk⟩ I ?_ fun W1 hp=> ?_
 ·rcases Gs hx with⟨h,rfl⟩|⟨h,rfl⟩
  ·exact .inl ⟨_,_,_,by unfold ZT;rw[show CZ IN [] (Bg text)=some s.1.1 from h];rfl,I,I,I,fun W' hm hb _=>⟨hm.rs,hm.pu,hm.op,hm.sz,hm.br,HA ZF s.2 hb,hm.sn⟩,fun h=>h⟩
  ·exact .inr ⟨by unfold ZT;rw[show CZ IN [] (Bg text)=none from h];rfl,I⟩
 ·have h1:=(hp.pick [0,1] (by decide) rfl).own
  rw[cA] at h1
  exact h1
end
end Go.Proofs.YtidgbjcdppjknaaGreatDoor
