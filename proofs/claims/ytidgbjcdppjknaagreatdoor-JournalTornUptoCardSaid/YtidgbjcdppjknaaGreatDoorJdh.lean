/-
  Lemmas that the theorem journalDamage_upto_card needs (part 8 of 8).
-/
import Derived.Test.YtidgbjcdppjknaaGreatDoorJdg
import Derived.Test.YtidgbjcdppjknaaGreatDoorRows
import Derived.Test.YtidgbjcdppjknaaGreatDoorCards
import Derived.Test.YtidgbjcdppjknaaGreatDoorTie
import Derived.Deep.Slices
import Derived.ChangeArms
import Derived.ChangeShapes
import Derived.WideShapes
import Derived.Carry
import Derived.ProofKit
import Derived.OpenShut
import Derived.Deep.DeepHandedRow
import Derived.Lib.LaidTab
import Derived.Stop.LaidErr
import Derived.Lay
import Derived.SevenTiedAt
import Derived.Shelf.Vars
import Derived.ChangeMaps5
set_option maxHeartbeats 64000000
namespace Go.Proofs.YtidgbjcdppjknaaGreatDoor
section
open Go Go.RowKit Go.Am Go.Lib
set_option maxRecDepth 10000
theorem KX {α:Type} (b':α): ∀(A:List α) (b:α) (B:List α),(A++b::B).set A.length b'=A++b'::B
 |[],_,_=>rfl
 |a::A,b,B=>by
  show a::(A++b::B).set A.length b'=_
  rw[KX b' A b B]
  rfl
theorem N7: ∀(l:List (Nat×EnS×Int)) (out:List EnS) (n:Nat),((readL l out n).2.2=0/\ ∃t,(readL l out n).1=out++t)\/(readL l out n).2.2=29
 |[],out,_=> .inl ⟨rfl,[],(List.append_nil out).symm⟩
 |y::r,out,n=>by
  unfold readL
  split
  ·exact .inl ⟨I,[],(List.append_nil out).symm⟩
  ·split
   ·exact .inr I
   ·rcases N7 r (out++[y.2.1]) y.1 with⟨h1,t,h2⟩|h
    ·exact .inl ⟨h1,y.2.1::t,by rw[h2,List.append_assoc];rfl⟩
    ·exact .inr h
theorem QB (s d:List UInt8): ∀(l:List EnS) (f n:Nat),s.drop n=A7 l++d->s.length<=n+f->n<=s.length->(∀x∈l,chkE x=0)->
  ∃g m,s.drop m=d/\s.length<=m+g/\m<=s.length/\ ∀out,readL (Fk s f n) out n=readL (Fk s g m) (out++l) m
 |[],f,n,hs,hf,hn,_=>⟨f,n,hs,hf,hn,fun out=>by rw[List.append_nil]⟩
 |x::l,f,n,hs,hf,hn,hc=>by
  obtain⟨⟨k1,k2⟩,htl⟩:=GG (hc x (List.mem_cons_self ..))
  have hs:s.drop n=Bv x++(A7 l++d):=by rw[hs];simp[A7]
  have hx:=Us k1 k2 htl (A7 l++d)
  have hll:=congrArg List.length hs
  rw[List.length_drop,List.length_append] at hll
  have hpos:0<(Bv x).length:=by obtain⟨_,_,_,e⟩:=IR k1 k2;rw[e];simp;omega
  obtain⟨g,hfg,hy⟩:=Gp (show n<s.length by omega) hf
  rw[hs,hx] at hy
  have hy:Fk s f n=(n+(Bv x).length,x,0)::Fk s g (n+(Bv x).length):=hy
  have hnx:s.drop (n+(Bv x).length)=A7 l++d:=by rw[<-List.drop_drop,hs,List.drop_left'];rfl
  obtain⟨g2,m,a1,a2,a3,a4⟩:=QB s d l g (n+(Bv x).length) hnx (by omega) (by omega) fun y hy=>hc y (List.mem_cons_of_mem _ hy)
  refine⟨g2,m,a1,a2,a3,fun out=> ?_⟩
  rw[hy,JF (by show(0:Int)≠1;decide) (fun h=>h.elim (fun h=>by cases h) fun h=>h (hc x (List.mem_cons_self ..)))]
  rw[a4]
  have e1:(out++[x])++l=out++x::l:=by simp
  rw[e1]
structure eO (x:EnS) (d:List UInt8):Prop where
 ne:d≠[]
 other:(BY d).2.2=0->(BY d).1≠x
theorem X8 {l:List EnS} {x:EnS} {d:List UInt8} (hc: ∀y∈l,chkE y=0) (hl:(A7 l++d).length<=1048576) (hd:eO x d):
  ((readJ (A7 l++d)).2.2=0\/(readJ (A7 l++d)).2.2=29)/\ ¬((readJ (A7 l++d)).2.2=0/\(readJ (A7 l++d)).1[l.length]? =some x)/\((BY d).2.2=2->(readJ (A7 l++d)).2.2=29):=by
 unfold readJ yld
 rw[if_neg (by omega)]
 obtain⟨g,m,a1,a2,a3,a4⟩:=QB (A7 l++d) d l (A7 l++d).length 0 rfl (by omega) (Nat.zero_le _) hc
 rw[a4 [],List.nil_append]
 have hm:m<(A7 l++d).length:=by
  have:=congrArg List.length a1
  rw[List.length_drop] at this
  have:=List.length_pos_iff.2 hd.ne
  omega
 obtain⟨g2,_,hy⟩:=Gp hm a2
 rw[a1] at hy
 rw[hy]
 rcases Lm d with⟨h1,_,_,_⟩|h|h
 ·have ho:=hd.other h1
  by_cases hck:chkE (BY d).1=0
  ·rw[JF (show(BY d).2.2≠1 by rw[h1];decide) (show¬((BY d).2.2=2\/chkE (BY d).1≠0) from fun h=>h.elim (fun h=>by rw[h1] at h;cases h) fun h=>h hck)]
   rcases N7 (if (BY d).2.2=0 then Fk (A7 l++d) g2 (m+(BY d).2.1) else[]) (l++[(BY d).1]) (m+(BY d).2.1) with⟨e1,t,e2⟩|e
   ·refine⟨.inl e1,fun h=> ?_,fun h=>by rw[h1] at h;cases h⟩
    have h2:=h.2
    rw[e2,List.append_assoc,List.getElem?_append_right (Nat.le_refl _),Nat.sub_self] at h2
    injection h2 with h2
    exact ho h2
   ·exact⟨.inr e,fun h=>(by have:=h.1;rw[e] at this;cases this),fun _=>e⟩
  ·rw[KZ (show(BY d).2.2≠1 by rw[h1];decide) (.inr hck)]
   exact⟨.inr rfl,fun h=>(by have:=h.1;cases this),fun _=>rfl⟩
 ·rw[h]
  rw[LL rfl]
  refine⟨.inl rfl,fun h=> ?_,fun h=>by cases h⟩
  have h2:l[l.length]? =some x:=h.2
  rw[List.getElem?_eq_none (Nat.le_refl _)] at h2
  cases h2
 ·rw[h]
  rw[KZ (by show(2:Int)≠1;decide) (.inl rfl)]
  exact⟨.inr rfl,fun h=>(by have:=h.1;cases this),fun _=>rfl⟩
theorem WJ {x:EnS} (hl:x.t.length<=65536) {kb:UInt8} (k1:HG 1 kb=true) {b':UInt8} (hb:b'≠10) (post:List UInt8):
  BY (decDigits x.t.length++(58::kb::58::(x.t++b'::post)))=(noE,0,2):=by
 obtain⟨hd,hv⟩:=JP hl
 rw[ML hd.ne hd.len hd.dig hd.lead hv hl (fun c r e=>by injection e with e _;subst e;exact HE)]
 have hsc:=Xr k1 (x.t++b'::post)
 unfold I7
 have hdr:(58::kb::58::(x.t++b'::post)).drop 3=x.t++b'::post:=rfl
 rw[if_neg (by rw[hsc];simp),hdr,if_neg (by simp),if_pos (by simp[hb])]
theorem Yj {x:EnS} (hl:x.t.length<=65536) {kb kb':UInt8} (k2:(kb.toNat:Int)-48=x.k) (hb:kb'≠kb) (post:List UInt8):
  (BY (decDigits x.t.length++(58::kb'::58::(x.t++10::post)))).2.2=0->(BY (decDigits x.t.length++(58::kb'::58::(x.t++10::post)))).1≠x:=by
 obtain⟨hd,hv⟩:=JP hl
 rw[ML hd.ne hd.len hd.dig hd.lead hv hl (fun c r e=>by injection e with e _;subst e;exact HE)]
 unfold I7
 split
 ·rename_i h
  intro h0
  exact absurd h0 h
 ·have hdr:(58::kb'::58::(x.t++10::post)).drop 3=x.t++10::post:=rfl
  rw[hdr,if_neg (by simp),if_neg (by simp)]
  intro _ e
  have e:(kb'.toNat:Int)-48=x.k:=congrArg EnS.k e
  exact hb (UInt8.toNat_inj.1 (by omega))
theorem Mz: ∀(r:List UInt8) (a b u v:Nat),parseUint10 a r= .ok u->parseUint10 b r= .ok v->a<b->u<v
 |[],a,b,u,v,h1,h2,h=>by
  injection h1 with h1
  injection h2 with h2
  omega
 |c::r,a,b,u,v,h1,h2,h=>by
  simp only[parseUint10] at h1 h2
  split at h1
  ·rename_i hc
   rw[if_pos hc] at h2
   split at h1
   ·cases h1
   ·split at h1
    ·cases h1
    ·split at h2
     ·cases h2
     ·split at h2
      ·cases h2
      ·exact Mz r _ _ u v h1 h2 (by omega)
  ·cases h1
theorem Wm {c c':UInt8} {r:List UInt8} (hc:48<=c.toNat/\c.toNat<=57) (hc':48<=c'.toNat/\c'.toNat<=57) (hr: ∀b∈r,48<=b.toNat/\b.toNat<=57) (hl:(c::r).length<=5) (hne:c'≠c):atV (c'::r)≠atV (c::r):=by
 have key: ∀d:UInt8,48<=d.toNat/\d.toNat<=57-> ∃u:Nat,parseUint10 (d.toNat-48) r= .ok u/\atV (d::r)=u:=fun d hd=>by
  have hall: ∀b∈d::r,48<=b.toNat/\b.toNat<=57:=fun b hb=>(List.mem_cons.1 hb).elim (fun e=>e▸hd) (hr b)
  have hp:10^(d::r).length<=10^5:=Nat.pow_le_pow_right (by decide) hl
  have hp:10^(d::r).length<=100000:=hp
  obtain⟨u,h1,h2⟩:=IB (d::r) 0 hall (by show(0+1)*10^(d::r).length<=100000000000000000;omega)
  have h3:parseUint10 (d.toNat-48) r= .ok u:=by
   simp only[parseUint10] at h1
   rw[if_pos hd,if_neg (by omega),if_neg (by omega),Nat.zero_mul,Nat.zero_add] at h1
   exact h1
  have hm:parseMag (d::r)= .ok u:=by unfold parseMag;rw[if_neg (by simp)];exact h1
  refine⟨u,h3, ?_⟩
  unfold atV
  rw[atoiAll_plain d r (by omega) (by omega),hm]
  have e:(if 9223372036854775808<=u then NumEnd.range else NumEnd.ok (u:Int))= .ok (u:Int):=if_neg (by omega)
  show(match (if 9223372036854775808<=u then NumEnd.range else NumEnd.ok (u:Int)) with| .ok n=>n|_=>0)=_
  rw[e]
 obtain⟨u,h1,h2⟩:=key c hc
 obtain⟨v,h3,h4⟩:=key c' hc'
 rw[h2,h4]
 have hnn:c'.toNat≠c.toNat:=fun e=>hne (UInt8.toNat_inj.1 e)
 rcases Nat.lt_or_ge (c.toNat-48) (c'.toNat-48) with h|h
 ·have:=Mz r _ _ _ _ h1 h3 h;omega
 ·have:=Mz r _ _ _ _ h3 h1 (by omega);omega
theorem Zn {s:List UInt8} (h:(BY s).2.2=0):((BY s).1.t.length:Int)=atV (s.take (dgJ s)):=by
 unfold BY at h⊢
 split at h
 ·cases h
 ·rename_i h1
  obtain⟨n,_,hn,_⟩:=UW h1
  split at h
  ·cases h
  ·rename_i h2
   rw[if_neg h1,if_neg h2]
   rw[hn,Int.toNat_natCast] at h⊢
   unfold I7 at h⊢
   split at h
   ·rename_i h3;exact absurd h h3
   ·rename_i h3
    rw[if_neg h3]
    split at h
    ·cases h
    ·rename_i h4
     rw[if_neg h4]
     split at h
     ·cases h
     ·rename_i h5
      rw[if_neg h5]
      show((((s.drop (dgJ s)).drop 3).take n).length:Int)=(n:Int)
      rw[List.length_take]
      omega
theorem VU {x:EnS} (hl:x.t.length<=65536) {c c':UInt8} {r:List UInt8} (hds:decDigits x.t.length=c::r) (hb:c'≠c) (rest:List UInt8):
  (BY (c'::(r++58::rest))).2.2=0->(BY (c'::(r++58::rest))).1≠x:=by
 obtain⟨hd,hv⟩:=JP hl
 rw[hds] at hd hv
 have hc:=hd.dig c (List.mem_cons_self ..)
 have hr: ∀b∈r,48<=b.toNat/\b.toNat<=57:=fun b hb=>hd.dig b (List.mem_cons_of_mem _ hb)
 intro h0 e
 have hfl:=Zn h0
 rw[e] at hfl
 by_cases hc':48<=c'.toNat/\c'.toNat<=57
 ·have hall: ∀b∈c'::r,AJ.contains b=true:=fun b hb=>(List.mem_cons.1 hb).elim (fun e=>e▸KW hc'.1 hc'.2) fun h=>KW (hr b h).1 (hr b h).2
  obtain⟨t1,_⟩:=TP (p:=(AJ.contains ·)) (ds:=c'::r) (rest:=58::rest) hall (fun a q e=>by injection e with e _;subst e;decide)
  have hdg:dgJ (c'::(r++58::rest))=(c'::r).length:=by
   rw[Qc, <-List.cons_append,t1]
  have ht:(c'::(r++58::rest)).take (c'::r).length=c'::r:=by
   rw[<-List.cons_append,List.take_left']
   rfl
  rw[hdg,ht] at hfl
  exact Wm hc hc' hr hd.len hb (hfl.symm.trans hv.symm)
 ·have hdg:dgJ (c'::(r++58::rest))=0:=by
   rw[Qc,List.takeWhile_cons_of_neg]
   ·rfl
   ·intro h
    exact hc' (P1 h)
  have hx:Ff (c'::(r++58::rest)):= .inl hdg
  have:BY (c'::(r++58::rest))=(noE,0,2):=by unfold BY;rw[if_pos hx]
  rw[this] at h0
  cases h0
theorem Ky: ∀(ds rest:List UInt8),(∀b∈ds,b≠58)->Lib.indexByte (ds++58::rest) 58=ds.length
 |[],rest,_=>rfl
 |d::ds,rest,h=>by
  have ih:=Ky ds rest fun b hb=>h b (List.mem_cons_of_mem _ hb)
  have hd:=h d (List.mem_cons_self ..)
  show(if d==58 then(0:Int) else if Lib.indexByte (ds++58::rest) 58== -1 then -1 else Lib.indexByte (ds++58::rest) 58+1)=_
  rw[ih,if_neg (by simpa using hd),if_neg (by simp)]
  rw[List.length_cons]
  omega
theorem ZH {n:Nat}: ∀b∈decDigits n,b≠58:=fun b hb e=>by
 have:=Eu n b hb
 subst e
 exact HE this
theorem HJ {X:List EnS} {i:Nat} {x:EnS} (h:X[i]? =some x):A7 X=A7 (X.take i)++(Bv x++A7 (X.drop (i+1))):=by
 obtain⟨hi,rfl⟩:=List.getElem?_eq_some_iff.1 h
 have e:X=X.take i++(X[i]::X.drop (i+1)):=by rw[<-List.drop_eq_getElem_cons hi,List.take_append_drop]
 have:=congrArg A7 e
 rw[Vp] at this
 exact this
theorem aI {X:List EnS} {i:Nat} {x:EnS} (hx:X[i]? =some x) (hi:i+1<X.length) (hc: ∀y∈X,chkE y=0) (ho: ∀y∈X,KO y) (hn:X.length<=20) {q:Nat} {b b':UInt8} (hb:b'≠b)
  (hq:(q=(Bv x).length-1/\b=10)\/q=0\/q=(decDigits x.t.length).length+1) (hat:(A7 X)[(A7 (X.take i)).length+q]? =some b):
  ((readJ ((A7 X).set ((A7 (X.take i)).length+q) b')).2.2=0\/(readJ ((A7 X).set ((A7 (X.take i)).length+q) b')).2.2=29)/\
   ¬((readJ ((A7 X).set ((A7 (X.take i)).length+q) b')).2.2=0/\(readJ ((A7 X).set ((A7 (X.take i)).length+q) b')).1[i]? =some x)/\
   (q=(Bv x).length-1->(readJ ((A7 X).set ((A7 (X.take i)).length+q) b')).2.2=29):=by
 have hxm:x∈X:=List.mem_of_getElem? hx
 obtain⟨⟨k1,k2⟩,htl⟩:=GG (hc x hxm)
 obtain⟨kb,f1,f2,f3⟩:=IR k1 k2
 have hS:=HJ hx
 have hpc: ∀y∈X.take i,chkE y=0:=fun y hy=>hc y (List.mem_of_mem_take hy)
 have hlen:=Js hc ho
 have hil:(X.take i).length=i:=by rw[List.length_take];omega
 obtain⟨pre,hpre⟩: ∃p,p=A7 (X.take i):=⟨_,rfl⟩
 obtain⟨post,hpost⟩: ∃p,p=A7 (X.drop (i+1)):=⟨_,rfl⟩
 obtain⟨ds,hds⟩: ∃p,p=decDigits x.t.length:=⟨_,rfl⟩
 have hdne:ds≠[]:=by rw[hds];exact Hd _
 rw[<-hpost] at hS
 have hRl:(Bv x).length=ds.length+4+x.t.length:=by rw[f3, <-hds];simp;omega
 have hdl:=List.length_pos_iff.2 hdne
 have main: ∀D:List UInt8,(A7 X).set (pre.length+q) b'=pre++D->eO x D->(q=(Bv x).length-1->(BY D).2.2=2)->_:=fun D hD hP hlf=>by
  have hll:(A7 (X.take i)++D).length<=1048576:=by
   rw[<-hpre, <-hD,List.length_set]
   omega
  have key:=X8 hpc hll hP
  rw[hil, <-hpre, <-hD] at key
  exact(⟨key.1,key.2.1,fun h=>key.2.2 (hlf h)⟩:((readJ ((A7 X).set (pre.length+q) b')).2.2=0\/(readJ ((A7 X).set (pre.length+q) b')).2.2=29)/\
   ¬((readJ ((A7 X).set (pre.length+q) b')).2.2=0/\(readJ ((A7 X).set (pre.length+q) b')).1[i]? =some x)/\
   (q=(Bv x).length-1->(readJ ((A7 X).set (pre.length+q) b')).2.2=29))
 rw[<-hpre] at hat⊢
 rw[<-hpre] at hS
 rcases hq with⟨e,eb⟩|e|e
 ·
  have hS2:A7 X=(pre++(ds++58::kb::58::x.t))++10::post:=by rw[hS,f3, <-hds];simp
  have hA:pre.length+q=(pre++(ds++58::kb::58::x.t)).length:=by rw[e,hRl];simp;omega
  refine main (ds++(58::kb::58::(x.t++b'::post))) ?_ ⟨by simp,fun h=> ?_⟩ fun _=> ?_
  ·rw[hA,hS2,KX];simp
  ·rw[hds,WJ htl f1 (by rw[<-eb];exact hb) post] at h
   cases h
  ·rw[hds,WJ htl f1 (by rw[<-eb];exact hb) post]
 ·
  obtain⟨c,r,hcr⟩: ∃c r,ds=c::r:=by
   cases ds with
   |nil=>exact absurd rfl hdne
   |cons c r=>exact⟨c,r,rfl⟩
  have hS2:A7 X=pre++c::(r++58::kb::58::(x.t++10::post)):=by rw[hS,f3, <-hds,hcr];simp
  have hA:pre.length+q=pre.length:=by omega
  have hbc:b=c:=by
   rw[hA,hS2,List.getElem?_append_right (Nat.le_refl _),Nat.sub_self] at hat
   injection hat with hat
   exact hat.symm
  refine main (b'::(r++58::kb::58::(x.t++10::post))) ?_ ⟨by simp, ?_⟩ fun h=> ?_
  ·rw[hA,hS2,KX]
  ·exact VU htl (hds.symm.trans hcr) (by rw[<-hbc];exact hb) _
  ·omega
 ·
  have hS2:A7 X=(pre++(ds++[58]))++kb::(58::(x.t++10::post)):=by rw[hS,f3, <-hds];simp
  have hA:pre.length+q=(pre++(ds++[58])).length:=by rw[e, <-hds];simp
  have hbk:b=kb:=by
   rw[hA,hS2,List.getElem?_append_right (Nat.le_refl _),Nat.sub_self] at hat
   injection hat with hat
   exact hat.symm
  refine main (ds++(58::b'::58::(x.t++10::post))) ?_ ⟨by simp, ?_⟩ fun h=> ?_
  ·rw[hA,hS2,KX];simp
  ·rw[hds]
   exact Yj htl f2 (by rw[<-hbk];exact hb) post
  ·rw[<-hds] at e;omega
abbrev byO (e:TypeId) (c:List Value) (n:Nat):Obj:= .cells c.toArray e (n,n+1)
abbrev TH (b:Nat) (e:TypeId) (c:List Value) (n:Nat):Bx:=⟨b,e,c,true,some (.obj (byO e c n))⟩
def byC (l:List UInt8) (k:Nat):List Value:=l.map (fun x=>Value.int .u8 x.toNat)++List.replicate k (.int .u8 0)
theorem PO (l:List UInt8) (k:Nat):(byC l k).length=l.length+k:=by simp[byC]
theorem Vg {l:List UInt8} {k i:Nat} {x:UInt8} (h:l[i]? =some x):(byC l k)[i]? =some (.int .u8 (x.toNat:Nat)):=by
 have hi:=(List.getElem?_eq_some_iff.1 h).1
 unfold byC
 rw[List.getElem?_append_left (by rw[List.length_map];exact hi),List.getElem?_map,h]
 rfl
theorem Zc {l:List UInt8} {k i:Nat} (x:UInt8) (h:i<l.length):(byC l k).set i (.int .u8 (x.toNat:Nat))=byC (l.set i x) k:=by
 unfold byC
 rw[List.set_append_left _ _ (by rw[List.length_map];exact h),List.map_set]
section
variable {r:Option Nat} {n:Nat} {P:Program} {W0:World} {N:Nat} {D:List Deferred} {ops:List Oper} {Q:Exit->Act->World->Prop} {o:Oper} {rest:List Oper} {env:Env} {bxs:List Bx}
theorem RA {d:Nat} {t e u:TypeId} {x:Operand} (l:List UInt8) (hs:P.underlying t=some .string) (hd2:P.underlying u=some (.slice e)) (he:P.underlying e=some (.int .u8)) (hg:Aj ops N env o=some true) (hd:o.dst=some d) (ho:o.op= .convert t u x)
  (hx:evO N env x=some (str l)) (h: ∀b k,WL r n P N D ops Q rest ((d, .slice (some ⟨b,0,none⟩) l.length (l.length+k))::env) (Hp W0 (bxs++[TH b e (byC l k) (l.length+k)]))):WL r n P N D ops Q (o::rest) env (Hp W0 bxs):= .mk fun a W ha hd' hp=>by
 refine By hg ha (fun c e=>by rw[ho] at e;cases e) ?_
 have hr:=run_bytes_of_string (P:=P) W t u e ⟨l.toArray⟩ hs hd2 he
 have hsz:(⟨l.toArray⟩:ByteArray).size=l.length:=by show l.toArray.size=_;simp
 have hcap:l.length<=grownCap W l.length 0 e:=grownCap_ge W l.length 0 e
 obtain⟨k,hk⟩: ∃k,grownCap W l.length 0 e=l.length+k:=⟨grownCap W l.length 0 e-l.length,by omega⟩
 have hrow:bytesRow ⟨l.toArray⟩ (l.length+k)=(byC l k).toArray:=by
  unfold bytesRow byC
  rw[hsz,Nat.add_sub_cancel_left]
  simp
 rw[hsz,hk,hrow] at hr
 have hsz2:(byC l k).toArray.size=l.length+k:=by rw[List.size_toArray,PO]
 rw[hsz2] at hr
 have:(execOp (ov env a).eval o).run P W= .ok (.value (.slice (some ⟨W.heap.size,0,none⟩) l.length (l.length+k))) (W.drew.alloc (byO e (byC l k) (l.length+k))):=by
  simp only[execOp,ho,A4 ha _ _ hx,Sem.run_bind,hr,Result.andThen_ok,Sem.run_pure]
 rw[this]
 simp only[Oper.uponIn,hd]
 refine(h W.heap.size k).out a _ ha hd' ?_
 have hp2:Hp W0 bxs W.drew:=PF W hp
 have hb:Below W.drew.heap.size W.drew (W.drew.alloc (byO e (byC l k) (l.length+k))):=(Below.refl _ W.drew).alloc (Nat.le_refl _) _
 exact hp2.append hb (Own.one (fun p hp=>by
  obtain rfl:=List.mem_singleton.1 hp
  exact⟨World.alloc_heap_new W.drew _,Nat.le_refl _⟩) (List.nodup_cons.2 ⟨List.not_mem_nil,List.nodup_nil⟩))
theorem T1 (k:Nat) {T:Tbl} {i:TI} {t e:TypeId} {x y:Operand} {b m off:Nat} {c:List Value} {v:Int} (hT:Go.Am.okB P T=true) (hg:Aj ops N env o=some true) (hd:o.dst=none) (ho:o.op= .store t x y) (ht:find T t=some i) (hi:i.size=1)
  (hk:nth bxs k=some (TH b e c m)) (hx:evO N env x=some (.pointer (some ⟨b,off,none⟩))) (hy:evO N env y=some (.int .u8 v)) (hl:off<c.length) (hm:c.length=m)
  (h:WL r n P N D ops Q rest env (Hp W0 (bxs.set k (TH b e (c.set off (.int .u8 v)) m)))):WL r n P N D ops Q (o::rest) env (Hp W0 bxs):= .mk fun a W ha hd' hp=>by
 rw[AT] at hk
 refine By hg ha (fun c e=>by rw[ho] at e;cases e) ?_
 have h3:W.heap[b]? =some (byO e c m):=(hp.at_ k _ hk rfl).1
 have hu:Upd W (W.setCell ⟨b,off,none⟩ (.int .u8 v)) b (byO e (c.set off (.int .u8 v)) m):=by
  refine⟨I,I,I, ?_⟩
  simp only[World.setCell]
  have hlt:=(Array.getElem?_eq_some_iff.1 h3).1
  have hb':=(Array.getElem?_eq_some_iff.1 h3).2
  apply Array.ext_getElem?
  intro j
  rw[Array.getElem?_modify,Array.getElem?_setIfInBounds]
  by_cases e:b=j
  ·subst e
   simp[hlt,hb',byO]
  ·simp[e]
 have hst:(storeVar t ⟨b,off,none⟩ (.int .u8 v)).run P W= .ok () (W.setCell ⟨b,off,none⟩ (.int .u8 v)):=by
  have h4:W.cell? ⟨b,off,none⟩=some c[off]:=by
   simp only[World.cell?,h3]
   simp[hl]
  have h5:W.frozen? ⟨b,off,none⟩=false:=by
   simp only[World.frozen?,h3,byO]
   simp
   omega
  have hs1:(store (⟨b,off,none⟩:Addr) (.int .u8 v)).run P W= .ok () (W.setCell ⟨b,off,none⟩ (.int .u8 v)):=by
   simp[store,Sem.run,h4,h5]
  have hsz:(Value.int .u8 v).cells.size=i.size:=by rw[hi];rfl
  have hv:(Value.int .u8 v).cells.toList=[.int .u8 v]:=rfl
  have hz:Addr.add ⟨b,off,none⟩ 0=⟨b,off,none⟩:=Addr.add_none ..
  simp[storeVar,JA (B8 hT ht),hsz,hv,storeCells,hz,hs1]
 have:(execOp (ov env a).eval o).run P W= .ok .skip (W.setCell ⟨b,off,none⟩ (.int .u8 v)):=by
  simp[execOp,ho,Instr.storeAt,Instr.sureAddr,A4 ha _ _ hx,A4 ha _ _ hy,hst]
 rw[this]
 simp only[Oper.uponIn,hd]
 exact h.out a _ ha hd' (hp.updO hk I I hu)
theorem WN (k:Nat) {d:Nat} {t e u:TypeId} {x:Operand} {b m cap:Nat} {c:List Value} (l:List UInt8) (hs:P.underlying t=some (.slice e)) (he:P.underlying e=some (.int .u8)) (hu:P.underlying u=some .string) (hg:Aj ops N env o=some true) (hd:o.dst=some d) (ho:o.op= .convert t u x)
  (hk:nth bxs k=some (TH b e c m)) (hx:evO N env x=some (.slice (some ⟨b,0,none⟩) l.length cap)) (hc: ∀j (hj:j<l.length),c[j]? =some (.int .u8 (l[j].toNat:Int)))
  (h:WL r n P N D ops Q rest ((d,str l)::env) (Hp W0 bxs)):WL r n P N D ops Q (o::rest) env (Hp W0 bxs):= .mk fun a W ha hd' hp=>by
 rw[AT] at hk
 refine By hg ha (fun c e=>by rw[ho] at e;cases e) ?_
 have h3:W.heap[b]? =some (byO e c m):=(hp.at_ k _ hk rfl).1
 have hr:=run_convert_bytes_back (P:=P) W t u e ⟨b,0,none⟩ cap l hs he hu (fun j hj=>by
  rw[Addr.add_none,Nat.zero_add]
  simp only[World.cell?,h3]
  have:=hc j hj
  simpa[byO] using this)
 have:(execOp (ov env a).eval o).run P W= .ok (.value (str l)) W:=by
  simp only[execOp,ho,A4 ha _ _ hx,Sem.run_bind,hr,Result.andThen_ok,Sem.run_pure]
 rw[this]
 simp only[Oper.uponIn,hd]
 exact h.out a W ha hd' hp
end
theorem eX {W0 W:World} {bxs:List Bx} {e:TypeId} {b m:Nat} {c:List Value} (hp:Hp W0 bxs W) (k:Nat) (hk:nth bxs k=some (TH b e c m)):Al W b 0 c:=by
 rw[AT] at hk
 have h3:W.heap[b]? =some (byO e c m):=(hp.at_ k _ hk rfl).1
 refine⟨(Array.getElem?_eq_some_iff.1 h3).1,fun j x hx=> ?_⟩
 rw[Nat.zero_add]
 simp only[World.cell?,h3]
 simpa[byO] using hx
theorem KQ (l:List UInt8) (W:World):Ag Tryz.prog 17 #[str l, .int .u8 58] W (fun _:Unit=> .int .i64 (Lib.indexByte l 58)) (fun _=>True) (fun _=>[]):=by
 refine Ag.of1 ((Tryz.strings_IndexByte ⟨l.toArray⟩ 58 W).mono ?_)
 rintro e w' ⟨rfl,rfl⟩
 exact⟨I,Below.refl _ _⟩
theorem OL (l p:List UInt8) (hl:l.length<=1000000000) (W:World):Ag Tryz.prog 18 #[str l,str p] W (fun _:Unit=> .bool (hasSuffix l p)) (fun _=>True) (fun _=>[]):=by
 refine Ag.of1 ((Tryz.strings_HasSuffix ⟨l.toArray⟩ ⟨p.toArray⟩ W (by show l.toArray.size<=_;rw[List.size_toArray];omega)).mono ?_)
 rintro e w' ⟨rfl,rfl⟩
 exact⟨I,Below.refl _ _⟩
theorem UQ {W:World} {b i:Nat} {c:List Value} {v:Value} (h:Al W b 0 c) (hi:c[i]? =some v):Al W b (0+i*1) [v]:=by
 refine⟨h.1,fun j x hj=> ?_⟩
 cases j with
 |zero=>
  injection hj with hj
  subst hj
  have:=h.2 i v hi
  rw[Nat.mul_one]
  exact this
 |succ j=>cases hj
theorem Q6 {l:List EnS} (h: ∀x∈l,chkE x=0):okL l=l:=List.filter_eq_self.2 fun x hx=>dT (h x hx)
theorem T9 (a b:List UInt8):hasSuffix (a++b) b=true:=by
 unfold hasSuffix
 rw[List.isSuffixOf_iff_suffix]
 exact List.suffix_append a b
theorem SM (b:UInt8) (y:Nat): ∃b':UInt8,b'≠b/\IntKind.u8.wrap ((b.toNat:Nat)+IntKind.u8.wrap (1+Int.tmod (y:Nat) 255))=(b'.toNat:Nat):=by
 have hm:Int.tmod ((y:Nat):Int) 255=((y%255:Nat):Int):=rfl
 have hlt:=Nat.mod_lt y (show 255>0 by decide)
 have hb:=b.toNat_lt
 rw[hm,Vb (x:=1+((y%255:Nat):Int)) (by omega) (by omega)]
 refine⟨UInt8.ofNat (b.toNat+(1+y%255)),fun e=> ?_, ?_⟩
 ·have:=congrArg UInt8.toNat e
  rw[UInt8.toNat_ofNat'] at this
  omega
 ·rw[UInt8.toNat_ofNat']
  have:IntKind.u8.wrap (((b.toNat:Nat):Int)+(1+((y%255:Nat):Int)))=(((b.toNat:Nat):Int)+(1+((y%255:Nat):Int)))%256:=rfl
  rw[this]
  omega
structure fH (S:List UInt8) (A rl D k q:Nat) (b:UInt8):Prop where
 one:(q=rl-1/\b=10)\/q=0\/q=D+1
 at_:S[A+q]? =some b
 last:q=rl-1->k=0
 lt:A+q<S.length
 cell:([((A+rl-1:Nat):Int),(A:Nat),((A+D+1:Nat):Int)][k]? :Option Int)=some ((A+q:Nat):Int)
theorem dC {X:List EnS} {i:Nat} {x:EnS} (hx:X[i]? =some x) (hc: ∀y∈X,chkE y=0) {k:Nat} (hk:k<3):
  ∃q b,fH (A7 X) (A7 (X.take i)).length (Bv x).length (decDigits x.t.length).length k q b:=by
 obtain⟨⟨k1,k2⟩,htl⟩:=GG (hc x (List.mem_of_getElem? hx))
 obtain⟨kb,f1,f2,f3⟩:=IR k1 k2
 have hS:=HJ hx
 have hdl:=List.length_pos_iff.2 (Hd x.t.length)
 have hRl:(Bv x).length=(decDigits x.t.length).length+4+x.t.length:=by rw[f3];simp;omega
 have hSl:=congrArg List.length hS
 rw[List.length_append,List.length_append] at hSl
 have hget: ∀q b,q<(Bv x).length->(Bv x)[q]? =some b->(A7 X)[(A7 (X.take i)).length+q]? =some b:=fun q b hq h=>by
  rw[hS,List.getElem?_append_right (by omega),Nat.add_sub_cancel_left,List.getElem?_append_left hq]
  exact h
 obtain⟨A,hA⟩: ∃A,A=(A7 (X.take i)).length:=⟨_,rfl⟩
 rw[<-hA] at hget hSl⊢
 match k,hk with
 |0,_=>
  refine⟨(Bv x).length-1,10, .inl ⟨I,I⟩,hget _ _ (by omega) ?_,fun _=>rfl,by omega,congrArg (fun n:Nat=>some (n:Int)) (by omega)⟩
  have e:Bv x=(decDigits x.t.length++(58::kb::58::x.t))++[10]:=by rw[f3];simp
  have el:(Bv x).length-1=(decDigits x.t.length++(58::kb::58::x.t)).length:=by rw[e];simp
  rw[el,e,List.getElem?_append_right (Nat.le_refl _),Nat.sub_self]
  rfl
 |1,_=>
  have hlt:0<(Bv x).length:=by omega
  exact⟨0,(Bv x)[0], .inr (.inl I),hget _ _ hlt (List.getElem?_eq_getElem hlt),fun h=>by omega,by omega,I⟩
 |2,_=>
  have hlt:(decDigits x.t.length).length+1<(Bv x).length:=by omega
  exact⟨(decDigits x.t.length).length+1,(Bv x)[(decDigits x.t.length).length+1], .inr (.inr I),hget _ _ hlt (List.getElem?_eq_getElem hlt),fun h=>by omega,by omega,I⟩
abbrev NC (l:List Int):List Value:=l.map (Value.int .i64)
theorem Pc (l:List EnS) (p:Option Addr) (cap:Nat) (hn:l.length<=2000000) (wh by':Nat) (W:World) (hA:AB 2 enC W p l) (hwh:wh<256) (hv:AQ W) (ht:AZ W) (hw:Bo W):
  Ag Tryz.prog 5 #[slv p l.length cap, .int .u8 (wh:Nat), .int .u8 (by':Nat)] W (fun _:Unit=> .bool true) (fun _=>True) (fun _=>[]):=by
 refine Ab Tryz.func5 I I I<|xb<|wP I<|xa<|zA<|zA<|Bz (X:=Bool) (fun x=>[(0,slv p l.length cap),(1, .int .u8 (wh:Nat)),(2, .int .u8 (by':Nat)),(27, .bool x)]) (fun _=>[]) (fun x=>x=false-> ¬Mt l/\l.length<=10) ?_ ?_
 ·refine zB<|wP I<|wD (X:=Bool) I I (fun W1 hp=>Nf l p cap hn W1 (hA.hp hp)) ?_
  intro g1 hg1
  cases g1 with
  |true=>
   refine wP I ?_
   iterate 3 refine Ac I I ?_
   exact wP rfl<|zC<|Au true (fun h=>by cases h) ⟨rfl,rfl,rfl,rfl,trivial⟩ [] rfl
  |false=>
  refine A3 I<|?_
  by_cases c1:10<l.length
  ·exact wU 26 true rfl (dT (show((l.length:Nat):Int)>10 by omega))<|wP rfl<|zC<|Au true (fun h=>by cases h) ⟨rfl,rfl,rfl,rfl,trivial⟩ [] rfl
  exact wU 26 false rfl (dF (show¬((l.length:Nat):Int)>10 by omega))<|wP rfl<|zC<|Au false (fun _=>⟨fun h=>(by have:=hg1.2 h;cases this),by omega⟩) ⟨rfl,rfl,rfl,rfl,trivial⟩ [] rfl
 intro x hx
 cases x with
 |true=>
  exact zR I<|xb<|wC I I (fun W1 hp=>FY W1 (hv.hp hp) (ht.hp hp) (hw.hp hp))<|wP I<|xc<|zP<|wR1 I I I
 |false=>
 obtain⟨g1,n1⟩:=hx rfl
 have s1:=XZ g1 n1
 obtain⟨x1,x2⟩:=Za s1
 have nx:(okL l).length<=10:=Nat.le_trans (U6 l) n1
 obtain⟨X,hX⟩: ∃X,X=okL l:=⟨_,rfl⟩
 have lx:=Js x1 x2
 rw[<-hX] at x1 x2 nx lx
 refine zS I<|zI<|xe<|wP I<|wD (X:=Vec) I I (fun W1 hp=>I6 l p cap n1 (fun x hx=>(s1 x hx).1) (fun x hx=>Nat.le_trans (s1 x hx).2 (by decide)) W1 (hA.hp hp) (hv.hp hp) (ht.hp hp) (hw.hp hp)) ?_
 intro V1 hV1
 rw[<-hX] at hV1⊢
 refine A8 I<|xa<|xd<|Ae I<|?_
 by_cases c2:X.length<2
 ·exact wU 36 true I (dT (show((X.length:Nat):Int)<2 by omega))<|xa<|zR I<|xb<|wC I I (fun W1 hp=>FY W1 (hv.hp hp) (ht.hp hp) (hw.hp hp))<|wP I<|xc<|zP<|wR1 I I I
 refine wU 36 false I (dF (show¬((X.length:Nat):Int)<2 by omega))<|xa<|zS I<|zI<|xe<|?_
 obtain⟨i,hi⟩: ∃i,i=wh%(X.length-1):=⟨_,rfl⟩
 have hil:i+1<X.length:=by have:=Nat.mod_lt wh (show 0<X.length-1 by omega);omega
 have hxi:X[i]? =some X[i]:=List.getElem?_eq_getElem (by omega)
 obtain⟨x,hx⟩: ∃x,x=X[i]:=⟨_,rfl⟩
 rw[<-hx] at hxi
 obtain⟨P,hP⟩: ∃P,P=X.take i:=⟨_,rfl⟩
 obtain⟨P2,hP2⟩: ∃P2,P2=X.take (i+1):=⟨_,rfl⟩
 have hPl:P.length=i:=by rw[hP,List.length_take];omega
 have hPl2:P2.length=P.length+1:=by rw[hPl,hP2,List.length_take];omega
 have p1: ∀x∈P,chkE x=0:=fun x hx=>x1 x (List.mem_of_mem_take (hP▸hx))
 have p2: ∀x∈P,KO x:=fun x hx=>x2 x (List.mem_of_mem_take (hP▸hx))
 have q1: ∀x∈P2,chkE x=0:=fun x hx=>x1 x (List.mem_of_mem_take (hP2▸hx))
 have q2: ∀x∈P2,KO x:=fun x hx=>x2 x (List.mem_of_mem_take (hP2▸hx))
 have ptl: ∀x∈X,x.t.length<=1000000000:=fun x hx=>Nat.le_trans (GG (x1 x hx)).2 (by decide)
 obtain⟨S,hS⟩: ∃S,S=A7 X:=⟨_,rfl⟩
 have eP2:A7 P2=A7 P++Bv x:=by
  have:P2=P++[x]:=by rw[hP2,hP,List.take_succ_eq_append_getElem (by omega),hx]
  rw[this,Mo]
 have eS: ∃t,S=A7 P2++t:=⟨A7 (X.drop (i+1)),by rw[hS,eP2,HJ hxi,hP,List.append_assoc]⟩
 have hdam:=fun {k:Nat} (hk:k<3)=>dC (k:=k) hxi x1 hk
 have hall:=fun {q:Nat} {b b':UInt8} (hb:b'≠b)=>aI (q:=q) hxi hil x1 x2 (by omega) hb
 rw[<-hP, <-hS] at hdam hall
 have hxm:=List.mem_of_getElem? hxi
 obtain⟨⟨k1,k2⟩,htl⟩:=GG (x1 x hxm)
 obtain⟨kb,_,_,f3⟩:=IR k1 k2
 have hdl:=List.length_pos_iff.2 (Hd x.t.length)
 have hRl:(Bv x).length=(decDigits x.t.length).length+4+x.t.length:=by rw[f3];simp;omega
 have hidx:Lib.indexByte (Bv x) 58=((decDigits x.t.length).length:Nat):=by rw[f3];exact Ky _ _ ZH
 have hsuf:hasSuffix (A7 P2) [10]=true:=by
  have e:Bv x=(decDigits x.t.length++(58::kb::58::x.t))++[10]:=by rw[f3];simp
  rw[eP2,e, <-List.append_assoc]
  exact T9 _ _
 have hpre:hasPrefix S (A7 P2)=true:=by obtain⟨t,e⟩:=eS;rw[e];exact SV _ _
 have hS2l:(A7 P2).length=(A7 P).length+(Bv x).length:=by rw[eP2,List.length_append]
 have hSl:(A7 P2).length<=S.length:=by obtain⟨t,e⟩:=eS;rw[e,List.length_append];omega
 have hdrop:(A7 P2).drop (A7 P).length=Bv x:=by rw[eP2,List.drop_left'];rfl
 rw[<-hS] at lx⊢
 obtain⟨dl,hdlE⟩: ∃dl,dl=(decDigits x.t.length).length:=⟨_,rfl⟩
 rw[<-hdlE] at hdl hRl hidx hdam hall
 refine wP I<|XP Tryz.underlying5 Tryz.underlying3 I I I I ?_
 refine wV 39 (wh:Nat) I (AC (by omega) (by omega))<|Ae I<|wV 42 ((X.length-1:Nat):Int) I ((AC (by omega) (by omega)).trans (by omega))<|Ks I I I I I (by omega) ?_
 refine wV 43 (P.length:Nat) I (by rw[hPl,hi];rfl)<|wP I<|xg<|Aa I<|De P.length tH I I I I I I I I (Nat.le_trans (by omega) (LK hV1)) ?_
 refine wD (X:=Vec) I I (fun W1 hp=>I6 P (AU V1) (Bd V1) (by omega) p2 (fun x hx=>ptl x (List.mem_of_mem_take (hP▸hx))) W1 (by rw[hP];exact QQ (EI Ij hp 0 hV1 I) i) (hv.hp hp) (ht.hp hp) (hw.hp hp)) ?_
 intro V2 hV2
 rw[Q6 p1] at hV2⊢
 refine A8 I<|xg<|Ae I<|wV 54 (P2.length:Nat) I (by rw[hPl2];exact Az (by omega))<|De P2.length tH I I I I I I I I (Nat.le_trans (by omega) (LK hV1)) ?_
 refine wD (X:=Vec) I I (fun W1 hp=>I6 P2 (AU V1) (Bd V1) (by omega) q2 (fun x hx=>ptl x (List.mem_of_mem_take (hP2▸hx))) W1 (by rw[hP2];exact QQ (EI Ij hp 0 hV1 I) (i+1)) (hv.hp hp) (ht.hp hp) (hw.hp hp)) ?_
 intro V3 hV3
 rw[Q6 q1] at hV3⊢
 refine A8 I<|zC<|AM (bs':=[GB V1 X,GB V2 P,GB V3 P2]) I ?_
 refine zE<|xd<|Aa I<|Ao 60 (.int .i64 ((A7 P2).length:Nat)) I (congrArg (fun n:Nat=>Value.int .i64 (n:Int)) (A5 _))<|Aa I<|Ao 62 (.int .i64 ((A7 P).length:Nat)) I (congrArg (fun n:Nat=>Value.int .i64 (n:Int)) (A5 _))<|wP I<|wU 63 false I (dF (show¬(((A7 P2).length:Nat):Int)<=((A7 P).length:Nat) by omega))<|xa<|zS I<|zI<|xe<|Ae I<|Ao 66 (.int .i64 ((A7 P).length:Nat)) I (congrArg (fun n:Nat=>Value.int .i64 (n:Int)) (A5 _))<|Ja (A7 P).length tH I I I I I I I I (by omega) ?_
 refine Ao 67 (str (Bv x)) I (by rw[hdrop])<|wC I I (fun W1 _=>KQ (Bv x) W1)<|wV 68 (dl:Nat) I hidx<|wP I<|xa<|xd<|Aa I<|wU 70 false I (dF (show¬((dl:Nat):Int)<1 by omega))<|Ae I<|?_
 refine BK (v:= .bool true) I I I I I I (by kernel_rfl) (fun W1 _=>by
  have:=Jo S (A7 P2) W1
  rw[hpre] at this
  exact this) ?_
 refine A3 I<|?_
 refine BK (v:= .bool true) I I I I I I (by kernel_rfl) (fun W1 _=>by
  have:=OL (A7 P2) [10] (by omega) W1
  rw[hsuf] at this
  exact this) ?_
 refine Aa I<|xa<|zS I<|zI<|zE<|xd<|Aa I<|Ao 83 (.int .i64 ((A7 P2).length:Nat)) I (congrArg (fun n:Nat=>Value.int .i64 (n:Int)) (A5 _))<|wP I<|wV 84 (((A7 P).length+(Bv x).length-1:Nat):Int) I ((AC (by omega) (by omega)).trans (by omega))<|Aa I<|Ao 86 (.int .i64 ((A7 P).length:Nat)) I (congrArg (fun n:Nat=>Value.int .i64 (n:Int)) (A5 _))<|Aa I<|Ao 88 (.int .i64 ((A7 P).length:Nat)) I (congrArg (fun n:Nat=>Value.int .i64 (n:Int)) (A5 _))<|Aa I<|wV 90 (((A7 P).length+dl:Nat):Int) I ((AC (by omega) (by omega)).trans (by omega))<|?_
 refine wP I<|wV 91 (((A7 P).length+dl+1:Nat):Int) I ((AC (by omega) (by omega)).trans (by omega))<|?_
 (refine Ai Tryz.hZ tH rfl rfl rfl rfl rfl rfl rfl rfl rfl rfl rfl ?_;intro)
 refine Aa I<|zC<|?_
 rename_i bi
 obtain⟨zs,hzs⟩: ∃zs:List Int,zs=[(((A7 P).length+(Bv x).length-1:Nat):Int),((A7 P).length:Nat),(((A7 P).length+dl+1:Nat):Int)]:=⟨_,rfl⟩
 refine AM (bs':=[GB V1 X,GB V2 P,GB V3 P2,⟨bi,3,NC zs,true,none⟩]) (by rw[hzs];rfl) ?_
 refine zE<|zH<|?_
 refine A6 (X:=Nat) (fun k=>[(2, .int .u8 (by':Nat)),(7,str S),(8,slv (AU V1) X.length (Bd V1)),(9, .int .i64 (P.length:Nat)),(12,str (A7 P2)),(92, .slice (some ⟨bi,0,none⟩) 3 3),(93, .int .i64 3),(94, .int .i64 (k:Nat))]) (fun _=>[GB V1 X,GB V2 P,GB V3 P2,⟨bi,3,NC zs,true,none⟩])
  (fun k=>k<=3) (fun k=>3-k) 0 (Nat.zero_le _) ⟨rfl,rfl,rfl,rfl,rfl,rfl,rfl,rfl,trivial⟩ [] rfl ?_
 intro k hk
 refine xb<|wP I<|?_
 by_cases hlt:k<3
 rotate_left
 ·exact wU 95 false I (dF (by omega))<|xa<|zA<|zS I<|xf<|xe<|wC I I (fun W1 hp=>FY W1 (hv.hp hp) (ht.hp hp) (hw.hp hp))<|wP I<|xc<|wR1 I I I
 refine wU 95 true I (dT (show((k:Nat):Int)<3 by omega))<|xa<|zA<|zR I<|xh<|?_
 obtain⟨q,b,hq⟩:=hdam hlt
 have hq1:=hq.one
 have hqt:=hq.at_
 have hqm:=hq.last
 have hql:=hq.lt
 have hqc:=hq.cell
 rw[<-hzs] at hqc
 obtain⟨b',hb1,hb2⟩:=SM b by'
 obtain⟨r1,r2,r3⟩:=hall hb1 hq1 hqt
 obtain⟨T,hT⟩: ∃T,T=S.set ((A7 P).length+q) b':=⟨_,rfl⟩
 rw[<-hT] at r1 r2 r3
 have hTl:T.length=S.length:=by rw[hT,List.length_set]
 obtain⟨pos,hpos⟩: ∃pos,pos=(A7 P).length+q:=⟨_,rfl⟩
 rw[<-hpos] at hqt hql hqc hT
 have hic:(NC zs)[k]? =some (.int .i64 (pos:Nat)):=by rw[List.getElem?_map,hqc];rfl
 refine wJ ?_
 refine wL 0 I I (fun W1 hp=>UQ (Al.of_bx hp 3 I I) hic) I<|wP I<|xg<|wP I<|RA S Tryz.underlying9 Tryz.underlying44 Tryz.underlying5 I I I I fun bb kk=> ?_
 refine wP I<|xa<|xd<|Aa I<|wU 101 false I (dF (show¬((pos:Nat):Int)<0 by omega))<|A8 I<|wU 106 false I (dF (show¬((pos:Nat):Int)≥(S.length:Nat) by omega))<|wP I<|xa<|zS I<|zI<|xe<|Aa I<|wJ ?_
 refine wL 0 I I (fun W1 hp=>UQ (eX hp 4 I) (Vg hqt)) I<|wP I<|Ks I I I I I (by decide) ?_
 refine Aa I<|Ao 115 (.int .u8 (b'.toNat:Nat)) I (congrArg (Value.int .u8) hb2)<|wJ ?_
 refine T1 4 tH I I I I I I I I (by rw[PO];show 0+pos*1<S.length+kk;omega) (PO _ _) ?_
 refine BU ?_
 refine AM (bs':=[GB V1 X,GB V2 P,GB V3 P2,⟨bi,3,NC zs,true,none⟩,TH bb 5 (byC T kk) (S.length+kk)]) (by
  have:(byC S kk).set (0+pos*1) (.int .u8 (b'.toNat:Nat))=byC T kk:=by rw[Nat.zero_add,Nat.mul_one,Zc b' hql,hT]
  rw[<-this]
  rfl) ?_
 refine xe<|wP I<|Ao 118 (.slice (some ⟨bb,0,none⟩) T.length (S.length+kk)) I (by rw[hTl])<|WN 4 T Tryz.underlying44 Tryz.underlying5 Tryz.underlying9 I I I I I (fun j hj=>Vg (List.getElem?_eq_getElem hj)) ?_
 refine wD (X:=Vec) I I (fun W1 hp=>GH T (by omega) W1 (hv.hp hp) (ht.hp hp) (hw.hp hp)) ?_
 intro V4 hV4
 obtain⟨F,hF⟩: ∃F,F=readJ T:=⟨_,rfl⟩
 rw[<-hF] at r1 r2 r3 hV4⊢
 obtain⟨fl,fn,fe⟩:=F
 have r1:fe=0\/fe=29:=r1
 have r2: ¬(fe=0/\fl[i]? =some x):=r2
 have r3:q=(Bv x).length-1->fe=29:=r3
 have hV4:V4.OK 2 fl.length (fl.flatMap enC):=hV4
 refine Bb I<|wP I<|zC<|AM (bs':=[GB V1 X,GB V2 P,GB V3 P2,⟨bi,3,NC zs,true,none⟩,TH bb 5 (byC T kk) (S.length+kk),GB V4 fl]) I ?_
 refine zE<|zA<|zA<|?_
 refine Bz (X:=Unit) (fun _=>[(2, .int .u8 (by':Nat)),(7,str S),(8,slv (AU V1) X.length (Bd V1)),(9, .int .i64 (P.length:Nat)),(12,str (A7 P2)),(16, .int .i64 (pos:Nat)),(20, .int .i64 fe),(92, .slice (some ⟨bi,0,none⟩) 3 3),(93, .int .i64 3),(94, .int .i64 (k:Nat)),(142, .bool false)])
  (fun _=>[GB V1 X,GB V2 P,GB V3 P2,⟨bi,3,NC zs,true,none⟩]) (fun _=>True) ?_ ?_
 ·refine zU<|AO I<|?_
  rcases r1 with rfl|rfl
  ·refine DO 125 (.bool true) I I<|Mf I<|?_
   by_cases hfl:i<fl.length
   ·refine qU 130 true I (dT (show((fl.length:Nat):Int)>(P.length:Nat) by omega))<|E7 I<|?_
    obtain⟨b4,o4,e4,h4⟩: ∃b off,AU V4=some ⟨b,off,none⟩/\ ∀W1,AB 2 enC W1 (AU V4) fl->Al W1 b (off+P.length*2) (enC fl[i]):=by
     obtain⟨g,e0⟩: ∃g,V4.p=some g:=by
      cases e:V4.p with
      |none=>have h0:fl.length=0:=hV4.nil e;rw[h0] at hfl;exact absurd hfl (Nat.not_lt_zero _)
      |some g=>exact⟨g,rfl⟩
     have e1:AU V4=some ⟨g,0,none⟩:=by unfold AU;rw[e0];rfl
     refine⟨g,0,e1,fun W1 h=> ?_⟩
     obtain⟨b',off',e',h⟩:=h.row hfl
     rw[e1] at e'
     cases e'
     rw[hPl]
     exact h i hfl
    obtain⟨b5,o5,e5,h5⟩: ∃b off,AU V1=some ⟨b,off,none⟩/\ ∀W1,AB 2 enC W1 (AU V1) X->Al W1 b (off+P.length*2) (enC x):=by
     obtain⟨g,e0⟩: ∃g,V1.p=some g:=by
      cases e:V1.p with
      |none=>have:=hV1.nil e;omega
      |some g=>exact⟨g,rfl⟩
     have e1:AU V1=some ⟨g,0,none⟩:=by unfold AU;rw[e0];rfl
     refine⟨g,0,e1,fun W1 h=> ?_⟩
     obtain⟨b',off',e',h⟩:=h.row (show i<X.length by omega)
     rw[e1] at e'
     cases e'
     rw[hPl,hx]
     exact h i (by omega)
    have hne:fl[i]≠x:=fun e=>r2 ⟨rfl,by rw[List.getElem?_eq_getElem hfl,e]⟩
    refine DO 133 (slv (some ⟨b4,o4,none⟩) fl.length (Bd V4)) I (by rw[e4])<|qI I I (by show(0:Int)<=(P.length:Nat);omega) (by show((P.length:Nat):Int)<(fl.length:Nat);omega)<|qL 0 I I (fun W1 hp=>h4 W1 (EI Ij hp 5 hV4 I)) I<|AO I<|DO 137 (slv (some ⟨b5,o5,none⟩) X.length (Bd V1)) I (by rw[e5])<|qI I I (by show(0:Int)<=(P.length:Nat);omega) (by show((P.length:Nat):Int)<(X.length:Nat);omega)<|qL 0 I I (fun W1 hp=>h5 W1 (EI Ij hp 0 hV1 I)) I<|Zl fl[i] x I I I I I ?_
    exact qU 141 false I (dF hne)<|qP I<|zD<|zC<|Au () tO ⟨I,I,I,I,I,I,I,I,I,I,I,tO⟩ [_,_] I
   ·refine qU 130 false I (dF (show¬((fl.length:Nat):Int)>(P.length:Nat) by omega))<|AO I<|?_
    iterate 9 refine Cy I I ?_
    exact qP I<|zD<|zC<|Au () tO ⟨I,I,I,I,I,I,I,I,I,I,I,tO⟩ [_,_] I
  ·refine DO 125 (.bool false) I I<|qP I<|?_
   iterate 4 refine Cy I I ?_
   refine AO I<|?_
   iterate 9 refine Cy I I ?_
   exact qP I<|zD<|zC<|Au () tO ⟨I,I,I,I,I,I,I,I,I,I,I,tO⟩ [_,_] I
 intro _ _
 refine zS I<|zI<|xe<|Aa I<|?_
 rcases r1 with rfl|rfl
 ·refine Ao 144 (.bool false) I I<|wP I<|?_
  iterate 2 refine Ac I I ?_
  refine A3 I<|Ao 151 (.bool true) I I<|A3 I<|Ao 155 (.int .i64 ((A7 P2).length:Nat)) I (congrArg (fun n:Nat=>Value.int .i64 (n:Int)) (A5 _))<|wP I<|wV 156 (((A7 P2).length-1:Nat):Int) I ((AC (by omega) (by omega)).trans (by omega))<|wP I<|?_
  refine Ao 157 (.bool false) I (congrArg Value.bool (beq_eq_false_iff_ne.2 (show((pos:Nat):Int)≠((A7 P2).length-1:Nat) from fun e=>by
   have:=r3 (by omega)
   cases this))) ?_
  exact Aa I<|xa<|zS I<|zI<|xj<|wP I<|wV 160 ((k+1:Nat):Int) I (Az (by omega))<|wP I<|zC<|Ax (k+1) hlt (by show 3-(k+1)<3-k;omega) ⟨I,I,I,I,I,I,I,I,tO⟩ [] I
 ·refine Ao 144 (.bool true) I I<|Ae I<|Ao 147 (.bool false) I I<|A3 I<|Ao 151 (.bool false) I I<|wP I<|?_
  iterate 5 refine Ac I I ?_
  exact Aa I<|xa<|zS I<|zI<|xj<|wP I<|wV 160 ((k+1:Nat):Int) I (Az (by omega))<|wP I<|zC<|Ax (k+1) hlt (by show 3-(k+1)<3-k;omega) ⟨I,I,I,I,I,I,I,I,tO⟩ [] I
end
section
open Go
noncomputable abbrev laidL:List (String×DataW Unit):=Rows.journalAppendsRow.laid
end
section
open Go Go.RowKit Go.Am Go.ChangeShapes Go.WideShapes Go.Deep Go.ChangeAt
set_option maxRecDepth 100000
section
variable {H:Type} {enc:TypeId×Value->H} {w:World} {base:Nat} {spare:Nat->Bool} {held:Bool} {v:Value} {d:DataW H} {ps:List MemPlace}
end
theorem own:ownKnob Tryz.prog.godebug=none:=by kernel_rfl
theorem UP:laidOutB Tryz.prog=true:=by kernel_rfl
theorem GQ:(laidL.all fun x=>x.2.handleName?.isNone)=true:=by kernel_rfl
theorem Rr {W:World} (h:laidMetH Tryz.prog laidL W):AZ W:=by
 rw[MakeChecks.laidMetH_plain _ _ _ GQ] at h
 exact Lib.tabIs_of_head (g:=4) (t:=290) (e:=252) (n:=20) (by kernel_rfl) (by kernel_rfl) (by kernel_rfl) (by kernel_rfl) (by kernel_rfl) (by kernel_rfl) h.tail.tail
theorem a7 {W:World} (hS:W.ShapedOpen Tryz.prog):DM W:=
 cell_of_shapedOpen_int (g:=0) (t:=3) (zero:= #[.int .i64 0]) hS (of_decide_eq_true (by kernel_rfl)) (by kernel_rfl) rfl (by kernel_rfl) (by kernel_rfl) Tryz.underlying3
noncomputable def witW (os:Os):World:=World.laidAll Tryz.prog os laidL
theorem X6 (os:Os) (args:Array Value):laidMetH Tryz.prog laidL ((witW os).forCall (fun _ _=>0) ⟨#[],args,[]⟩).memory:=by
 rw[MakeChecks.laidMetH_plain _ _ _ GQ]
 exact laidMet_laidAll _ (by kernel_rfl) (by kernel_rfl)
theorem Tp (os:Os) (args:Array Value):((witW os).forCall (fun _ _=>0) ⟨#[],args,[]⟩).Shaped Tryz.prog:=
 World.shaped_of_ZipB (by kernel_rfl) (by kernel_rfl)
theorem ZQ {H:Type} {enc:TypeId×Value->H} (os:Os) {f:FuncId} {fn:Func} {s:OpenSpec} {conds:List PathCond} (args:Array Value)
  (hok:Input.okWideB Tryz.prog ((witW os).forCall (fun _ _=>0) ⟨#[],args,[]⟩) f ⟨#[],args,[]⟩=true)
  (hrow:s.preRow enc Tryz.prog fn conds false laidL ((witW os).forCall (fun _ _=>0) ⟨#[],args,[]⟩).memory args):
  ∃(w:World) (tape:Tape) (i:Input),w.os=os/\(w.forCall tape i).Shaped Tryz.prog/\i.vars=[]/\Input.okWide Tryz.prog (w.forCall tape i) .any w.heap.size f i/\
   s.preRow enc Tryz.prog fn conds false laidL (w.forCall tape i).memory i.args/\({}:Assume).holds Tryz.prog (lone (Frame.enter Tryz.prog f i.args .normal) [] (w.forCall tape i)):=
 ⟨witW os,fun _ _=>0,⟨#[],args,[]⟩,World.laidAll_os _ _ _,Tp os args,(Input.okWide_of_okWideB (base:=0) hok).1,(Input.okWide_of_okWideB hok).2,hrow,by
  simp only[Assume.holds]
  exact⟨by simp,by simp,by simp,by simp,by simp,by simp⟩⟩
end
section
open Go Go.RowKit Go.Am Go.ChangeShapes Go.WideShapes Go.Deep
set_option maxRecDepth 10000
theorem QT {H:Type} (d:DataW H):1<=Rows.uptoBulk d:=by
 cases d with
 |lit l=>cases l<;>simp[Rows.uptoBulk]
 |nil=>simp[Rows.uptoBulk]
 |ptr d=>simp[Rows.uptoBulk]
 |slice elems spare=>simp[Rows.uptoBulk]
 |agg parts=>simp[Rows.uptoBulk]
 |iface t d=>simp[Rows.uptoBulk]
 |map entries=>simp[Rows.uptoBulk]
 |held h=>simp[Rows.uptoBulk]
theorem WF {H:Type} (l:List (DataW H)):l.length<=Rows.uptoBulkAll l:=by
 induction l with
 |nil=>simp[Rows.uptoBulkAll]
 |cons x r ih=>have:=QT x;simp only[Rows.uptoBulkAll,List.length_cons];omega
theorem SB {H:Type} (e s:List (DataW H)):Rows.uptoBulkAll e+1<=Rows.uptoBulk (.slice e s):=by
 simp only[Rows.uptoBulk];omega
theorem TM {w:World} {a:Addr} {v:Value} (h:w.cell? a=some v):a.spot=none/\a.block<w.heap.size:=by
 unfold World.cell? at h
 split at h
 ·rename_i hb
  refine⟨?_, ?_⟩
  ·cases hs:a.spot with
   |none=>rfl
   |some k=>simp[hs] at h
  ·exact(Array.getElem?_eq_some_iff.1 hb).1
 ·cases h
theorem S0 {w:World} {base n:Nat} {a:Addr} {cs:List Value} (h:w.cells? base a n=some cs) (hn:0<n):a.spot=none/\Al w a.block a.off cs:=by
 obtain⟨_,hl,hg⟩:=World.cells?_some h
 have h0:=hg 0 hn
 have hv:cs[0]? =some cs[0]:=List.getElem?_eq_getElem (by omega)
 rw[hv] at h0
 have hp:=TM h0
 have hs:a.spot=none:=by simpa[Addr.add] using hp.1
 refine⟨hs,⟨by simpa[Addr.add] using hp.2,fun j x hx=> ?_⟩⟩
 have hj:j<n:=by rw[<-hl];exact(List.getElem?_eq_some_iff.1 hx).1
 rw[<-hx, <-hg j hj]
 congr 1
 unfold Addr.add
 split
 ·subst_vars;cases a;simp_all
 ·rfl
theorem ZP {a:Addr} (hs:a.spot=none) (n:Nat):a.add n=⟨a.block,a.off+n,none⟩:=by
 unfold Addr.add
 split
 ·subst_vars;cases a;simp_all
 ·rfl
section
variable {H:Type} {enc:TypeId×Value->H} {w:World} {base:Nat} {spare:Nat->Bool} {held:Bool} {fuel:Nat}
end
end
section
open Go Go.RowKit Go.Am Go.ChangeShapes Go.WideShapes Go.Deep Go.ChangeAt
set_option maxRecDepth 100000
theorem Qx : "*" ++ "errors.errorString" = "*errors.errorString" := by decide
theorem Xg (u : TypeId) (h : Tryz.prog.typeName? 3 u = some "*errors.errorString") : u = 300 :=
 typeName_ptr_named (nm := "errors.errorString") (by rw [Qx]; kernel_rfl) (by kernel_rfl) (by decide) u (by rw [Qx]; exact h)
theorem ZB {W:World} (hL:laidMetH Tryz.prog laidL W) (hS:W.ShapedOpen Tryz.prog):AQ W:=by
 have hM:=a7 hS
 rw[MakeChecks.laidMetH_plain _ _ _ GQ] at hL
 refine⟨hM, ?_, ?_⟩
 ·have g2 : Tryz.prog.globalNamed "strconv.ErrSyntax" = some 2 := by kernel_rfl
  obtain⟨a,s,hv,_⟩:=laid_sentinel hL.tail.tail.tail.tail.tail g2 (show(Tryz.prog.globals[2]?).map (·.type)=some 104 by kernel_rfl) Tryz.underlying104 Xg Tryz.underlying300 Tryz.underlying302 rfl rfl Tryz.underlying9 (by kernel_rfl) (by kernel_rfl)
  exact⟨_,by simpa using World.var?_cell g2 hv 0, .inr ⟨_,_,I⟩⟩
 ·have g3 : Tryz.prog.globalNamed "strconv.ErrRange" = some 3 := by kernel_rfl
  obtain⟨a,s,hv,_⟩:=laid_sentinel hL.tail.tail.tail.tail g3 (show(Tryz.prog.globals[3]?).map (·.type)=some 104 by kernel_rfl) Tryz.underlying104 Xg Tryz.underlying300 Tryz.underlying302 rfl rfl Tryz.underlying9 (by kernel_rfl) (by kernel_rfl)
  exact⟨_,by simpa using World.var?_cell g3 hv 0, .inr ⟨_,_,I⟩⟩
theorem aM:Tryz.prog.cellsOf 9=1:=by kernel_rfl
theorem eB:Tryz.prog.cellsOf 3=1:=by kernel_rfl
theorem dO:Tryz.prog.cellsOf 217=13:=by kernel_rfl
theorem d8:Tryz.prog.cellsOf 31=2:=by kernel_rfl
section
variable {H:Type} {enc:TypeId×Value->H} {w:World} {base:Nat} {spare:Nat->Bool} {held:Bool} {fuel:Nat} {cs:List Value} {x:DataW H×List MemPlace}
theorem TU (h:DataW.trod enc Tryz.prog w base spare held fuel 217 cs=some x) (hx:x.1= .agg (Ba.map fun s=> .lit (.string s))):cs=Ba.map str:=by
 obtain⟨xs,m,rfl,rfl,hl,hn,hg⟩:=DataW.trod_array Tryz.underlying217 h
 rw[dO] at hl
 injection hx with hx
 have hwl:Ba.length=13:=rfl
 refine List.ext_getElem (by rw[hl,List.length_map,hwl]) fun i h1 h2=> ?_
 have hi:i<13:=by omega
 have hgi:=hg i hi
 rw[aM,Nat.mul_one] at hgi
 have hxi:xs[i]? =some xs[i]:=List.getElem?_eq_getElem (by omega)
 rw[hxi] at hgi
 obtain⟨s,e1,e2,_⟩:=DataW.trod_string Tryz.underlying9 hgi
 have e3:cs[i]? =some (.string s):=by
  have:(cs.drop i)[0]? =some (.string s):=by
   have:=congrArg (fun l:List Value=>l[0]?) e1
   rwa [show((cs.drop i).take 1)[0]? =(cs.drop i)[0]? from List.getElem?_take_of_lt (by decide)] at this
  rwa [List.getElem?_drop,Nat.add_zero] at this
 have e4:(xs.map (·.1))[i]? =some (.lit (.string s.data.toList)):=by rw[List.getElem?_map,hxi,e2];rfl
 rw[hx,List.getElem?_map,List.getElem?_eq_getElem (show i<Ba.length by omega)] at e4
 injection e4 with e4
 injection e4 with e4
 injection e4 with e4
 rw[List.getElem?_eq_getElem h1] at e3
 injection e3 with e3
 rw[e3,List.getElem_map,e4]
theorem Zv (h:DataW.trod enc Tryz.prog w base spare held fuel 31 cs=some x): ∃f:EnS,cs=enC f:=by
 obtain⟨xs,m,rfl,hx,hl,hn,hg⟩:=DataW.trod_struct Tryz.underlying31 h
 rw[d8] at hl
 obtain⟨x0,x1,rfl⟩: ∃x0 x1,xs=[x0,x1]:=by
  match xs,hn with
  |[a,b],_=>exact⟨a,b,rfl⟩
 match cs,hl with
 |[v0,v1],_=>
  have h0:DataW.trod enc Tryz.prog w base spare held m 3 (List.take (Tryz.prog.cellsOf 3) [v0,v1])=some x0:=hg 0 _ rfl
  have h1:DataW.trod enc Tryz.prog w base spare held m 9 (List.take (Tryz.prog.cellsOf 9) [v1])=some x1:=hg 1 _ rfl
  rw[eB] at h0
  rw[aM] at h1
  obtain⟨a,e0,_⟩:=DataW.trod_int Tryz.underlying3 h0
  obtain⟨s,e1,_⟩:=DataW.trod_string Tryz.underlying9 h1
  have e0:v0= .int .i64 a:=by simpa using e0
  have e1:v1= .string s:=by simpa using e1
  subst e0 e1
  exact⟨⟨a,s.data.toList⟩,by cases s;rfl⟩
theorem VS (h:DataW.trod enc Tryz.prog w base spare held fuel 22 cs=some x):
  ∃(p:Option Addr) (cap:Nat) (l:List EnS),cs=[.slice p l.length cap]/\AB 2 enC w p l/\l.length+1<=Rows.uptoBulk x.1:=by
 rcases open_slice Tryz.underlying22 h with⟨rfl,rfl⟩|⟨a,len,cap,m,n,D,Pl,rfl,_,hl,_,hm,rfl,hx⟩
 ·exact⟨none,0,[],I, .inl I,QT _⟩
 have hlm:len<=m:=by rw[hm];split<;>omega
 obtain⟨S,hS⟩:=choose_lt (α:=EnS) (n:=len) (p:=fun i s=>w.cells? base (a.add (i*2)) 2=some (enC s)) fun i hi=>by
  obtain⟨cs',h1,h2⟩:=hx i (by omega)
  rw[d8] at h1
  obtain⟨f,rfl⟩:=Zv h2
  exact⟨f,h1⟩
 refine⟨some a,cap,(List.range len).map S,by simp, ?_, ?_⟩
 ·by_cases h0:len=0
  ·subst h0;exact .inl rfl
  ·have hs:a.spot=none:=by simpa[Addr.add] using(S0 (hS 0 (by omega)) (by decide)).1
   refine .inr ⟨a.block,a.off,by cases a;simp_all,fun i hi=> ?_⟩
   have h1:i<len:=by simpa using hi
   have:=(S0 (hS i h1) (by decide)).2
   rw[ZP hs] at this
   simpa using this
 ·have h1:=WF ((List.range len).map D)
  have h2:=SB ((List.range len).map D) ((List.range (m-len)).map fun j=>D (len+j))
  simp only[List.length_map,List.length_range] at h1⊢
  omega
end
section
variable {H:Type} {enc:TypeId×Value->H} {w:World} {base:Nat} {spare:Nat->Bool} {held:Bool} {v:Value} {d:DataW H} {ps:List MemPlace}
theorem YF {r:Reach} {b0:Nat} (hv:Value.okWide Tryz.prog w r b0 22 v) (h:DataW.Trod enc Tryz.prog w base spare held 22 v d ps):
  ∃(p:Option Addr) (m:Nat) (l:List EnS),v=slv p l.length m/\AB 2 enC w p l/\l.length+1<=Rows.uptoBulk d:=by
 obtain⟨p0,n0,c0,rfl⟩:=okWide_slice Tryz.underlying22 hv
 obtain⟨fuel,hf⟩:=h
 obtain⟨p,cap,l,e,hl,hb⟩:=VS hf
 refine⟨p,cap,l, ?_,hl,hb⟩
 simpa[Value.cells] using e
end
theorem Ya {W:World} (h:laidMetH Tryz.prog laidL W):Bo W:=by
 rw[MakeChecks.laidMetH_plain _ _ _ GQ] at h
 obtain⟨ps,⟨g',t',cs,fuel,p,q,hg',ht',hvar,hd,_,_⟩,_⟩:=h.tail.tail.tail.tail.tail.tail
 obtain rfl := Option.some.inj ((show Tryz.prog.globalNamed "kingpost/timber.words" = some 1 by kernel_rfl).symm.trans hg')
 obtain rfl:=Option.some.inj ((show(Tryz.prog.globals[1]?).map (·.type)=some 217 by kernel_rfl).symm.trans ht')
 have e:=TU hd rfl
 have ef:Ba.flatMap IH++[]=Ba.map str:=by rw[List.append_nil];rfl
 have hc: ∀i u,(Ba.map str)[i]? =some u->W.cell? ⟨1,i,none⟩=some u:=fun i u hu=>by
  rw[World.var?_cell hg' hvar i]
  rw[<-e] at hu
  simpa using hu
 refine⟨?_,fun m u hu=> ?_⟩
 ·obtain⟨c,ty,fr,h1,_⟩:=Sort.cells_of_cell? (hc 0 _ rfl)
  exact(Array.getElem?_eq_some_iff.1 h1).1
 ·rw[Nat.zero_add]
  rw[ef] at hu
  exact hc m u hu
end
end Go.Proofs.YtidgbjcdppjknaaGreatDoor
