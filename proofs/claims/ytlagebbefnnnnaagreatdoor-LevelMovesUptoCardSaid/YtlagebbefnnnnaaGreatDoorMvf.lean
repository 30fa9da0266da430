/-
  Lemmas that the theorem levelMoves_upto_card needs (part 6 of 8).
-/
import Derived.Test.YtlagebbefnnnnaaGreatDoorMve
set_option maxHeartbeats 64000000
namespace Go.Proofs.YtlagebbefnnnnaaGreatDoor
section
theorem IR {z d:Int} {k:Nat} (hd:d≠0) (h1:z.natAbs<10^k) (h2:d.natAbs<10^k):szQ ((z:Rat)/(d:Rat)) k:=by
 have h:=HS z hd h1 h2
 rwa [HP z hd,Rat.divInt_eq_div] at h
structure FrP.Pl (f:FrP):Prop where
 ok:f.OK
 sp: ∃a b:Int,f.sp=(a:Rat)/(b:Rat)∧0≤a∧a≤48∧1≤b∧b≤48
 st: ∃s:Int,f.st=(s:Rat)∧0≤s∧s≤65536
theorem YY {s t:Sd} (h:rgd s=true):(frO s t).Pl:=by
 obtain⟨hx,hy,hp,hr⟩:=Gp h
 refine⟨YK h, ?_,⟨s.plate,rfl,hp.1,hp.2⟩⟩
 show∃a b:Int,(if s.gable then(0:Rat) else nrm s.run s.rise)=_∧_
 cases hg:s.gable with
 |true=>exact⟨0,1,by rw[if_pos rfl];show(0:Rat)=0/1;grind,by omega,by omega,by omega,by omega⟩
 |false=>
  obtain⟨h1,h2⟩:=hr hg
  exact⟨s.run,s.rise,by rw[if_neg (by decide),HP _ (by omega),Rat.divInt_eq_div],by omega,by omega,by omega,by omega⟩
theorem FrP.Pl.szp {f:FrP} (h:f.Pl):szQ f.sp 2:=by
 obtain⟨a,b,e,h1,h2,h3,h4⟩:=h.sp
 rw[e]
 exact IR (by omega) (by show _<100;omega) (by show _<100;omega)
theorem FrP.Pl.szt {f:FrP} (h:f.Pl):szQ f.st 5:=by
 obtain⟨s,e,h1,h2⟩:=h.st
 rw[e]
 exact G2 (by show _<100000;omega) (by decide)
theorem rc0 {z:Int}:(z:Rat)=0↔z=0:=⟨fun e=>by have h:=congrArg Rat.num e;rwa [Rat.num_intCast] at h,fun e=>by rw[e];rfl⟩
theorem OC {x y:Int} {A B:Nat} (hx:x.natAbs≤A) (hy:y.natAbs≤B):(x*y).natAbs≤A*B:=by rw[Int.natAbs_mul];exact Nat.mul_le_mul hx hy
theorem FrP.Pl.vel {f:FrP} (h:f.Pl): ∃c b s:Int,f.vel=(c:Rat)/(b:Rat)∧f.st=(s:Rat)∧c.natAbs≤48∧b.natAbs≤48∧1≤b∧s.natAbs≤65536:=by
 obtain⟨a,b,e,h1,h2,h3,h4⟩:=h.sp
 obtain⟨s,e2,h5,h6⟩:=h.st
 refine⟨f.hd*a,b,s, ?_,e2, ?_,by omega,h3,by omega⟩
 ·unfold FrP.vel
  rw[e,Rat.intCast_mul]
  grind
 ·rcases h.ok.hd with e|e<;>rw[e]<;>omega
theorem FrP.Pl.meet {f g:FrP} (hf:f.Pl) (hg:g.Pl) {t:Rat} (ht:t∈AZ f g):szQ t 9:=by
 obtain⟨c,b,s,v1,s1,hc,hb,hb1,hs⟩:=hf.vel
 obtain⟨c',b',s',v2,s2,hc',hb',hb1',hs'⟩:=hg.vel
 obtain⟨G,hG⟩: ∃G:Int,G=g.pos-f.pos:=⟨_,rfl⟩
 have hGb:G.natAbs≤65536:=by
  have:=hf.ok.p0;have:=hf.ok.p1;have:=hg.ok.p0;have:=hg.ok.p1
  omega
 have hgap:CE f g=(G:Rat):=by
  unfold CE
  rw[hG,Rat.intCast_sub]
 have B0:(b:Rat)≠0:=fun e=>by have:=rc0.1 e;omega
 have B0':(b':Rat)≠0:=fun e=>by have:=rc0.1 e;omega
 have sc:=OC hs hc
 have sc':=OC hs' hc'
 have gb:=OC hGb hb
 have gb':=OC hGb hb'
 rcases NL.1 ht with h|h|⟨h0,h⟩|⟨h0,h⟩|⟨h0,h⟩<;>rw[h]
 ·exact hf.szt.mono (by decide)
 ·exact hg.szt.mono (by decide)
 ·have hc0:c≠0:=fun e=>h0 (by rw[v1,e];show(0:Rat)/_=0;grind)
  have C0:(c:Rat)≠0:=fun e=>hc0 (rc0.1 e)
  have e:f.st+CE f g/f.vel=((s*c+G*b:Int):Rat)/(c:Rat):=by
   rw[v1,s1,hgap,Rat.intCast_add,Rat.intCast_mul,Rat.intCast_mul]
   grind
  rw[e]
  exact IR hc0 (by show _<1000000000;omega) (by show _<1000000000;omega)
 ·have hc0:c'≠0:=fun e=>h0 (by rw[v2,e];show(0:Rat)/_=0;grind)
  have C0:(c':Rat)≠0:=fun e=>hc0 (rc0.1 e)
  have e:g.st-CE f g/g.vel=((s'*c'-G*b':Int):Rat)/(c':Rat):=by
   rw[v2,s2,hgap,Rat.intCast_sub,Rat.intCast_mul,Rat.intCast_mul]
   grind
  rw[e]
  exact IR hc0 (by show _<1000000000;omega) (by show _<1000000000;omega)
 ·obtain⟨D,hD⟩: ∃D:Int,D=c*b'-c'*b:=⟨_,rfl⟩
  have k1:=OC hc hb'
  have k2:=OC hc' hb
  have k3:=OC gb hb'
  have k4:=OC sc hb'
  have k5:=OC sc' hb
  have hDR:(D:Rat)=(c:Rat)*b'-(c':Rat)*b:=by rw[hD,Rat.intCast_sub,Rat.intCast_mul,Rat.intCast_mul]
  have hD0:D≠0:=fun e=>h0 (by
   rw[e] at hDR
   have hDR:(0:Rat)=(c:Rat)*b'-(c':Rat)*b:=hDR
   rw[v1,v2]
   grind)
  have D0:(D:Rat)≠0:=fun e=>hD0 (rc0.1 e)
  have e:(CE f g+(f.vel*f.st-g.vel*g.st))/(f.vel-g.vel)=((G*b*b'+s*c*b'-s'*c'*b:Int):Rat)/(D:Rat):=by
   rw[v1,v2,s1,s2,hgap,Rat.intCast_sub,Rat.intCast_add]
   simp only[Rat.intCast_mul]
   have hne:(c:Rat)/b-(c':Rat)/b'≠0:=by
    intro e
    exact D0 (by rw[hDR];grind)
   grind
  rw[e]
  exact IR hD0 (by show _<1000000000;omega) (by show _<1000000000;omega)
theorem FrP.Pl.vz {f:FrP} (h:f.Pl):szQ f.vel 3:=h.ok.hdz.mul h.szp
theorem We {f g:FrP} (hf:f.Pl) (hg:g.Pl):WR f g:=by
 have zg:szQ (CE f g) 11:=hg.ok.posz.sub hf.ok.posz
 have zm1:=hf.vz.mul hf.szt
 have zm2:=hg.vz.mul hg.szt
 have zs:=zm1.sub zm2
 have za:=zg.add zs
 have zw:=hf.vz.sub hg.vz
 exact⟨fun _=>sz2 zg hf.vz (by decide),fun h=>sz2 hf.szt (zg.div hf.vz (WN h)) (by decide),fun _=>sz2 zg hg.vz (by decide),fun h=>sz2 hg.szt (zg.div hg.vz (WN h)) (by decide),
  sz2 hf.vz hf.szt (by decide),sz2 hg.vz hg.szt (by decide),sz2 zm1 zm2 (by decide),sz2 zg zs (by decide),sz2 hf.vz hg.vz (by decide),fun _=>sz2 za zw (by decide)⟩
theorem HL {rs:List (List Sd)} (h: ∀l∈rs, ∀s∈l,rgd s=true) {f:FrP} (hf:f∈Aw rs):f.Pl:=by
 obtain⟨m,hm,rfl⟩:=List.getElem_of_mem hf
 rw[Ed] at hm
 obtain⟨r,i,hr,hi,hmr⟩:=Tx hm
 have h1:=Tg hr hi
 rw[←hmr,List.getElem?_eq_getElem (by rw[Ed];exact hm)] at h1
 rw[Option.some.inj h1]
 exact YY (h _ (List.mem_of_getElem? (AN hr)) _ (List.mem_of_getElem? (Cz hi)))
theorem Jw {f g:FrP} {t:Rat} (h:t∈eqL f g):t∈AZ f g:=(OX.1 h).1
theorem Ne {rs:List (List Sd)} (h: ∀l∈rs, ∀s∈l,rgd s=true) {z:Rat} (hz:z∈BV rs):szQ z 5:=by
 obtain⟨s,hs,rfl⟩:=List.mem_map.1 hz
 obtain⟨l,hl,hs⟩:=List.mem_flatten.1 (List.mem_filter.1 hs).1
 obtain⟨_,_,hp,_⟩:=Gp (h l hl s hs)
 exact G2 (by show _<100000;omega) (by decide)
theorem Tj {rs:List (List Sd)} (h: ∀l∈rs, ∀s∈l,rgd s=true) {z:Rat} (hz:z∈B8 rs):szQ z 9:=by
 rcases Gm.1 hz with hz|⟨hz,_⟩
 ·exact(Ne h hz).mono (by decide)
 ·obtain⟨q,hq,hz⟩:=List.mem_flatMap.1 hz
  obtain⟨h1,h2,h3⟩:=HK.1 hq
  exact(HL h (Gz (F:=Aw rs) (Nat.lt_trans h1 h2))).meet (HL h (Gz h2)) (Jw hz)
theorem TZ {l:List Sd}: ∀k,k≤l.length→AT l false k=true→ ∃s∈l,s.gable=false:=by
 intro k
 induction k with
 |zero=>intro _ h;cases h
 |succ k ih=>
  intro hk h
  by_cases e:(sd l k).gable=false
  ·exact⟨sd l k,List.mem_of_getElem? (Cz (by omega)),e⟩
  ·refine ih (by omega) ?_
   have e:(sd l k).gable=true:=by simpa using e
   simpa[AT,e] using h
theorem Ng {rs:List (List Sd)} (hc:chk rs=0):BV rs≠[]:=by
 obtain⟨_,_,_,_,hj⟩:=By hc
 have h2:=(Bool.and_eq_true_iff.1 hj).2
 have key: ∀k,k≤rs.length→AQ rs k=true→ ∃l∈rs, ∃s∈l,s.gable=false:=by
  intro k
  induction k with
  |zero=>intro _ h;cases h
  |succ k ih=>
   intro hk h
   cases hb:AQ rs k with
   |true=>exact ih (by omega) hb
   |false=>
    have h:AT (rg rs k) (AQ rs k) (rg rs k).length=true:=h
    rw[hb] at h
    obtain⟨s,hs,e⟩:=TZ _ (Nat.le_refl _) h
    exact⟨rg rs k,List.mem_of_getElem? (AN (by omega)),s,hs,e⟩
 obtain⟨l,hl,s,hs,e⟩:=key rs.length (Nat.le_refl _) h2
 intro h0
 have:(s.plate:Rat)∈BV rs:=List.mem_map.2 ⟨s,List.mem_filter.2 ⟨List.mem_flatten.2 ⟨l,hl,hs⟩,by rw[e];rfl⟩,rfl⟩
 rw[h0] at this
 cases this
def stT (rs:List (List Sd)) (i:Nat):List Rat:=Hy [] (((rs.flatten.take i).filter fun s=> !s.gable).map fun s=>(s.plate:Rat))
theorem Oh (rs:List (List Sd)):stT rs rs.flatten.length=st0 rs:=by unfold stT st0 BV;rw[List.take_length]
theorem S7 (rs:List (List Sd)) (i:Nat):(stT rs i).Pairwise (· < ·):=DJ _ _ List.Pairwise.nil
theorem Vz (c:Bool) (l:List Rat) (a:Rat):mrg c l a=Hy l (if c=true then[a] else[]):=by
 unfold mrg
 cases c<;>rfl
theorem WA {rs:List (List Sd)} {i:Nat} (hi:i<rs.flatten.length):stT rs (i+1)=mrg (!(sd rs.flatten i).gable) (stT rs i) ((sd rs.flatten i).plate:Rat):=by
 have e:rs.flatten.take (i+1)=rs.flatten.take i++[sd rs.flatten i]:=by rw[List.take_add_one,Cz hi];rfl
 rw[Vz]
 unfold stT
 rw[e,List.filter_append,List.map_append,Lf]
 congr 1
 cases h:(sd rs.flatten i).gable<;>simp[h]
theorem XV {rs:List (List Sd)} {i:Nat} {z:Rat} (h:z∈stT rs i):z∈BV rs:=by
 unfold stT at h
 rw[Fi] at h
 rcases h with h|h
 ·cases h
 ·obtain⟨s,hs,rfl⟩:=List.mem_map.1 h
  obtain⟨h1,h2⟩:=List.mem_filter.1 hs
  exact List.mem_map.2 ⟨s,List.mem_filter.2 ⟨List.mem_of_mem_take h1,h2⟩,rfl⟩
theorem Oo (rs:List (List Sd)) (i:Nat) (hi:i≤rs.flatten.length):(stT rs i).length≤i:=by
 have h1:=H4 (((rs.flatten.take i).filter fun s=> !s.gable).map fun s=>(s.plate:Rat)) []
 rw[List.length_map] at h1
 have h2:=List.length_filter_le (fun s:Sd=> !s.gable) (rs.flatten.take i)
 rw[List.length_take] at h2
 have h1:(stT rs i).length≤([]:List Rat).length+_:=h1
 rw[List.length_nil] at h1
 omega
abbrev eqK (F:List FrP) (q:Nat×Nat):List Rat:=eqL (fr F q.1) (fr F q.2)
def lvT (rs:List (List Sd)) (k:Nat):List Rat:=Hy (st0 rs) ((((prs (Aw rs)).take k).flatMap (eqK (Aw rs))).filter fun z=>decide (base rs<z))
def lvU (rs:List (List Sd)) (k:Nat) (E:List Rat) (j:Nat):List Rat:=Hy (lvT rs k) ((E.take j).filter fun z=>decide (base rs<z))
theorem T2 (rs:List (List Sd)):lvT rs (prs (Aw rs)).length=B8 rs:=by unfold lvT B8 Eo;rw[List.take_length]
theorem Vr {rs:List (List Sd)} {k:Nat} {E:List Rat} {j:Nat} (hj:j<E.length):lvU rs k E (j+1)=mrg (decide (base rs<E[j])) (lvU rs k E j) E[j]:=by
 rw[Vz]
 unfold lvU
 rw[List.take_add_one,List.getElem?_eq_getElem hj,Option.toList_some,List.filter_append,Lf]
 congr 1
 by_cases h:base rs<E[j]<;>simp[h]
theorem WX {rs:List (List Sd)} {k:Nat} (hk:k<(prs (Aw rs)).length):lvT rs (k+1)=lvU rs k (eqK (Aw rs) ((prs (Aw rs)).getD k (0,0))) (eqK (Aw rs) ((prs (Aw rs)).getD k (0,0))).length:=by
 unfold lvT lvU lvT
 rw[List.take_length,List.take_add_one,List.getElem?_eq_getElem hk,Option.toList_some,List.flatMap_append,List.flatMap_cons,List.flatMap_nil,List.append_nil,List.filter_append,Lf,List.getD_eq_getElem?_getD,List.getElem?_eq_getElem hk]
 rfl
theorem Sl (rs:List (List Sd)) (k:Nat) (E:List Rat) (j:Nat):(lvU rs k E j).Pairwise (· < ·):=DJ _ _ (DJ _ _ (Fg rs))
theorem Yi {rs:List (List Sd)} {k:Nat} {z:Rat} (h:z∈lvT rs k):z∈B8 rs:=by
 unfold lvT at h
 rw[Fi] at h
 unfold B8
 rw[Fi]
 refine h.imp id fun h=> ?_
 obtain⟨h1,h2⟩:=List.mem_filter.1 h
 obtain⟨q,hq,h1⟩:=List.mem_flatMap.1 h1
 exact List.mem_filter.2 ⟨List.mem_flatMap.2 ⟨q,List.mem_of_mem_take hq,h1⟩,h2⟩
theorem Tq (f g:FrP):(eqL f g).length≤5:=by
 have h1:=J3 (BB (fl f g (AZ f g).length))
 have h2:=JI (fl f g (AZ f g).length)
 have h3:=Sc f g (AZ f g).length
 have heq:eqL f g=Bg (BB (fl f g (AZ f g).length)):=by rw[eqL,fl,List.take_length]
 rw[heq]
 omega
theorem OJ (F:List FrP):(prs F).length≤F.length*F.length:=by
 have h1: ∀i,(M4 F i).length≤F.length:=fun i=>by
  have: ∀l:List Nat,(l.flatMap (JB F i)).length≤l.length:=fun l=>by
   induction l with
   |nil=>simp
   |cons a l ih=>
    rw[List.flatMap_cons,List.length_append,List.length_cons]
    have:(JB F i a).length≤1:=by unfold JB;split<;>simp
    omega
  have h2:=this ((List.range F.length).drop (i+1))
  rw[List.length_drop,List.length_range] at h2
  unfold M4
  omega
 have h2: ∀l:List Nat,(l.flatMap (M4 F)).length≤l.length*F.length:=fun l=>by
  induction l with
  |nil=>simp
  |cons a l ih=>
   rw[List.flatMap_cons,List.length_append,List.length_cons,Nat.succ_mul]
   have:=h1 a
   omega
 have h3:=h2 (List.range F.length)
 rw[List.length_range] at h3
 exact h3
theorem Kb (F:List FrP): ∀l:List (Nat×Nat),(l.flatMap (eqK F)).length≤l.length*5
 |[]=>by simp
 |q::l=>by
  have:=Kb F l
  have:(eqK F q).length≤5:=Tq (fr F q.1) (fr F q.2)
  rw[List.flatMap_cons,List.length_append,List.length_cons]
  omega
theorem WJ {rs:List (List Sd)} (h:tot rs≤24):(B8 rs).length≤10000:=by
 have h1:=H4 ((Eo (Aw rs)).filter fun z=>decide (base rs<z)) (st0 rs)
 have h2:=List.length_filter_le (fun z=>decide (base rs<z)) (Eo (Aw rs))
 have h3:=Kb (Aw rs) (prs (Aw rs))
 have h4:=OJ (Aw rs)
 have h5:=Oo rs _ (Nat.le_refl _)
 rw[Oh,List.length_flatten] at h5
 have h5:(st0 rs).length≤tot rs:=h5
 rw[Ed] at h4
 have h6:tot rs*tot rs≤24*24:=Nat.mul_le_mul h h
 have h7:(Eo (Aw rs)).length≤(prs (Aw rs)).length*5:=h3
 show(Hy (st0 rs) _).length≤_
 omega
theorem XJ {rs:List (List Sd)} (h:tot rs≤24) {k:Nat} {E:List Rat} {j:Nat} (hE:E.length≤5):(lvU rs k E j).length≤20000:=by
 have h1:=H4 ((((prs (Aw rs)).take k).flatMap (eqK (Aw rs))).filter fun z=>decide (base rs<z)) (st0 rs)
 have h2:=List.length_filter_le (fun z=>decide (base rs<z)) (((prs (Aw rs)).take k).flatMap (eqK (Aw rs)))
 have h3:=Kb (Aw rs) ((prs (Aw rs)).take k)
 have h4:=OJ (Aw rs)
 have h5:=Oo rs _ (Nat.le_refl _)
 rw[Oh,List.length_flatten] at h5
 have h5:(st0 rs).length≤tot rs:=h5
 rw[Ed] at h4
 rw[List.length_take] at h3
 have h6:tot rs*tot rs≤24*24:=Nat.mul_le_mul h h
 have h7:=H4 ((E.take j).filter fun z=>decide (base rs<z)) (lvT rs k)
 have h8:=List.length_filter_le (fun z=>decide (base rs<z)) (E.take j)
 rw[List.length_take] at h8
 have h9:(lvT rs k).length≤(st0 rs).length+_:=h1
 show(Hy (lvT rs k) _).length≤_
 omega
end
section
open Go Go.RowKit Go.Am
set_option maxRecDepth 10000
-- BOXES 1
def sgI (a:Int):Int:=if a<0 then -1 else if a>0 then 1 else 0
theorem Mj (a:Int):Bv Tryz.prog 194 [.int .i64 a] (.int .i64 (sgI a)):=by
 intro W
 refine Ad Tryz.func194 rfl rfl rfl ?_
 refine zA (zB (wP rfl (Aa (zE (zA (zA (zB (wP rfl (wP rfl (Aa (zE ?_)))))))))))
 refine Al rfl (fun h=> ?_) (fun h=> ?_)
 ·refine zA (zB (wP rfl (Aa (zE (zO (zP ?_))))))
  have h':a<0:=by simpa using h
  exact Af tH rfl (.tmp rfl) () (by unfold sgI;rw[if_pos h']) trivial fun W _=>Ag.nil _ _
 have h1: ¬a<0:=by simpa using h
 refine zI (zE (zA (zA (zB (wP rfl (wP rfl (Aa (zE ?_))))))))
 refine Al rfl (fun h2=> ?_) (fun h2=> ?_)
 ·refine zA (zB (wP rfl (Aa (zE (zO (zP ?_))))))
  have h':a>0:=by simpa using h2
  exact Af tH rfl (.tmp rfl) () (by unfold sgI;rw[if_neg h1,if_pos h']) trivial fun W _=>Ag.nil _ _
 have h3: ¬a>0:=by simpa using h2
 refine zI (zE (zA (zB (wP rfl (Aa (zE (zO ?_)))))))
 exact Af tH rfl (.tmp rfl) () (by unfold sgI;rw[if_neg h1,if_neg h3]) trivial fun W _=>Ag.nil _ _
def J6 (n a b:Int):Bool:=decide (n<a)||decide (n>b)
theorem Jq (n a b:Int):J6 n a b= !btw n a b:=by
 unfold J6 btw
 rw[Bool.eq_iff_iff]
 simp only[Bool.or_eq_true,Bool.not_eq_true',Bool.and_eq_false_iff,decide_eq_true_eq,decide_eq_false_iff_not]
 omega
theorem CT (n a b:Int):Bv Tryz.prog 117 [.int .i64 n, .int .i64 a, .int .i64 b] (.bool (J6 n a b)):=by
 intro W
 refine Ad Tryz.func117 rfl rfl rfl ?_
 refine zA (zB (wP rfl (Aa (zE (zA (zB (wP rfl (wP rfl (wP rfl (wP rfl ?_))))))))))
 refine AR 10 rfl (fun h10=> ?_) (fun h10=> ?_)
 ·refine Ao rfl rfl ?_
  iterate 2 refine Ao rfl rfl ?_
  refine wP rfl (wP rfl (Aa (zE (zO ?_))))
  exact Af tH rfl (.tmp rfl) () (by simp_all [J6]<;>(intros;omega)) trivial fun W _=>Ag.nil _ _
 ·refine wP rfl (wP rfl (wP rfl (wP rfl (wP rfl (Aa (zE (zO ?_)))))))
  exact Af tH rfl (.tmp rfl) () (by simp_all [J6]<;>(intros;omega)) trivial fun W _=>Ag.nil _ _
theorem MZ (s:Sd):Bv Tryz.prog 46 [s.val] (.bool (rgd s)):=by
 intro W
 refine Ad Tryz.func46 rfl rfl rfl ?_
 refine zA (zB ?_)
 (refine A0 rfl rfl rfl rfl ?_;intro)
 refine wP rfl (Aa ?_)
 rename_i b1
 have no:(J6 s.x 0 65536||J6 s.y 0 65536||J6 s.plate 0 65536||J6 s.over 0 65536)=true→rgd s=false:=fun h=>by
  simp only[Jq] at h
  unfold rgd
  rw[show(btw s.x 0 65536&&btw s.y 0 65536&&btw s.plate 0 65536&&btw s.over 0 65536)=false by
   rw[Bool.eq_false_iff];intro h2;simp_all,Bool.and_false]
 have yes:J6 s.x 0 65536=false→J6 s.y 0 65536=false→J6 s.plate 0 65536=false→J6 s.over 0 65536=false→rgd s=(if s.gable then s.rise==0&&s.run==0 else btw s.rise 1 48&&btw s.run 1 48):=fun h1 h2 h3 h4=>by
  rw[Jq,Bool.not_eq_false'] at h1 h2 h3 h4
  unfold rgd
  rw[h1,h2,h3,h4];simp
 refine zE (zA (zA (zB (wP rfl (wB 0 rfl rfl rfl ?_)))))
 refine Ab rfl rfl rfl rfl rfl rfl (by kernel_rfl) (fun W _=>(CT ..)) ?_
 refine wP rfl ?_
 refine AR 6 rfl (fun h6=> ?_) (fun h6=> ?_)
 ·refine Ao rfl rfl ?_
  iterate 2 refine Ao rfl rfl ?_
  refine wP rfl (wP rfl ?_)
  iterate 3 refine Ao rfl rfl ?_
  refine wP rfl (wP rfl ?_)
  iterate 3 refine Ao rfl rfl ?_
  refine wP rfl (Aa (zE (zR rfl (zA (zB (wP rfl (Aa (zE (zO (zP ?_))))))))))
  exact Af tH rfl (.tmp rfl) () (by rw[no (by simp_all)]) trivial fun W _=>Ag.nil _ _
 ·refine wP rfl (wB 0 rfl rfl rfl ?_)
  refine Ab rfl rfl rfl rfl rfl rfl (by kernel_rfl) (fun W _=>(CT ..)) ?_
  refine wP rfl (wP rfl ?_)
  refine AR 11 rfl (fun h11=> ?_) (fun h11=> ?_)
  ·refine Ao rfl rfl ?_
   iterate 2 refine Ao rfl rfl ?_
   refine wP rfl (wP rfl ?_)
   iterate 3 refine Ao rfl rfl ?_
   refine wP rfl (Aa (zE (zR rfl (zA (zB (wP rfl (Aa (zE (zO (zP ?_))))))))))
   exact Af tH rfl (.tmp rfl) () (by rw[no (by simp_all)]) trivial fun W _=>Ag.nil _ _
  ·refine wP rfl (wB 0 rfl rfl rfl ?_)
   refine Ab rfl rfl rfl rfl rfl rfl (by kernel_rfl) (fun W _=>(CT ..)) ?_
   refine wP rfl (wP rfl ?_)
   refine AR 16 rfl (fun h16=> ?_) (fun h16=> ?_)
   ·refine Ao rfl rfl ?_
    iterate 2 refine Ao rfl rfl ?_
    refine wP rfl (Aa (zE (zR rfl (zA (zB (wP rfl (Aa (zE (zO (zP ?_))))))))))
    exact Af tH rfl (.tmp rfl) () (by rw[no (by simp_all)]) trivial fun W _=>Ag.nil _ _
   ·refine wP rfl (wB 0 rfl rfl rfl ?_)
    refine Ab rfl rfl rfl rfl rfl rfl (by kernel_rfl) (fun W _=>(CT ..)) ?_
    refine wP rfl (Aa (zE ?_))
    refine Al rfl (fun h=> ?_) (fun h=> ?_)
    ·refine zA (zB (wP rfl (Aa (zE (zO (zP ?_))))))
     exact Af tH rfl (.tmp rfl) () (by rw[no (by simp_all)]) trivial fun W _=>Ag.nil _ _
    refine zI (zE (zA (zA (zB ?_))))
    have e:=yes (by simp_all) (by simp_all) (by simp_all) (by simp_all)
    refine wP rfl (wB 0 rfl rfl rfl (Aa (zE ?_)))
    refine Al rfl (fun hg=> ?_) (fun hg=> ?_)
    ·refine zA (zB (wP rfl (wB 0 rfl rfl rfl (wP rfl (wP rfl ?_)))))
     refine AR 26 rfl (fun h26=> ?_) (fun h26=> ?_)
     ·refine wP rfl (wB 0 rfl rfl rfl (wP rfl (wP rfl (wP rfl (Aa (zE (zO (zP ?_))))))))
      exact Af tH rfl (.tmp rfl) () (by rw[e,hg];simp_all) trivial fun W _=>Ag.nil _ _
     ·refine Ao rfl rfl ?_
      iterate 2 refine Ao rfl rfl ?_
      refine wP rfl (wP rfl (Aa (zE (zO (zP ?_)))))
      exact Af tH rfl (.tmp rfl) () (by rw[e,hg];simp_all) trivial fun W _=>Ag.nil _ _
    ·refine zI (zE (zA (zB (wP rfl (wB 0 rfl rfl rfl ?_)))))
     refine Ab rfl rfl rfl rfl rfl rfl (by kernel_rfl) (fun W _=>(CT ..)) ?_
     refine wP rfl (wP rfl ?_)
     refine AR 35 rfl (fun h35=> ?_) (fun h35=> ?_)
     ·refine wP rfl (wB 0 rfl rfl rfl ?_)
      refine Ab rfl rfl rfl rfl rfl rfl (by kernel_rfl) (fun W _=>(CT ..)) ?_
      refine wP rfl (wP rfl (wP rfl (Aa (zE (zO ?_)))))
      exact Af tH rfl (.tmp rfl) () (by rw[e,hg];simp_all [Jq]) trivial fun W _=>Ag.nil _ _
     ·refine Ao rfl rfl ?_
      iterate 3 refine Ao rfl rfl ?_
      refine wP rfl (wP rfl (Aa (zE (zO ?_))))
      exact Af tH rfl (.tmp rfl) () (by rw[e,hg];simp_all [Jq]) trivial fun W _=>Ag.nil _ _
theorem Gd (W:World) (p:Option Addr) (cap:Nat) (l:List Sd) (i:Nat) (hn:l.length<4611686018427387904) (hR:Br W p l) (hi:i<l.length):
  Ai Tryz.prog 193 #[slv p l.length cap, .int .i64 (i:Nat)] W (fun _:Unit=> .tuple #[.int .i64 (sd l (nxt l.length i)).x, .int .i64 (sd l (nxt l.length i)).y]) (fun _=>True) (fun _=>[]):=by
 obtain⟨b,off,rfl,hrow⟩:=hR.row hi
 have hi2:=Bt hi
 refine Ad (args:=[slv (some ⟨b,off,none⟩) l.length cap, .int .i64 (i:Nat)]) Tryz.func193 rfl rfl rfl ?_
 refine zA (zB (wP rfl (wP rfl (Aa (zE (zA (zB (wP rfl (wP rfl ?_)))))))))
 refine Ac 8 (.int .i64 ((i+1:Nat):Int)) rfl (congrArg (Value.int .i64) (show w64 ((i:Nat)+1)=((i+1:Nat):Int) by rw[As (by omega) (by omega)];omega)) ?_
 refine wP rfl (wP rfl ?_)
 refine Hn rfl rfl rfl rfl rfl (by omega) ?_
 refine Ac 11 (.int .i64 (nxt l.length i:Nat)) rfl (congrArg (Value.int .i64) (show Int.tmod ((i+1:Nat):Int) (l.length:Nat)=(nxt l.length i:Nat) from(Int.ofNat_tmod _ _).symm)) ?_
 refine wP rfl (Aa (zE (zA ?_)))
 refine zT Tryz.mixed (by kernel_rfl) ?_
 refine qP rfl (qP rfl ?_)
 refine qJ ?_
 refine qP rfl ?_
 refine Ap rfl rfl rfl rfl (fun W hp=>Ae.load 0 tH rfl ((fun W hp=>(hrow (nxt l.length i) hi2).hp hp) W hp) rfl) ?_
 refine qP rfl (qP rfl ?_)
 refine qJ ?_
 refine qP rfl ?_
 refine Ap rfl rfl rfl rfl (fun W hp=>Ae.load 1 tH rfl ((fun W hp=>(hrow (nxt l.length i) hi2).hp hp) W hp) rfl) ?_
 refine qP rfl (qP rfl (AE (Aa (zE (zO ?_)))))
 exact Au tH rfl (.tmp rfl) (.tmp rfl) () rfl trivial fun W _=>Ag.nil _ _
def Lx (l:List Sd) (i:Nat):Int:=sgI (w64 ((sd l (nxt l.length i)).x-(sd l i).x))
def LF (l:List Sd) (i:Nat):Int:=sgI (w64 ((sd l (nxt l.length i)).y-(sd l i).y))
theorem EJ (W:World) (p:Option Addr) (cap:Nat) (l:List Sd) (i:Nat) (hn:l.length<4611686018427387904) (hR:Br W p l) (hi:i<l.length):
  Ai Tryz.prog 118 #[slv p l.length cap, .int .i64 (i:Nat)] W (fun _:Unit=> .tuple #[.int .i64 (Lx l i), .int .i64 (LF l i)]) (fun _=>True) (fun _=>[]):=by
 obtain⟨b,off,rfl,hrow⟩:=hR.row hi
 refine Ad (args:=[slv (some ⟨b,off,none⟩) l.length cap, .int .i64 (i:Nat)]) Tryz.func118 rfl rfl rfl ?_
 refine zA (zB (wP rfl (wP rfl (Aa (zE (zA (zB (wP rfl (wP rfl ?_)))))))))
 refine Ab rfl rfl rfl rfl rfl rfl (by kernel_rfl) (fun W hp=>Gd W _ cap l i hn (hR.hp hp) hi) ?_
 iterate 5 refine wP rfl ?_
 refine Aa (zE (zA ?_))
 refine zT Tryz.mixed (by kernel_rfl) ?_
 refine qP rfl (qP rfl (qP rfl ?_))
 refine qJ ?_
 refine qP rfl ?_
 refine Ap rfl rfl rfl rfl (fun W hp=>Ae.load 0 tH rfl ((fun W hp=>(hrow i hi).hp hp) W hp) rfl) ?_
 refine qP rfl ?_
 refine A8 rfl rfl rfl rfl rfl rfl (by kernel_rfl) (fun W _=>(Mj ..)) ?_
 refine qP rfl (qP rfl (qP rfl ?_))
 refine qJ ?_
 refine qP rfl ?_
 refine Ap rfl rfl rfl rfl (fun W hp=>Ae.load 1 tH rfl ((fun W hp=>(hrow i hi).hp hp) W hp) rfl) ?_
 refine qP rfl ?_
 refine A8 rfl rfl rfl rfl rfl rfl (by kernel_rfl) (fun W _=>(Mj ..)) ?_
 refine qP rfl (qP rfl (AE (Aa (zE (zO ?_)))))
 exact Au tH rfl (.tmp rfl) (.tmp rfl) () rfl trivial fun W _=>Ag.nil _ _
def JF (l:List Sd) (i:Nat):Int:=w64 (w64 (Lx l (prv l.length i)*LF l i)-w64 (LF l (prv l.length i)*Lx l i))
theorem LM (W:World) (p:Option Addr) (cap:Nat) (l:List Sd) (i:Nat) (hn:l.length<4611686018427387904) (hR:Br W p l) (hi:i<l.length):
  Ai Tryz.prog 119 #[slv p l.length cap, .int .i64 (i:Nat)] W (fun _:Unit=> .int .i64 (JF l i)) (fun _=>True) (fun _=>[]):=by
 have hi2:=Dc hi
 refine Ad (args:=[slv p l.length cap, .int .i64 (i:Nat)]) Tryz.func119 rfl rfl rfl ?_
 refine zA (zB (wP rfl (Aa (zE (zA (zB ?_))))))
 iterate 6 refine wP rfl ?_
 refine Ac 15 (.int .i64 ((i+l.length-1:Nat):Int)) rfl (congrArg (Value.int .i64) (show w64 (w64 ((i:Nat)+(l.length:Nat))-1)=((i+l.length-1:Nat):Int) by rw[As (x:=(i:Nat)+(l.length:Nat)) (by omega) (by omega),As (by omega) (by omega)];omega)) ?_
 refine wP rfl (wP rfl ?_)
 refine Hn rfl rfl rfl rfl rfl (by omega) ?_
 refine Ac 18 (.int .i64 (prv l.length i:Nat)) rfl (congrArg (Value.int .i64) (show Int.tmod ((i+l.length-1:Nat):Int) (l.length:Nat)=(prv l.length i:Nat) from(Int.ofNat_tmod _ _).symm)) ?_
 refine Ab rfl rfl rfl rfl rfl rfl (by kernel_rfl) (fun W hp=>EJ W _ cap l (prv l.length i) hn (hR.hp hp) hi2) ?_
 iterate 5 refine wP rfl ?_
 refine Aa (zE (zA (zB (wP rfl (wP rfl ?_)))))
 refine Ab rfl rfl rfl rfl rfl rfl (by kernel_rfl) (fun W hp=>EJ W _ cap l i hn (hR.hp hp) hi) ?_
 iterate 5 refine wP rfl ?_
 refine Aa (zE (zA (zB ?_)))
 iterate 8 refine wP rfl ?_
 refine Aa (zE (zO ?_))
 exact Af tH rfl (.tmp rfl) () rfl trivial fun W _=>Ag.nil _ _
def twR (l:List Sd):Nat→Int
 |0=>0
 |k+1=>w64 (w64 (twR l k+w64 ((sd l k).x*(sd l (nxt l.length k)).y))-w64 ((sd l (nxt l.length k)).x*(sd l k).y))
theorem Km (W:World) (p:Option Addr) (cap:Nat) (l:List Sd) (hn:l.length<4611686018427387904) (hR:Br W p l):
  Ai Tryz.prog 121 #[slv p l.length cap] W (fun _:Unit=> .int .i64 (twR l l.length)) (fun _=>True) (fun _=>[]):=by
 refine Ad (args:=[slv p l.length cap]) Tryz.func121 rfl rfl rfl ?_
 refine zA (zB (wP rfl (Aa (zE (zA (zB (wP rfl (Aa (zE (zA (zA (zB (wP rfl ?_)))))))))))))
 refine Aa (zE (zH ?_))
 refine Az (X:=Nat) (fun k=>[(0,slv p l.length cap),(3, .int .i64 (twR l k)),(4, .int .i64 (k:Nat))]) (fun _=>[]) (fun k=>k≤l.length) (fun k=>l.length-k) 0 (Nat.zero_le _) ⟨rfl,rfl,rfl,trivial⟩ [] rfl ?_
 intro k hk
 refine zA (zA (zB (wP rfl (wP rfl (wP rfl (wP rfl (Aa (zE ?_))))))))
 refine Al rfl (fun h=> ?_) (fun h=> ?_)
 rotate_left
 ·have e:k=l.length:=by simp at h;omega
  subst e
  refine zJ (zK (zK (zL (zE (zA (zB (wP rfl (wP rfl (Aa (zE (zO ?_)))))))))))
  exact Af tH rfl (.tmp rfl) () rfl trivial fun W _=>Ag.nil _ _
 have hk:k<l.length:=by simp at h;omega
 clear h
 obtain⟨b,off,rfl,hrow⟩:=hR.row hk
 refine zI (zE (zA (zH (zA (zB (wP rfl (wP rfl ?_)))))))
 refine Ab rfl rfl rfl rfl rfl rfl (by kernel_rfl) (fun W hp=>Gd W _ cap l k hn (hR.hp hp) hk) ?_
 iterate 5 refine wP rfl ?_
 refine Aa (zE ?_)
 refine zT Tryz.mixed (by kernel_rfl) ?_
 refine qP rfl (qP rfl (qP rfl ?_))
 refine qJ ?_
 refine qP rfl ?_
 refine Ap rfl rfl rfl rfl (fun W hp=>Ae.load 0 tH rfl ((fun W hp=>(hrow k hk).hp hp) W hp) rfl) ?_
 iterate 6 refine qP rfl ?_
 refine qJ ?_
 refine qP rfl ?_
 refine Ap rfl rfl rfl rfl (fun W hp=>Ae.load 1 tH rfl ((fun W hp=>(hrow k hk).hp hp) W hp) rfl) ?_
 refine qP rfl (qP rfl (qP rfl (AE (Aa (zN (zE (zB (wP rfl (wP rfl (wP rfl (Aa ?_)))))))))))
 exact At (k+1) hk (by omega) ⟨rfl,rfl,congrArg (fun z=>some (Value.int .i64 z)) (A6 (x:=(k:Int)+1) (by omega) (by omega)),trivial⟩ [] rfl
-- BOXES 1
def axR (l:List Sd) (i:Nat):Bool:=w64 (w64 (Lx l i*Lx l i)+w64 (LF l i*LF l i))==1
def okR (l:List Sd) (i:Nat):Bool:=axR l i&& !(JF l i==0)
def I4 (l:List Sd):Bool:=(List.range l.length).all (okR l)&&decide (l.length≥4)
theorem M8 {l:List Sd} {k:Nat} (hk:k<l.length) (h:okR l k=false):I4 l=false:=by
 unfold I4
 rw[BK hk h];rfl
theorem MT (W:World) (p:Option Addr) (cap:Nat) (l:List Sd) (hn:l.length<4611686018427387904) (hR:Br W p l):
  Ai Tryz.prog 47 #[slv p l.length cap] W (fun _:Unit=> .bool (I4 l)) (fun _=>True) (fun _=>[]):=by
 refine Ad (args:=[slv p l.length cap]) Tryz.func47 rfl rfl rfl ?_
 refine zA (zB (wP rfl (Aa (zE (zA (zA (zB (wP rfl (Aa (zE (zH ?_)))))))))))
 refine Az (X:=Nat) (fun k=>[(0,slv p l.length cap),(3, .int .i64 (k:Nat))]) (fun _=>[]) (fun k=>k≤l.length∧ ∀i,i<k→okR l i=true) (fun k=>l.length-k) 0 ⟨Nat.zero_le _,fun i hi=>absurd hi (Nat.not_lt_zero _)⟩ ⟨rfl,rfl,trivial⟩ [] rfl ?_
 rintro k ⟨hk,hok⟩
 refine zA (zA (zB (wP rfl (wP rfl (wP rfl (wP rfl (Aa (zE ?_))))))))
 refine Al rfl (fun h=> ?_) (fun h=> ?_)
 rotate_left
 ·have e:k=l.length:=by simp at h;omega
  subst e
  refine zJ (zK (zK (zL (zE (zA (zB (wP rfl (wP rfl (wP rfl (wP rfl (Aa (zE (zO ?_)))))))))))))
  have hall:(List.range l.length).all (okR l)=true:=List.all_eq_true.2 fun i hi=>hok i (List.mem_range.1 hi)
  have e:I4 l=decide ((l.length:Int)≥4):=by
   unfold I4
   rw[hall,Bool.true_and]
   by_cases h4:l.length≥4
   ·rw[decide_eq_true h4,decide_eq_true (by omega)]
   ·rw[decide_eq_false h4,decide_eq_false (by omega)]
  exact Af tH rfl (.tmp rfl) () (by rw[e]) trivial fun W _=>Ag.nil _ _
 have hk:k<l.length:=by simp at h;omega
 clear h
 refine zI (zE (zA (zH (zA (zB (wP rfl (wP rfl ?_)))))))
 refine Ab rfl rfl rfl rfl rfl rfl (by kernel_rfl) (fun W hp=>EJ W _ cap l k hn (hR.hp hp) hk) ?_
 iterate 5 refine wP rfl ?_
 refine Aa (zE (zA (zB ?_)))
 iterate 9 refine wP rfl ?_
 refine AR 26 rfl (fun h26=> ?_) (fun h26=> ?_)
 ·refine Ao rfl rfl ?_
  iterate 3 refine Ao rfl rfl ?_
  refine wP rfl (Aa (zE (zR rfl (zA (zB (wP rfl (Aa (zE (zO (zQ (zP (zP (zQ ?_)))))))))))))
  refine zP ?_
  have h':(w64 (w64 (Lx l k*Lx l k)+w64 (LF l k*LF l k)) !=1)=true:=h26
  have hf:okR l k=false:=by unfold okR axR;rw[bne_iff_ne] at h';rw[beq_eq_false_iff_ne.2 h'];rfl
  exact Af tH rfl (.tmp rfl) () (by rw[M8 hk hf]) trivial fun W _=>Ag.nil _ _
 ·refine wP rfl (wP rfl ?_)
  refine Ab rfl rfl rfl rfl rfl rfl (by kernel_rfl) (fun W hp=>LM W _ cap l k hn (hR.hp hp) hk) ?_
  refine wP rfl (wP rfl (Aa ?_))
  have h':(w64 (w64 (Lx l k*Lx l k)+w64 (LF l k*LF l k)) !=1)=false:=h26
  have ha:axR l k=true:=by unfold axR;rw[bne_eq_false_iff_eq] at h';rw[beq_iff_eq];exact h'
  refine zE ?_
  refine Al rfl (fun h=> ?_) (fun h=> ?_)
  ·refine zA (zB (wP rfl (Aa (zE (zO (zQ (zP (zP (zQ (zP ?_))))))))))
   have hf:okR l k=false:=by unfold okR;rw[show(JF l k==0)=true from h,Bool.not_true,Bool.and_false]
   exact Af tH rfl (.tmp rfl) () (by rw[M8 hk hf]) trivial fun W _=>Ag.nil _ _
  ·have hf:okR l k=true:=by unfold okR;rw[ha,show(JF l k==0)=false from h];rfl
   refine zI (zN (zE (zB (wP rfl (wP rfl (wP rfl (Aa ?_)))))))
   refine At (k+1) ⟨hk,fun i hi=> ?_⟩ (by omega) ⟨rfl,congrArg (fun z=>some (Value.int .i64 z)) (A6 (x:=(k:Int)+1) (by omega) (by omega)),trivial⟩ [] rfl
   by_cases e:i=k
   ·subst e;exact hf
   ·exact hok i (by omega)
theorem Hl (W:World) (p q:Option Addr) (cap caq:Nat) (l m:List Sd) (i k:Nat) (hn:l.length<4611686018427387904) (hm:m.length<4611686018427387904) (hR:Br W p l) (hS:Br W q m) (hi:i<l.length) (hk:k<m.length):
  Ai Tryz.prog 120 #[slv p l.length cap, .int .i64 (i:Nat),slv q m.length caq, .int .i64 (k:Nat)] W (fun _:Unit=> .bool (CF (sd l i) (sd l (nxt l.length i)) (sd m k) (sd m (nxt m.length k)))) (fun _=>True) (fun _=>[]):=by
 obtain⟨b,off,rfl,hrow⟩:=hR.row hi
 obtain⟨b',off',rfl,hrow'⟩:=hS.row hk
 refine Ad (args:=[slv (some ⟨b,off,none⟩) l.length cap, .int .i64 (i:Nat),slv (some ⟨b',off',none⟩) m.length caq, .int .i64 (k:Nat)]) Tryz.func120 rfl rfl rfl ?_
 refine zA (zB (wP rfl (Aa (zE (zA (zB (wP rfl (wP rfl ?_))))))))
 refine Ab rfl rfl rfl rfl rfl rfl (by kernel_rfl) (fun W hp=>Gd W _ cap l i hn (hR.hp hp) hi) ?_
 iterate 5 refine wP rfl ?_
 refine Aa (zE (zA (zB (wP rfl (wP rfl ?_)))))
 refine Ab rfl rfl rfl rfl rfl rfl (by kernel_rfl) (fun W hp=>Gd W _ caq m k hm (hS.hp hp) hk) ?_
 iterate 5 refine wP rfl ?_
 refine Aa ?_
 obtain⟨B1,e1⟩: ∃b,decide (lox (sd l i) (sd l (nxt l.length i))≤hix (sd m k) (sd m (nxt m.length k)))=b:=⟨_,rfl⟩
 obtain⟨B2,e2⟩: ∃b,decide (lox (sd m k) (sd m (nxt m.length k))≤hix (sd l i) (sd l (nxt l.length i)))=b:=⟨_,rfl⟩
 obtain⟨B3,e3⟩: ∃b,decide (loy (sd l i) (sd l (nxt l.length i))≤hiy (sd m k) (sd m (nxt m.length k)))=b:=⟨_,rfl⟩
 obtain⟨B4,e4⟩: ∃b,decide (loy (sd m k) (sd m (nxt m.length k))≤hiy (sd l i) (sd l (nxt l.length i)))=b:=⟨_,rfl⟩
 have hM:CF (sd l i) (sd l (nxt l.length i)) (sd m k) (sd m (nxt m.length k))=(B1&&B2&&B3&&B4):=by unfold CF;rw[e1,e2,e3,e4]
 refine zE (zA ?_)
 refine zT Tryz.mixed (by kernel_rfl) ?_
 refine qP rfl (qP rfl ?_)
 refine qJ ?_
 refine qP rfl ?_
 refine Ap rfl rfl rfl rfl (fun W hp=>Ae.load 0 tH rfl ((fun W hp=>(hrow i hi).hp hp) W hp) rfl) ?_
 refine qP rfl (qP rfl (qP rfl (qP rfl ?_)))
 refine qJ ?_
 refine qP rfl ?_
 refine Ap rfl rfl rfl rfl (fun W hp=>Ae.load 0 tH rfl ((fun W hp=>(hrow' k hk).hp hp) W hp) rfl) ?_
 refine qP rfl (qP rfl (qP rfl (qP rfl ?_)))
 refine Gv 40 rfl (fun h40=> ?_) (fun h40=> ?_)
 ·refine qP rfl (qP rfl ?_)
  refine qJ ?_
  refine qP rfl ?_
  refine Ap rfl rfl rfl rfl (fun W hp=>Ae.load 0 tH rfl ((fun W hp=>(hrow' k hk).hp hp) W hp) rfl) ?_
  refine qP rfl (qP rfl (qP rfl (qP rfl ?_)))
  refine qJ ?_
  refine qP rfl ?_
  refine Ap rfl rfl rfl rfl (fun W hp=>Ae.load 0 tH rfl ((fun W hp=>(hrow i hi).hp hp) W hp) rfl) ?_
  iterate 5 refine qP rfl ?_
  refine Gv 57 rfl (fun h57=> ?_) (fun h57=> ?_)
  ·refine qP rfl (qP rfl ?_)
   refine qJ ?_
   refine qP rfl ?_
   refine Ap rfl rfl rfl rfl (fun W hp=>Ae.load 1 tH rfl ((fun W hp=>(hrow i hi).hp hp) W hp) rfl) ?_
   refine qP rfl (qP rfl (qP rfl (qP rfl ?_)))
   refine qJ ?_
   refine qP rfl ?_
   refine Ap rfl rfl rfl rfl (fun W hp=>Ae.load 1 tH rfl ((fun W hp=>(hrow' k hk).hp hp) W hp) rfl) ?_
   iterate 5 refine qP rfl ?_
   refine Gv 74 rfl (fun h74=> ?_) (fun h74=> ?_)
   ·refine qP rfl (qP rfl ?_)
    refine qJ ?_
    refine qP rfl ?_
    refine Ap rfl rfl rfl rfl (fun W hp=>Ae.load 1 tH rfl ((fun W hp=>(hrow' k hk).hp hp) W hp) rfl) ?_
    refine qP rfl (qP rfl (qP rfl (qP rfl ?_)))
    refine qJ ?_
    refine qP rfl ?_
    refine Ap rfl rfl rfl rfl (fun W hp=>Ae.load 1 tH rfl ((fun W hp=>(hrow i hi).hp hp) W hp) rfl) ?_
    iterate 5 refine qP rfl ?_
    refine AE (Aa (zE (zO ?_)))
    exact Af tH rfl (.tmp rfl) () (by rw[hM,show B1=true from e1.symm.trans h40,show B2=true from e2.symm.trans h57,show B3=true from e3.symm.trans h74];exact congrArg Value.bool e4) trivial fun W _=>Ag.nil _ _
   ·refine BG rfl rfl ?_
    iterate 14 refine BG rfl rfl ?_
    refine qP rfl (qP rfl (AE (Aa (zE (zO ?_)))))
    have e:(B1&&B2&&B3&&B4)=false:=by first|(rw[show B1=false from e1.symm.trans h40];rfl)|(rw[show B2=false from e2.symm.trans h57];cases B1<;>rfl)|(rw[show B3=false from e3.symm.trans h74];cases B1<;>cases B2<;>rfl)
    exact Af tH rfl (.tmp rfl) () (by rw[hM,e]) trivial fun W _=>Ag.nil _ _
  ·refine BG rfl rfl ?_
   iterate 14 refine BG rfl rfl ?_
   refine qP rfl (qP rfl ?_)
   iterate 15 refine BG rfl rfl ?_
   refine qP rfl (qP rfl (AE (Aa (zE (zO ?_)))))
   have e:(B1&&B2&&B3&&B4)=false:=by first|(rw[show B1=false from e1.symm.trans h40];rfl)|(rw[show B2=false from e2.symm.trans h57];cases B1<;>rfl)|(rw[show B3=false from e3.symm.trans h74];cases B1<;>cases B2<;>rfl)
   exact Af tH rfl (.tmp rfl) () (by rw[hM,e]) trivial fun W _=>Ag.nil _ _
 ·refine BG rfl rfl ?_
  iterate 14 refine BG rfl rfl ?_
  refine qP rfl (qP rfl ?_)
  iterate 15 refine BG rfl rfl ?_
  refine qP rfl (qP rfl ?_)
  iterate 15 refine BG rfl rfl ?_
  refine qP rfl (qP rfl (AE (Aa (zE (zO ?_)))))
  have e:(B1&&B2&&B3&&B4)=false:=by first|(rw[show B1=false from e1.symm.trans h40];rfl)|(rw[show B2=false from e2.symm.trans h57];cases B1<;>rfl)|(rw[show B3=false from e3.symm.trans h74];cases B1<;>cases B2<;>rfl)
  exact Af tH rfl (.tmp rfl) () (by rw[hM,e]) trivial fun W _=>Ag.nil _ _
def K5 (t u:Sd) (px py:Int):Bool:=(t.x==u.x)&&decide (u.x>px)&&decide (loy t u≤py)&&decide (py<hiy t u)
def Gf (l:List Sd) (px py:Int):Nat→Bool
 |0=>false
 |k+1=>if K5 (sd l k) (sd l (nxt l.length k)) px py=true then !Gf l px py k else Gf l px py k
theorem MO (W:World) (p:Option Addr) (cap:Nat) (l:List Sd) (px py:Int) (hn:l.length<4611686018427387904) (hR:Br W p l):
  Ai Tryz.prog 122 #[slv p l.length cap, .int .i64 px, .int .i64 py] W (fun _:Unit=> .bool (Gf l px py l.length)) (fun _=>True) (fun _=>[]):=by
 refine Ad (args:=[slv p l.length cap, .int .i64 px, .int .i64 py]) Tryz.func122 rfl rfl rfl ?_
 refine zA (zB (wP rfl (Aa (zE (zA (zB (wP rfl (Aa (zE (zA (zA (zB (wP rfl ?_)))))))))))))
 refine Aa (zE (zH ?_))
 refine Az (X:=Nat) (fun k=>[(0,slv p l.length cap),(1, .int .i64 px),(2, .int .i64 py),(7, .bool (Gf l px py k)),(8, .int .i64 (k:Nat))]) (fun _=>[]) (fun k=>k≤l.length) (fun k=>l.length-k) 0 (Nat.zero_le _) ⟨rfl,rfl,rfl,rfl,rfl,trivial⟩ [] rfl ?_
 intro k hk
 refine zA (zA (zB (wP rfl (wP rfl (wP rfl (wP rfl (Aa (zE ?_))))))))
 refine Al rfl (fun h=> ?_) (fun h=> ?_)
 rotate_left
 ·have e:k=l.length:=by simp at h;omega
  subst e
  refine zJ (zK (zK (zL (zE (zA (zB (wP rfl (wP rfl (Aa (zE (zO ?_)))))))))))
  exact Af tH rfl (.tmp rfl) () rfl trivial fun W _=>Ag.nil _ _
 have hk:k<l.length:=by simp at h;omega
 clear h
 obtain⟨b,off,rfl,hrow⟩:=hR.row hk
 refine zI (zE (zA (zH (zA (zB (wP rfl (wP rfl ?_)))))))
 refine Ab rfl rfl rfl rfl rfl rfl (by kernel_rfl) (fun W hp=>Gd W _ cap l k hn (hR.hp hp) hk) ?_
 iterate 5 refine wP rfl ?_
 refine Aa ?_
 obtain⟨B1,e1⟩: ∃b,((sd l k).x==(sd l (nxt l.length k)).x)=b:=⟨_,rfl⟩
 obtain⟨B2,e2⟩: ∃b,decide ((sd l (nxt l.length k)).x>px)=b:=⟨_,rfl⟩
 obtain⟨B3,e3⟩: ∃b,decide (loy (sd l k) (sd l (nxt l.length k))≤py)=b:=⟨_,rfl⟩
 obtain⟨B4,e4⟩: ∃b,decide (py<hiy (sd l k) (sd l (nxt l.length k)))=b:=⟨_,rfl⟩
 have hM:K5 (sd l k) (sd l (nxt l.length k)) px py=(B1&&B2&&B3&&B4):=by unfold K5;rw[e1,e2,e3,e4]
 have no:(B1&&B2&&B3&&B4)=false→Gf l px py (k+1)=Gf l px py k:=fun h=>by
  show(if K5 (sd l k) (sd l (nxt l.length k)) px py=true then !Gf l px py k else Gf l px py k)=_
  rw[hM,h,if_neg (by decide)]
 have yes:(B1&&B2&&B3&&B4)=true→Gf l px py (k+1)= !Gf l px py k:=fun h=>by
  show(if K5 (sd l k) (sd l (nxt l.length k)) px py=true then !Gf l px py k else Gf l px py k)=_
  rw[hM,h,if_pos rfl]
 refine zE (zA (zB (wP rfl (wP rfl ?_))))
 refine wJ ?_
 refine wP rfl ?_
 refine Av rfl rfl rfl rfl (fun W hp=>Ae.load 0 tH rfl ((fun W hp=>(hrow k hk).hp hp) W hp) rfl) ?_
 refine wP rfl (wP rfl (wP rfl ?_))
 refine AR 30 rfl (fun h30=> ?_) (fun h30=> ?_)
 ·refine wP rfl (wP rfl (wP rfl (wP rfl (wP rfl ?_))))
  refine AR 35 rfl (fun h35=> ?_) (fun h35=> ?_)
  ·refine wP rfl (wP rfl ?_)
   refine wJ ?_
   refine wP rfl ?_
   refine Av rfl rfl rfl rfl (fun W hp=>Ae.load 1 tH rfl ((fun W hp=>(hrow k hk).hp hp) W hp) rfl) ?_
   iterate 6 refine wP rfl ?_
   refine AR 46 rfl (fun h46=> ?_) (fun h46=> ?_)
   ·refine wP rfl (wP rfl (wP rfl ?_))
    refine wJ ?_
    refine wP rfl ?_
    refine Av rfl rfl rfl rfl (fun W hp=>Ae.load 1 tH rfl ((fun W hp=>(hrow k hk).hp hp) W hp) rfl) ?_
    refine wP rfl (wP rfl (wP rfl (wP rfl (Aa ?_))))
    have e:(B1&&B2&&B3&&B4)=B4:=by rw[show B1=true from e1.symm.trans h30,show B2=true from e2.symm.trans h35,show B3=true from e3.symm.trans h46];rfl
    refine zE ?_
    refine Al rfl (fun h=> ?_) (fun h=> ?_)
    ·have e5:(B1&&B2&&B3&&B4)=true:=e.trans (e4.symm.trans h)
     refine zB (wP rfl (wP rfl (wP rfl (Aa (zN (zE (zB (wP rfl (wP rfl (wP rfl (Aa ?_)))))))))))
     exact At (k+1) hk (by omega) ⟨rfl,rfl,rfl,congrArg (fun z=>some (Value.bool z)) (yes e5).symm,congrArg (fun z=>some (Value.int .i64 z)) (A6 (x:=(k:Int)+1) (by omega) (by omega)),trivial⟩ [] rfl
    ·have e5:(B1&&B2&&B3&&B4)=false:=e.trans (e4.symm.trans h)
     refine zI (zN (zE (zB (wP rfl (wP rfl (wP rfl (Aa ?_)))))))
     exact At (k+1) hk (by omega) ⟨rfl,rfl,rfl,congrArg (fun z=>some (Value.bool z)) (no e5).symm,congrArg (fun z=>some (Value.int .i64 z)) (A6 (x:=(k:Int)+1) (by omega) (by omega)),trivial⟩ [] rfl
   ·refine Ao rfl rfl ?_
    iterate 8 refine Ao rfl rfl ?_
    refine wP rfl (Aa ?_)
    have e:(B1&&B2&&B3&&B4)=false:=by first|(rw[show B1=false from e1.symm.trans h30];rfl)|(rw[show B2=false from e2.symm.trans h35];cases B1<;>rfl)|(rw[show B3=false from e3.symm.trans h46];cases B1<;>cases B2<;>rfl)
    refine zE (zS rfl (zI (zN (zE (zB (wP rfl (wP rfl (wP rfl (Aa ?_)))))))))
    exact At (k+1) hk (by omega) ⟨rfl,rfl,rfl,congrArg (fun z=>some (Value.bool z)) (no e).symm,congrArg (fun z=>some (Value.int .i64 z)) (A6 (x:=(k:Int)+1) (by omega) (by omega)),trivial⟩ [] rfl
  ·refine Ao rfl rfl ?_
   iterate 8 refine Ao rfl rfl ?_
   refine wP rfl (wP rfl ?_)
   iterate 9 refine Ao rfl rfl ?_
   refine wP rfl (Aa ?_)
   have e:(B1&&B2&&B3&&B4)=false:=by first|(rw[show B1=false from e1.symm.trans h30];rfl)|(rw[show B2=false from e2.symm.trans h35];cases B1<;>rfl)|(rw[show B3=false from e3.symm.trans h46];cases B1<;>cases B2<;>rfl)
   refine zE (zS rfl (zI (zN (zE (zB (wP rfl (wP rfl (wP rfl (Aa ?_)))))))))
   exact At (k+1) hk (by omega) ⟨rfl,rfl,rfl,congrArg (fun z=>some (Value.bool z)) (no e).symm,congrArg (fun z=>some (Value.int .i64 z)) (A6 (x:=(k:Int)+1) (by omega) (by omega)),trivial⟩ [] rfl
 ·refine Ao rfl rfl ?_
  iterate 2 refine Ao rfl rfl ?_
  refine wP rfl (wP rfl ?_)
  iterate 9 refine Ao rfl rfl ?_
  refine wP rfl (wP rfl ?_)
  iterate 9 refine Ao rfl rfl ?_
  refine wP rfl (Aa ?_)
  have e:(B1&&B2&&B3&&B4)=false:=by first|(rw[show B1=false from e1.symm.trans h30];rfl)|(rw[show B2=false from e2.symm.trans h35];cases B1<;>rfl)|(rw[show B3=false from e3.symm.trans h46];cases B1<;>cases B2<;>rfl)
  refine zE (zS rfl (zI (zN (zE (zB (wP rfl (wP rfl (wP rfl (Aa ?_)))))))))
  exact At (k+1) hk (by omega) ⟨rfl,rfl,rfl,congrArg (fun z=>some (Value.bool z)) (no e).symm,congrArg (fun z=>some (Value.int .i64 z)) (A6 (x:=(k:Int)+1) (by omega) (by omega)),trivial⟩ [] rfl
-- BOXES 2
def IY (rs:List (List Sd)) (r i s k:Nat):Bool:=
 !((r==s)&&(decide (k≤i)||(k==i+1)||((i==0)&&(k+1==(rg rs r).length))))&&CF (sd (rg rs r) i) (sd (rg rs r) (nxt (rg rs r).length i)) (sd (rg rs s) k) (sd (rg rs s) (nxt (rg rs s).length k))
theorem Mg {rs:List (List Sd)} {r i s k:Nat} (hr:r<rs.length) (hi:i<(rg rs r).length) (hs:s<rs.length) (hk:k<(rg rs s).length) (h:IY rs r i s k=true):crs rs=true:=by
 unfold IY at h
 obtain⟨h1,h2⟩:=Bool.and_eq_true_iff.1 h
 cases hc:crs rs with
 |true=>rfl
 |false=>
  have:=(HR rs).1 hc r i s k hr hi hs hk (fun hn=>by
   obtain⟨rfl,hn⟩:=hn
   rw[GJ hi,GJ hk] at hn
   have:((r==r)&&(decide (k≤i)||(k==i+1)||((i==0)&&(k+1==(rg rs r).length))))=true:=by
    simp only[beq_self_eq_true,Bool.true_and,Bool.or_eq_true,Bool.and_eq_true,decide_eq_true_eq,beq_iff_eq]
    revert hn
    split<;>split<;>intro hn<;>omega
   rw[this] at h1;cases h1)
  rw[show CF (bsd rs (r,i)) (esd rs (r,i)) (bsd rs (s,k)) (esd rs (s,k))=true from h2] at this
  cases this
theorem Ut {rs:List (List Sd)} (h: ∀r i s k,r<rs.length→i<(rg rs r).length→s<rs.length→k<(rg rs s).length→r≤s→IY rs r i s k=false):crs rs=false:=by
 have one: ∀r i s k,r<rs.length→i<(rg rs r).length→s<rs.length→k<(rg rs s).length→(r<s∨(r=s∧i<k))→ ¬near rs r i s k→CF (bsd rs (r,i)) (esd rs (r,i)) (bsd rs (s,k)) (esd rs (s,k))=false:=fun r i s k hr hi hs hk ho hn=>by
  have hb:=h r i s k hr hi hs hk (by omega)
  unfold IY at hb
  have:((r==s)&&(decide (k≤i)||(k==i+1)||((i==0)&&(k+1==(rg rs r).length))))=false:=by
   by_cases e:r=s
   ·subst e
    have hik:i<k:=by omega
    rw[beq_self_eq_true,Bool.true_and,Bool.eq_false_iff]
    intro h2
    refine hn ⟨rfl, ?_⟩
    rw[GJ hi,GJ hk]
    simp only[Bool.or_eq_true,Bool.and_eq_true,decide_eq_true_eq,beq_iff_eq] at h2
    split<;>split<;>omega
   ·rw[beq_eq_false_iff_ne.2 e];rfl
  rw[this,Bool.not_false,Bool.true_and] at hb
  exact hb
 refine(HR rs).2 fun r i s k hr hi hs hk hn=> ?_
 by_cases ho:r<s∨(r=s∧i<k)
 ·exact one r i s k hr hi hs hk ho hn
 ·rw[J8]
  have hne: ¬(r=s∧i=k):=fun⟨e1,e2⟩=>hn ⟨e1, .inl e2⟩
  refine one s k r i hs hk hr hi (by omega) fun hn2=>hn ?_
  obtain⟨rfl,hn2⟩:=hn2
  exact⟨rfl,by omega⟩
theorem M0 (W:World) (p:Option Addr) (cap:Nat) (rs:List (List Sd)) (hn:rs.length<4611686018427387904) (hl: ∀l∈rs,l.length<4611686018427387904) (hR:AY W p rs):
  Ai Tryz.prog 48 #[slv p rs.length cap] W (fun _:Unit=> .bool (crs rs)) (fun _=>True) (fun _=>[]):=by
 refine Ad (args:=[slv p rs.length cap]) Tryz.func48 rfl rfl rfl ?_
 refine zA (zB (wP rfl (Aa (zE (zA (zA (zB (wP rfl (Aa (zE (zH ?_)))))))))))
 refine Az (X:=Nat) (fun r=>[(0,slv p rs.length cap),(3, .int .i64 (r:Nat))]) (fun _=>[])
  (fun r=>r≤rs.length∧ ∀r' i s k,r'<r→r'<rs.length→i<(rg rs r').length→s<rs.length→k<(rg rs s).length→r'≤s→IY rs r' i s k=false) (fun r=>rs.length-r) 0 ⟨Nat.zero_le _,fun r' i s k h=>absurd h (Nat.not_lt_zero _)⟩ ⟨rfl,rfl,trivial⟩ [] rfl ?_
 rintro r ⟨hr,P1⟩
 refine zA (zA (zB (wP rfl (wP rfl (wP rfl (wP rfl (Aa (zE ?_))))))))
 refine Al rfl (fun h=> ?_) (fun h=> ?_)
 rotate_left
 ·have e:r=rs.length:=by simp at h;omega
  subst e
  refine zJ (zK (zK (zL (zE (zA (zB (wP rfl (Aa (zE (zO ?_))))))))))
  have hc:crs rs=false:=Ut fun r' i s k h1 h2 h3 h4 h5=>P1 r' i s k h1 h1 h2 h3 h4 h5
  exact Af tH rfl (.tmp rfl) () (by rw[hc]) trivial fun W _=>Ag.nil _ _
 have hr:r<rs.length:=by simp at h;omega
 clear h
 obtain⟨b,off,rfl,hrow⟩:=hR.row hr
 obtain⟨q,cap2,hq1,hq2⟩:=hrow r hr
 have hlr:=hl _ (List.mem_of_getElem? (AN hr))
 refine zI (zE (zA (zH (zA (zB (wP rfl (Aa (zE (zH ?_)))))))))
 refine Az (X:=Nat) (fun i=>[(0,slv (some ⟨b,off,none⟩) rs.length cap),(3, .int .i64 (r:Nat)),(4, .int .i64 (i:Nat))]) (fun _=>[])
  (fun i=>i≤(rg rs r).length∧ ∀i' s k,i'<i→i'<(rg rs r).length→s<rs.length→k<(rg rs s).length→r≤s→IY rs r i' s k=false) (fun i=>(rg rs r).length-i) 0 ⟨Nat.zero_le _,fun i' s k h=>absurd h (Nat.not_lt_zero _)⟩ ⟨rfl,rfl,rfl,trivial⟩ [] rfl ?_
 rintro i ⟨hi,P2⟩
 refine zA (zA (zB (wP rfl (wP rfl (wP rfl ?_)))))
 refine wJ ?_
 refine Av rfl rfl rfl rfl (fun W hp=>Ae.load 0 tH rfl ((fun W hp=>hq1.hp hp) W hp) rfl) ?_
 refine wP rfl (wP rfl (Aa (zE ?_)))
 refine Al rfl (fun h=> ?_) (fun h=> ?_)
 rotate_left
 ·have e:i=(rg rs r).length:=by simp at h;omega
  subst e
  refine zJ (zK (zK (zL (zN (zE (zB (wP rfl (wP rfl (wP rfl (Aa ?_))))))))))
  refine At (r+1) ⟨hr,fun r' i' s k h0 h1 h2 h3 h4 h5=> ?_⟩ (by omega) ⟨rfl,congrArg (fun z=>some (Value.int .i64 z)) (A6 (x:=(r:Int)+1) (by omega) (by omega)),trivial⟩ [] rfl
  by_cases e:r'=r
  ·subst e;exact P2 i' s k h2 h2 h3 h4 h5
  ·exact P1 r' i' s k (by omega) h1 h2 h3 h4 h5
 have hi:i<(rg rs r).length:=by simp at h;omega
 clear h
 refine zI (zE (zA (zH (zA (zB (wP rfl (wP rfl (Aa (zE (zH ?_))))))))))
 refine Az (X:=Nat) (fun s=>[(0,slv (some ⟨b,off,none⟩) rs.length cap),(3, .int .i64 (r:Nat)),(4, .int .i64 (i:Nat)),(5, .int .i64 (s:Nat))]) (fun _=>[])
  (fun s=>s≤rs.length∧r≤s∧ ∀s' k,s'<s→s'<rs.length→k<(rg rs s').length→r≤s'→IY rs r i s' k=false) (fun s=>rs.length-s) r ⟨by omega,Nat.le_refl _,fun s' k h0 _ _ h5=>absurd h0 (by omega)⟩ ⟨rfl,rfl,rfl,rfl,trivial⟩ [] rfl ?_
 rintro s ⟨hs,hrs,P3⟩
 refine zA (zA (zB (wP rfl (wP rfl (wP rfl (wP rfl (Aa (zE ?_))))))))
 refine Al rfl (fun h=> ?_) (fun h=> ?_)
 rotate_left
 ·have e:s=rs.length:=by simp at h;omega
  subst e
  refine zJ (zK (zK (zL (zN (zE (zB (wP rfl (wP rfl (wP rfl (Aa ?_))))))))))
  refine At (i+1) ⟨hi,fun i' s k h0 h2 h3 h4 h5=> ?_⟩ (by omega) ⟨rfl,rfl,congrArg (fun z=>some (Value.int .i64 z)) (A6 (x:=(i:Int)+1) (by omega) (by omega)),trivial⟩ [] rfl
  by_cases e:i'=i
  ·subst e;exact P3 s k h3 h3 h4 h5
  ·exact P2 i' s k (by omega) h2 h3 h4 h5
 have hs:s<rs.length:=by simp at h;omega
 clear h
 obtain⟨q',cap3,hq3,hq4⟩:=hrow s hs
 have hls:=hl _ (List.mem_of_getElem? (AN hs))
 refine zI (zE (zA (zH (zA (zB (wP rfl (Aa (zE (zH ?_)))))))))
 refine Az (X:=Nat) (fun k=>[(0,slv (some ⟨b,off,none⟩) rs.length cap),(3, .int .i64 (r:Nat)),(4, .int .i64 (i:Nat)),(5, .int .i64 (s:Nat)),(6, .int .i64 (k:Nat))]) (fun _=>[])
  (fun k=>k≤(rg rs s).length∧ ∀k',k'<k→IY rs r i s k'=false) (fun k=>(rg rs s).length-k) 0 ⟨Nat.zero_le _,fun k' h=>absurd h (Nat.not_lt_zero _)⟩ ⟨rfl,rfl,rfl,rfl,rfl,trivial⟩ [] rfl ?_
 rintro k ⟨hk,P4⟩
 refine zA (zA (zB (wP rfl (wP rfl (wP rfl ?_)))))
 refine wJ ?_
 refine Av rfl rfl rfl rfl (fun W hp=>Ae.load 0 tH rfl ((fun W hp=>hq3.hp hp) W hp) rfl) ?_
 refine wP rfl (wP rfl (Aa (zE ?_)))
 refine Al rfl (fun h=> ?_) (fun h=> ?_)
 rotate_left
 ·have e:k=(rg rs s).length:=by simp at h;omega
  subst e
  refine zJ (zK (zK (zL (zN (zE (zB (wP rfl (wP rfl (wP rfl (Aa ?_))))))))))
  refine At (s+1) ⟨hs,by omega,fun s' k h0 h3 h4 h5=> ?_⟩ (by omega) ⟨rfl,rfl,rfl,congrArg (fun z=>some (Value.int .i64 z)) (A6 (x:=(s:Int)+1) (by omega) (by omega)),trivial⟩ [] rfl
  by_cases e:s'=s
  ·subst e;exact P4 k h4
  ·exact P3 s' k (by omega) h3 h4 h5
 have hk:k<(rg rs s).length:=by simp at h;omega
 clear h
 have fin:IY rs r i s k=false→ ∀k',k'<k+1→IY rs r i s k'=false:=fun h k' hk'=>by
  by_cases e:k'=k
  ·subst e;exact h
  ·exact P4 k' (by omega)
 have e1: ∀z:Int,z=(k:Int)+1→w64 z=((k+1:Nat):Int):=fun z h=>by rw[h,As (by omega) (by omega)];omega
 -- the side is left out
 have skip:((r==s)&&(decide (k≤i)||(k==i+1)||((i==0)&&(k+1==(rg rs r).length))))=true→IY rs r i s k=false:=fun h=>by unfold IY;rw[h];rfl
 have test:((r==s)&&(decide (k≤i)||(k==i+1)||((i==0)&&(k+1==(rg rs r).length))))=false→IY rs r i s k=CF (sd (rg rs r) i) (sd (rg rs r) (nxt (rg rs r).length i)) (sd (rg rs s) k) (sd (rg rs s) (nxt (rg rs s).length k)):=fun h=>by unfold IY;rw[h];rfl
 obtain⟨C1,c1⟩: ∃b,((r:Int)==(s:Int))=b:=⟨_,rfl⟩
 obtain⟨C2,c2⟩: ∃b,decide ((k:Int)≤(i:Int))=b:=⟨_,rfl⟩
 obtain⟨C3,c3⟩: ∃b,((k:Int)==w64 ((i:Int)+1))=b:=⟨_,rfl⟩
 obtain⟨C4,c4⟩: ∃b,((i:Int)==0)=b:=⟨_,rfl⟩
 obtain⟨C5,c5⟩: ∃b,((k:Int)==w64 (((rg rs r).length:Nat)-1))=b:=⟨_,rfl⟩
 have hC:((r==s)&&(decide (k≤i)||(k==i+1)||((i==0)&&(k+1==(rg rs r).length))))=(C1&&(C2||C3||(C4&&C5))):=by
  rw[As (by omega) (by omega)] at c3 c5
  rw[←c1, ←c2, ←c3, ←c4, ←c5,C7]
  have a2:decide (k≤i)=decide ((k:Int)≤(i:Int)):=by by_cases h:k≤i;rw[decide_eq_true h,decide_eq_true (by omega)];rw[decide_eq_false h,decide_eq_false (by omega)]
  have a3:(k==i+1)=((k:Int)==(i:Int)+1):=by rw[Bool.eq_iff_iff,beq_iff_eq,beq_iff_eq];omega
  have a4:(i==0)=((i:Int)==0):=by rw[Bool.eq_iff_iff,beq_iff_eq,beq_iff_eq];omega
  have a5:(k+1==(rg rs r).length)=((k:Int)==((rg rs r).length:Nat)-1):=by rw[Bool.eq_iff_iff,beq_iff_eq,beq_iff_eq];omega
  rw[a2,a3,a4,a5]
 refine zI (zE (zA (zH (zA (zB (wP rfl (wP rfl ?_)))))))
 refine wJ ?_
 refine Av rfl rfl rfl rfl (fun W hp=>Ae.load 0 tH rfl ((fun W hp=>hq1.hp hp) W hp) rfl) ?_
 refine wP rfl (wP rfl (Aa (zE (zA (zA (zB (wP rfl (wP rfl (wP rfl (wP rfl ?_))))))))))
 refine AR 47 rfl (fun h47=> ?_) (fun h47=> ?_)
 ·refine wP rfl (wP rfl (wP rfl (wP rfl ?_)))
  refine AR 51 rfl (fun h51=> ?_) (fun h51=> ?_)
  ·refine Ao rfl rfl ?_
   iterate 3 refine Ao rfl rfl ?_
   refine wP rfl (wP rfl ?_)
   iterate 8 refine Ao rfl rfl ?_
   refine wP rfl (wP rfl (Aa ?_))
   have e:(C1&&(C2||C3||(C4&&C5)))=true:=by first|(rw[show C1=true from c1.symm.trans h47,show C2=true from c2.symm.trans h51];rfl)|(rw[show C1=true from c1.symm.trans h47,show C3=true from c3.symm.trans h57];cases C2<;>rfl)
   refine zE (zR rfl (zJ (zK (zL (zE (zB (wP rfl (wP rfl (wP rfl (Aa ?_))))))))))
   exact At (k+1) ⟨hk,fin (skip (hC.trans e))⟩ (by omega) ⟨rfl,rfl,rfl,rfl,congrArg (fun z=>some (Value.int .i64 z)) (A6 (x:=(k:Int)+1) (by omega) (by omega)),trivial⟩ [] rfl
  ·refine wP rfl ?_
   iterate 5 refine wP rfl ?_
   refine AR 57 rfl (fun h57=> ?_) (fun h57=> ?_)
   ·refine Ao rfl rfl ?_
    iterate 7 refine Ao rfl rfl ?_
    refine wP rfl (wP rfl (Aa ?_))
    have e:(C1&&(C2||C3||(C4&&C5)))=true:=by first|(rw[show C1=true from c1.symm.trans h47,show C2=true from c2.symm.trans h51];rfl)|(rw[show C1=true from c1.symm.trans h47,show C3=true from c3.symm.trans h57];cases C2<;>rfl)
    refine zE (zR rfl (zJ (zK (zL (zE (zB (wP rfl (wP rfl (wP rfl (Aa ?_))))))))))
    exact At (k+1) ⟨hk,fin (skip (hC.trans e))⟩ (by omega) ⟨rfl,rfl,rfl,rfl,congrArg (fun z=>some (Value.int .i64 z)) (A6 (x:=(k:Int)+1) (by omega) (by omega)),trivial⟩ [] rfl
   ·refine wP rfl (wP rfl (wP rfl ?_))
    refine AR 60 rfl (fun h60=> ?_) (fun h60=> ?_)
    ·refine wP rfl ?_
     iterate 6 refine wP rfl ?_
     refine Aa (zE ?_)
     refine Al rfl (fun hx=> ?_) (fun hx=> ?_)
     ·have e:(C1&&(C2||C3||(C4&&C5)))=true:=by first|(rw[show C1=true from c1.symm.trans h47,show C3=true from c3.symm.trans h57];cases C2<;>rfl)|(rw[show C1=true from c1.symm.trans h47,show C4=true from c4.symm.trans h60,show C5=true from c5.symm.trans hx];cases C2<;>cases C3<;>rfl)|(rw[show C1=true from c1.symm.trans h47,show C3=true from c3.symm.trans hx];cases C2<;>rfl)
      refine zJ (zK (zL (zE (zB (wP rfl (wP rfl (wP rfl (Aa ?_))))))))
      exact At (k+1) ⟨hk,fin (skip (hC.trans e))⟩ (by omega) ⟨rfl,rfl,rfl,rfl,congrArg (fun z=>some (Value.int .i64 z)) (A6 (x:=(k:Int)+1) (by omega) (by omega)),trivial⟩ [] rfl
     ·have e:(C1&&(C2||C3||(C4&&C5)))=false:=by first|(rw[show C2=false from c2.symm.trans h51,show C3=false from c3.symm.trans h57,show C5=false from c5.symm.trans hx,Bool.and_false];cases C1<;>rfl)
      refine zI (zE (zA ?_))
      refine zT Tryz.mixed (by kernel_rfl) ?_
      refine qP rfl (qP rfl ?_)
      refine qJ ?_
      refine Ap rfl rfl rfl rfl (fun W hp=>Ae.load 0 tH rfl ((fun W hp=>hq1.hp hp) W hp) rfl) ?_
      refine qP rfl (qP rfl (qP rfl ?_))
      refine qJ ?_
      refine Ap rfl rfl rfl rfl (fun W hp=>Ae.load 0 tH rfl ((fun W hp=>hq3.hp hp) W hp) rfl) ?_
      refine qP rfl ?_
      refine A8 rfl rfl rfl rfl rfl rfl (by kernel_rfl) (fun W hp=>Hl W q q' cap2 cap3 (rg rs r) (rg rs s) i k hlr hls (hq2.hp hp) (hq4.hp hp) hi hk) ?_
      refine AE (Aa (zE ?_))
      refine Al rfl (fun h=> ?_) (fun h=> ?_)
      ·refine zA (zB (wP rfl (Aa (zE (zO (zQ (zP (zP (zQ (zQ (zP (zP (zQ (zQ ?_))))))))))))))
       refine zP (zP (zQ (zQ (zP (zP (zQ (zP ?_)))))))
       have hc:crs rs=true:=Mg hr hi hs hk ((test (hC.trans e)).trans h)
       exact Af tH rfl (.tmp rfl) () (by rw[hc]) trivial fun W _=>Ag.nil _ _
      ·refine zI (zN (zE (zB (wP rfl (wP rfl (wP rfl (Aa ?_)))))))
       exact At (k+1) ⟨hk,fin ((test (hC.trans e)).trans h)⟩ (by omega) ⟨rfl,rfl,rfl,rfl,congrArg (fun z=>some (Value.int .i64 z)) (A6 (x:=(k:Int)+1) (by omega) (by omega)),trivial⟩ [] rfl
    ·refine Ao rfl rfl ?_
     iterate 3 refine Ao rfl rfl ?_
     refine wP rfl (wP rfl (wP rfl (Aa ?_)))
     have e:(C1&&(C2||C3||(C4&&C5)))=false:=by first|(rw[show C1=false from c1.symm.trans h47];rfl)|(rw[show C2=false from c2.symm.trans h51,show C3=false from c3.symm.trans h57,show C4=false from c4.symm.trans h60,Bool.false_and];cases C1<;>rfl)
     refine zE (zS rfl (zI (zE (zA ?_))))
     refine zT Tryz.mixed (by kernel_rfl) ?_
     refine qP rfl (qP rfl ?_)
     refine qJ ?_
     refine Ap rfl rfl rfl rfl (fun W hp=>Ae.load 0 tH rfl ((fun W hp=>hq1.hp hp) W hp) rfl) ?_
     refine qP rfl (qP rfl (qP rfl ?_))
     refine qJ ?_
     refine Ap rfl rfl rfl rfl (fun W hp=>Ae.load 0 tH rfl ((fun W hp=>hq3.hp hp) W hp) rfl) ?_
     refine qP rfl ?_
     refine A8 rfl rfl rfl rfl rfl rfl (by kernel_rfl) (fun W hp=>Hl W q q' cap2 cap3 (rg rs r) (rg rs s) i k hlr hls (hq2.hp hp) (hq4.hp hp) hi hk) ?_
     refine AE (Aa (zE ?_))
     refine Al rfl (fun h=> ?_) (fun h=> ?_)
     ·refine zA (zB (wP rfl (Aa (zE (zO (zQ (zP (zP (zQ (zQ (zP (zP (zQ (zQ ?_))))))))))))))
      refine zP (zP (zQ (zQ (zP (zP (zQ (zP ?_)))))))
      have hc:crs rs=true:=Mg hr hi hs hk ((test (hC.trans e)).trans h)
      exact Af tH rfl (.tmp rfl) () (by rw[hc]) trivial fun W _=>Ag.nil _ _
     ·refine zI (zN (zE (zB (wP rfl (wP rfl (wP rfl (Aa ?_)))))))
      exact At (k+1) ⟨hk,fin ((test (hC.trans e)).trans h)⟩ (by omega) ⟨rfl,rfl,rfl,rfl,congrArg (fun z=>some (Value.int .i64 z)) (A6 (x:=(k:Int)+1) (by omega) (by omega)),trivial⟩ [] rfl
 ·refine Ao rfl rfl ?_
  iterate 18 refine Ao rfl rfl ?_
  refine wP rfl (Aa ?_)
  have e:(C1&&(C2||C3||(C4&&C5)))=false:=by first|(rw[show C1=false from c1.symm.trans h47];rfl)|(rw[show C2=false from c2.symm.trans h51,show C3=false from c3.symm.trans h57,show C4=false from c4.symm.trans h60,Bool.false_and];cases C1<;>rfl)
  refine zE (zS rfl (zI (zE (zA ?_))))
  refine zT Tryz.mixed (by kernel_rfl) ?_
  refine qP rfl (qP rfl ?_)
  refine qJ ?_
  refine Ap rfl rfl rfl rfl (fun W hp=>Ae.load 0 tH rfl ((fun W hp=>hq1.hp hp) W hp) rfl) ?_
  refine qP rfl (qP rfl (qP rfl ?_))
  refine qJ ?_
  refine Ap rfl rfl rfl rfl (fun W hp=>Ae.load 0 tH rfl ((fun W hp=>hq3.hp hp) W hp) rfl) ?_
  refine qP rfl ?_
  refine A8 rfl rfl rfl rfl rfl rfl (by kernel_rfl) (fun W hp=>Hl W q q' cap2 cap3 (rg rs r) (rg rs s) i k hlr hls (hq2.hp hp) (hq4.hp hp) hi hk) ?_
  refine AE (Aa (zE ?_))
  refine Al rfl (fun h=> ?_) (fun h=> ?_)
  ·refine zA (zB (wP rfl (Aa (zE (zO (zQ (zP (zP (zQ (zQ (zP (zP (zQ (zQ ?_))))))))))))))
   refine zP (zP (zQ (zQ (zP (zP (zQ (zP ?_)))))))
   have hc:crs rs=true:=Mg hr hi hs hk ((test (hC.trans e)).trans h)
   exact Af tH rfl (.tmp rfl) () (by rw[hc]) trivial fun W _=>Ag.nil _ _
  ·refine zI (zN (zE (zB (wP rfl (wP rfl (wP rfl (Aa ?_)))))))
   exact At (k+1) ⟨hk,fin ((test (hC.trans e)).trans h)⟩ (by omega) ⟨rfl,rfl,rfl,rfl,congrArg (fun z=>some (Value.int .i64 z)) (A6 (x:=(k:Int)+1) (by omega) (by omega)),trivial⟩ [] rfl
-- BOXES 2
def ML (rs:List (List Sd)) (r s:Nat):Bool:=(s==r)||(Gf (rg rs s) (sd (rg rs r) 0).x (sd (rg rs r) 0).y (rg rs s).length==(s==0))
def RE (rs:List (List Sd)) (r:Nat):Bool:=(r==0)||(!decide (twR (rg rs r) (rg rs r).length≥0)&&(List.range rs.length).all (ML rs r))
def GR (rs:List (List Sd)):Bool:= !decide (twR (rg rs 0) (rg rs 0).length≤0)&&(List.range rs.length).all (RE rs)
theorem MX (W:World) (p:Option Addr) (cap:Nat) (rs:List (List Sd)) (hn:rs.length<4611686018427387904) (hl: ∀l∈rs,l.length<4611686018427387904) (hne: ∀l∈rs,l≠[]) (h0:0<rs.length) (hR:AY W p rs):
  Ai Tryz.prog 49 #[slv p rs.length cap] W (fun _:Unit=> .bool (GR rs)) (fun _=>True) (fun _=>[]):=by
 obtain⟨b,off,rfl,hrow⟩:=hR.row h0
 obtain⟨q0,cap0,hq1,hq2⟩:=hrow 0 h0
 refine Ad (args:=[slv (some ⟨b,off,none⟩) rs.length cap]) Tryz.func49 rfl rfl rfl ?_
 refine zA (zB (wP rfl (Aa (zE (zA (zA (zB (wP rfl ?_))))))))
 refine wJ ?_
 refine Av rfl rfl rfl rfl (fun W hp=>Ae.load 0 tH rfl ((fun W hp=>hq1.hp hp) W hp) rfl) ?_
 refine Ab rfl rfl rfl rfl rfl rfl (by kernel_rfl) (fun W hp=>Km W q0 cap0 (rg rs 0) (hl _ (List.mem_of_getElem? (AN h0))) (hq2.hp hp)) ?_
 refine wP rfl (Aa (zE ?_))
 refine Al rfl (fun h=> ?_) (fun h=> ?_)
 ·refine zA (zB (wP rfl (Aa (zE (zO (zP ?_))))))
  have hf:GR rs=false:=by unfold GR;rw[show decide (twR (rg rs 0) (rg rs 0).length≤0)=true from h];rfl
  exact Af tH rfl (.tmp rfl) () (by rw[hf]) trivial fun W _=>Ag.nil _ _
 have hA:decide (twR (rg rs 0) (rg rs 0).length≤0)=false:=h
 clear h
 refine zI (zE (zA (zA (zB (wP rfl (Aa (zE (zH ?_))))))))
 refine Az (X:=Nat) (fun r=>[(0,slv (some ⟨b,off,none⟩) rs.length cap),(3, .int .i64 (r:Nat))]) (fun _=>[]) (fun r=>1≤r∧r≤rs.length∧ ∀j,j<r→RE rs j=true) (fun r=>rs.length-r) 1
  ⟨Nat.le_refl _,h0,fun j hj=>by rw[show j=0 by omega];rfl⟩ ⟨rfl,rfl,trivial⟩ [] rfl ?_
 rintro r ⟨hr1,hr,hok⟩
 refine zA (zA (zB (wP rfl (wP rfl (wP rfl (wP rfl (Aa (zE ?_))))))))
 refine Al rfl (fun h=> ?_) (fun h=> ?_)
 rotate_left
 ·have e:r=rs.length:=by simp at h;omega
  subst e
  refine zJ (zK (zK (zL (zE (zA (zB (wP rfl (Aa (zE (zO ?_))))))))))
  have ht:GR rs=true:=by unfold GR;rw[hA,List.all_eq_true.2 fun j hj=>hok j (List.mem_range.1 hj)];rfl
  exact Af tH rfl (.tmp rfl) () (by rw[ht]) trivial fun W _=>Ag.nil _ _
 have hr:r<rs.length:=by simp at h;omega
 clear h
 obtain⟨q,cap2,hq3,hq4⟩:=hrow r hr
 have hlr:=hl _ (List.mem_of_getElem? (AN hr))
 have hner:0<(rg rs r).length:=List.length_pos_iff.2 (hne _ (List.mem_of_getElem? (AN hr)))
 have hr0:(r==0)=false:=beq_eq_false_iff_ne.2 (by omega)
 refine zI (zE (zA (zH (zA (zA (zB (wP rfl (wP rfl ?_))))))))
 refine wJ ?_
 refine Av rfl rfl rfl rfl (fun W hp=>Ae.load 0 tH rfl ((fun W hp=>hq3.hp hp) W hp) rfl) ?_
 refine Ab rfl rfl rfl rfl rfl rfl (by kernel_rfl) (fun W hp=>Km W q cap2 (rg rs r) hlr (hq4.hp hp)) ?_
 refine wP rfl (Aa (zE ?_))
 refine Al rfl (fun h=> ?_) (fun h=> ?_)
 ·refine zA (zB (wP rfl (Aa (zE (zO (zP (zQ (zP (zP (zQ (zP ?_)))))))))))
  have hf:GR rs=false:=by unfold GR;rw[BK hr (by unfold RE;rw[hr0,show decide (twR (rg rs r) (rg rs r).length≥0)=true from h];rfl),Bool.and_false]
  exact Af tH rfl (.tmp rfl) () (by rw[hf]) trivial fun W _=>Ag.nil _ _
 have hB:decide (twR (rg rs r) (rg rs r).length≥0)=false:=h
 clear h
 refine zI (zE (zA (zB (wP rfl (Aa (zE (zH ?_)))))))
 refine Az (X:=Nat) (fun s=>[(0,slv (some ⟨b,off,none⟩) rs.length cap),(3, .int .i64 (r:Nat)),(4, .int .i64 (s:Nat))]) (fun _=>[]) (fun s=>s≤rs.length∧ ∀j,j<s→ML rs r j=true) (fun s=>rs.length-s) 0
  ⟨Nat.zero_le _,fun j hj=>absurd hj (Nat.not_lt_zero _)⟩ ⟨rfl,rfl,rfl,trivial⟩ [] rfl ?_
 rintro s ⟨hs,hoks⟩
 refine zA (zA (zB (wP rfl (wP rfl (wP rfl (wP rfl (Aa (zE ?_))))))))
 refine Al rfl (fun h=> ?_) (fun h=> ?_)
 rotate_left
 ·have e:s=rs.length:=by simp at h;omega
  subst e
  refine zJ (zK (zK (zL (zN (zE (zB (wP rfl (wP rfl (wP rfl (Aa ?_))))))))))
  refine At (r+1) ⟨by omega,hr,fun j hj=> ?_⟩ (by omega) ⟨rfl,congrArg (fun z=>some (Value.int .i64 z)) (A6 (x:=(r:Int)+1) (by omega) (by omega)),trivial⟩ [] rfl
  by_cases e:j=r
  ·subst e
   unfold RE
   rw[hB,List.all_eq_true.2 fun m hm=>hoks m (List.mem_range.1 hm),hr0];rfl
  ·exact hok j (by omega)
 have hs:s<rs.length:=by simp at h;omega
 clear h
 obtain⟨q',cap3,hq5,hq6⟩:=hrow s hs
 have hls:=hl _ (List.mem_of_getElem? (AN hs))
 have next:ML rs r s=true→ ∀j,j<s+1→ML rs r j=true:=fun h j hj=>by
  by_cases e:j=s
  ·subst e;exact h
  ·exact hoks j (by omega)
 obtain⟨b3,off3,rfl,hrow3⟩:=hq4.row hner
 refine zI (zE (zA (zH (zA ?_))))
 refine zT Tryz.mixed (by kernel_rfl) ?_
 refine qP rfl (qP rfl (qP rfl (qP rfl ?_)))
 refine Gv 31 rfl (fun h31=> ?_) (fun h31=> ?_)
 ·refine qP rfl (qP rfl ?_)
  refine qJ ?_
  refine Ap rfl rfl rfl rfl (fun W hp=>Ae.load 0 tH rfl ((fun W hp=>hq5.hp hp) W hp) rfl) ?_
  refine qP rfl (qP rfl ?_)
  refine qJ ?_
  refine Ap rfl rfl rfl rfl (fun W hp=>Ae.load 0 tH rfl ((fun W hp=>hq3.hp hp) W hp) rfl) ?_
  refine qJ ?_
  refine qP rfl ?_
  refine Ap rfl rfl rfl rfl (fun W hp=>Ae.load 0 tH rfl ((fun W hp=>(hrow3 0 hner).hp hp) W hp) rfl) ?_
  refine qP rfl (qP rfl ?_)
  refine qJ ?_
  refine Ap rfl rfl rfl rfl (fun W hp=>Ae.load 0 tH rfl ((fun W hp=>hq3.hp hp) W hp) rfl) ?_
  refine qJ ?_
  refine qP rfl ?_
  refine Ap rfl rfl rfl rfl (fun W hp=>Ae.load 1 tH rfl ((fun W hp=>(hrow3 0 hner).hp hp) W hp) rfl) ?_
  refine A8 rfl rfl rfl rfl rfl rfl (by kernel_rfl) (fun W hp=>MO W q' cap3 (rg rs s) _ _ hls (hq6.hp hp)) ?_
  refine qP rfl (qP rfl ?_)
  refine So Tryz.underlying4 rfl rfl rfl rfl rfl rfl ?_
  refine qP rfl (AE (Aa ?_))
  have e:(s==r)=false:=by have h':((s:Int) !=(r:Int))=true:=h31;rw[bne_iff_ne] at h';rw[beq_eq_false_iff_ne];omega
  refine zE ?_
  refine Al rfl (fun h=> ?_) (fun h=> ?_)
  ·refine zA (zB (wP rfl (Aa (zE (zO (zQ (zP (zP (zQ (zQ (zP (zP (zQ ?_)))))))))))))
   refine zP ?_
   have h':(Gf (rg rs s) (sd (rg rs r) 0).x (sd (rg rs r) 0).y (rg rs s).length==(s==0))=false:=by
    rw[←C7 s 0]
    have h2:(!(Gf (rg rs s) (sd (rg rs r) 0).x (sd (rg rs r) 0).y (rg rs s).length==((s:Int)==0)))=true:=h
    simpa using h2
   have hf:GR rs=false:=by unfold GR;rw[BK hr (by unfold RE;rw[hr0,BK hs (by unfold ML;rw[e,h'];rfl),Bool.and_false];rfl),Bool.and_false]
   exact Af tH rfl (.tmp rfl) () (by rw[hf]) trivial fun W _=>Ag.nil _ _
  ·have h':(Gf (rg rs s) (sd (rg rs r) 0).x (sd (rg rs r) 0).y (rg rs s).length==(s==0))=true:=by
    rw[←C7 s 0]
    have h2:(!(Gf (rg rs s) (sd (rg rs r) 0).x (sd (rg rs r) 0).y (rg rs s).length==((s:Int)==0)))=false:=h
    simpa using h2
   refine zI (zN (zE (zB (wP rfl (wP rfl (wP rfl (Aa ?_)))))))
   exact At (s+1) ⟨hs,next (by unfold ML;rw[h',Bool.or_true])⟩ (by omega) ⟨rfl,rfl,congrArg (fun z=>some (Value.int .i64 z)) (A6 (x:=(s:Int)+1) (by omega) (by omega)),trivial⟩ [] rfl
 ·refine BG rfl rfl ?_
  iterate 21 refine BG rfl rfl ?_
  refine qP rfl (AE (Aa ?_))
  have e:(s==r)=true:=by have h':((s:Int) !=(r:Int))=false:=h31;rw[bne_eq_false_iff_eq] at h';rw[beq_iff_eq];omega
  refine zE (zS rfl (zI (zN (zE (zB (wP rfl (wP rfl (wP rfl (Aa ?_)))))))))
  exact At (s+1) ⟨hs,next (by unfold ML;rw[e];rfl)⟩ (by omega) ⟨rfl,rfl,congrArg (fun z=>some (Value.int .i64 z)) (A6 (x:=(s:Int)+1) (by omega) (by omega)),trivial⟩ [] rfl
def Hr (l:List Sd) (k:Nat):Bool:= !(decide (JF l k<0)&&((sd l (prv l.length k)).gable||(sd l k).gable||((sd l (prv l.length k)).plate !=(sd l k).plate)))
def Kf (rs:List (List Sd)):Bool:=rs.all (fun l=>(List.range l.length).all (Hr l))&&AQ rs rs.length
theorem OW (W:World) (p:Option Addr) (cap:Nat) (rs:List (List Sd)) (hn:rs.length<4611686018427387904) (hl: ∀l∈rs,l.length<4611686018427387904) (hR:AY W p rs):
  Ai Tryz.prog 50 #[slv p rs.length cap] W (fun _:Unit=> .bool (Kf rs)) (fun _=>True) (fun _=>[]):=by
 refine Ad (args:=[slv p rs.length cap]) Tryz.func50 rfl rfl rfl ?_
 refine zA (zB (wP rfl (Aa (zE (zA (zB (wP rfl (Aa (zE (zA (zA (zB (wP rfl ?_)))))))))))))
 refine Aa (zE (zH ?_))
 refine Az (X:=Nat) (fun r=>[(0,slv p rs.length cap),(3, .bool (AQ rs r)),(4, .int .i64 (r:Nat))]) (fun _=>[]) (fun r=>r≤rs.length∧ ∀j,j<r→(List.range (rg rs j).length).all (Hr (rg rs j))=true) (fun r=>rs.length-r) 0
  ⟨Nat.zero_le _,fun j hj=>absurd hj (Nat.not_lt_zero _)⟩ ⟨rfl,rfl,rfl,trivial⟩ [] rfl ?_
 rintro r ⟨hr,hok⟩
 refine zA (zA (zB (wP rfl (wP rfl (wP rfl (wP rfl (Aa (zE ?_))))))))
 refine Al rfl (fun h=> ?_) (fun h=> ?_)
 rotate_left
 ·have e:r=rs.length:=by simp at h;omega
  subst e
  refine zJ (zK (zK (zL (zE (zA (zB (wP rfl (wP rfl (Aa (zE (zO ?_)))))))))))
  have ht:Kf rs=AQ rs rs.length:=by
   unfold Kf
   rw[List.all_eq_true.2 fun l hl=> ?_,Bool.true_and]
   obtain⟨j,hj,e⟩:=List.getElem_of_mem hl
   have:=hok j hj
   rw[show rg rs j=l by simp[rg,hj,e]] at this
   exact this
  exact Af tH rfl (.tmp rfl) () (by rw[ht]) trivial fun W _=>Ag.nil _ _
 have hr:r<rs.length:=by simp at h;omega
 clear h
 obtain⟨b,off,rfl,hrow⟩:=hR.row hr
 obtain⟨q,cap2,hq1,hq2⟩:=hrow r hr
 have hlr:=hl _ (List.mem_of_getElem? (AN hr))
 refine zI (zE (zA (zH (zA (zB (wP rfl (wP rfl ?_)))))))
 refine wJ ?_
 refine Av rfl rfl rfl rfl (fun W hp=>Ae.load 0 tH rfl ((fun W hp=>hq1.hp hp) W hp) rfl) ?_
 refine wP rfl (Aa (zE (zA (zB (wP rfl (Aa (zE (zH ?_))))))))
 refine Az (X:=Nat) (fun i=>[(0,slv (some ⟨b,off,none⟩) rs.length cap),(3, .bool (AT (rg rs r) (AQ rs r) i)),(4, .int .i64 (r:Nat)),(5,slv q (rg rs r).length cap2),(6, .int .i64 (i:Nat))]) (fun _=>[]) (fun i=>i≤(rg rs r).length∧ ∀j,j<i→Hr (rg rs r) j=true) (fun i=>(rg rs r).length-i) 0
  ⟨Nat.zero_le _,fun j hj=>absurd hj (Nat.not_lt_zero _)⟩ ⟨rfl,rfl,rfl,rfl,rfl,trivial⟩ [] rfl ?_
 rintro i ⟨hi,hoki⟩
 refine zA (zA (zB (wP rfl (wP rfl (wP rfl (wP rfl (Aa (zE ?_))))))))
 refine Al rfl (fun h=> ?_) (fun h=> ?_)
 rotate_left
 ·have e:i=(rg rs r).length:=by simp at h;omega
  subst e
  refine zJ (zK (zK (zL (zN (zE (zB (wP rfl (wP rfl (wP rfl (Aa ?_))))))))))
  refine At (r+1) ⟨hr,fun j hj=> ?_⟩ (by omega) ⟨rfl,rfl,congrArg (fun z=>some (Value.int .i64 z)) (A6 (x:=(r:Int)+1) (by omega) (by omega)),trivial⟩ [] rfl
  by_cases e:j=r
  ·subst e;exact List.all_eq_true.2 fun m hm=>hoki m (List.mem_range.1 hm)
  ·exact hok j (by omega)
 have hi:i<(rg rs r).length:=by simp at h;omega
 clear h
 have hi2:=Dc hi
 obtain⟨b3,off3,rfl,hrow3⟩:=hq2.row hi
 have bad:Hr (rg rs r) i=false→Kf rs=false:=fun h=>by
  unfold Kf
  have:rs.all (fun l=>(List.range l.length).all (Hr l))=false:=Bool.eq_false_iff.2 fun e=>by
   have:=List.all_eq_true.1 e _ (List.mem_of_getElem? (AN hr))
   rw[BK hi h] at this;cases this
  rw[this];rfl
 have good:Hr (rg rs r) i=true→ ∀j,j<i+1→Hr (rg rs r) j=true:=fun h j hj=>by
  by_cases e:j=i
  ·subst e;exact h
  ·exact hoki j (by omega)
 refine zI (zE (AL (B6 ?_)))
 repeat refine AL ?_
 refine Jh (X:=Nat×Nat) (fun y=>[(0,slv (some ⟨b,off,none⟩) rs.length cap),(3, .bool (AT (rg rs r) (AQ rs r) i)),(4, .int .i64 (r:Nat)),(5,slv (some ⟨b3,off3,none⟩) (rg rs r).length cap2),(6, .int .i64 (i:Nat)),(7, .pointer (some ⟨y.1,0,none⟩)),(8, .pointer (some ⟨y.2,0,none⟩))])
  (fun y=>[⟨y.1,42,(sd (rg rs r) (prv (rg rs r).length i)).cells,true,none⟩,⟨y.2,42,(sd (rg rs r) i).cells,true,none⟩]) 4 Tryz.mixed (by kernel_rfl) ?_ ?_
 ·refine qP rfl ?_
  iterate 5 refine qP rfl ?_
  refine AF 30 (.int .i64 ((i+(rg rs r).length-1:Nat):Int)) rfl (congrArg (Value.int .i64) (show w64 (w64 ((i:Nat)+((rg rs r).length:Nat))-1)=((i+(rg rs r).length-1:Nat):Int) by rw[As (x:=(i:Nat)+((rg rs r).length:Nat)) (by omega) (by omega),As (by omega) (by omega)];omega)) ?_
  refine qP rfl (qP rfl ?_)
  refine GD rfl rfl rfl rfl rfl (by omega) ?_
  refine AF 33 (.int .i64 (prv (rg rs r).length i:Nat)) rfl (congrArg (Value.int .i64) (show Int.tmod ((i+(rg rs r).length-1:Nat):Int) ((rg rs r).length:Nat)=(prv (rg rs r).length i:Nat) from(Int.ofNat_tmod _ _).symm)) ?_
  refine qJ ?_
  refine Ap rfl rfl rfl rfl (fun W hp=>Ae.load 0 tH rfl ((fun W hp=>(hrow3 _ hi2).hp hp) W hp) rfl) ?_
  refine qP rfl (qP rfl ?_)
  refine qJ ?_
  refine Ap rfl rfl rfl rfl (fun W hp=>Ae.load 0 tH rfl ((fun W hp=>(hrow3 i hi).hp hp) W hp) rfl) ?_
  refine CX ?_
  refine wX ?_
  refine RS.cons ?_ (RS.cons ?_ (RS.nil))
  ·refine An Tryz.hZ rfl rfl rfl rfl ?_;intro b7
   refine Aa (Ah ?_)
   refine wX ?_
   refine RS.cons ?_ (RS.nil)
   refine An Tryz.hZ rfl rfl rfl rfl ?_;intro b8
   refine Aa (Ah ?_)
   refine wX ?_
   refine RS.cons ?_ (RS.nil)
   refine wS 0 rfl rfl rfl (Aa (Ah ?_))
   refine wX ?_
   refine RS.cons ?_ (RS.nil)
   refine wS 1 rfl rfl rfl (Aa (Ah ?_))
   (first|refine BT rfl (by((repeat (first|refine BM.same ?_|refine BM.off rfl ?_));exact trivial)) ?_|refine A3 rfl (by kernel_rfl) ?_);(first|exact Ax (b7,b8) ⟨rfl,rfl,rfl,rfl,rfl,rfl,rfl,trivial⟩ [0,1] (by decide) rfl|exact Ax (b7,b8) ⟨rfl,rfl,rfl,rfl,rfl,rfl,rfl,trivial⟩ [1,0] (by decide) rfl)
  ·refine An Tryz.hZ rfl rfl rfl rfl ?_;intro b8
   refine Aa (Ah ?_)
   refine wX ?_
   refine RS.cons ?_ (RS.nil)
   refine An Tryz.hZ rfl rfl rfl rfl ?_;intro b7
   refine Aa (Ah ?_)
   refine wX ?_
   refine RS.cons ?_ (RS.nil)
   refine wS 1 rfl rfl rfl (Aa (Ah ?_))
   refine wX ?_
   refine RS.cons ?_ (RS.nil)
   refine wS 0 rfl rfl rfl (Aa (Ah ?_))
   (first|refine BT rfl (by((repeat (first|refine BM.same ?_|refine BM.off rfl ?_));exact trivial)) ?_|refine A3 rfl (by kernel_rfl) ?_);(first|exact Ax (b7,b8) ⟨rfl,rfl,rfl,rfl,rfl,rfl,rfl,trivial⟩ [0,1] (by decide) rfl|exact Ax (b7,b8) ⟨rfl,rfl,rfl,rfl,rfl,rfl,rfl,trivial⟩ [1,0] (by decide) rfl)
 rintro⟨b7,b8⟩
 obtain⟨C1,c1⟩: ∃b,decide (JF (rg rs r) i<0)=b:=⟨_,rfl⟩
 obtain⟨C4,c4⟩: ∃b,((sd (rg rs r) (prv (rg rs r).length i)).plate !=(sd (rg rs r) i).plate)=b:=⟨_,rfl⟩
 have hC:Hr (rg rs r) i= !(C1&&((sd (rg rs r) (prv (rg rs r).length i)).gable||(sd (rg rs r) i).gable||C4)):=by unfold Hr;rw[c1,c4]
 refine zE (zA (zA (zB (wP rfl (wP rfl ?_)))))
 refine Ab rfl rfl rfl rfl rfl rfl (by kernel_rfl) (fun W hp=>LM W _ cap2 (rg rs r) i hlr (hq2.hp hp) hi) ?_
 refine wP rfl (wP rfl ?_)
 refine AR 44 rfl (fun h44=> ?_) (fun h44=> ?_)
 ·refine wP rfl (wB 0 rfl rfl rfl (wP rfl ?_))
  refine AR 47 rfl (fun h47=> ?_) (fun h47=> ?_)
  ·refine Ao rfl rfl ?_
   refine Ao rfl rfl ?_
   refine wP rfl (wP rfl ?_)
   iterate 5 refine Ao rfl rfl ?_
   refine wP rfl (wP rfl (Aa ?_))
   have e:Hr (rg rs r) i=false:=by
    rw[hC,show C1=true from c1.symm.trans h44]
    first
    |(rw[show(sd (rg rs r) (prv (rg rs r).length i)).gable=true from h47];rfl)
    |(rw[show(sd (rg rs r) i).gable=true from h51];cases(sd (rg rs r) (prv (rg rs r).length i)).gable<;>rfl)
   refine zE (zR rfl (zA (zB (wP rfl (Aa (zE (zO (zP (zQ (zP (zP (zQ (zQ ?_)))))))))))))
   refine zP (zP (zQ (zP ?_)))
   exact Af tH rfl (.tmp rfl) () (by rw[bad e]) trivial fun W _=>Ag.nil _ _
  ·refine wP rfl (wB 1 rfl rfl rfl (wP rfl (wP rfl ?_)))
   refine AR 51 rfl (fun h51=> ?_) (fun h51=> ?_)
   ·refine Ao rfl rfl ?_
    iterate 4 refine Ao rfl rfl ?_
    refine wP rfl (wP rfl (Aa ?_))
    have e:Hr (rg rs r) i=false:=by
     rw[hC,show C1=true from c1.symm.trans h44]
     first
     |(rw[show(sd (rg rs r) (prv (rg rs r).length i)).gable=true from h47];rfl)
     |(rw[show(sd (rg rs r) i).gable=true from h51];cases(sd (rg rs r) (prv (rg rs r).length i)).gable<;>rfl)
    refine zE (zR rfl (zA (zB (wP rfl (Aa (zE (zO (zP (zQ (zP (zP (zQ (zQ ?_)))))))))))))
    refine zP (zP (zQ (zP ?_)))
    exact Af tH rfl (.tmp rfl) () (by rw[bad e]) trivial fun W _=>Ag.nil _ _
   ·refine wP rfl (wB 0 rfl rfl rfl (wP rfl (wB 1 rfl rfl rfl (wP rfl (wP rfl (wP rfl (Aa (zE ?_))))))))
    refine Al rfl (fun hx=> ?_) (fun hx=> ?_)
    ·have e:Hr (rg rs r) i=false:=by
      rw[hC,show C1=true from c1.symm.trans h44,show C4=true from c4.symm.trans hx]
      cases(sd (rg rs r) (prv (rg rs r).length i)).gable<;>cases(sd (rg rs r) i).gable<;>rfl
     refine zA (zB (wP rfl (Aa (zE (zO (zP (zQ (zP (zP (zQ (zQ (zP (zP ?_)))))))))))))
     refine zQ (zP ?_)
     exact Af tH rfl (.tmp rfl) () (by rw[bad e]) trivial fun W _=>Ag.nil _ _
    ·have e:Hr (rg rs r) i=true:=by
      rw[hC,show(sd (rg rs r) (prv (rg rs r).length i)).gable=false from h47]
      rw[show(sd (rg rs r) i).gable=false from h51,show C4=false from c4.symm.trans hx]
      cases C1<;>rfl
     refine zI (zE (zB (wP rfl (wP rfl ?_))))
     refine AR 60 rfl (fun h60=> ?_) (fun h60=> ?_)
     ·refine Ao rfl rfl ?_
      iterate 2 refine Ao rfl rfl ?_
      refine wP rfl (wP rfl (Aa (zN (zE (zB (wP rfl (wP rfl (wP rfl (Aa ?_)))))))))
      exact At (i+1) ⟨hi,good e⟩ (by omega) ⟨rfl,congrArg (fun z=>some (Value.bool z)) (show _=(AT (rg rs r) (AQ rs r) i|| !(sd (rg rs r) i).gable) by first|(rw[show AT (rg rs r) (AQ rs r) i=true from h60];rfl)|(rw[show AT (rg rs r) (AQ rs r) i=false from h60];rfl)),rfl,rfl,congrArg (fun z=>some (Value.int .i64 z)) (A6 (x:=(i:Int)+1) (by omega) (by omega)),trivial⟩ [_,_] rfl
     ·refine wP rfl (wB 1 rfl rfl rfl (wP rfl (wP rfl (wP rfl (Aa (zN (zE (zB (wP rfl (wP rfl (wP rfl (Aa ?_))))))))))))
      exact At (i+1) ⟨hi,good e⟩ (by omega) ⟨rfl,congrArg (fun z=>some (Value.bool z)) (show _=(AT (rg rs r) (AQ rs r) i|| !(sd (rg rs r) i).gable) by first|(rw[show AT (rg rs r) (AQ rs r) i=true from h60];rfl)|(rw[show AT (rg rs r) (AQ rs r) i=false from h60];rfl)),rfl,rfl,congrArg (fun z=>some (Value.int .i64 z)) (A6 (x:=(i:Int)+1) (by omega) (by omega)),trivial⟩ [_,_] rfl
 ·refine Ao rfl rfl ?_
  iterate 12 refine Ao rfl rfl ?_
  refine wP rfl (Aa ?_)
  have e:Hr (rg rs r) i=true:=by rw[hC,show C1=false from c1.symm.trans h44];rfl
  refine zE (zS rfl (zI (zE (zB (wP rfl (wP rfl ?_))))))
  refine AR 60 rfl (fun h60=> ?_) (fun h60=> ?_)
  ·refine Ao rfl rfl ?_
   iterate 2 refine Ao rfl rfl ?_
   refine wP rfl (wP rfl (Aa (zN (zE (zB (wP rfl (wP rfl (wP rfl (Aa ?_)))))))))
   exact At (i+1) ⟨hi,good e⟩ (by omega) ⟨rfl,congrArg (fun z=>some (Value.bool z)) (show _=(AT (rg rs r) (AQ rs r) i|| !(sd (rg rs r) i).gable) by first|(rw[show AT (rg rs r) (AQ rs r) i=true from h60];rfl)|(rw[show AT (rg rs r) (AQ rs r) i=false from h60];rfl)),rfl,rfl,congrArg (fun z=>some (Value.int .i64 z)) (A6 (x:=(i:Int)+1) (by omega) (by omega)),trivial⟩ [_,_] rfl
  ·refine wP rfl (wB 1 rfl rfl rfl (wP rfl (wP rfl (wP rfl (Aa (zN (zE (zB (wP rfl (wP rfl (wP rfl (Aa ?_))))))))))))
   exact At (i+1) ⟨hi,good e⟩ (by omega) ⟨rfl,congrArg (fun z=>some (Value.bool z)) (show _=(AT (rg rs r) (AQ rs r) i|| !(sd (rg rs r) i).gable) by first|(rw[show AT (rg rs r) (AQ rs r) i=true from h60];rfl)|(rw[show AT (rg rs r) (AQ rs r) i=false from h60];rfl)),rfl,rfl,congrArg (fun z=>some (Value.int .i64 z)) (A6 (x:=(i:Int)+1) (by omega) (by omega)),trivial⟩ [_,_] rfl
-- BOXES 1
def Ly (rs:List (List Sd)):Int:=
 if rs.any (fun l=>l.length==0)=true then 5
 else if tot rs=0 then 5
 else if tot rs>24 then 4
 else if rs.flatten.any (fun s=> !rgd s)=true then 2
 else if rs.any (fun l=> !I4 l)=true then 14
 else if crs rs=true then 15
 else if (!GR rs|| !Kf rs)=true then 14
 else 0
theorem IZ (W:World) (p:Option Addr) (cap:Nat) (rs:List (List Sd)) (hn:rs.length<4611686018427387904) (hT:tot rs<1099511627776) (hR:AY W p rs):
  Ai Tryz.prog 12 #[AX p rs.length cap] W (fun _:Unit=> .int .i64 (Ly rs)) (fun _=>True) (fun _=>[]):=by
 have hl: ∀l∈rs,l.length<4611686018427387904:=fun l h=>by have:=C8 h;omega
 refine Ad (args:=[AX p rs.length cap]) Tryz.func12 rfl rfl rfl ?_
 refine zA (zB ?_)
 (refine A0 rfl rfl rfl rfl ?_;intro)
 refine wP rfl (Aa ?_)
 rename_i b1
 refine zE (zA (zA (zB (wP rfl (wB 0 rfl rfl rfl (wP rfl (wP rfl (Aa (zE ?_)))))))))
 refine Al rfl (fun h=> ?_) (fun h=> ?_)
 ·refine zA (zB (wP rfl (Aa (zE (zO (zP ?_))))))
  have h0:rs=[]:=by have h':(((rs.length:Nat):Int)==0)=true:=h;rw[beq_iff_eq] at h';exact List.length_eq_zero_iff.1 (by omega)
  exact Af tH rfl (.tmp rfl) () (by subst h0;rfl) trivial fun W _=>Ag.nil _ _
 have hpos:0<rs.length:=by have h':(((rs.length:Nat):Int)==0)=false:=h;rw[beq_eq_false_iff_ne] at h';omega
 clear h
 obtain⟨b,off,rfl,hrow⟩:=hR.row hpos
 refine zI (zE (zA (zB (wP rfl (Aa (zE (zA (zA (zB (wP rfl (Aa (zE (zH ?_)))))))))))))
 refine Az (X:=Nat) (fun k=>[(1, .pointer (some ⟨b1,0,none⟩)),(3, .int .i64 (tot (rs.take k):Nat)),(4, .int .i64 (k:Nat))]) (fun _=>[⟨b1,24,[slv (some ⟨b,off,none⟩) rs.length cap],true,none⟩])
  (fun k=>k≤rs.length∧ ∀j,j<k→(rg rs j).length≠0) (fun k=>rs.length-k) 0 ⟨Nat.zero_le _,fun j hj=>absurd hj (Nat.not_lt_zero _)⟩ ⟨rfl,rfl,rfl,trivial⟩ [] rfl ?_
 rintro k ⟨hk,hok⟩
 refine zA (zA (zB (wP rfl (wP rfl (wB 0 rfl rfl rfl (wP rfl (wP rfl (Aa (zE ?_)))))))))
 refine Al rfl (fun h=> ?_) (fun h=> ?_)
 ·have hk:k<rs.length:=by simp at h;omega
  clear h
  obtain⟨q,cap2,hq1,hq2⟩:=hrow k hk
  refine zI (zE (zA (zH (zA (zA (zB (wP rfl (wB 0 rfl rfl rfl (wP rfl ?_)))))))))
  refine wJ ?_
  refine Av rfl rfl rfl rfl (fun W hp=>Ae.load 0 tH rfl ((fun W hp=>hq1.hp hp) W hp) rfl) ?_
  refine wP rfl (wP rfl (Aa (zE ?_)))
  refine Al rfl (fun h=> ?_) (fun h=> ?_)
  ·refine zA (zB (wP rfl (Aa (zE (zO (zP (zQ (zP (zP (zQ (zP ?_)))))))))))
   have he:rs.any (fun l=>l.length==0)=true:=List.any_eq_true.2 ⟨_,List.mem_of_getElem? (AN hk),by have h':((((rg rs k).length:Nat):Int)==0)=true:=h;rw[beq_iff_eq] at h'⊢;omega⟩
   exact Af tH rfl (.tmp rfl) () (by unfold Ly;rw[if_pos he]) trivial fun W _=>Ag.nil _ _
  have hz:(rg rs k).length≠0:=by
   have h':((((rg rs k).length:Nat):Int)==0)=false:=h
   rw[beq_eq_false_iff_ne] at h';omega
  clear h
  refine zI (zE (zB (wP rfl (wP rfl (wB 0 rfl rfl rfl (wP rfl ?_))))))
  refine wJ ?_
  refine Av rfl rfl rfl rfl (fun W hp=>Ae.load 0 tH rfl ((fun W hp=>hq1.hp hp) W hp) rfl) ?_
  refine wP rfl (wP rfl (wP rfl (Aa ?_)))
  have hs:w64 ((tot (rs.take k):Nat)+((rg rs k).length:Nat))=(tot (rs.take (k+1)):Nat):=by
   have h1:=Ba hk
   have h2:=Ch rs (k+1)
   rw[As (by omega) (by omega)];omega
  refine zN (zE (zB ?_))
  refine Ac 3 _ rfl (congrArg (Value.int .i64) hs) ?_
  refine wP rfl (wP rfl (wP rfl (Aa ?_)))
  refine At (k+1) ⟨hk,fun j hj=> ?_⟩ (by omega) ⟨rfl,rfl,congrArg (fun z=>some (Value.int .i64 z)) (A6 (x:=(k:Int)+1) (by omega) (by omega)),trivial⟩ [] rfl
  by_cases e:j=k
  ·subst e;exact hz
  ·exact hok j (by omega)
 have e:k=rs.length:=by simp at h;omega
 subst e
 clear h
 rw[List.take_length]
 have hne: ∀l∈rs,l≠[]:=fun l hl e=>by
  obtain⟨i,hi,e2⟩:=List.getElem_of_mem hl
  have:=hok i hi
  rw[show rg rs i=rs[i] by simp[rg,hi],e2,e] at this
  exact this rfl
 have he:rs.any (fun l=>l.length==0)=false:=Bool.eq_false_iff.2 fun h2=>by
  obtain⟨l,h3,h4⟩:=List.any_eq_true.1 h2
  rw[beq_iff_eq] at h4
  exact hne l h3 (List.length_eq_zero_iff.1 h4)
 have hN: ¬(rs.any (fun l=>l.length==0)=true):=by rw[he];decide
 have h0: ¬tot rs=0:=by
  have h1:=C8 (List.mem_of_getElem? (AN hpos))
  have h2:=hok 0 hpos
  omega
 refine zJ (zK (zK (zL (zE (zA (zA (zB (wP rfl (wP rfl (Aa (zE ?_)))))))))))
 refine Al rfl (fun h=> ?_) (fun h=> ?_)
 ·refine zA (zB (wP rfl (Aa (zE (zO (zP ?_))))))
  have h1:tot rs>24:=by have h':decide (((tot rs:Nat):Int)>24)=true:=h;rw[decide_eq_true_iff] at h';omega
  exact Af tH rfl (.tmp rfl) () (by unfold Ly;rw[if_neg hN,if_neg h0,if_pos h1]) trivial fun W _=>Ag.nil _ _
 have h1: ¬tot rs>24:=by have h':decide (((tot rs:Nat):Int)>24)=false:=h;rw[decide_eq_false_iff_not] at h';omega
 clear h
 refine zI (zE (zA (zA (zB (wP rfl (Aa (zE (zH ?_))))))))
 refine Az (X:=Nat) (fun k=>[(1, .pointer (some ⟨b1,0,none⟩)),(5, .int .i64 (k:Nat))]) (fun _=>[⟨b1,24,[slv (some ⟨b,off,none⟩) rs.length cap],true,none⟩])
  (fun k=>k≤rs.length∧ ∀j,j<k→ ∀s∈rg rs j,rgd s=true) (fun k=>rs.length-k) 0 ⟨Nat.zero_le _,fun j hj=>absurd hj (Nat.not_lt_zero _)⟩ ⟨rfl,rfl,trivial⟩ [] rfl ?_
 rintro k ⟨hk,hok2⟩
 refine zA (zA (zB (wP rfl (wP rfl (wB 0 rfl rfl rfl (wP rfl (wP rfl (Aa (zE ?_)))))))))
 refine Al rfl (fun h=> ?_) (fun h=> ?_)
 ·have hk:k<rs.length:=by simp at h;omega
  clear h
  obtain⟨q,cap2,hq1,hq2⟩:=hrow k hk
  have hlk:=hl _ (List.mem_of_getElem? (AN hk))
  refine zI (zE (zA (zH (zA (zB (wP rfl (Aa (zE (zH ?_)))))))))
  refine Az (X:=Nat) (fun i=>[(1, .pointer (some ⟨b1,0,none⟩)),(5, .int .i64 (k:Nat)),(6, .int .i64 (i:Nat))]) (fun _=>[⟨b1,24,[slv (some ⟨b,off,none⟩) rs.length cap],true,none⟩])
   (fun i=>i≤(rg rs k).length∧ ∀j,j<i→rgd (sd (rg rs k) j)=true) (fun i=>(rg rs k).length-i) 0 ⟨Nat.zero_le _,fun j hj=>absurd hj (Nat.not_lt_zero _)⟩ ⟨rfl,rfl,rfl,trivial⟩ [] rfl ?_
  rintro i ⟨hi,hoki⟩
  refine zA (zA (zB (wP rfl (wP rfl (wB 0 rfl rfl rfl (wP rfl ?_))))))
  refine wJ ?_
  refine Av rfl rfl rfl rfl (fun W hp=>Ae.load 0 tH rfl ((fun W hp=>hq1.hp hp) W hp) rfl) ?_
  refine wP rfl (wP rfl (Aa (zE ?_)))
  refine Al rfl (fun h=> ?_) (fun h=> ?_)
  ·have hi:i<(rg rs k).length:=by simp at h;omega
   clear h
   obtain⟨b4,off4,rfl,hrow4⟩:=hq2.row hi
   refine zI (zE (zA (zH (zA (zB (wP rfl (wB 0 rfl rfl rfl (wP rfl ?_))))))))
   refine wJ ?_
   refine Av rfl rfl rfl rfl (fun W hp=>Ae.load 0 tH rfl ((fun W hp=>hq1.hp hp) W hp) rfl) ?_
   refine wP rfl ?_
   refine wJ ?_
   refine Av rfl rfl rfl rfl (fun W hp=>Ae.load 0 tH rfl ((fun W hp=>(hrow4 i hi).hp hp) W hp) rfl) ?_
   refine Ab rfl rfl rfl rfl rfl rfl (by kernel_rfl) (fun W _=>MZ (sd (rg rs k) i) W) ?_
   refine wP rfl (Aa (zE ?_))
   refine Al rfl (fun h=> ?_) (fun h=> ?_)
   ·refine zA (zB (wP rfl (Aa (zE (zO (zQ (zP (zP (zQ (zQ (zP (zP (zQ ?_)))))))))))))
    refine zP ?_
    have h2:rs.flatten.any (fun s=> !rgd s)=true:=List.any_eq_true.2 ⟨sd (rg rs k) i,List.mem_flatten.2 ⟨rg rs k,List.mem_of_getElem? (AN hk),List.mem_of_getElem? (Cz hi)⟩,h⟩
    exact Af tH rfl (.tmp rfl) () (by unfold Ly;rw[if_neg hN,if_neg h0,if_neg h1,if_pos h2]) trivial fun W _=>Ag.nil _ _
   ·have hg:rgd (sd (rg rs k) i)=true:=by have h':(!rgd (sd (rg rs k) i))=false:=h;simpa using h'
    refine zI (zN (zE (zB (wP rfl (wP rfl (wP rfl (Aa ?_)))))))
    refine At (i+1) ⟨hi,fun j hj=> ?_⟩ (by omega) ⟨rfl,rfl,congrArg (fun z=>some (Value.int .i64 z)) (A6 (x:=(i:Int)+1) (by omega) (by omega)),trivial⟩ [] rfl
    by_cases e:j=i
    ·subst e;exact hg
    ·exact hoki j (by omega)
  ·have e:i=(rg rs k).length:=by simp at h;omega
   subst e
   refine zJ (zK (zK (zL (zN (zE (zB (wP rfl (wP rfl (wP rfl (Aa ?_))))))))))
   refine At (k+1) ⟨hk,fun j hj s hs=> ?_⟩ (by omega) ⟨rfl,congrArg (fun z=>some (Value.int .i64 z)) (A6 (x:=(k:Int)+1) (by omega) (by omega)),trivial⟩ [] rfl
   by_cases e:j=k
   ·subst e
    obtain⟨m,hm,e⟩:=List.getElem_of_mem hs
    have:=hoki m hm
    rw[show sd (rg rs j) m=s by simp[sd,hm,e]] at this
    exact this
   ·exact hok2 j (by omega) s hs
 have e:k=rs.length:=by simp at h;omega
 subst e
 clear h
 have hrg: ∀l∈rs, ∀s∈l,rgd s=true:=fun l hl s hs=>by
  obtain⟨i,hi,e2⟩:=List.getElem_of_mem hl
  have:=hok2 i hi
  rw[show rg rs i=l by simp[rg,hi,e2]] at this
  exact this s hs
 have h2: ¬(rs.flatten.any (fun s=> !rgd s)=true):=fun h=>by
  obtain⟨s,hs,h⟩:=List.any_eq_true.1 h
  obtain⟨l,hl,hs⟩:=List.mem_flatten.1 hs
  rw[hrg l hl s hs] at h;cases h
 refine zJ (zK (zK (zL (zE (zA (zA (zB (wP rfl (Aa (zE (zH ?_)))))))))))
 refine Az (X:=Nat) (fun k=>[(1, .pointer (some ⟨b1,0,none⟩)),(7, .int .i64 (k:Nat))]) (fun _=>[⟨b1,24,[slv (some ⟨b,off,none⟩) rs.length cap],true,none⟩])
  (fun k=>k≤rs.length∧ ∀j,j<k→I4 (rg rs j)=true) (fun k=>rs.length-k) 0 ⟨Nat.zero_le _,fun j hj=>absurd hj (Nat.not_lt_zero _)⟩ ⟨rfl,rfl,trivial⟩ [] rfl ?_
 rintro k ⟨hk,hok3⟩
 refine zA (zA (zB (wP rfl (wP rfl (wB 0 rfl rfl rfl (wP rfl (wP rfl (Aa (zE ?_)))))))))
 refine Al rfl (fun h=> ?_) (fun h=> ?_)
 ·have hk:k<rs.length:=by simp at h;omega
  clear h
  obtain⟨q,cap2,hq1,hq2⟩:=hrow k hk
  have hlk:=hl _ (List.mem_of_getElem? (AN hk))
  refine zI (zE (zA (zH (zA (zB (wP rfl (wB 0 rfl rfl rfl (wP rfl ?_))))))))
  refine wJ ?_
  refine Av rfl rfl rfl rfl (fun W hp=>Ae.load 0 tH rfl ((fun W hp=>hq1.hp hp) W hp) rfl) ?_
  refine Ab rfl rfl rfl rfl rfl rfl (by kernel_rfl) (fun W hp=>MT W q cap2 (rg rs k) hlk (hq2.hp hp)) ?_
  refine wP rfl (Aa (zE ?_))
  refine Al rfl (fun h=> ?_) (fun h=> ?_)
  ·refine zA (zB (wP rfl (Aa (zE (zO (zQ (zP (zP (zQ (zP ?_))))))))))
   have h3:rs.any (fun l=> !I4 l)=true:=List.any_eq_true.2 ⟨_,List.mem_of_getElem? (AN hk),h⟩
   exact Af tH rfl (.tmp rfl) () (by unfold Ly;rw[if_neg hN,if_neg h0,if_neg h1,if_neg h2,if_pos h3]) trivial fun W _=>Ag.nil _ _
  ·have hg:I4 (rg rs k)=true:=by have h':(!I4 (rg rs k))=false:=h;simpa using h'
   refine zI (zN (zE (zB (wP rfl (wP rfl (wP rfl (Aa ?_)))))))
   refine At (k+1) ⟨hk,fun j hj=> ?_⟩ (by omega) ⟨rfl,congrArg (fun z=>some (Value.int .i64 z)) (A6 (x:=(k:Int)+1) (by omega) (by omega)),trivial⟩ [] rfl
   by_cases e:j=k
   ·subst e;exact hg
   ·exact hok3 j (by omega)
 have e:k=rs.length:=by simp at h;omega
 subst e
 clear h
 have h3: ¬(rs.any (fun l=> !I4 l)=true):=fun h=>by
  obtain⟨l,hl,h⟩:=List.any_eq_true.1 h
  obtain⟨i,hi,e2⟩:=List.getElem_of_mem hl
  have:=hok3 i hi
  rw[show rg rs i=l by simp[rg,hi,e2]] at this
  rw[this] at h;cases h
 refine zJ (zK (zK (zL (zE (zA (zA (zB (wP rfl (wB 0 rfl rfl rfl ?_)))))))))
 refine Ab rfl rfl rfl rfl rfl rfl (by kernel_rfl) (fun W hp=>M0 W _ cap rs hn hl (hR.below (Nat.le_refl _) hp.below)) ?_
 refine Aa (zE ?_)
 refine Al rfl (fun h=> ?_) (fun h=> ?_)
 ·refine zA (zB (wP rfl (Aa (zE (zO (zP ?_))))))
  exact Af tH rfl (.tmp rfl) () (by unfold Ly;rw[if_neg hN,if_neg h0,if_neg h1,if_neg h2,if_neg h3,if_pos h]) trivial fun W _=>Ag.nil _ _
 have h4: ¬(crs rs=true):=by rw[h];decide
 clear h
 refine zI (zE (zA (zA (zB (wP rfl (wB 0 rfl rfl rfl ?_))))))
 refine Ab rfl rfl rfl rfl rfl rfl (by kernel_rfl) (fun W hp=>MX W _ cap rs hn hl hne hpos (hR.below (Nat.le_refl _) hp.below)) ?_
 refine wP rfl (wP rfl ?_)
 refine AR 84 rfl (fun h84=> ?_) (fun h84=> ?_)
 ·refine Ao rfl rfl ?_
  iterate 3 refine Ao rfl rfl ?_
  refine wP rfl (Aa ?_)
  have h5:(!GR rs|| !Kf rs)=true:=by rw[show(!GR rs)=true from h84];rfl
  refine zE (zR rfl (zA (zB (wP rfl (Aa (zE (zO (zP ?_))))))))
  exact Af tH rfl (.tmp rfl) () (by unfold Ly;rw[if_neg hN,if_neg h0,if_neg h1,if_neg h2,if_neg h3,if_neg h4,if_pos h5]) trivial fun W _=>Ag.nil _ _
 ·refine wP rfl (wB 0 rfl rfl rfl ?_)
  refine Ab rfl rfl rfl rfl rfl rfl (by kernel_rfl) (fun W hp=>OW W _ cap rs hn hl (hR.below (Nat.le_refl _) hp.below)) ?_
  refine wP rfl (wP rfl (Aa ?_))
  have h':(!GR rs)=false:=h84
  refine zE ?_
  refine Al rfl (fun h=> ?_) (fun h=> ?_)
  ·refine zA (zB (wP rfl (Aa (zE (zO (zP ?_))))))
   have h5:(!GR rs|| !Kf rs)=true:=by rw[h',show(!Kf rs)=true from h];rfl
   exact Af tH rfl (.tmp rfl) () (by unfold Ly;rw[if_neg hN,if_neg h0,if_neg h1,if_neg h2,if_neg h3,if_neg h4,if_pos h5]) trivial fun W _=>Ag.nil _ _
  ·refine zI (zE (zA (zB (wP rfl (Aa (zE (zO ?_)))))))
   have h5: ¬((!GR rs|| !Kf rs)=true):=by rw[h',show(!Kf rs)=false from h];decide
   exact Af tH rfl (.tmp rfl) () (by unfold Ly;rw[if_neg hN,if_neg h0,if_neg h1,if_neg h2,if_neg h3,if_neg h4,if_neg h5]) trivial fun W _=>Ag.nil _ _
end
section
open Go Go.RowKit Go.Am
theorem EX (a:Int):(sgI a= -1∧a<0)∨(sgI a=0∧a=0)∨(sgI a=1∧a>0):=by
 unfold sgI
 rcases Int.lt_trichotomy a 0 with h|h|h
 ·rw[if_pos h];exact .inl ⟨rfl,h⟩
 ·rw[if_neg (by omega),if_neg (by omega)];exact .inr (.inl ⟨rfl,h⟩)
 ·rw[if_neg (by omega),if_pos h];exact .inr (.inr ⟨rfl,h⟩)
theorem Rw {l:List Sd} (hr: ∀s∈l,inR s) {i:Nat} (hi:i<l.length):Lx l i=sgI ((sd l (nxt l.length i)).x-(sd l i).x)∧LF l i=sgI ((sd l (nxt l.length i)).y-(sd l i).y):=by
 obtain⟨s1,s2,s3,s4⟩:=BO hr hi
 obtain⟨n1,n2,n3,n4⟩:=BO hr (Bt hi)
 unfold Lx LF
 rw[d64 ⟨n1,n2⟩ ⟨s1,s2⟩,d64 ⟨n3,n4⟩ ⟨s3,s4⟩]
 exact⟨rfl,rfl⟩
theorem Lg {l:List Sd} (hr: ∀s∈l,inR s) {i:Nat} (hi:i<l.length):axR l i=true↔ ¬(((sd l (nxt l.length i)).x-(sd l i).x=0)↔((sd l (nxt l.length i)).y-(sd l i).y=0)):=by
 obtain⟨e1,e2⟩:=Rw hr hi
 unfold axR
 rw[e1,e2]
 generalize (sd l (nxt l.length i)).x-(sd l i).x=a
 generalize (sd l (nxt l.length i)).y-(sd l i).y=b
 rcases EX a with⟨ea,ha⟩|⟨ea,ha⟩|⟨ea,ha⟩<;>rcases EX b with⟨eb,hb⟩|⟨eb,hb⟩|⟨eb,hb⟩<;>rw[ea,eb]
 ·rw[show(w64 (w64 (-1* -1)+w64 (-1* -1))==1)=false by decide];constructor<;>intro h;cases h;omega
 ·rw[show(w64 (w64 (-1* -1)+w64 (0*0))==1)=true by decide];constructor<;>intro h;omega;rfl
 ·rw[show(w64 (w64 (-1* -1)+w64 (1*1))==1)=false by decide];constructor<;>intro h;cases h;omega
 ·rw[show(w64 (w64 (0*0)+w64 (-1* -1))==1)=true by decide];constructor<;>intro h;omega;rfl
 ·rw[show(w64 (w64 (0*0)+w64 (0*0))==1)=false by decide];constructor<;>intro h;cases h;omega
 ·rw[show(w64 (w64 (0*0)+w64 (1*1))==1)=true by decide];constructor<;>intro h;omega;rfl
 ·rw[show(w64 (w64 (1*1)+w64 (-1* -1))==1)=false by decide];constructor<;>intro h;cases h;omega
 ·rw[show(w64 (w64 (1*1)+w64 (0*0))==1)=true by decide];constructor<;>intro h;omega;rfl
 ·rw[show(w64 (w64 (1*1)+w64 (1*1))==1)=false by decide];constructor<;>intro h;cases h;omega
theorem JS {l:List Sd} (hr: ∀s∈l,inR s) {i:Nat} (hi:i<l.length) (h1:axR l i=true) (h2:axR l (prv l.length i)=true):
  (JF l i≠0↔ ¬(((sd l i).x-(sd l (prv l.length i)).x=0)↔((sd l (nxt l.length i)).x-(sd l i).x=0)))∧(JF l i≠0→(JF l i<0↔EM (sd l (prv l.length i)) (sd l i) (sd l (nxt l.length i))=false)):=by
 have a1:=(Lg hr hi).1 h1
 have a2:=(Lg hr (Dc hi)).1 h2
 obtain⟨e1,e2⟩:=Rw hr hi
 obtain⟨e3,e4⟩:=Rw hr (Dc hi)
 rw[SO hi] at a2 e3 e4
 have i1:=BO hr hi
 have i2:=BO hr (Bt hi)
 have i3:=BO hr (Dc hi)
 rw[LX i3 i1 i2,decide_eq_false_iff_not]
 unfold JF
 rw[e1,e2,e3,e4]
 generalize (sd l (nxt l.length i)).x-(sd l i).x=c at*
 generalize (sd l (nxt l.length i)).y-(sd l i).y=d at*
 generalize (sd l i).x-(sd l (prv l.length i)).x=a at*
 generalize (sd l i).y-(sd l (prv l.length i)).y=b at*
 have pp: ∀x y:Int,x>0→y>0→x*y>0:=fun x y h h'=>Int.mul_pos h h'
 have pn: ∀x y:Int,x>0→y<0→x*y<0:=fun x y h h'=>Int.mul_neg_of_pos_of_neg h h'
 have np: ∀x y:Int,x<0→y>0→x*y<0:=fun x y h h'=>Int.mul_neg_of_neg_of_pos h h'
 have nn: ∀x y:Int,x<0→y<0→x*y>0:=fun x y h h'=>Int.mul_pos_of_neg_of_neg h h'
 by_cases ha:a=0
 ·subst ha
  have hb:b≠0:=by omega
  rw[show sgI 0=0 from rfl,Int.zero_mul,Int.zero_mul]
  by_cases hd:d=0
  ·subst hd
   have hc:c≠0:=by omega
   rcases EX b with⟨eb,hb'⟩|⟨eb,hb'⟩|⟨eb,hb'⟩<;>rcases EX c with⟨ec,hc'⟩|⟨ec,hc'⟩|⟨ec,hc'⟩<;>first|omega|skip
   ·rw[eb,ec,show w64 (w64 0-w64 (-1* -1))= -1 by decide];have:=nn b c hb' hc';omega
   ·rw[eb,ec,show w64 (w64 0-w64 (-1*1))=1 by decide];have:=np b c hb' hc';omega
   ·rw[eb,ec,show w64 (w64 0-w64 (1* -1))=1 by decide];have:=pn b c hb' hc';omega
   ·rw[eb,ec,show w64 (w64 0-w64 (1*1))= -1 by decide];have:=pp b c hb' hc';omega
  ·have hc:c=0:=by omega
   subst hc
   rw[show sgI 0=0 from rfl,Int.mul_zero,show w64 (w64 0-w64 0)=0 by decide]
   omega
 ·have hb:b=0:=by omega
  subst hb
  rw[show sgI 0=0 from rfl,Int.zero_mul,Int.zero_mul]
  by_cases hc:c=0
  ·subst hc
   have hd:d≠0:=by omega
   rcases EX a with⟨eb,hb'⟩|⟨eb,hb'⟩|⟨eb,hb'⟩<;>rcases EX d with⟨ec,hc'⟩|⟨ec,hc'⟩|⟨ec,hc'⟩<;>first|omega|skip
   ·rw[eb,ec,show w64 (w64 (-1* -1)-w64 0)=1 by decide];have:=nn a d hb' hc';omega
   ·rw[eb,ec,show w64 (w64 (-1*1)-w64 0)= -1 by decide];have:=np a d hb' hc';omega
   ·rw[eb,ec,show w64 (w64 (1* -1)-w64 0)= -1 by decide];have:=pn a d hb' hc';omega
   ·rw[eb,ec,show w64 (w64 (1*1)-w64 0)=1 by decide];have:=pp a d hb' hc';omega
  ·have hd:d=0:=by omega
   subst hd
   rw[show sgI 0=0 from rfl,Int.mul_zero,show w64 (w64 0-w64 0)=0 by decide]
   omega
theorem Va {l:List Sd} (hr: ∀s∈l,inR s):I4 l=shp l:=by
 rw[Bool.eq_iff_iff]
 constructor
 ·intro h
  unfold I4 at h
  obtain⟨h1,h2⟩:=Bool.and_eq_true_iff.1 h
  have ok: ∀i,i<l.length→axR l i=true∧JF l i≠0:=fun i hi=>by
   have:=List.all_eq_true.1 h1 i (List.mem_range.2 hi)
   unfold okR at this
   obtain⟨a,b⟩:=Bool.and_eq_true_iff.1 this
   exact⟨a,by simpa using b⟩
  exact Wh hr (of_decide_eq_true h2) fun i hi=>⟨(Lg hr hi).1 (ok i hi).1,(JS hr hi (ok i hi).1 (ok _ (Dc hi)).1).1.1 (ok i hi).2⟩
 ·intro h
  have ax: ∀i,i<l.length→axR l i=true:=fun i hi=>(Lg hr hi).2 (Di hr h hi).1
  unfold I4
  rw[decide_eq_true (Jp h),Bool.and_true]
  refine List.all_eq_true.2 fun i hi=> ?_
  have hi:=List.mem_range.1 hi
  have:=(JS hr hi (ax i hi) (ax _ (Dc hi))).1.2 (Di hr h hi).2
  unfold okR
  rw[ax i hi,beq_eq_false_iff_ne.2 this];rfl
theorem Vf {l:List Sd} (hr: ∀s∈l,inR s) (h:shp l=true) {i:Nat} (hi:i<l.length):JF l i≠0∧(JF l i<0↔EM (sd l (prv l.length i)) (sd l i) (sd l (nxt l.length i))=false):=by
 have ax: ∀i,i<l.length→axR l i=true:=fun i hi=>(Lg hr hi).2 (Di hr h hi).1
 have t:=JS hr hi (ax i hi) (ax _ (Dc hi))
 have hne:=t.1.2 (Di hr h hi).2
 exact⟨hne,t.2 hne⟩
theorem YP {l:List Sd} (hr: ∀s∈l,inR s) (h:shp l=true) {i:Nat} (hi:i<l.length):Hr l i=Ck l i:=by
 have t:=(Vf hr h hi).2
 unfold Hr Ck IQ
 cases hl:EM (sd l (prv l.length i)) (sd l i) (sd l (nxt l.length i)) with
 |true=>rw[decide_eq_false (fun e=>by rw[t.1 e] at hl;cases hl)];rfl
 |false=>
  rw[decide_eq_true (t.2 hl),Bool.true_and,Bool.false_or]
  have e: ∀a b:Int,(!(false||false||(a !=b)))=(!false&& !false&&(b==a)):=fun a b=>by
   by_cases h:a=b
   ·subst h;simp
   ·rw[bne_iff_ne.2 h,beq_eq_false_iff_ne.2 (fun x=>h x.symm)];rfl
  cases(sd l i).gable<;>cases(sd l (prv l.length i)).gable<;>first|rfl|exact e _ _
theorem YJ {rs:List (List Sd)} (hin:GT rs) (hs: ∀l∈rs,shp l=true):Kf rs=jnd rs:=by
 unfold Kf jnd
 congr 1
 rw[Bool.eq_iff_iff,List.all_eq_true,List.all_eq_true]
 have e: ∀l∈rs,((List.range l.length).all (Hr l))=CH l:=fun l hl=>Dr fun i hi=>YP (hin l hl) (hs l hl) hi
 constructor<;>intro h l hl
 ·rw[←e l hl];exact h l hl
 ·rw[e l hl];exact h l hl
theorem YB {l:List Sd} (h: ∀s∈l,inR s): ∀k,k≤l.length→k≤1000000→twR l k=AB (Bo l) k∧ -(k*4294967296:Int)≤twR l k∧twR l k≤k*4294967296
 |0,_,_=>⟨rfl,by simp[twR],by simp[twR]⟩
 |k+1,hk,hm=>by
  obtain⟨h1,h2,h3⟩:=YB h k (by omega) (by omega)
  have hs:=BO h (show k<l.length by omega)
  have hn:=BO h (Bt (show k<l.length by omega))
  obtain⟨a1,a2⟩:=HQ hs.1 hs.2.1 hn.2.2.1 hn.2.2.2
  obtain⟨b1,b2⟩:=HQ hs.2.2.1 hs.2.2.2 hn.1 hn.2.1
  have e:twR l (k+1)=twR l k+Bo l k:=by
   show w64 (w64 (twR l k+w64 ((sd l k).x*(sd l (nxt l.length k)).y))-w64 ((sd l (nxt l.length k)).x*(sd l k).y))=_
   unfold Bo
   rw[Int.mul_comm (sd l (nxt l.length k)).x,As (x:=(sd l k).x*_) (by omega) (by omega),As (x:=(sd l k).y*_) (by omega) (by omega),As (x:=twR l k+_) (by omega) (by omega)]
   rw[As (by omega) (by omega)];omega
  have ec:Bo l k=(sd l k).x*(sd l (nxt l.length k)).y-(sd l k).y*(sd l (nxt l.length k)).x:=rfl
  refine⟨by rw[e,h1];rfl, ?_, ?_⟩<;>rw[e,ec]<;>push_cast<;>omega
theorem Wb {l:List Sd} (h: ∀s∈l,inR s) (px py:Int): ∀k,k≤l.length→Gf l px py k=BA l px py k
 |0,_=>rfl
 |k+1,hk=>by
  have hs:=BO h (show k<l.length by omega)
  have hn:=BO h (Bt (show k<l.length by omega))
  have e:K5 (sd l k) (sd l (nxt l.length k)) px py=CS (sd l k) (sd l (nxt l.length k)) px py:=by
   unfold K5 CS
   rw[d64 ⟨hn.1,hn.2.1⟩ ⟨hs.1,hs.2.1⟩]
   generalize sd l k=t
   generalize sd l (nxt l.length k)=u
   by_cases hx:t.x=u.x
   ·rw[beq_iff_eq.2 hx,beq_iff_eq.2 (show u.x-t.x=0 by omega),hx]
    rw[Bool.true_and,Bool.and_assoc]
    congr 1
    unfold loy hiy
    by_cases h1:t.y>py<;>by_cases h2:u.y>py
    ·rw[decide_eq_true h1,decide_eq_true h2,decide_eq_false (by split<;>omega)];rfl
    ·rw[decide_eq_true h1,decide_eq_false h2,decide_eq_true (by split<;>omega),decide_eq_true (by split<;>omega)];rfl
    ·rw[decide_eq_false h1,decide_eq_true h2,decide_eq_true (by split<;>omega),decide_eq_true (by split<;>omega)];rfl
    ·rw[decide_eq_false h1,decide_eq_false h2,decide_eq_false (p:=py<_) (by split<;>omega),Bool.and_false];rfl
   ·rw[beq_eq_false_iff_ne.2 hx,beq_eq_false_iff_ne.2 (show u.x-t.x≠0 by omega)];rfl
  show(if K5 (sd l k) (sd l (nxt l.length k)) px py=true then !Gf l px py k else Gf l px py k)=(if CS (sd l k) (sd l (nxt l.length k)) px py=true then !BA l px py k else BA l px py k)
  rw[e,Wb h px py k (by omega)]
theorem YF {rs:List (List Sd)} (hin:GT rs) (hs: ∀l∈rs,shp l=true) (hc:crs rs=false) (hT:tot rs≤24) (hpos:0<rs.length):GR rs=plc rs:=by
 have ar: ∀r,r<rs.length→twR (rg rs r) (rg rs r).length=BP (rg rs r) (rg rs r).length∧BP (rg rs r) (rg rs r).length≠0:=fun r hr=>by
  have hm:rg rs r∈rs:=List.mem_of_getElem? (AN hr)
  have hlen:=C8 hm
  rw[(YB (hin _ hm) _ (Nat.le_refl _) (by omega)).1,(Dq (hin _ hm) _ (Nat.le_refl _) (by omega)).1]
  exact⟨rfl,Yt hin hs hc hr⟩
 have pk: ∀r s,r<rs.length→s<rs.length→r≠0→ML rs r s=Dz rs r s:=fun r s hr hs' h0=>by
  unfold ML Dz
  rw[Wb (hin _ (List.mem_of_getElem? (AN hs'))) _ _ _ (Nat.le_refl _),beq_eq_false_iff_ne.2 h0,Bool.or_false]
 have all: ∀r,r<rs.length→r≠0→((List.range rs.length).all (ML rs r))=((List.range rs.length).all (Dz rs r)):=fun r hr h0=>Dr fun s hs'=>pk r s hr hs' h0
 rw[Bool.eq_iff_iff]
 constructor
 ·intro h
  unfold GR at h
  obtain⟨h1,h2⟩:=Bool.and_eq_true_iff.1 h
  refine List.all_eq_true.2 fun r hr=> ?_
  have hr:=List.mem_range.1 hr
  have hr2:=List.all_eq_true.1 h2 r (List.mem_range.2 hr)
  obtain⟨a1,a2⟩:=ar r hr
  unfold Bz
  by_cases e:r=0
  ·subst e
   rw[a1] at h1
   have h1: ¬BP (rg rs 0) (rg rs 0).length≤0:=by simpa using h1
   rw[decide_eq_true (by omega)]
   exact Bool.and_eq_true_iff.2 ⟨rfl,List.all_eq_true.2 fun k _=>by unfold Dz;simp⟩
  ·unfold RE at hr2
   rw[beq_eq_false_iff_ne.2 e,Bool.false_or,a1] at hr2
   obtain⟨b1,b2⟩:=Bool.and_eq_true_iff.1 hr2
   have b1: ¬BP (rg rs r) (rg rs r).length≥0:=by simpa using b1
   rw[decide_eq_false (by omega),beq_eq_false_iff_ne.2 e, ←all r hr e,b2];rfl
 ·intro h
  have pr: ∀r,r<rs.length→Bz rs r=true:=fun r hr=>List.all_eq_true.1 h r (List.mem_range.2 hr)
  unfold GR
  have h0:=pr 0 hpos
  unfold Bz at h0
  obtain⟨c1,_⟩:=Bool.and_eq_true_iff.1 h0
  obtain⟨a1,a2⟩:=ar 0 hpos
  have c2:BP (rg rs 0) (rg rs 0).length>0:=by simpa using c1
  rw[a1,decide_eq_false (by omega),Bool.not_false,Bool.true_and]
  refine List.all_eq_true.2 fun r hr=> ?_
  have hr:=List.mem_range.1 hr
  unfold RE
  by_cases e:r=0
  ·subst e;rfl
  ·have h1:=pr r hr
   unfold Bz at h1
   obtain⟨d1,d2⟩:=Bool.and_eq_true_iff.1 h1
   obtain⟨a1,a2⟩:=ar r hr
   rw[beq_eq_false_iff_ne.2 e,beq_iff_eq,decide_eq_false_iff_not] at d1
   rw[a1,decide_eq_false (by omega),all r hr e,d2]
   simp
theorem T0 (rs:List (List Sd)):Ly rs=chk rs:=by
 unfold Ly chk
 by_cases hN:rs.any (fun l=>l.length==0)=true
 ·rw[if_pos hN,if_pos hN]
 rw[if_neg hN,if_neg hN]
 by_cases h0:tot rs=0
 ·rw[if_pos h0,if_pos h0]
 rw[if_neg h0,if_neg h0]
 by_cases h1:tot rs>24
 ·rw[if_pos h1,if_pos h1]
 rw[if_neg h1,if_neg h1]
 by_cases h2:rs.flatten.any (fun s=> !rgd s)=true
 ·rw[if_pos h2,if_pos h2]
 rw[if_neg h2,if_neg h2]
 have hg: ∀l∈rs, ∀s∈l,rgd s=true:=SJ (by simpa using h2)
 have hin:GT rs:=fun l hl s hs=>HZ (hg l hl s hs)
 have e3:rs.any (fun l=> !I4 l)=rs.any (fun l=> !shp l):=by
  rw[Bool.eq_iff_iff,List.any_eq_true,List.any_eq_true]
  constructor<;>rintro⟨l,hl,h⟩
  ·exact⟨l,hl,by rw[←Va (hin l hl)];exact h⟩
  ·exact⟨l,hl,by rw[Va (hin l hl)];exact h⟩
 rw[e3]
 by_cases h3:rs.any (fun l=> !shp l)=true
 ·rw[if_pos h3,if_pos h3]
 rw[if_neg h3,if_neg h3]
 have hs: ∀l∈rs,shp l=true:=fun l hl=>by
  cases h:shp l with
  |true=>rfl
  |false=>exact absurd (List.any_eq_true.2 ⟨l,hl,by rw[h];rfl⟩) h3
 by_cases h4:crs rs=true
 ·rw[if_pos h4,if_pos h4]
 rw[if_neg h4,if_neg h4]
 have hpos:0<rs.length:=by
  cases rs with
  |nil=>exact absurd rfl h0
  |cons x rs=>simp
 rw[YF hin hs (by simpa using h4) (by omega) hpos,YJ hin hs]
end
section
open Go Go.RowKit Go.Am Go.Lib
set_option maxRecDepth 10000
-- BOXES 5
-- CODE2
theorem XL {rs:List (List Sd)} {r:Nat} (hr:r<rs.length) (i:Nat) (hi:i<(rg rs r).length):rs.flatten[tot (rs.take r)+i]? =some (sd (rg rs r) i):=by
 have e:rs.flatten=(rs.take r).flatten++(rg rs r++(rs.drop (r+1)).flatten):=by
  conv=>lhs;rw[←List.take_append_drop r rs,List.drop_eq_getElem_cons hr,List.flatten_append,List.flatten_cons]
  rw[show rs[r]=rg rs r by unfold rg;rw[List.getD_eq_getElem?_getD,List.getElem?_eq_getElem hr];rfl]
 have hl:(rs.take r).flatten.length=tot (rs.take r):=List.length_flatten
 rw[e,List.getElem?_append_right (by omega),hl,Nat.add_sub_cancel_left,List.getElem?_append_left hi]
 exact Cz hi
theorem Yo {rs:List (List Sd)} {r:Nat} (hr:r<rs.length) {i:Nat} (hi:i<(rg rs r).length):sd rs.flatten (tot (rs.take r)+i)=sd (rg rs r) i:=by
 have h1:=XL hr i hi
 have h2:=Cz (l:=rs.flatten) (List.getElem?_eq_some_iff.1 h1).1
 rw[h1] at h2
 exact(Option.some.inj h2).symm
theorem Vec.frs {V:Vec} {l:List FrP} (hV:V.OK 5 l.length (frC l)) (h0:0<l.length): ∃g cap,V.val l.length= .slice (some ⟨g,0,none⟩) l.length cap∧
  ∀ {W0 W:World} {bxs:List Bx},Hp W0 bxs W→ ∀k,nth bxs k=some (V.bx 39 (frC l))→ ∀m f,l[m]? =some f→Ae W g (0+m*5) (frV f).cells.toList:=by
 obtain⟨p,cap,junk⟩:=V
 cases p with
 |none=>have:=hV.nil rfl;omega
 |some g=>
  refine⟨g,cap,rfl,fun {W0 W bxs} hp k hk m f hf=> ?_⟩
  obtain⟨hm,rfl⟩:=List.getElem?_eq_some_iff.1 hf
  refine DC hp k (A:=frC (l.take m)) (C:=frC (l.drop (m+1))++junk) hk ?_ (by rw[XY,List.length_take];omega)
  have e:frC l=frC (l.take m)++((frV l[m]).cells.toList++frC (l.drop (m+1))):=by
   conv=>lhs;rw[←List.take_append_drop m l,List.drop_eq_getElem_cons hm,Ts]
   rfl
  rw[e,List.append_assoc,List.append_assoc]
theorem Vec.sds {V:Vec} {l:List Sd} (hV:V.OK 7 l.length (cellsOf l)) (h0:0<l.length): ∃g cap,V.val l.length=slv (some ⟨g,0,none⟩) l.length cap∧
  ∀ {W0 W:World} {bxs:List Bx},Hp W0 bxs W→ ∀k,nth bxs k=some (V.bx 42 (cellsOf l))→ ∀m,m<l.length→Ae W g (0+m*7) (sd l m).cells:=by
 obtain⟨p,cap,junk⟩:=V
 cases p with
 |none=>have:=hV.nil rfl;omega
 |some g=>
  refine⟨g,cap,rfl,fun {W0 W bxs} hp k hk m hm=> ?_⟩
  have hrow:=Ae.of_bx hp k hk rfl
  have hring:Ef W g 0 l:=Ef.of_cells hrow.lt fun j u hj=>by
   refine hrow.get j u ?_
   show(cellsOf l++junk)[j]? =some u
   rw[List.getElem?_append_left (List.getElem?_eq_some_iff.1 hj).1]
   exact hj
  exact hring.get m _ (Cz hm)
-- BOXES 15
-- CODE2
theorem Ae.keep {W W':World} {b off g:Nat} {c:List Value} (h:Ae W b off c) (hk:GY W W' g) (hne:b≠g):Ae W' b off c:=by
 refine⟨Nat.lt_of_lt_of_le h.lt hk.size,fun j x hx=> ?_⟩
 have h1:=h.get j x hx
 have h2:=hk.at_ b hne h.lt
 rw[←h1]
 simp only[World.cell?,h2]
theorem Pg (V:Vec) (n:Nat):Nat.beq (V.val n).cells.toList.length 1=true∧Dg (V.val n).cells.toList=true∧(V.val n).cells.toList=[V.val n]:=by
 obtain⟨p,c,j⟩:=V
 cases p<;>exact⟨rfl,rfl,rfl⟩
theorem Vec.num {V:Vec} {l:List Rat} (hV:V.OK 1 l.length (nS l)): ∃p cap,V.val l.length= .slice p l.length cap∧(0<l.length→ ∃g,p=some ⟨g,0,none⟩∧
  ∀ {W0 W:World} {bxs:List Bx},Hp W0 bxs W→ ∀k,nth bxs k=some (V.bx 37 (nS l))→ ∀i (hi:i<l.length),Ae W g (0+i*1) [str (Ak l[i])]):=by
 obtain⟨p,cap,junk⟩:=V
 cases p with
 |none=>
  have h0:=hV.nil rfl
  exact⟨none,0,by rw[h0];rfl,fun h=>by omega⟩
 |some g=>
  refine⟨some ⟨g,0,none⟩,cap,rfl,fun _=>⟨g,rfl,fun {W0 W bxs} hp k hk i hi=> ?_⟩⟩
  exact DC hp k (A:=nS (l.take i)) (C:=nS (l.drop (i+1))++junk) hk (by rw[Jl hi];simp only[List.append_assoc]) (by rw[Dm,List.length_take];omega)
theorem VC {rs:List (List Sd)} {i:Nat} (hi:i<tot rs):(fr (Aw rs) i).st=((sd rs.flatten i).plate:Rat):=by
 obtain⟨r,j,hr,hj,e⟩:=Tx hi
 have h1:=Tg hr hj
 have h2:=Yo hr hj
 rw[←e] at h1 h2
 have h3:=FO (F:=Aw rs) (i:=i) (by rw[Ed];exact hi)
 rw[h1] at h3
 rw[←Option.some.inj h3,h2];rfl
theorem aD {N:Nat} {W0:World} {D:List Deferred} {Q:Exit→Act→World→Prop} {e:Exit} {env:Env} {bxs bxs':List Bx} (h:bxs=bxs') (h2:NE N D Q e env (Hp W0 bxs')):NE N D Q e env (Hp W0 bxs):=h▸h2
abbrev bxE (b:Nat) (t:TypeId) (v:Value):Bx:=⟨b,t,[v],true,none⟩
abbrev bxN (x:Nat×Nat×List Value) (l:List Rat):Bx:=⟨x.1,37,nS l++x.2.2,true,none⟩
abbrev okV (x:Nat×Nat×List Value) (l:List Rat):Prop:=(⟨some x.1,x.2.1,x.2.2⟩:Vec).OK 1 l.length (nS l)
abbrev slN (x:Nat×Nat×List Value) (l:List Rat):Value:= .slice (some ⟨x.1,0,none⟩) l.length x.2.1
theorem Oi (W:World) (p:Option Addr) (cap:Nat) (rs:List (List Sd)) (hn:rs.length<1099511627776) (hR:AY W p rs) (hc:chk rs=0) (hd:I2 W) (hv:BN W) (ht:Bd W):
  Ai Tryz.prog 62 #[AX p rs.length cap] W (fun x:Vec×Vec=> .tuple #[x.1.val (Aw rs).length,x.2.val (B8 rs).length, .int .i64 0]) (fun x=>x.1.OK 5 (Aw rs).length (frC (Aw rs))∧x.2.OK 1 (B8 rs).length (nS (B8 rs)))
   (fun x=>[x.1.bx 39 (frC (Aw rs)),x.2.bx 37 (nS (B8 rs))]):=by
 obtain⟨hne,hT24,hT0⟩:=Cf hc
 obtain⟨hrg,_⟩:=By hc
 have eF:=Ed rs
 have eS:rs.flatten.length=tot rs:=List.length_flatten
 have hsne:=Ng hc
 obtain⟨T,hTe⟩: ∃T,T=tot rs:=⟨_,rfl⟩
 rw[←hTe] at eF eS hT24 hT0
 refine Ad (args:=[AX p rs.length cap]) Tryz.func62 rfl rfl rfl ?_
 refine zA (zB ?_)
 (refine A0 rfl rfl rfl rfl ?_;intro)
 (refine An Tryz.hZ rfl rfl rfl rfl ?_;intro)
 (refine An Tryz.hZ rfl rfl rfl rfl ?_;intro)
 (refine An Tryz.hZ rfl rfl rfl rfl ?_;intro)
 refine Aa ?_
 rename_i b1 b2 b3 b4
 refine zE (zA (zB (wB 0 rfl rfl rfl ?_)))
 refine Ay (X:=Vec) rfl rfl rfl rfl rfl rfl (by kernel_rfl) (fun W1 hp=>LJ W1 p cap rs (by omega) (hR.hp hp) hc (hd.hp hp) (ht.hp hp)) ?_
 intro F hF
 have hF:F.OK 5 (Aw rs).length (frC (Aw rs)):=hF
 obtain⟨gF,cF,hFv,hFr⟩:=Vec.frs hF (by omega)
 rw[hFv,eF]
 refine wP rfl (wP rfl (wP rfl ?_))
 (refine An Tryz.hZ rfl rfl rfl rfl ?_;intro)
 refine wS 5 rfl rfl rfl (wP rfl (Aa ?_))
 rename_i b5
 refine zE (zA (zA (zB (wP rfl (wP rfl (Aa (zE (zS rfl (zI (zE (zA (zB (wB 0 rfl rfl rfl ?_)))))))))))))
 refine Ay (X:=Vec) rfl rfl rfl rfl rfl rfl (by kernel_rfl) (fun W1 hp=>VP W1 p cap rs (by omega) (hR.hp hp) hc) ?_
 intro S hS
 have hS:S.OK 7 rs.flatten.length (cellsOf rs.flatten):=hS
 obtain⟨gS,cS,hSv,hSr⟩:=Vec.sds hS (by omega)
 rw[hSv,eS]
 iterate 5 refine wP rfl ?_
 refine Aa (zE (zA (zA (zB (wP rfl (wP rfl (Aa (zE (zS rfl (zI (zE (zA (zB ?_)))))))))))))
 (refine An Tryz.hZ rfl rfl rfl rfl ?_;intro)
 refine Aa ?_
 rename_i b8
 refine zE (zA (zA (zB (wP rfl (wP rfl (wP rfl (Aa (zE (zH ?_)))))))))
 refine Cl ?_
 have hFr: ∀ {W0 W:World} {bxs:List Bx},Hp W0 bxs W→ ∀k,nth bxs k=some (F.bx 39 (frC (Aw rs)))→ ∀m,m<T→Ae W gF (0+m*5) (frV (fr (Aw rs) m)).cells.toList:=fun hp k hk m hm=>hFr hp k hk m _ (FO (by omega))
 have hFr4: ∀ {W0 W:World} {bxs:List Bx},Hp W0 bxs W→ ∀k,nth bxs k=some (F.bx 39 (frC (Aw rs)))→ ∀m,m<T→Ae W gF (0+m*5+4) [str (Ak ((sd rs.flatten m).plate:Rat))]:=fun hp k hk m hm=>by
  have h:=(hFr hp k hk m hm).sub 4
  rw[←VC (by omega)]
  exact h
 have hSr: ∀ {W0 W:World} {bxs:List Bx},Hp W0 bxs W→ ∀k,nth bxs k=some (S.bx 42 (cellsOf rs.flatten))→ ∀m,m<T→Ae W gS (0+m*7) (sd rs.flatten m).cells:=fun hp k hk m hm=>hSr hp k hk m (by omega)
 refine Az (X:=Nat×Vec) (fun s=>[(2,A5 b2),(3,A5 b3),(4,A5 b4),(5,A5 b5),(8,A5 b8),(32,slv (some ⟨gS,0,none⟩) T cS),(33, .int .i64 (T:Nat)),(34, .int .i64 (s.1:Nat))])
  (fun s=>[bxE b1 24 (slv p rs.length cap),bxE b2 29 (.slice none 0 0),bxE b3 50 (.slice none 0 0),bxE b4 26 (.int .i64 0),F.bx 39 (frC (Aw rs)),bxE b5 29 (.slice (some ⟨gF,0,none⟩) T cF),S.bx 42 (cellsOf rs.flatten),bxE b8 50 (s.2.val (stT rs s.1).length),s.2.bx 37 (nS (stT rs s.1))])
  (fun s=>s.1≤T∧s.2.OK 1 (stT rs s.1).length (nS (stT rs s.1))) (fun s=>T-s.1) (0,Vec.empty) ⟨Nat.zero_le _,Vec.OK.empty 1⟩ ⟨rfl,rfl,rfl,rfl,rfl,rfl,rfl,rfl,trivial⟩ [] rfl ?_
 rintro⟨i,V⟩ ⟨hi,hV⟩
 have hi:i≤T:=hi
 have hV:V.OK 1 (stT rs i).length (nS (stT rs i)):=hV
 by_cases hlt:i<T
 ·refine zA (zB (wP rfl ?_))
  refine Ac 35 (.bool true) rfl (congrArg Value.bool (decide_eq_true (by omega))) ?_
  refine Aa (zE (zA (zR rfl (zI (zE (zA (zH (zA (zB ?_)))))))))
  have hsu:=WA (rs:=rs) (i:=i) (by omega)
  have hsl:=Oo rs i (by omega)
  have hsz: ∀x∈stT rs i,Sz2 x ((sd rs.flatten i).plate:Rat):=fun x hx=>by
   have hm:sd rs.flatten i∈rs.flatten:=List.mem_of_getElem? (Cz (by omega))
   obtain⟨l,hl,hsm⟩:=List.mem_flatten.1 hm
   obtain⟨_,_,hp,_⟩:=Gp (hrg l hl _ hsm)
   exact sz2 (Ne hrg (XV hx)) (G2 (k:=5) (by show _<100000;omega) (by decide)) (by decide)
  refine wP rfl ?_
  refine wJ ?_
  refine Av rfl rfl rfl rfl (fun W hp=>Ae.load 0 tH rfl ((fun W1 hp=>hSr hp 6 rfl i hlt) W hp) rfl) ?_
  (refine An Tryz.hZ rfl rfl rfl rfl ?_;intro)
  refine wP rfl (wS 9 rfl rfl rfl (Aa ?_))
  rename_i b10
  obtain⟨cg,hcg⟩: ∃cg,cg= !(sd rs.flatten i).gable:=⟨_,rfl⟩
  rw[←hcg] at hsu
  refine zE ?_
  repeat refine AL ?_
  cases hVc:V.p with
  |none=>
   have h0:=hV.nil hVc
   have h00:stT rs i=[]:=List.length_eq_zero_iff.1 h0
   have hv0:V.val (stT rs i).length= .slice none 0 0:=by unfold Vec.val;rw[hVc]
   have hb0:V.bx 37 (nS (stT rs i))=C9:=by unfold Vec.bx;rw[hVc]
   rw[hv0,hb0]
   rw[h00] at hsu
   refine BW (X:= { U:Vec//U.OK 1 (stT rs (i+1)).length (nS (stT rs (i+1))) }) [true,true,true,true,true,true,true,false,false] (fun U=>[(2,A5 b2),(3,A5 b3),(4,A5 b4),(5,A5 b5),(8,A5 b8),(32,slv (some ⟨gS,0,none⟩) T cS),(33, .int .i64 (T:Nat)),(34, .int .i64 (i:Nat))])
    (fun U=>[bxE b1 24 (slv p rs.length cap),bxE b2 29 (.slice none 0 0),bxE b3 50 (.slice none 0 0),bxE b4 26 (.int .i64 0),F.bx 39 (frC (Aw rs)),bxE b5 29 (.slice (some ⟨gF,0,none⟩) T cF),S.bx 42 (cellsOf rs.flatten),bxE b8 50 (U.1.val (stT rs (i+1)).length),U.1.bx 37 (nS (stT rs (i+1)))])
    2 [bxE b1 24 (slv p rs.length cap),bxE b2 29 (.slice none 0 0),bxE b3 50 (.slice none 0 0),bxE b4 26 (.int .i64 0),F.bx 39 (frC (Aw rs)),bxE b5 29 (.slice (some ⟨gF,0,none⟩) T cF),S.bx 42 (cellsOf rs.flatten),bxE b8 50 (.slice none 0 0),C9,⟨b10,42,(sd rs.flatten i).cells,true,none⟩] Tryz.mixed (by kernel_rfl) ?_ ?_
   ·refine qB 7 rfl rfl rfl (qB 5 rfl rfl rfl (qP rfl ?_))
    refine qJ ?_
    refine qP rfl ?_
    refine Ap rfl rfl rfl rfl (fun W hp=>Ae.load 0 tH rfl ((fun W1 hp=>hFr4 hp 4 rfl i hlt) W hp) rfl) ?_
    refine qP rfl (CX ?_)
    refine wX ?_
    refine RS.cons ?_ (RS.nil)
    refine Ay (X:=Vec) rfl rfl rfl rfl rfl rfl (by kernel_rfl) (fun W1 hp=>OB W1 ((sd rs.flatten i).plate:Rat) 137 [A5 b10] cg (by kernel_rfl) (hv.hp hp) (ht.hp hp) fun W' hb=>by rw[hcg];exact Kr _ b10 (sd rs.flatten i) W' ((Ae.of_bx hp 9 rfl rfl).below (Nat.le_refl _) hb)) ?_;intro U hU;rw[←hsu] at hU⊢
    refine Aa (Ah ?_)
    refine wX ?_
    refine RS.cons ?_ (RS.nil)
    refine Aj 7 [U.val (stT rs (i+1)).length] tH rfl rfl rfl rfl rfl rfl rfl rfl (Pg _ _).1 (Pg _ _).2.1 (by exact Nat.le_refl 1) (by rw[(Pg _ _).2.2];rfl) ?_
    refine Aa (Ah ?_)
    refine A3 rfl (by kernel_rfl) ?_
    exact Ax ⟨U,hU⟩ ⟨rfl,rfl,rfl,rfl,rfl,rfl,rfl,rfl,trivial⟩ [0,1,2,3,4,5,6,7,10] (by decide) rfl
   intro U
   refine zN (zE (zB (wP rfl ?_)))
   refine Ac 47 (.int .i64 ((i+1:Nat):Int)) rfl (congrArg (Value.int .i64) (AM (by omega))) ?_
   refine wP rfl (Aa ?_)
   exact At (i+1,U.1) ⟨hlt,U.2⟩ (by show T-(i+1)<T-i;omega) ⟨rfl,rfl,rfl,rfl,rfl,rfl,rfl,rfl,trivial⟩ [] rfl
  |some gV=>
   obtain⟨pV,cV,jk⟩:=V
   obtain rfl:pV=some gV:=hVc
   refine BW (X:= { U:Nat×Nat×List Value//okV U (stT rs (i+1)) }) [true,true,true,true,true,true,true,false,false] (fun U=>[(2,A5 b2),(3,A5 b3),(4,A5 b4),(5,A5 b5),(8,A5 b8),(32,slv (some ⟨gS,0,none⟩) T cS),(33, .int .i64 (T:Nat)),(34, .int .i64 (i:Nat))])
    (fun U=>[bxE b1 24 (slv p rs.length cap),bxE b2 29 (.slice none 0 0),bxE b3 50 (.slice none 0 0),bxE b4 26 (.int .i64 0),F.bx 39 (frC (Aw rs)),bxE b5 29 (.slice (some ⟨gF,0,none⟩) T cF),S.bx 42 (cellsOf rs.flatten),bxE b8 50 (slN U.1 (stT rs (i+1))),bxN U.1 (stT rs (i+1))])
    2 [bxE b1 24 (slv p rs.length cap),bxE b2 29 (.slice none 0 0),bxE b3 50 (.slice none 0 0),bxE b4 26 (.int .i64 0),F.bx 39 (frC (Aw rs)),bxE b5 29 (.slice (some ⟨gF,0,none⟩) T cF),S.bx 42 (cellsOf rs.flatten),bxE b8 50 (slN (gV,cV,jk) (stT rs i)),bxN (gV,cV,jk) (stT rs i),⟨b10,42,(sd rs.flatten i).cells,true,none⟩] Tryz.mixed (by kernel_rfl) ?_ ?_
   ·refine qB 7 rfl rfl rfl (qB 5 rfl rfl rfl (qP rfl ?_))
    refine qJ ?_
    refine qP rfl ?_
    refine Ap rfl rfl rfl rfl (fun W hp=>Ae.load 0 tH rfl ((fun W1 hp=>hFr4 hp 4 rfl i hlt) W hp) rfl) ?_
    refine qP rfl (CX ?_)
    refine wX ?_
    refine RS.cons ?_ (RS.nil)
    refine BX 8 (X:=Nat×Nat×List Value) (val:=fun x=> .slice (some ⟨x.1,0,none⟩) (mrg cg (stT rs i) ((sd rs.flatten i).plate:Rat)).length x.2.1) (Φ:=fun x=>okV x (mrg cg (stT rs i) ((sd rs.flatten i).plate:Rat))) (L1:=[]) (L2:=[]) (B:=bxN (gV,cV,jk) (stT rs i)) (fun x=>bxN x (mrg cg (stT rs i) ((sd rs.flatten i).plate:Rat))) rfl rfl rfl rfl rfl rfl (by kernel_rfl) rfl rfl (fun _ _=>rfl) (fun W1 hp=>K6 W1 gV cV jk (stT rs i) ((sd rs.flatten i).plate:Rat) 137 [A5 b10] cg (by kernel_rfl) (by omega) hV (S7 rs i) hsz (hp.own.cell 8 _ rfl _ (List.mem_cons_self ..)).1 fun W' hk=>(by have hbel:=hk.below hp.below (hp.own.cell 8 _ rfl _ (List.mem_cons_self ..)).2;refine⟨⟨hv.below hbel,ht.below hbel⟩, ?_⟩;rw[hcg];exact Kr _ b10 (sd rs.flatten i) W' (Ae.keep (Ae.of_bx hp 9 rfl rfl) hk (hp.own.apart 9 8 _ _ rfl rfl (by decide) _ (List.mem_cons_self ..) _ (List.mem_cons_self ..))))) ?_;intro U hU;rw[←hsu] at hU⊢
    refine Aa (Ah ?_)
    refine wY ?_
    refine RS.cons ?_ (RS.nil)
    refine wS 7 rfl rfl rfl (Aa (Ah ?_))
    refine A3 rfl (by kernel_rfl) ?_
    exact Ax ⟨U,hU⟩ ⟨rfl,rfl,rfl,rfl,rfl,rfl,rfl,rfl,trivial⟩ [0,1,2,3,4,5,6,7,8] (by decide) rfl
   rintro⟨⟨g',c',j'⟩,hU⟩
   refine zN (zE (zB (wP rfl ?_)))
   refine Ac 47 (.int .i64 ((i+1:Nat):Int)) rfl (congrArg (Value.int .i64) (AM (by omega))) ?_
   refine wP rfl (Aa ?_)
   exact At (i+1,⟨some g',c',j'⟩) ⟨hlt,hU⟩ (by show T-(i+1)<T-i;omega) ⟨rfl,rfl,rfl,rfl,rfl,rfl,rfl,rfl,trivial⟩ [] rfl
 have e:i=T:=by omega
 subst e
 have est:stT rs i=st0 rs:=by rw[←eS];exact Oh rs
 obtain⟨pV,cV,jk⟩:=V
 have hst0:st0 rs≠[]:=fun e=>by
  have:=G9.2 (LH hsne)
  rw[e] at this;cases this
 have hstl:0<(st0 rs).length:=by
  cases h:st0 rs with
  |nil=>exact absurd h hst0
  |cons x l=>rw[List.length_cons];omega
 cases pV with
 |none=>
  have:=hV.nil rfl
  rw[est] at this
  omega
 |some gV=>
 rw[est] at hV
 refine Nj (bxs':=[bxE b1 24 (slv p rs.length cap),bxE b2 29 (.slice none 0 0),bxE b3 50 (.slice none 0 0),bxE b4 26 (.int .i64 0),F.bx 39 (frC (Aw rs)),bxE b5 29 (.slice (some ⟨gF,0,none⟩) i cF),S.bx 42 (cellsOf rs.flatten),bxE b8 50 (slN (gV,cV,jk) (st0 rs)),bxN (gV,cV,jk) (st0 rs)]) (by rw[est];rfl) ?_
 refine zA (zB (wP rfl ?_))
 refine Ac 35 (.bool false) rfl (congrArg Value.bool (decide_eq_false (by omega))) ?_
 refine Aa (zE (zA (zS rfl (zJ (zK (zK (zL (zE (zA (zB ?_))))))))))
 obtain⟨st,hst⟩: ∃st,st0 rs=base rs::st:=by
  cases h:st0 rs with
  |nil=>exact absurd h hst0
  |cons x l=>exact⟨l,by unfold base;rw[h];rfl⟩
 refine wB 7 rfl rfl rfl ?_
 refine wJ ?_
 refine Av rfl rfl rfl rfl (fun W hp=>Ae.load 0 tH rfl ((fun W1 hp=>show Ae W1 gV (0+0*1) [str (Ak (base rs))] from DC hp 8 (A:=[]) (C:=nS st++jk) rfl (by show nS (st0 rs)++jk=_;rw[hst];rfl) rfl) W hp) rfl) ?_
 (refine An Tryz.hZ rfl rfl rfl rfl ?_;intro)
 refine wS 9 rfl rfl rfl (Aa ?_)
 rename_i b11
 refine zE (zA (zA (zB (wB 5 rfl rfl rfl ?_))))
 refine Ay (X:=Nat) rfl rfl rfl rfl rfl rfl (by kernel_rfl) (fun W1 _=>Kp W1 _) ?_
 intro bp _
 refine Aa (zE (zH ?_))
 refine Nw (X:=Nat×(Nat×Nat×List Value)) (fun x=>[bxE b1 24 (slv p rs.length cap),bxE b2 29 (.slice none 0 0),bxE b3 50 (.slice none 0 0),bxE b4 26 (.int .i64 0),F.bx 39 (frC (Aw rs)),bxE b5 29 (.slice (some ⟨gF,0,none⟩) i cF),S.bx 42 (cellsOf rs.flatten),bxE b8 50 (slN x.2 (lvT rs x.1)),bxN x.2 (lvT rs x.1),bxE b11 37 (str (Ak (base rs))),bxE bp 29 (.slice (some ⟨gF,0,none⟩) i cF)])
  (fun j x=>x.1=j∧okV x.2 (lvT rs x.1)) (fun _ _=>False) (0,(gV,cV,jk)) rfl (by kernel_rfl) (KY (Aw rs) bp gF cF (by omega)) (fun _=>rfl)
  ⟨rfl,hV⟩ [] rfl (fun k x W1 _ hp=>⟨by rw[eF];exact Ae.of_bx hp 10 rfl rfl,fun m hm=>hFr hp 4 rfl m (by omega)⟩) ?_ ?_ (fun _ _ _ _ _ h=>h.elim)
 ·rintro j' ⟨j,V⟩ d l rec L hj ⟨e1,hV⟩ hrec
  obtain rfl:j=j':=e1
  have hV:okV V (lvT rs j):=hV
  obtain⟨q,hq⟩: ∃q,q=(prs (Aw rs)).getD j (0,0):=⟨_,rfl⟩
  have hqm:q∈prs (Aw rs):=by rw[hq,List.getD_eq_getElem?_getD,List.getElem?_eq_getElem hj];exact List.getElem_mem hj
  obtain⟨q1,q2,q3⟩:=HK.1 hqm
  have henc:Yu (Aw rs) j=[.int .i64 (q.1:Nat), .int .i64 (q.2:Nat)]:=by rw[hq]
  rw[henc]
  have hsuc:=WX hj
  rw[←hq] at hsuc
  obtain⟨f,hf⟩: ∃f,f=fr (Aw rs) q.1:=⟨_,rfl⟩
  obtain⟨g,hg⟩: ∃g,g=fr (Aw rs) q.2:=⟨_,rfl⟩
  have pf:f.Pl:=hf▸HL hrg (Gz (by omega))
  have pg:g.Pl:=hg▸HL hrg (Gz q2)
  have hax:f.ax=g.ax:=by rw[hf,hg];exact q3
  obtain⟨E,hE⟩: ∃E,E=eqL f g:=⟨_,rfl⟩
  have hEk:eqK (Aw rs) q=E:=by rw[hE,hf,hg]
  rw[hEk] at hsuc
  have hEl:E.length≤5:=hE▸Tq f g
  have hEz: ∀z∈E,szQ z 9:=fun z hz=>pf.meet pg (Jw (hE▸hz))
  have hlz: ∀ {t:Nat} {z:Rat},z∈lvU rs j E t→szQ z 9:=fun {t z} hz=>by
   unfold lvU at hz
   rcases(Fi _ _).1 hz with h|h
   ·exact Tj hrg (Yi h)
   ·exact hEz z (List.mem_of_mem_take (List.mem_filter.1 h).1)
  have hll: ∀t,(lvU rs j E t).length≤20000:=fun t=>XJ (by omega) hEl
  have hbz:szQ (base rs) 9:=Tj hrg (Gm.2 (.inl (LH hsne)))
  refine zA (zB (wP rfl (Aa (zE (zB (wP rfl (Aa ?_)))))))
  refine CL 13 hrec rfl ?_
  refine B6 ?_
  repeat refine AL ?_
  refine BW (X:= { U:Vec//U.OK 1 E.length (nS E) }) [true,true,true,true,true,true,true,true,false,false,false,false,false,false] (fun U=>[(8,A5 b8),(11,A5 b11),(14,U.1.val E.length),(15, .int .i64 0)])
   (fun U=>[AI L,bxE b1 24 (slv p rs.length cap),bxE b2 29 (.slice none 0 0),bxE b3 50 (.slice none 0 0),bxE b4 26 (.int .i64 0),F.bx 39 (frC (Aw rs)),bxE b5 29 (.slice (some ⟨gF,0,none⟩) i cF),S.bx 42 (cellsOf rs.flatten),bxE b8 50 (slN V (lvT rs j)),bxN V (lvT rs j),bxE b11 37 (str (Ak (base rs))),bxE bp 29 (.slice (some ⟨gF,0,none⟩) i cF),BU d,Bn l rec .busy none,U.1.bx 37 (nS E)]) 6 [AI L,bxE b1 24 (slv p rs.length cap),bxE b2 29 (.slice none 0 0),bxE b3 50 (.slice none 0 0),bxE b4 26 (.int .i64 0),F.bx 39 (frC (Aw rs)),bxE b5 29 (.slice (some ⟨gF,0,none⟩) i cF),S.bx 42 (cellsOf rs.flatten),bxE b8 50 (slN V (lvT rs j)),bxN V (lvT rs j),bxE b11 37 (str (Ak (base rs))),bxE bp 29 (.slice (some ⟨gF,0,none⟩) i cF),BU d,Bn l rec .busy none] Tryz.mixed (by kernel_rfl) ?_ ?_
  ·refine qB 6 rfl rfl rfl (qP rfl ?_)
   refine qJ ?_
   refine Ap rfl rfl rfl rfl (fun W hp=>Ae.load 0 tH rfl ((fun W1 hp=>show Ae W1 gF (0+q.1*5) (frV f).cells.toList from hf▸hFr hp 5 rfl q.1 (by omega)) W hp) rfl) ?_
   refine qB 6 rfl rfl rfl (qP rfl ?_)
   refine qJ ?_
   refine Ap rfl rfl rfl rfl (fun W hp=>Ae.load 0 tH rfl ((fun W1 hp=>show Ae W1 gF (0+q.2*5) (frV g).cells.toList from hg▸hFr hp 5 rfl q.2 (by omega)) W hp) rfl) ?_
   refine CX ?_
   refine wX ?_
   refine RS.cons ?_ (RS.nil)
   refine Ay (X:=Vec) rfl rfl rfl rfl rfl rfl (by kernel_rfl) (fun W1 hp=>hE▸O1 f g pf.ok pg.ok hax (We pf pg) (fun p hp q hq=>sz2 (pf.meet pg hp) (pf.meet pg hq) (by decide)) 2 5 9 pf.szp pf.szt pg.szp pg.szt (fun t ht=>pf.meet pg ht) (by decide) (by decide) W1 (hv.hp hp) (ht.hp hp)) ?_;intro U hU
   refine Aa (Ah ?_)
   refine wX ?_
   refine RS.cons ?_ (RS.nil)
   refine wP rfl (Aa (Ah ?_))
   refine wX ?_
   refine RS.cons ?_ (RS.cons ?_ (RS.nil))
   ·refine wP rfl (Aa (Ah ?_))
    refine wX ?_
    refine RS.cons ?_ (RS.cons ?_ (RS.nil))
    ·refine wP rfl (Aa (Ah ?_))
     refine wX ?_
     refine RS.cons ?_ (RS.nil)
     refine wP rfl (Aa (Ah ?_))
     refine wX ?_
     refine RS.cons ?_ (RS.nil)
     refine wP rfl (Aa (Ah ?_))
     refine BT rfl (by((repeat (first|refine BM.same ?_|refine BM.off rfl ?_));exact trivial)) ?_
     exact Ax ⟨U,hU⟩ ⟨rfl,rfl,rfl,rfl,trivial⟩ [0,1,2,3,4,5,6,7,8,9,10,11,12,13,14] (by decide) rfl
    ·refine wP rfl (Aa (Ah ?_))
     refine wX ?_
     refine RS.cons ?_ (RS.nil)
     refine wP rfl (Aa (Ah ?_))
     refine wX ?_
     refine RS.cons ?_ (RS.nil)
     refine wP rfl (Aa (Ah ?_))
     refine BT rfl (by((repeat (first|refine BM.same ?_|refine BM.off rfl ?_));exact trivial)) ?_
     exact Ax ⟨U,hU⟩ ⟨rfl,rfl,rfl,rfl,trivial⟩ [0,1,2,3,4,5,6,7,8,9,10,11,12,13,14] (by decide) rfl
   ·refine wP rfl (Aa (Ah ?_))
    refine wX ?_
    refine RS.cons ?_ (RS.nil)
    refine wP rfl (Aa (Ah ?_))
    refine wX ?_
    refine RS.cons ?_ (RS.nil)
    refine wP rfl (Aa (Ah ?_))
    refine wX ?_
    refine RS.cons ?_ (RS.nil)
    refine wP rfl (Aa (Ah ?_))
    refine BT rfl (by((repeat (first|refine BM.same ?_|refine BM.off rfl ?_));exact trivial)) ?_
    exact Ax ⟨U,hU⟩ ⟨rfl,rfl,rfl,rfl,trivial⟩ [0,1,2,3,4,5,6,7,8,9,10,11,12,13,14] (by decide) rfl
  rintro⟨U,hU⟩
  have hU:U.OK 1 E.length (nS E):=hU
  obtain⟨pU,cU,hUv,hUr⟩:=Vec.num hU
  have hUr:0<E.length→ ∃g,pU=some ⟨g,0,none⟩∧ ∀ {W0 W:World} {bxs:List Bx},Hp W0 bxs W→ ∀k,nth bxs k=some (U.bx 37 (nS E))→ ∀i (hi:i<E.length),Ae W g (0+i*1) [str (Ak E[i])]:=hUr
  dsimp only
  rw[hUv]
  refine zE (zA (zA (zB (wP rfl (wP rfl (Aa (zE (zS rfl (zI (zE (zA (zB (wP rfl (wP rfl (wP rfl ?_)))))))))))))))
  refine Aa (zE (zH ?_))
  refine Az (X:=Nat×(Nat×Nat×List Value)) (fun s=>[(8,A5 b8),(11,A5 b11),(70, .slice pU E.length cU),(71, .int .i64 (E.length:Nat)),(72, .int .i64 (s.1:Nat))])
   (fun s=>[AI L,bxE b1 24 (slv p rs.length cap),bxE b2 29 (.slice none 0 0),bxE b3 50 (.slice none 0 0),bxE b4 26 (.int .i64 0),F.bx 39 (frC (Aw rs)),bxE b5 29 (.slice (some ⟨gF,0,none⟩) i cF),S.bx 42 (cellsOf rs.flatten),bxE b8 50 (slN s.2 (lvU rs j E s.1)),bxN s.2 (lvU rs j E s.1),bxE b11 37 (str (Ak (base rs))),bxE bp 29 (.slice (some ⟨gF,0,none⟩) i cF),BU d,Bn l rec .busy none,U.bx 37 (nS E)])
   (fun s=>s.1≤E.length∧okV s.2 (lvU rs j E s.1)) (fun s=>E.length-s.1) (0,V) ⟨Nat.zero_le _,hV⟩ ⟨rfl,rfl,rfl,rfl,rfl,trivial⟩ [] rfl ?_
  rintro⟨t,V'⟩ ⟨ht',hV'⟩
  have ht':t≤E.length:=ht'
  have hV':okV V' (lvU rs j E t):=hV'
  by_cases htl:t<E.length
  rotate_left
  ·have e:t=E.length:=by omega
   subst e
   rw[←hsuc] at hV'
   refine Nj (bxs':=[AI L,bxE b1 24 (slv p rs.length cap),bxE b2 29 (.slice none 0 0),bxE b3 50 (.slice none 0 0),bxE b4 26 (.int .i64 0),F.bx 39 (frC (Aw rs)),bxE b5 29 (.slice (some ⟨gF,0,none⟩) i cF),S.bx 42 (cellsOf rs.flatten),bxE b8 50 (slN V' (lvT rs (j+1))),bxN V' (lvT rs (j+1)),bxE b11 37 (str (Ak (base rs))),bxE bp 29 (.slice (some ⟨gF,0,none⟩) i cF),BU d,Bn l rec .busy none,U.bx 37 (nS E)]) (by rw[hsuc]) ?_
   refine zA (zB (wP rfl ?_))
   refine Ac 73 (.bool false) rfl (congrArg Value.bool (decide_eq_false (by omega))) ?_
   refine Aa (zE (zA (zS rfl (zJ (zK (zK (zL (zN ?_))))))))
   exact B5 13 (j+1,V') hrec rfl ⟨rfl,hV'⟩ [U.bx 37 (nS E)] rfl
  obtain⟨gU,hpe,hUq⟩:=hUr (by omega)
  subst hpe
  obtain⟨z,hz⟩: ∃z,z=E[t]:=⟨_,rfl⟩
  have hzE:z∈E:=hz▸List.getElem_mem htl
  have hsu:=Vr (rs:=rs) (k:=j) htl
  rw[←hz] at hsu
  have hlen:=hll t
  refine zA (zB (wP rfl ?_))
  refine Ac 73 (.bool true) rfl (congrArg Value.bool (decide_eq_true (by omega))) ?_
  refine Aa (zE (zA (zR rfl (zI (zE (zA (zH (zA (zB ?_)))))))))
  refine wJ ?_
  refine Av rfl rfl rfl rfl (fun W hp=>Ae.load 0 tH rfl ((fun W1 hp=>show Ae W1 gU (0+t*1) [str (Ak z)] from hz▸hUq hp 14 rfl t htl) W hp) rfl) ?_
  refine wP rfl (Aa (zE (zB (wB 8 rfl rfl rfl (wP rfl (wP rfl ?_))))))
  refine BX 9 (X:=Nat×Nat×List Value) (val:=fun x=>slN x (mrg (decide (base rs<z)) (lvU rs j E t) z)) (Φ:=fun x=>okV x (mrg (decide (base rs<z)) (lvU rs j E t) z)) (L1:=[]) (L2:=[]) (B:=bxN V' (lvU rs j E t)) (fun x=>bxN x (mrg (decide (base rs<z)) (lvU rs j E t) z)) rfl rfl rfl rfl rfl rfl (by kernel_rfl) rfl rfl (fun _ _=>rfl) (fun W1 hp=> ?_) ?_
  ·refine K6 W1 V'.1 V'.2.1 V'.2.2 (lvU rs j E t) z 138 [A5 b11] (decide (base rs<z)) (by kernel_rfl) (by omega) hV' (Sl rs j E t) (fun x hx=>sz2 (hlz hx) (hEz z hzE) (by decide)) (hp.own.cell 9 _ rfl _ (List.mem_cons_self ..)).1 fun W' hk=> ?_
   have hbel:=hk.below hp.below (hp.own.cell 9 _ rfl _ (List.mem_cons_self ..)).2
   refine⟨⟨hv.below hbel,ht.below hbel⟩, ?_⟩
   exact Qi z (base rs) (sz2 (hEz z hzE) hbz (by decide)) b11 W' (hv.below hbel) (ht.below hbel) (Ae.keep (Ae.of_bx hp 10 rfl rfl) hk (hp.own.apart 10 9 _ _ rfl rfl (by decide) _ (List.mem_cons_self ..) _ (List.mem_cons_self ..)))
  intro V2 hV2
  have hV2:okV V2 (mrg (decide (base rs<z)) (lvU rs j E t) z):=hV2
  dsimp only
  rw[←hsu] at hV2⊢
  refine wS 8 rfl rfl rfl (Aa (zN (zE (zB (wP rfl ?_)))))
  refine Ac 80 (.int .i64 ((t+1:Nat):Int)) rfl (congrArg (Value.int .i64) (AM (by omega))) ?_
  refine wP rfl (Aa ?_)
  exact At (t+1,V2) ⟨htl,hV2⟩ (by show E.length-(t+1)<E.length-t;omega) ⟨rfl,rfl,rfl,rfl,rfl,trivial⟩ [] rfl
 ·rintro⟨j,V⟩ d l rec ⟨e1,hV⟩
  obtain rfl:j=(prs (Aw rs)).length:=e1
  have hV:okV V (lvT rs (prs (Aw rs)).length):=hV
  rw[T2] at hV
  refine aD (bxs':=[bxE b1 24 (slv p rs.length cap),bxE b2 29 (.slice none 0 0),bxE b3 50 (.slice none 0 0),bxE b4 26 (.int .i64 0),F.bx 39 (frC (Aw rs)),bxE b5 29 (.slice (some ⟨gF,0,none⟩) i cF),S.bx 42 (cellsOf rs.flatten),bxE b8 50 (slN V (B8 rs)),bxN V (B8 rs),bxE b11 37 (str (Ak (base rs))),bxE bp 29 (.slice (some ⟨gF,0,none⟩) i cF),BU d,Bn l rec .exhausted none]) (by dsimp only;rw[T2];rfl) ?_
  refine zN (zE ?_)
  repeat refine AL ?_
  refine BW (X:=Unit) [true,true,false,false,false] (fun _=>[(2,A5 b2),(3,A5 b3),(4,A5 b4)]) (fun _=>[bxE b2 29 (.slice (some ⟨gF,0,none⟩) i cF),bxE b3 50 (slN V (B8 rs)),bxE b4 26 (.int .i64 0),F.bx 39 (frC (Aw rs)),bxN V (B8 rs),BU d])
   3 [C9,C9,C9,C9,C9,bxE b5 29 (.slice (some ⟨gF,0,none⟩) i cF),C9,bxE b8 50 (slN V (B8 rs)),C9,C9,C9,C9,C9] Tryz.mixed (by kernel_rfl) ?_ ?_
  ·refine qB 5 rfl rfl rfl (qB 7 rfl rfl rfl (CX ?_))
   refine wX ?_
   refine RS.cons ?_ (RS.nil)
   refine wS 1 rfl rfl rfl (Aa (Ah ?_))
   refine wX ?_
   refine RS.cons ?_ (RS.nil)
   refine wS 2 rfl rfl rfl (Aa (Ah ?_))
   refine wX ?_
   refine RS.cons ?_ (RS.nil)
   refine wS 3 rfl rfl rfl (Aa (Ah ?_))
   refine BT rfl (by((repeat (first|refine BM.same ?_|refine BM.off rfl ?_));exact trivial)) ?_
   exact Ax () ⟨rfl,rfl,rfl,trivial⟩ [1,2,3,4,8,11] (by decide) rfl
  intro _
  refine zE (zO ?_)
  refine Dp 5 rfl ?_
  refine CB tH rfl (.cell 0 rfl rfl rfl rfl rfl) (.cell 1 rfl rfl rfl rfl rfl) (.cell 2 rfl rfl rfl rfl rfl) (F,⟨some V.1,V.2.1,V.2.2⟩) (by show Value.tuple #[.slice (some ⟨gF,0,none⟩) i cF,slN V (B8 rs), .int .i64 0]= .tuple #[F.val i,slN V (B8 rs), .int .i64 0];have hFi:=hFv;rw[eF] at hFi;rw[hFi]) ⟨eF▸hF,hV⟩ fun W1 hp=>Ag.of_hp (hp.pick (l:=[F.bx 39 (frC (Aw rs)),bxN V (B8 rs)]) [3,4] (by decide) rfl)
-- BOXES 6
-- CODE2
theorem VM: ∀(k n:Nat),n<10^(k+1)→(decDigits n).length≤k+1
 |k,n,h=>by
  by_cases h1:n<10
  ·rw[decDigits,dif_pos h1,List.length_singleton];omega
  ·cases k with
   |zero=>exact absurd h h1
   |succ k=>
    rw[decDigits,dif_neg h1,List.length_append,List.length_singleton]
    have h2:n/10<10^(k+1):=by
     rw[Nat.pow_succ] at h
     omega
    have:=VM k (n/10) h2
    omega
structure EG (W:World) (p:Option Addr) (rs:List (List Sd)):Prop where
 n:rs.length<1099511627776
 R:AY W p rs
 c:chk rs=0
 d:I2 W
 v:BN W
 t:Bd W
theorem EG.hp {W0 W:World} {bxs:List Bx} {p:Option Addr} {rs:List (List Sd)} (h:EG W0 p rs) (hp:Hp W0 bxs W):EG W p rs:=⟨h.n,h.R.hp hp,h.c,h.d.hp hp,h.v.hp hp,h.t.hp hp⟩
theorem EG.check {W:World} {p:Option Addr} {rs:List (List Sd)} (h:EG W p rs) (cap:Nat):Ai Tryz.prog 40 #[AX p rs.length cap] W (fun _:Unit=> .int .i64 0) (fun _=>True) (fun _=>[]):=
 (Dk W p cap rs (by have:=h.n;omega) (by have:=(Cf h.c).2.1;omega) h.R).cast (by rw[h.c])
theorem US {rs:List (List Sd)} (h:chk rs=0):0<(B8 rs).length:=by
 obtain⟨l,e⟩:=Uj (Ng h)
 rw[e,List.length_cons];omega
theorem I8 (W:World) (p:Option Addr) (cap:Nat) (rs:List (List Sd)) (h:EG W p rs):
  Ai Tryz.prog 22 #[AX p rs.length cap] W (fun V:Vec=> .tuple #[V.val (B8 rs).length, .int .i64 0]) (fun V=>V.OK 1 (B8 rs).length (nS (B8 rs))) (fun V=>[V.bx 37 (nS (B8 rs))]):=by
 refine Ad (args:=[AX p rs.length cap]) Tryz.func22 rfl rfl rfl ?_
 refine zA (zB ?_)
 (refine A0 rfl rfl rfl rfl ?_;intro)
 refine wP rfl (wP rfl (Aa (zE (zA (zB (wB 0 rfl rfl rfl ?_))))))
 refine Ay (X:=Vec×Vec) rfl rfl rfl rfl rfl rfl (by kernel_rfl) (fun W1 hp=>Oi W1 p cap rs h.n (h.R.hp hp) h.c (h.d.hp hp) (h.v.hp hp) (h.t.hp hp)) ?_
 intro x hx
 iterate 7 refine wP rfl ?_
 refine Aa (zE (zA (zB (wP rfl (wP rfl (wP rfl (wP rfl (Aa (zE (zO ?_))))))))))
 exact Au tH rfl (.tmp rfl) (.tmp rfl) x.2 rfl hx.2 fun W1 hp=>Ag.of_hp (hp.pick (l:=[x.2.bx 37 (nS (B8 rs))]) [2] (by decide) rfl)
theorem IV (W:World) (p:Option Addr) (cap:Nat) (rs:List (List Sd)) (h:EG W p rs) (z:Rat) (hz:szQ z 20):
  Ai Tryz.prog 71 #[AX p rs.length cap,str (Ak z)] W (fun _:Unit=> .int .i64 0) (fun _=>True) (fun _=>[]):=by
 have h1:=VM 19 z.num.natAbs hz.1
 have h2:=VM 19 z.den hz.2
 refine Ad (args:=[AX p rs.length cap,str (Ak z)]) Tryz.func71 rfl rfl rfl ?_
 refine zA (zB ?_)
 (refine A0 rfl rfl rfl rfl ?_;intro)
 refine wP rfl (Aa (zE (zA (zA (zB (wB 0 rfl rfl rfl ?_))))))
 refine Ab rfl rfl rfl rfl rfl rfl (by kernel_rfl) (fun W1 hp=>(h.hp hp).check cap) ?_
 refine wP rfl (Aa (zE (zS rfl (zI (zE (zA (zB (wP rfl ?_))))))))
 refine Ab rfl rfl rfl rfl rfl rfl (by kernel_rfl) (fun W1 hp=>IN z (hz.ok (by decide)) W1 (h.v.hp hp) (h.t.hp hp)) ?_
 iterate 7 refine wP rfl ?_
 refine Aa (zE (zA (zA (zB (wP rfl (wP rfl (Aa (zE (zS rfl (zI (zE (zA (zA ?_)))))))))))))
 refine zB (wP rfl ?_)
 refine Ab rfl rfl rfl rfl rfl rfl (by kernel_rfl) (fun W1 _=>CK (itoa z.num) [45] W1) ?_
 refine Ac 21 (str (decDigits z.num.natAbs)) rfl (by rw[Bq]) ?_
 refine wP rfl ?_
 refine Ac 22 (.int .i64 ((decDigits z.num.natAbs).length:Nat)) rfl (congrArg (fun n:Nat=>Value.int .i64 (n:Int)) (Bc _)) ?_
 refine wP rfl ?_
 refine Ac 23 (.bool false) rfl (congrArg Value.bool (decide_eq_false (by omega))) ?_
 refine wP rfl (wP rfl (wP rfl ?_))
 refine Ac 26 (.int .i64 ((decDigits z.den).length:Nat)) rfl (congrArg (fun n:Nat=>Value.int .i64 (n:Int)) ((Bc _).trans (by rw[OP]))) ?_
 refine wP rfl ?_
 refine Ac 27 (.bool false) rfl (congrArg Value.bool (decide_eq_false (by omega))) ?_
 refine wP rfl (Aa (zE (zS rfl (zI (zE (zA (zB (wP rfl (Aa (zE (zO ?_)))))))))))
 exact Af tH rfl (.tmp rfl) () rfl trivial fun W _=>Ag.nil _ _
def Db (F:List FrP) (z:Rat):List Rat:=F.map fun f=>f.at z
theorem Fa (F:List FrP) (z:Rat):(Db F z).length=F.length:=List.length_map _
theorem Tf {F:List FrP} {z:Rat} {i:Nat} (hi:i<(Db F z).length):(Db F z)[i]=(fr F i).at z:=by
 have h:i<F.length:=by rwa [Fa] at hi
 have e:(Db F z)[i]? =some ((fr F i).at z):=by unfold Db;rw[List.getElem?_map,FO h];rfl
 rw[List.getElem?_eq_getElem hi] at e
 exact Option.some.inj e
theorem Ur {F:List FrP} {z:Rat} {i:Nat} (h:i<F.length):Db (F.take (i+1)) z=Db (F.take i) z++[(fr F i).at z]:=by
 have e:F.take (i+1)=F.take i++[fr F i]:=by rw[List.take_add_one,FO h];rfl
 unfold Db
 rw[e,List.map_append];rfl
theorem GO (W:World) (p:Option Addr) (cap:Nat) (rs:List (List Sd)) (h:EG W p rs) (z:Rat) (hz:szQ z 36):
  Ai Tryz.prog 75 #[AX p rs.length cap,str (Ak z)] W (fun x:Vec×Vec=> .tuple #[x.1.val (Aw rs).length,x.2.val (Db (Aw rs) z).length, .int .i64 0]) (fun x=>x.1.OK 5 (Aw rs).length (frC (Aw rs))∧x.2.OK 1 (Db (Aw rs) z).length (nS (Db (Aw rs) z)))
   (fun x=>[x.1.bx 39 (frC (Aw rs)),x.2.bx 37 (nS (Db (Aw rs) z))]):=by
 obtain⟨hne,hT24,hT0⟩:=Cf h.c
 obtain⟨hrg,_⟩:=By h.c
 have eF:=Ed rs
 obtain⟨T,hTe⟩: ∃T,T=tot rs:=⟨_,rfl⟩
 rw[←hTe] at eF hT24 hT0
 refine Ad (args:=[AX p rs.length cap,str (Ak z)]) Tryz.func75 rfl rfl rfl ?_
 refine zA (zB ?_)
 (refine A0 rfl rfl rfl rfl ?_;intro)
 refine wP rfl (wP rfl (wP rfl (Aa ?_)))
 rename_i b2
 refine zE (zA (zB (wB 0 rfl rfl rfl ?_)))
 refine Ay (X:=Vec) rfl rfl rfl rfl rfl rfl (by kernel_rfl) (fun W1 hp=>LJ W1 p cap rs (by have:=h.n;omega) (h.R.hp hp) h.c (h.d.hp hp) (h.t.hp hp)) ?_
 intro F hF
 have hF:F.OK 5 (Aw rs).length (frC (Aw rs)):=hF
 obtain⟨gF,cF,hFv,hFr⟩:=Vec.frs hF (by omega)
 have hFr: ∀ {W0 W:World} {bxs:List Bx},Hp W0 bxs W→ ∀k,nth bxs k=some (F.bx 39 (frC (Aw rs)))→ ∀m,m<T→Ae W gF (0+m*5) (frV (fr (Aw rs) m)).cells.toList:=fun hp k hk m hm=>hFr hp k hk m _ (FO (by omega))
 rw[hFv,eF]
 iterate 5 refine wP rfl ?_
 refine Aa (zE (zA (zA (zB (wP rfl (wP rfl (Aa (zE (zS rfl (zI (zE (zA (zB ?_)))))))))))))
 refine wP rfl (Aa (zE (zA (zA (zB (wP rfl (wP rfl (wP rfl (Aa (zE (zH ?_)))))))))))
 refine Cl ?_
 refine Az (X:=Nat×Vec) (fun s=>[(1,str (Ak z)),(7, .slice (some ⟨gF,0,none⟩) T cF),(9,s.2.val s.1),(22, .slice (some ⟨gF,0,none⟩) T cF),(23, .int .i64 (T:Nat)),(24, .int .i64 (s.1:Nat))])
  (fun s=>[bxE b2 24 (slv p rs.length cap),F.bx 39 (frC (Aw rs)),s.2.bx 37 (nS (Db ((Aw rs).take s.1) z))]) (fun s=>s.1≤T∧s.2.OK 1 s.1 (nS (Db ((Aw rs).take s.1) z))) (fun s=>T-s.1) (0,Vec.empty) ⟨Nat.zero_le _,Vec.OK.empty 1⟩ ⟨rfl,rfl,rfl,rfl,rfl,rfl,trivial⟩ [] rfl ?_
 rintro⟨i,V⟩ ⟨hi,hV⟩
 have hi:i≤T:=hi
 have hV:V.OK 1 i (nS (Db ((Aw rs).take i) z)):=hV
 by_cases hlt:i<T
 ·refine zA (zB (wP rfl ?_))
  refine Ac 25 (.bool true) rfl (congrArg Value.bool (decide_eq_true (by omega))) ?_
  refine Aa (zE (zA (zR rfl (zI (zE (zA (zH (zA (zB ?_)))))))))
  refine wJ ?_
  refine Av rfl rfl rfl rfl (fun W hp=>Ae.load 0 tH rfl ((fun W1 hp=>hFr hp 1 rfl i hlt) W hp) rfl) ?_
  (refine An Tryz.hZ rfl rfl rfl rfl ?_;intro)
  refine wS 3 rfl rfl rfl (Aa (zE (zA (zB (wB 3 rfl rfl rfl (wP rfl ?_))))))
  have ok:=(HL hrg (Gz (F:=Aw rs) (i:=i) (by omega))).ok
  refine Ab rfl rfl rfl rfl rfl rfl (by kernel_rfl) (fun W1 hp=>RY (fr (Aw rs) i) ok z hz W1 (h.v.hp hp) (h.t.hp hp)) ?_
  iterate 5 refine wP rfl ?_
  refine Aa (zE (zA (zA (zB (wP rfl (wP rfl (Aa (zE (zS rfl (zI (zE (zB (wP rfl (wP rfl ?_))))))))))))))
  have hsu:=Ur (F:=Aw rs) (z:=z) (i:=i) (by omega)
  refine A4 Tryz.hZ tH rfl rfl rfl rfl rfl rfl rfl rfl rfl rfl rfl fun bS=> ?_
  refine AO (V:=V) (len:=i) (xs:=nS (Db ((Aw rs).take i) z)) 2 4 Tryz.vec50 (i+1) (nS (Db ((Aw rs).take (i+1)) z)) rfl rfl rfl rfl rfl rfl rfl rfl rfl rfl rfl hV rfl rfl rfl (by rw[hsu,Hw];rfl) (by simp only[maxLen];omega) (by omega) rfl ?_
  intro gV cV jV hV1
  refine wP rfl (Aa (zN (zE (zB (wP rfl ?_)))))
  refine Ac 41 (.int .i64 ((i+1:Nat):Int)) rfl (congrArg (Value.int .i64) (AM (by omega))) ?_
  refine wP rfl (Aa ?_)
  exact At (i+1,⟨some gV,cV,jV⟩) ⟨hlt,hV1⟩ (by show T-(i+1)<T-i;omega) ⟨rfl,rfl,rfl,rfl,rfl,rfl,trivial⟩ _ rfl
 have e:i=T:=by omega
 subst e
 have et:(Aw rs).take i=Aw rs:=List.take_of_length_le (by omega)
 rw[et] at hV
 refine Nj (bxs':=[bxE b2 24 (slv p rs.length cap),F.bx 39 (frC (Aw rs)),V.bx 37 (nS (Db (Aw rs) z))]) (by rw[et]) ?_
 refine zA (zB (wP rfl ?_))
 refine Ac 25 (.bool false) rfl (congrArg Value.bool (decide_eq_false (by omega))) ?_
 refine Aa (zE (zA (zS rfl (zJ (zK (zK (zL (zE (zA (zB ?_))))))))))
 iterate 5 refine wP rfl ?_
 refine Aa (zE (zO ?_))
 refine CB tH rfl (.tmp rfl) (.tmp rfl) (.tmp rfl) (F,V) (by show Value.tuple #[.slice (some ⟨gF,0,none⟩) i cF,V.val i, .int .i64 0]= .tuple #[F.val i,V.val (Db (Aw rs) z).length, .int .i64 0];have hFi:=hFv;rw[eF] at hFi;rw[Fa,eF,hFi]) ⟨eF▸hF,by show V.OK 1 (Db (Aw rs) z).length (nS (Db (Aw rs) z));rw[Fa,eF];exact hV⟩ fun W1 hp=>Ag.of_hp (hp.pick (l:=[F.bx 39 (frC (Aw rs)),V.bx 37 (nS (Db (Aw rs) z))]) [1,2] (by decide) rfl)
abbrev iC (l:List Nat):List Value:=l.map fun i:Nat=> .int .i64 (i:Nat)
-- BOXES 3
-- CODE2
def MR (c:Nat→Nat→Int) (x:Nat) (s:List Nat):List Nat:=
 let k:=s.length-(s.reverse.takeWhile fun y=>decide (c x y<0)).length
 s.take k++x::s.drop k
def BR (c:Nat→Nat→Int) (l:List Nat):List Nat:=l.foldl (fun s x=>MR c x s) []
theorem Wj (c:Nat→Nat→Int) (x:Nat) (s:List Nat):(MR c x s).length=s.length+1:=by
 unfold MR
 simp only[List.length_append,List.length_take,List.length_cons,List.length_drop]
 omega
theorem Vo {c:Nat→Nat→Int} {x y:Nat} {s:List Nat}:y∈MR c x s↔y=x∨y∈s:=by
 unfold MR
 dsimp only
 obtain⟨k,hk⟩: ∃k,k=s.length-(s.reverse.takeWhile fun y=>decide (c x y<0)).length:=⟨_,rfl⟩
 rw[←hk]
 conv=>rhs;rw[←List.take_append_drop k s]
 simp only[List.mem_append,List.mem_cons]
 constructor
 ·rintro(h|h|h)
  ·exact .inr (.inl h)
  ·exact .inl h
  ·exact .inr (.inr h)
 ·rintro(h|h|h)
  ·exact .inr (.inl h)
  ·exact .inl h
  ·exact .inr (.inr h)
theorem Se (c:Nat→Nat→Int) (l:List Nat) {i:Nat} (hi:i<l.length):BR c (l.take (i+1))=MR c l[i] (BR c (l.take i)):=by
 unfold BR
 rw[List.take_add_one,List.getElem?_eq_getElem hi,List.foldl_append];rfl
theorem Nq (c:Nat→Nat→Int): ∀(l s:List Nat),(l.foldl (fun s x=>MR c x s) s).length=s.length+l.length
 |[],s=>by simp
 |x::l,s=>by
  rw[List.foldl_cons,Nq c l,Wj,List.length_cons];omega
theorem NG (c:Nat→Nat→Int) (l:List Nat):(BR c l).length=l.length:=by
 have:=Nq c l []
 rw[List.length_nil,Nat.zero_add] at this
 exact this
theorem N6 {c:Nat→Nat→Int} {y:Nat}: ∀(l s:List Nat),y∈l.foldl (fun s x=>MR c x s) s↔y∈s∨y∈l
 |[],s=>by simp
 |x::l,s=>by
  rw[List.foldl_cons,N6 l,Vo,List.mem_cons]
  constructor
  ·rintro((h|h)|h)
   ·exact .inr (.inl h)
   ·exact .inl h
   ·exact .inr (.inr h)
  ·rintro(h|h|h)
   ·exact .inl (.inr h)
   ·exact .inl (.inl h)
   ·exact .inr h
theorem Up {c:Nat→Nat→Int} {y:Nat} {l:List Nat}:y∈BR c l↔y∈l:=by
 unfold BR
 rw[N6];simp
theorem PJ (c:Nat→Nat→Int) (l:List Nat):BR c (l.take 1)++l.drop 1=l:=by
 cases l with
 |nil=>rfl
 |cons x l=>rfl
theorem TP {c:Nat→Nat→Int} {x:Nat} {s:List Nat} {j:Nat} (hj:j≤s.length) (h2: ∀y∈s.drop j,c x y<0) (h1: ∀(h:0<j), ¬c x s[j-1]<0):MR c x s=s.take j++x::s.drop j:=by
 have e:(s.reverse.takeWhile fun y=>decide (c x y<0))=(s.drop j).reverse:=by
  have er:s.reverse=(s.drop j).reverse++(s.take j).reverse:=by rw[←List.reverse_append,List.take_append_drop]
  have et:(s.take j).reverse.takeWhile (fun y=>decide (c x y<0))=[]:=by
   cases j with
   |zero=>simp
   |succ m=>
    rw[List.take_add_one,List.getElem?_eq_getElem (by omega),Option.toList_some,List.reverse_append,List.reverse_singleton]
    show List.takeWhile _ (s[m]::_)=[]
    rw[List.takeWhile_cons,if_neg]
    have h3:=h1 (Nat.succ_pos _)
    simpa using h3
  rw[er,List.takeWhile_append_of_pos (fun y hy=>decide_eq_true (h2 y (List.mem_reverse.1 hy))),et,List.append_nil]
 unfold MR
 dsimp only
 rw[e,List.length_reverse,List.length_drop,show s.length-(s.length-j)=j by omega]
abbrev En (g:Nat) (l:List Nat) (junk:List Value):Bx:=⟨g,3,iC l++junk,true,none⟩
theorem Rq (cf:Nat) (capt:List Value) (hE:Bk Tryz.prog cf=true) (c:Nat→Nat→Int) (W:World) (g cap:Nat) (l:List Nat) (junk:List Value) (hn:l.length<4611686018427387904) (hg:W.heap[g]? =some (.cells (iC l++junk).toArray 3 (0,0)))
  (hf: ∀W',GY W W' g→ ∀p∈l, ∀q∈l,Ai Tryz.prog cf ([Value.int .i64 (p:Nat),Value.int .i64 (q:Nat)]++capt).toArray W' (fun _:Unit=> .int .i64 (c p q)) (fun _=>True) (fun _=>[])):
  Calls Tryz.prog 223 #[.slice (some ⟨g,0,none⟩) l.length cap, .int .i64 0, .int .i64 (l.length:Nat),fnM cf capt] W fun e W'=> ∃x:Unit,e= .returned ((fun _=> .tuple #[]) x)∧True∧FL W W' g ((fun _=>g) x) ((fun _=> .cells (iC (BR c l)++junk).toArray 3 (0,0)) x):=by
 have key:Calls Tryz.prog 223 [.slice (some ⟨g,0,none⟩) l.length cap, .int .i64 0, .int .i64 (l.length:Nat),fnM cf capt].toArray W fun e W'=> ∃x:Unit,e= .returned ((fun _=> .tuple #[]) x)∧(fun _=>True) x∧Below (AK W).heap.size (AK W) W'∧Ag (AK W) W' ((fun _=>[AI (Ar W g),En g (BR c l) junk]) x):=by
  refine Be (X:=Unit) (val:=fun _=> .tuple #[]) (Φ:=fun _=>True) (nb:=fun _=>[AI (Ar W g),En g (BR c l) junk]) (Hp.enterT (B:=En g l junk) rfl hg) Tryz.func223 rfl rfl rfl ?_
  refine zA (zB (wP rfl (wP rfl (wP rfl (Aa (zE (zH ?_)))))))
  refine Az (X:=Nat) (fun i=>[(0, .slice (some ⟨g,0,none⟩) l.length cap),(1, .int .i64 0),(2, .int .i64 (l.length:Nat)),(3,fnM cf capt),(8, .int .i64 (i:Nat))]) (fun i=>[AI (Ar W g),En g (BR c (l.take i)++l.drop i) junk])
   (fun i=>1≤i∧(i≤l.length∨i=1)) (fun i=>l.length+1-i) 1 ⟨Nat.le_refl _, .inr rfl⟩ ⟨rfl,rfl,rfl,rfl,rfl,trivial⟩ [] (by rw[PJ];rfl) ?_
  rintro i ⟨hi1,hi2⟩
  refine zA (zA (zB (wP rfl (wP rfl (wP rfl ?_)))))
  by_cases hlt:i<l.length
  rotate_left
  ·refine Ac 14 (.bool false) rfl (congrArg Value.bool (decide_eq_false (by omega))) ?_
   refine Aa (zE (zS rfl (zJ (zK (zK (zL ?_))))))
   have e:BR c (l.take i)++l.drop i=BR c l:=by rw[List.take_of_length_le (by omega),List.drop_of_length_le (by omega),List.append_nil]
   refine CW (X:=Unit) (val:=fun _=> .tuple #[]) (Φ:=fun _=>True) (nb:=fun _=>[AI (Ar W g),En g (BR c l) junk]) (fn:=Tryz.f223) tH rfl () rfl trivial fun W1 hp=> ?_
   rw[e] at hp
   exact(hp.pick (l:=[AI (Ar W g),En g (BR c l) junk]) [0,1] (by decide) rfl).own
  refine Ac 14 (.bool true) rfl (congrArg Value.bool (decide_eq_true (by omega))) ?_
  refine Aa (zE (zR rfl (zI (zE (zA (zH (zA (zB (wP rfl (wP rfl (Aa (zE (zH ?_)))))))))))))
  obtain⟨s,hs⟩: ∃s,s=BR c (l.take i):=⟨_,rfl⟩
  obtain⟨x,hx⟩: ∃x,x=l[i]:=⟨_,rfl⟩
  obtain⟨rr,hr⟩: ∃rr,rr=l.drop (i+1):=⟨_,rfl⟩
  have hsl:s.length=i:=by rw[hs,NG,List.length_take];omega
  have hdrop:l.drop i=x::rr:=by rw[hx,hr];exact List.drop_eq_getElem_cons hlt
  have hrl:rr.length=l.length-(i+1):=by rw[hr,List.length_drop]
  have hxl:x∈l:=hx▸List.getElem_mem hlt
  have hsm: ∀y∈s,y∈l:=fun y hy=>by rw[hs] at hy;exact List.mem_of_mem_take (Up.1 hy)
  have hnext: ∀j,j≤s.length→(∀y∈s.drop j,c x y<0)→(∀(h:0<j), ¬c x s[j-1]! <0)→s.take j++x::s.drop j++rr=BR c (l.take (i+1))++l.drop (i+1):=fun j h1 h2 h3=>by
   rw[Se c l hlt, ←hs, ←hx, ←hr,TP h1 h2 fun h=>by have:=h3 h;rwa [getElem!_pos s (j-1) (by omega)] at this]
  refine Az (X:=Nat) (fun j=>[(0, .slice (some ⟨g,0,none⟩) l.length cap),(1, .int .i64 0),(2, .int .i64 (l.length:Nat)),(3,fnM cf capt),(8, .int .i64 (i:Nat)),(9, .int .i64 (j:Nat))]) (fun j=>[AI (Ar W g),En g (s.take j++x::s.drop j++rr) junk])
   (fun j=>j≤s.length∧ ∀y∈s.drop j,c x y<0) (fun j=>j) i ⟨by omega,by rw[←hsl,List.drop_length];exact fun y hy=>absurd hy List.not_mem_nil⟩ ⟨rfl,rfl,rfl,rfl,rfl,rfl,trivial⟩ [] (by rw[←hs,hdrop, ←hsl,List.take_length,List.drop_length,List.append_assoc];rfl) ?_
  rintro j ⟨hj,hgt⟩
  have hj:j≤s.length:=hj
  have hgt: ∀y∈s.drop j,c x y<0:=hgt
  refine zA (zA ?_)
  refine zT Tryz.mixed (by kernel_rfl) ?_
  refine qP rfl (qP rfl (qP rfl ?_))
  cases j with
  |zero=>
   refine AF 20 (.bool false) rfl rfl ?_
   refine qP rfl ?_
   iterate 12 refine BG rfl rfl ?_
   refine qP rfl (AE (Aa (zE (zS rfl (zJ (zK (zK (zL (zN (zE (zB (wP rfl (wP rfl ?_)))))))))))))
   refine Ac 16 (.int .i64 ((i+1:Nat):Int)) rfl (congrArg (Value.int .i64) (AM (by omega))) ?_
   refine wP rfl (Aa ?_)
   refine At (i+1) ⟨by show 1≤i+1;omega, .inl hlt⟩ (by show l.length+1-(i+1)<l.length+1-i;omega) ⟨rfl,rfl,rfl,rfl,rfl,trivial⟩ [] ?_
   rw[hnext 0 hj hgt fun h=>absurd h (by decide)];rfl
  |succ m=>
   have hm:m<s.length:=hj
   obtain⟨y,hy⟩: ∃y,y=s[m]:=⟨_,rfl⟩
   have hyl:y∈l:=hsm y (hy▸List.getElem_mem hm)
   have e1:s.take (m+1)=s.take m++[y]:=by rw[List.take_add_one,List.getElem?_eq_getElem hm,hy];rfl
   have e2:s.drop m=y::s.drop (m+1):=by rw[hy];exact List.drop_eq_getElem_cons hm
   have e3:s[m+1-1]! =y:=by rw[Nat.add_sub_cancel,getElem!_pos s m hm,hy]
   have hA:(iC (s.take m)).length=m:=by rw[List.length_map,List.length_take];omega
   obtain⟨C,hC⟩: ∃C,C=iC (s.drop (m+1)++rr)++junk:=⟨_,rfl⟩
   have row1:iC (s.take (m+1)++x::s.drop (m+1)++rr)++junk=iC (s.take m)++([Value.int .i64 (y:Nat),Value.int .i64 (x:Nat)]++C):=by rw[e1,hC];simp[iC]
   have row2:iC (s.take m++x::s.drop m++rr)++junk=iC (s.take m)++([Value.int .i64 (x:Nat),Value.int .i64 (y:Nat)]++C):=by rw[e2,hC];simp[iC]
   refine AF 20 (.bool true) rfl (congrArg Value.bool (decide_eq_true (by omega))) ?_
   refine qP rfl (qP rfl (qP rfl (qP rfl ?_)))
   refine qJ ?_
   refine Ap rfl rfl rfl rfl (fun W hp=>Ae.load 0 tH rfl ((fun W1 hp=>show Ae W1 g (0+(m+1)*1) [Value.int .i64 (x:Nat)] from DC hp 1 (A:=iC (s.take m)++[Value.int .i64 (y:Nat)]) (C:=C) rfl (by rw[row1];simp) (by rw[List.length_append,hA];simp)) W hp) rfl) ?_
   refine qP rfl (qP rfl (qP rfl ?_))
   refine AF 29 (.int .i64 (m:Nat)) rfl (congrArg (Value.int .i64) (show w64 (((m+1:Nat):Int)-1)=_ by rw[As (by omega) (by omega)];omega)) ?_
   refine qJ ?_
   refine Ap rfl rfl rfl rfl (fun W hp=>Ae.load 0 tH rfl ((fun W1 hp=>show Ae W1 g (0+m*1) [Value.int .i64 (y:Nat)] from DC hp 1 (A:=iC (s.take m)) (C:=[Value.int .i64 (x:Nat)]++C) rfl (by rw[row1];simp) (by rw[hA];simp)) W hp) rfl) ?_
   refine A8 (capt:=capt) rfl rfl rfl rfl rfl rfl hE (fun W1 hp=>hf W1 (Gx hg ⟨_,List.mem_cons_self ..⟩ hp) x hxl y hyl) ?_
   refine qP rfl ?_
   refine AF 33 (.bool (decide (c x y<0))) rfl rfl ?_
   refine qP rfl (AE (Aa (zE ?_)))
   refine Al rfl (fun h=> ?_) (fun h=> ?_)
   rotate_left
   ·have hc: ¬c x y<0:=of_decide_eq_false h
    refine zJ (zK (zK (zL (zN (zE (zB (wP rfl (wP rfl ?_))))))))
    refine Ac 16 (.int .i64 ((i+1:Nat):Int)) rfl (congrArg (Value.int .i64) (AM (by omega))) ?_
    refine wP rfl (Aa ?_)
    refine At (i+1) ⟨by show 1≤i+1;omega, .inl hlt⟩ (by show l.length+1-(i+1)<l.length+1-i;omega) ⟨rfl,rfl,rfl,rfl,rfl,trivial⟩ [] ?_
    rw[hnext (m+1) hj hgt fun _=>by rw[e3];exact hc];rfl
   have hc:c x y<0:=of_decide_eq_true h
   clear h
   refine Nj (bxs':=[AI (Ar W g),⟨g,3,iC (s.take m)++([Value.int .i64 (y:Nat),Value.int .i64 (x:Nat)]++C),true,none⟩]) (by rw[←row1]) ?_
   refine zI (zE (AL (B6 ?_)))
   repeat refine AL ?_
   refine BW (X:=Unit) [true,true,false,false,false,true,true,true,true,true,true,true,true,true,true,false,false,false] (fun _=>[(0, .slice (some ⟨g,0,none⟩) l.length cap),(1, .int .i64 0),(2, .int .i64 (l.length:Nat)),(3,fnM cf capt),(8, .int .i64 (i:Nat)),(9, .int .i64 ((m+1:Nat):Int))]) (fun _=>[AI (Ar W g),⟨g,3,iC (s.take m)++([Value.int .i64 (x:Nat),Value.int .i64 (y:Nat)]++C),true,none⟩])
    6 [AI (Ar W g),⟨g,3,iC (s.take m)++([Value.int .i64 (y:Nat),Value.int .i64 (x:Nat)]++C),true,none⟩] Tryz.mixed (by kernel_rfl) ?_ ?_
   ·refine qP rfl (qP rfl (qP rfl (qP rfl (qP rfl ?_))))
    refine AF 44 (.int .i64 (m:Nat)) rfl (congrArg (Value.int .i64) (show w64 (((m+1:Nat):Int)-1)=_ by rw[As (by omega) (by omega)];omega)) ?_
    refine qJ ?_
    refine Ap rfl rfl rfl rfl (fun W hp=>Ae.load 0 tH rfl ((fun W1 hp=>show Ae W1 g (0+m*1) [Value.int .i64 (y:Nat)] from DC hp 1 (A:=iC (s.take m)) (C:=[Value.int .i64 (x:Nat)]++C) rfl (by simp) (by rw[hA];simp)) W hp) rfl) ?_
    refine qP rfl (qP rfl ?_)
    refine qJ ?_
    refine Ap rfl rfl rfl rfl (fun W hp=>Ae.load 0 tH rfl ((fun W1 hp=>show Ae W1 g (0+(m+1)*1) [Value.int .i64 (x:Nat)] from DC hp 1 (A:=iC (s.take m)++[Value.int .i64 (y:Nat)]) (C:=C) rfl (by simp) (by rw[List.length_append,hA];simp)) W hp) rfl) ?_
    refine qJ ?_
    refine CX ?_
    have h1:AS (iC (s.take m)++([Value.int .i64 (y:Nat),Value.int .i64 (x:Nat)]++C)) (0+(m+1)*1) (Value.int .i64 (y:Nat)).cells.toList=iC (s.take m)++([Value.int .i64 (y:Nat),Value.int .i64 (y:Nat)]++C):=by
     rw[show 0+(m+1)*1=(iC (s.take m)).length+1 by rw[hA];omega,Bj];rfl
    have h2:AS (iC (s.take m)++([Value.int .i64 (y:Nat),Value.int .i64 (y:Nat)]++C)) (0+m*1) (Value.int .i64 (x:Nat)).cells.toList=iC (s.take m)++([Value.int .i64 (x:Nat),Value.int .i64 (y:Nat)]++C):=by
     rw[show 0+m*1=(iC (s.take m)).length+0 by rw[hA];omega,Bj];rfl
    refine wX ?_
    refine RS.cons ?_ (RS.cons ?_ (RS.cons ?_ (RS.nil)))
    ·refine wP rfl (Aa (Ah ?_))
     refine wX ?_
     refine RS.cons ?_ (RS.cons ?_ (RS.nil))
     ·refine wP rfl (Aa (Ah ?_))
      refine wX ?_
      refine RS.cons ?_ (RS.cons ?_ (RS.nil))
      ·refine wP rfl (Aa (Ah ?_))
       refine wX ?_
       refine RS.cons ?_ (RS.nil)
       refine Aj 1 _ tH rfl rfl rfl rfl rfl rfl rfl rfl rfl rfl (by show 0+(m+1)*1+1≤(iC (s.take m)++([Value.int .i64 (y:Nat),Value.int .i64 (x:Nat)]++C)).length;rw[List.length_append,hA];simp<;>omega) h1 ?_
       refine Aa (Ah ?_)
       refine wY ?_
       refine RS.cons ?_ (RS.nil)
       refine Ac 41 (.int .i64 (m:Nat)) rfl (congrArg (Value.int .i64) (show w64 (((m+1:Nat):Int)-1)=_ by rw[As (by omega) (by omega)];omega)) ?_;(first|refine wJ ?_|refine qJ ?_)
       refine Aa (Ah ?_)
       refine wY ?_
       refine RS.cons ?_ (RS.nil)
       refine Aj 1 _ tH rfl rfl rfl rfl rfl rfl rfl rfl rfl rfl (by show 0+m*1+1≤(iC (s.take m)++([Value.int .i64 (y:Nat),Value.int .i64 (y:Nat)]++C)).length;rw[List.length_append,hA];simp<;>omega) h2 ?_
       refine Aa (Ah ?_)
       refine A3 rfl (by kernel_rfl) ?_
       exact Ax () ⟨rfl,rfl,rfl,rfl,rfl,rfl,trivial⟩ [0,1] (by decide) rfl
      ·refine Aj 1 _ tH rfl rfl rfl rfl rfl rfl rfl rfl rfl rfl (by show 0+(m+1)*1+1≤(iC (s.take m)++([Value.int .i64 (y:Nat),Value.int .i64 (x:Nat)]++C)).length;rw[List.length_append,hA];simp<;>omega) h1 ?_
       refine Aa (Ah ?_)
       refine wY ?_
       refine RS.cons ?_ (RS.nil)
       refine wP rfl (Aa (Ah ?_))
       refine wY ?_
       refine RS.cons ?_ (RS.nil)
       refine Ac 41 (.int .i64 (m:Nat)) rfl (congrArg (Value.int .i64) (show w64 (((m+1:Nat):Int)-1)=_ by rw[As (by omega) (by omega)];omega)) ?_;(first|refine wJ ?_|refine qJ ?_)
       refine Aa (Ah ?_)
       refine wY ?_
       refine RS.cons ?_ (RS.nil)
       refine Aj 1 _ tH rfl rfl rfl rfl rfl rfl rfl rfl rfl rfl (by show 0+m*1+1≤(iC (s.take m)++([Value.int .i64 (y:Nat),Value.int .i64 (y:Nat)]++C)).length;rw[List.length_append,hA];simp<;>omega) h2 ?_
       refine Aa (Ah ?_)
       refine A3 rfl (by kernel_rfl) ?_
       exact Ax () ⟨rfl,rfl,rfl,rfl,rfl,rfl,trivial⟩ [0,1] (by decide) rfl
     ·refine Aj 1 _ tH rfl rfl rfl rfl rfl rfl rfl rfl rfl rfl (by show 0+(m+1)*1+1≤(iC (s.take m)++([Value.int .i64 (y:Nat),Value.int .i64 (x:Nat)]++C)).length;rw[List.length_append,hA];simp<;>omega) h1 ?_
      refine Aa (Ah ?_)
      refine wY ?_
      refine RS.cons ?_ (RS.nil)
      refine wP rfl (Aa (Ah ?_))
      refine wY ?_
      refine RS.cons ?_ (RS.nil)
      refine wP rfl (Aa (Ah ?_))
      refine wY ?_
      refine RS.cons ?_ (RS.nil)
      refine Ac 41 (.int .i64 (m:Nat)) rfl (congrArg (Value.int .i64) (show w64 (((m+1:Nat):Int)-1)=_ by rw[As (by omega) (by omega)];omega)) ?_;(first|refine wJ ?_|refine qJ ?_)
      refine Aa (Ah ?_)
      refine wY ?_
      refine RS.cons ?_ (RS.nil)
      refine Aj 1 _ tH rfl rfl rfl rfl rfl rfl rfl rfl rfl rfl (by show 0+m*1+1≤(iC (s.take m)++([Value.int .i64 (y:Nat),Value.int .i64 (y:Nat)]++C)).length;rw[List.length_append,hA];simp<;>omega) h2 ?_
      refine Aa (Ah ?_)
      refine A3 rfl (by kernel_rfl) ?_
      exact Ax () ⟨rfl,rfl,rfl,rfl,rfl,rfl,trivial⟩ [0,1] (by decide) rfl
    ·refine wP rfl (Aa (Ah ?_))
     refine wX ?_
     refine RS.cons ?_ (RS.cons ?_ (RS.cons ?_ (RS.nil)))
     ·refine wP rfl (Aa (Ah ?_))
      refine wX ?_
      refine RS.cons ?_ (RS.cons ?_ (RS.nil))
      ·refine wP rfl (Aa (Ah ?_))
       refine wX ?_
       refine RS.cons ?_ (RS.nil)
       refine Aj 1 _ tH rfl rfl rfl rfl rfl rfl rfl rfl rfl rfl (by show 0+(m+1)*1+1≤(iC (s.take m)++([Value.int .i64 (y:Nat),Value.int .i64 (x:Nat)]++C)).length;rw[List.length_append,hA];simp<;>omega) h1 ?_
       refine Aa (Ah ?_)
       refine wY ?_
       refine RS.cons ?_ (RS.nil)
       refine Ac 41 (.int .i64 (m:Nat)) rfl (congrArg (Value.int .i64) (show w64 (((m+1:Nat):Int)-1)=_ by rw[As (by omega) (by omega)];omega)) ?_;(first|refine wJ ?_|refine qJ ?_)
       refine Aa (Ah ?_)
       refine wY ?_
       refine RS.cons ?_ (RS.nil)
       refine Aj 1 _ tH rfl rfl rfl rfl rfl rfl rfl rfl rfl rfl (by show 0+m*1+1≤(iC (s.take m)++([Value.int .i64 (y:Nat),Value.int .i64 (y:Nat)]++C)).length;rw[List.length_append,hA];simp<;>omega) h2 ?_
       refine Aa (Ah ?_)
       refine A3 rfl (by kernel_rfl) ?_
       exact Ax () ⟨rfl,rfl,rfl,rfl,rfl,rfl,trivial⟩ [0,1] (by decide) rfl
      ·refine Aj 1 _ tH rfl rfl rfl rfl rfl rfl rfl rfl rfl rfl (by show 0+(m+1)*1+1≤(iC (s.take m)++([Value.int .i64 (y:Nat),Value.int .i64 (x:Nat)]++C)).length;rw[List.length_append,hA];simp<;>omega) h1 ?_
       refine Aa (Ah ?_)
       refine wY ?_
       refine RS.cons ?_ (RS.nil)
       refine wP rfl (Aa (Ah ?_))
       refine wY ?_
       refine RS.cons ?_ (RS.nil)
       refine Ac 41 (.int .i64 (m:Nat)) rfl (congrArg (Value.int .i64) (show w64 (((m+1:Nat):Int)-1)=_ by rw[As (by omega) (by omega)];omega)) ?_;(first|refine wJ ?_|refine qJ ?_)
       refine Aa (Ah ?_)
       refine wY ?_
       refine RS.cons ?_ (RS.nil)
       refine Aj 1 _ tH rfl rfl rfl rfl rfl rfl rfl rfl rfl rfl (by show 0+m*1+1≤(iC (s.take m)++([Value.int .i64 (y:Nat),Value.int .i64 (y:Nat)]++C)).length;rw[List.length_append,hA];simp<;>omega) h2 ?_
       refine Aa (Ah ?_)
       refine A3 rfl (by kernel_rfl) ?_
       exact Ax () ⟨rfl,rfl,rfl,rfl,rfl,rfl,trivial⟩ [0,1] (by decide) rfl
     ·refine wP rfl (Aa (Ah ?_))
      refine wX ?_
      refine RS.cons ?_ (RS.cons ?_ (RS.nil))
      ·refine wP rfl (Aa (Ah ?_))
       refine wX ?_
       refine RS.cons ?_ (RS.nil)
       refine Aj 1 _ tH rfl rfl rfl rfl rfl rfl rfl rfl rfl rfl (by show 0+(m+1)*1+1≤(iC (s.take m)++([Value.int .i64 (y:Nat),Value.int .i64 (x:Nat)]++C)).length;rw[List.length_append,hA];simp<;>omega) h1 ?_
       refine Aa (Ah ?_)
       refine wY ?_
       refine RS.cons ?_ (RS.nil)
       refine Ac 41 (.int .i64 (m:Nat)) rfl (congrArg (Value.int .i64) (show w64 (((m+1:Nat):Int)-1)=_ by rw[As (by omega) (by omega)];omega)) ?_;(first|refine wJ ?_|refine qJ ?_)
       refine Aa (Ah ?_)
       refine wY ?_
       refine RS.cons ?_ (RS.nil)
       refine Aj 1 _ tH rfl rfl rfl rfl rfl rfl rfl rfl rfl rfl (by show 0+m*1+1≤(iC (s.take m)++([Value.int .i64 (y:Nat),Value.int .i64 (y:Nat)]++C)).length;rw[List.length_append,hA];simp<;>omega) h2 ?_
       refine Aa (Ah ?_)
       refine A3 rfl (by kernel_rfl) ?_
       exact Ax () ⟨rfl,rfl,rfl,rfl,rfl,rfl,trivial⟩ [0,1] (by decide) rfl
      ·refine Aj 1 _ tH rfl rfl rfl rfl rfl rfl rfl rfl rfl rfl (by show 0+(m+1)*1+1≤(iC (s.take m)++([Value.int .i64 (y:Nat),Value.int .i64 (x:Nat)]++C)).length;rw[List.length_append,hA];simp<;>omega) h1 ?_
       refine Aa (Ah ?_)
       refine wY ?_
       refine RS.cons ?_ (RS.nil)
       refine wP rfl (Aa (Ah ?_))
       refine wY ?_
       refine RS.cons ?_ (RS.nil)
       refine Ac 41 (.int .i64 (m:Nat)) rfl (congrArg (Value.int .i64) (show w64 (((m+1:Nat):Int)-1)=_ by rw[As (by omega) (by omega)];omega)) ?_;(first|refine wJ ?_|refine qJ ?_)
       refine Aa (Ah ?_)
       refine wY ?_
       refine RS.cons ?_ (RS.nil)
       refine Aj 1 _ tH rfl rfl rfl rfl rfl rfl rfl rfl rfl rfl (by show 0+m*1+1≤(iC (s.take m)++([Value.int .i64 (y:Nat),Value.int .i64 (y:Nat)]++C)).length;rw[List.length_append,hA];simp<;>omega) h2 ?_
       refine Aa (Ah ?_)
       refine A3 rfl (by kernel_rfl) ?_
       exact Ax () ⟨rfl,rfl,rfl,rfl,rfl,rfl,trivial⟩ [0,1] (by decide) rfl
     ·refine Aj 1 _ tH rfl rfl rfl rfl rfl rfl rfl rfl rfl rfl (by show 0+(m+1)*1+1≤(iC (s.take m)++([Value.int .i64 (y:Nat),Value.int .i64 (x:Nat)]++C)).length;rw[List.length_append,hA];simp<;>omega) h1 ?_
      refine Aa (Ah ?_)
      refine wY ?_
      refine RS.cons ?_ (RS.cons ?_ (RS.nil))
      ·refine wP rfl (Aa (Ah ?_))
       refine wY ?_
       refine RS.cons ?_ (RS.nil)
       refine wP rfl (Aa (Ah ?_))
       refine wY ?_
       refine RS.cons ?_ (RS.nil)
       refine Ac 41 (.int .i64 (m:Nat)) rfl (congrArg (Value.int .i64) (show w64 (((m+1:Nat):Int)-1)=_ by rw[As (by omega) (by omega)];omega)) ?_;(first|refine wJ ?_|refine qJ ?_)
       refine Aa (Ah ?_)
       refine wY ?_
       refine RS.cons ?_ (RS.nil)
       refine Aj 1 _ tH rfl rfl rfl rfl rfl rfl rfl rfl rfl rfl (by show 0+m*1+1≤(iC (s.take m)++([Value.int .i64 (y:Nat),Value.int .i64 (y:Nat)]++C)).length;rw[List.length_append,hA];simp<;>omega) h2 ?_
       refine Aa (Ah ?_)
       refine A3 rfl (by kernel_rfl) ?_
       exact Ax () ⟨rfl,rfl,rfl,rfl,rfl,rfl,trivial⟩ [0,1] (by decide) rfl
      ·refine wP rfl (Aa (Ah ?_))
       refine wY ?_
       refine RS.cons ?_ (RS.nil)
       refine wP rfl (Aa (Ah ?_))
       refine wY ?_
       refine RS.cons ?_ (RS.nil)
       refine Ac 41 (.int .i64 (m:Nat)) rfl (congrArg (Value.int .i64) (show w64 (((m+1:Nat):Int)-1)=_ by rw[As (by omega) (by omega)];omega)) ?_;(first|refine wJ ?_|refine qJ ?_)
       refine Aa (Ah ?_)
       refine wY ?_
       refine RS.cons ?_ (RS.nil)
       refine Aj 1 _ tH rfl rfl rfl rfl rfl rfl rfl rfl rfl rfl (by show 0+m*1+1≤(iC (s.take m)++([Value.int .i64 (y:Nat),Value.int .i64 (y:Nat)]++C)).length;rw[List.length_append,hA];simp<;>omega) h2 ?_
       refine Aa (Ah ?_)
       refine A3 rfl (by kernel_rfl) ?_
       exact Ax () ⟨rfl,rfl,rfl,rfl,rfl,rfl,trivial⟩ [0,1] (by decide) rfl
    ·refine Aj 1 _ tH rfl rfl rfl rfl rfl rfl rfl rfl rfl rfl (by show 0+(m+1)*1+1≤(iC (s.take m)++([Value.int .i64 (y:Nat),Value.int .i64 (x:Nat)]++C)).length;rw[List.length_append,hA];simp<;>omega) h1 ?_
     refine Aa (Ah ?_)
     refine wY ?_
     refine RS.cons ?_ (RS.cons ?_ (RS.nil))
     ·refine wP rfl (Aa (Ah ?_))
      refine wY ?_
      refine RS.cons ?_ (RS.nil)
      refine wP rfl (Aa (Ah ?_))
      refine wY ?_
      refine RS.cons ?_ (RS.nil)
      refine wP rfl (Aa (Ah ?_))
      refine wY ?_
      refine RS.cons ?_ (RS.nil)
      refine Ac 41 (.int .i64 (m:Nat)) rfl (congrArg (Value.int .i64) (show w64 (((m+1:Nat):Int)-1)=_ by rw[As (by omega) (by omega)];omega)) ?_;(first|refine wJ ?_|refine qJ ?_)
      refine Aa (Ah ?_)
      refine wY ?_
      refine RS.cons ?_ (RS.nil)
      refine Aj 1 _ tH rfl rfl rfl rfl rfl rfl rfl rfl rfl rfl (by show 0+m*1+1≤(iC (s.take m)++([Value.int .i64 (y:Nat),Value.int .i64 (y:Nat)]++C)).length;rw[List.length_append,hA];simp<;>omega) h2 ?_
      refine Aa (Ah ?_)
      refine A3 rfl (by kernel_rfl) ?_
      exact Ax () ⟨rfl,rfl,rfl,rfl,rfl,rfl,trivial⟩ [0,1] (by decide) rfl
     ·refine wP rfl (Aa (Ah ?_))
      refine wY ?_
      refine RS.cons ?_ (RS.cons ?_ (RS.nil))
      ·refine wP rfl (Aa (Ah ?_))
       refine wY ?_
       refine RS.cons ?_ (RS.nil)
       refine wP rfl (Aa (Ah ?_))
       refine wY ?_
       refine RS.cons ?_ (RS.nil)
       refine Ac 41 (.int .i64 (m:Nat)) rfl (congrArg (Value.int .i64) (show w64 (((m+1:Nat):Int)-1)=_ by rw[As (by omega) (by omega)];omega)) ?_;(first|refine wJ ?_|refine qJ ?_)
       refine Aa (Ah ?_)
       refine wY ?_
       refine RS.cons ?_ (RS.nil)
       refine Aj 1 _ tH rfl rfl rfl rfl rfl rfl rfl rfl rfl rfl (by show 0+m*1+1≤(iC (s.take m)++([Value.int .i64 (y:Nat),Value.int .i64 (y:Nat)]++C)).length;rw[List.length_append,hA];simp<;>omega) h2 ?_
       refine Aa (Ah ?_)
       refine A3 rfl (by kernel_rfl) ?_
       exact Ax () ⟨rfl,rfl,rfl,rfl,rfl,rfl,trivial⟩ [0,1] (by decide) rfl
      ·refine wP rfl (Aa (Ah ?_))
       refine wY ?_
       refine RS.cons ?_ (RS.nil)
       refine wP rfl (Aa (Ah ?_))
       refine wY ?_
       refine RS.cons ?_ (RS.nil)
       refine Ac 41 (.int .i64 (m:Nat)) rfl (congrArg (Value.int .i64) (show w64 (((m+1:Nat):Int)-1)=_ by rw[As (by omega) (by omega)];omega)) ?_;(first|refine wJ ?_|refine qJ ?_)
       refine Aa (Ah ?_)
       refine wY ?_
       refine RS.cons ?_ (RS.nil)
       refine Aj 1 _ tH rfl rfl rfl rfl rfl rfl rfl rfl rfl rfl (by show 0+m*1+1≤(iC (s.take m)++([Value.int .i64 (y:Nat),Value.int .i64 (y:Nat)]++C)).length;rw[List.length_append,hA];simp<;>omega) h2 ?_
       refine Aa (Ah ?_)
       refine A3 rfl (by kernel_rfl) ?_
       exact Ax () ⟨rfl,rfl,rfl,rfl,rfl,rfl,trivial⟩ [0,1] (by decide) rfl
   intro _
   refine zN (zE (zB (wP rfl (wP rfl ?_))))
   refine Ac 36 (.int .i64 (m:Nat)) rfl (congrArg (Value.int .i64) (show w64 (((m+1:Nat):Int)-1)=_ by rw[As (by omega) (by omega)];omega)) ?_
   refine wP rfl (Aa ?_)
   refine At m ⟨by show m≤s.length;omega,fun z hz=> ?_⟩ (by show m<m+1;omega) ⟨rfl,rfl,rfl,rfl,rfl,rfl,trivial⟩ [] (by rw[←row2];rfl)
   rw[e2] at hz
   rcases List.mem_cons.1 hz with rfl|hz
   ·exact hc
   ·exact hgt z hz
 refine key.mono ?_
 rintro e W' ⟨x,he,_,hb,hn'⟩
 exact⟨x,he,trivial,CN hg rfl hb hn'⟩
theorem R6 (cf:Nat) (capt:List Value) (hE:Bk Tryz.prog cf=true) (c:Nat→Nat→Int) (W:World) (g cap:Nat) (l:List Nat) (junk:List Value) (z:Int) (hn:l.length≤12) (hg:W.heap[g]? =some (.cells (iC l++junk).toArray 3 (0,0)))
  (hf: ∀W',GY W W' g→ ∀p∈l, ∀q∈l,Ai Tryz.prog cf ([Value.int .i64 (p:Nat),Value.int .i64 (q:Nat)]++capt).toArray W' (fun _:Unit=> .int .i64 (c p q)) (fun _=>True) (fun _=>[])):
  Calls Tryz.prog 160 #[.slice (some ⟨g,0,none⟩) l.length cap, .int .i64 0, .int .i64 (l.length:Nat), .int .i64 z,fnM cf capt] W fun e W'=> ∃x:Unit,e= .returned ((fun _=> .tuple #[]) x)∧True∧FL W W' g ((fun _=>g) x) ((fun _=> .cells (iC (BR c l)++junk).toArray 3 (0,0)) x):=by
 have key:Calls Tryz.prog 160 [.slice (some ⟨g,0,none⟩) l.length cap, .int .i64 0, .int .i64 (l.length:Nat), .int .i64 z,fnM cf capt].toArray W fun e W'=> ∃x:Unit,e= .returned ((fun _=> .tuple #[]) x)∧(fun _=>True) x∧Below (AK W).heap.size (AK W) W'∧Ag (AK W) W' ((fun _=>[AI (Ar W g),En g (BR c l) junk]) x):=by
  refine Be (X:=Unit) (val:=fun _=> .tuple #[]) (Φ:=fun _=>True) (nb:=fun _=>[AI (Ar W g),En g (BR c l) junk]) (Hp.enterT (B:=En g l junk) rfl hg) Tryz.func160 rfl rfl rfl ?_
  refine zA (zB (wP rfl (Aa (zE (zA (zB (wP rfl (Aa (zE (zH ?_))))))))))
  refine Az (X:=Unit) (fun _=>[(0, .slice (some ⟨g,0,none⟩) l.length cap),(1, .int .i64 0),(2, .int .i64 (l.length:Nat)),(3, .int .i64 z),(4,fnM cf capt)]) (fun _=>[AI (Ar W g),En g l junk]) (fun _=>True) (fun _=>0) () trivial ⟨rfl,rfl,rfl,rfl,rfl,trivial⟩ [] rfl ?_
  intro _ _
  refine zH (zA (zB (wP rfl (wP rfl (wP rfl ?_)))))
  refine Ac 23 (.int .i64 (l.length:Nat)) rfl (congrArg (Value.int .i64) (show w64 ((l.length:Nat)-0)=_ by rw[As (by omega) (by omega)];omega)) ?_
  refine wP rfl (Aa (zE (zA (zA (zB (wP rfl (wP rfl ?_)))))))
  refine Ac 25 (.bool true) rfl (congrArg Value.bool (decide_eq_true (by omega))) ?_
  refine Aa (zE (zR rfl (zA (zB (wP rfl (wP rfl (wP rfl (wP rfl ?_))))))))
  refine BX (X:=Unit) (val:=fun _=> .tuple #[]) (Φ:=fun _=>True) (capt:=[]) 1 (B:=En g l junk) (L1:=[]) (L2:=[]) (b:=g) (ob:= .cells (iC l++junk).toArray 3 (0,0)) (fun _=>En g (BR c l) junk) (g':=fun _=>g) (o':=fun _=> .cells (iC (BR c l)++junk).toArray 3 (0,0))
   rfl rfl rfl rfl rfl rfl (by kernel_rfl) rfl rfl (fun _ _=>rfl) (fun W1 hp=>Rq cf capt hE c W1 g cap l junk (by omega) (hp.own.cell 1 _ rfl (g, .cells (iC l++junk).toArray 3 (0,0)) (List.mem_cons_self ..)).1 (fun W2 hk=>hf W2 ((Gx hg ⟨_,List.mem_cons_self ..⟩ hp).trans hk))) (fun _ _=> ?_)
  refine Aa (zE (zO (zP (zQ (zP (zQ ?_))))))
  refine HU (X:=Unit) (val:=fun _=> .tuple #[]) (Φ:=fun _=>True) (nb:=fun _=>[AI (Ar W g),En g (BR c l) junk]) (fn:=Tryz.f160) tH rfl () rfl trivial fun W1 hp=> ?_
  exact(hp.pick (l:=[AI (Ar W g),En g (BR c l) junk]) [0,1] (by decide) rfl).own
 refine key.mono ?_
 rintro e W' ⟨x,he,_,hb,hn'⟩
 exact⟨x,he,trivial,CN hg rfl hb hn'⟩
theorem PF (cf:Nat) (capt:List Value) (W:World) (p:Option Addr) (cap:Nat):Ai Tryz.prog 223 #[.slice p 0 cap, .int .i64 0, .int .i64 ((0:Nat):Int),fnM cf capt] W (fun _:Unit=> .tuple #[]) (fun _=>True) (fun _=>[]):=by
 refine Ad (args:=[.slice p 0 cap, .int .i64 0, .int .i64 ((0:Nat):Int),fnM cf capt]) Tryz.func223 rfl rfl rfl ?_
 refine zA (zB (wP rfl (wP rfl (wP rfl (Aa (zE (zH ?_)))))))
 refine Az (X:=Unit) (fun _=>[(0, .slice p 0 cap),(1, .int .i64 0),(2, .int .i64 ((0:Nat):Int)),(3,fnM cf capt),(8, .int .i64 1)]) (fun _=>[]) (fun _=>True) (fun _=>0) () trivial ⟨rfl,rfl,rfl,rfl,rfl,trivial⟩ [] rfl ?_
 intro _ _
 refine zA (zA (zB (wP rfl (wP rfl (wP rfl ?_)))))
 refine Ac 14 (.bool false) rfl rfl ?_
 refine Aa (zE (zS rfl (zJ (zK (zK (zL ?_))))))
 exact CW (X:=Unit) (val:=fun _=> .tuple #[]) (Φ:=fun _=>True) (nb:=fun _=>[]) (fn:=Tryz.f223) tH rfl () rfl trivial fun W _=>Ag.nil _ _
theorem P7 (cf:Nat) (capt:List Value) (W:World) (p:Option Addr) (cap:Nat) (z:Int):Ai Tryz.prog 160 #[.slice p 0 cap, .int .i64 0, .int .i64 ((0:Nat):Int), .int .i64 z,fnM cf capt] W (fun _:Unit=> .tuple #[]) (fun _=>True) (fun _=>[]):=by
 refine Ad (args:=[.slice p 0 cap, .int .i64 0, .int .i64 ((0:Nat):Int), .int .i64 z,fnM cf capt]) Tryz.func160 rfl rfl rfl ?_
 refine zA (zB (wP rfl (Aa (zE (zA (zB (wP rfl (Aa (zE (zH ?_))))))))))
 refine Az (X:=Unit) (fun _=>[(0, .slice p 0 cap),(1, .int .i64 0),(2, .int .i64 ((0:Nat):Int)),(3, .int .i64 z),(4,fnM cf capt)]) (fun _=>[]) (fun _=>True) (fun _=>0) () trivial ⟨rfl,rfl,rfl,rfl,rfl,trivial⟩ [] rfl ?_
 intro _ _
 refine zH (zA (zB (wP rfl (wP rfl (wP rfl ?_)))))
 refine Ac 23 (.int .i64 ((0:Nat):Int)) rfl rfl ?_
 refine wP rfl (Aa (zE (zA (zA (zB (wP rfl (wP rfl ?_)))))))
 refine Ac 25 (.bool true) rfl rfl ?_
 refine Aa (zE (zR rfl (zA (zB (wP rfl (wP rfl (wP rfl (wP rfl ?_))))))))
 refine Ab (capt:=[]) rfl rfl rfl rfl rfl rfl (by kernel_rfl) (fun W _=>PF cf capt W p cap) ?_
 refine Aa (zE (zO (zP (zQ (zP (zQ ?_))))))
 exact HU (X:=Unit) (val:=fun _=> .tuple #[]) (Φ:=fun _=>True) (nb:=fun _=>[]) (fn:=Tryz.f160) tH rfl () rfl trivial fun W _=>Ag.nil _ _
theorem QJ (cf:Nat) (capt:List Value) (hE:Bk Tryz.prog cf=true) (c:Nat→Nat→Int) (W:World) (g cap:Nat) (l:List Nat) (junk:List Value) (hn:l.length≤12) (hg:W.heap[g]? =some (.cells (iC l++junk).toArray 3 (0,0)))
  (hf: ∀W',GY W W' g→ ∀p∈l, ∀q∈l,Ai Tryz.prog cf ([Value.int .i64 (p:Nat),Value.int .i64 (q:Nat)]++capt).toArray W' (fun _:Unit=> .int .i64 (c p q)) (fun _=>True) (fun _=>[])):
  Calls Tryz.prog 79 #[.slice (some ⟨g,0,none⟩) l.length cap,fnM cf capt] W fun e W'=> ∃x:Unit,e= .returned ((fun _=> .tuple #[]) x)∧True∧FL W W' g ((fun _=>g) x) ((fun _=> .cells (iC (BR c l)++junk).toArray 3 (0,0)) x):=by
 have key:Calls Tryz.prog 79 [.slice (some ⟨g,0,none⟩) l.length cap,fnM cf capt].toArray W fun e W'=> ∃x:Unit,e= .returned ((fun _=> .tuple #[]) x)∧(fun _=>True) x∧Below (AK W).heap.size (AK W) W'∧Ag (AK W) W' ((fun _=>[AI (Ar W g),En g (BR c l) junk]) x):=by
  refine Be (X:=Unit) (val:=fun _=> .tuple #[]) (Φ:=fun _=>True) (nb:=fun _=>[AI (Ar W g),En g (BR c l) junk]) (Hp.enterT (B:=En g l junk) rfl hg) Tryz.func79 rfl rfl rfl ?_
  refine zA (zB (wP rfl (wP rfl (wP rfl (Aa (zE (zB (wP rfl (wP rfl (wP rfl ?_))))))))))
  refine Er (k:= .u64) (kt:= .i64) (by kernel_rfl) (by kernel_rfl) rfl rfl rfl rfl ?_
  refine Ac 10 (.int .u64 (l.length:Nat)) rfl (congrArg (Value.int .u64) (SL hn)) ?_
  refine Ab (capt:=[]) rfl rfl rfl rfl rfl rfl (by kernel_rfl) (fun W _=>EU l.length (by omega) W) ?_
  refine wP rfl ?_
  refine BX (X:=Unit) (val:=fun _=> .tuple #[]) (Φ:=fun _=>True) (capt:=[]) 1 (B:=En g l junk) (L1:=[]) (L2:=[]) (b:=g) (ob:= .cells (iC l++junk).toArray 3 (0,0)) (fun _=>En g (BR c l) junk) (g':=fun _=>g) (o':=fun _=> .cells (iC (BR c l)++junk).toArray 3 (0,0))
   rfl rfl rfl rfl rfl rfl (by kernel_rfl) rfl rfl (fun _ _=>rfl) (fun W1 hp=>R6 cf capt hE c W1 g cap l junk _ hn (hp.own.cell 1 _ rfl (g, .cells (iC l++junk).toArray 3 (0,0)) (List.mem_cons_self ..)).1 (fun W2 hk=>hf W2 ((Gx hg ⟨_,List.mem_cons_self ..⟩ hp).trans hk))) (fun _ _=> ?_)
  refine Aa ?_
  refine CW (X:=Unit) (val:=fun _=> .tuple #[]) (Φ:=fun _=>True) (nb:=fun _=>[AI (Ar W g),En g (BR c l) junk]) (fn:=Tryz.f79) tH rfl () rfl trivial fun W1 hp=> ?_
  exact(hp.pick (l:=[AI (Ar W g),En g (BR c l) junk]) [0,1] (by decide) rfl).own
 refine key.mono ?_
 rintro e W' ⟨x,he,_,hb,hn'⟩
 exact⟨x,he,trivial,CN hg rfl hb hn'⟩
-- BOXES 9
-- CODE2
theorem RI {f:FrP} (h:f.OK) (z:Rat):f.velA z=if f.hd<0 then 0-f.speed z else f.speed z:=by
 unfold FrP.velA FrP.speed FrP.vel
 rcases h.hd with e|e<;>rw[e]
 ·rw[if_neg (show¬(1:Int)<0 by decide)]
  split
  ·rfl
  ·show((1:Int):Rat)*f.sp=f.sp
   have:((1:Int):Rat)=1:=rfl
   rw[this,Rat.one_mul]
 ·rw[if_pos (show(-1:Int)<0 by decide)]
  have:((-1:Int):Rat)= -1:=rfl
  rw[this]
  split<;>grind
theorem Qn (q:Rat) (h:Sz2 0 q) (W:World) (hv:BN W) (ht:Bd W):Ai Tryz.prog 78 #[str [48],str (Ak q)] W (fun _:Unit=> .tuple #[str (Ak (0-q)), .int .i64 0]) (fun _=>True) (fun _=>[]):=by
 have h:=Me 0 q h W hv ht
 rwa [Ex] at h
theorem Zj:szQ (0:Rat) 1:=G2 (z:=0) (by decide) (by decide)
theorem Ww {f:FrP} (h:f.Pl) (z:Rat):szQ (f.speed z) 2:=by
 unfold FrP.speed
 split
 ·exact Zj.mono (by decide)
 ·exact h.szp
theorem SI {f:FrP} (h:f.Pl) (z:Rat):szQ (f.velA z) 3:=by
 unfold FrP.velA
 split
 ·exact Zj.mono (by decide)
 ·exact h.vz
theorem LZ (f:FrP) (h:f.Pl) (z:Rat) (hz:szQ z 36) (b:Nat) (W:World) (hrow:Ae W b 0 [str (Ak z)]) (hv:BN W) (ht:Bd W):
  Ai Tryz.prog 76 #[frV f,A5 b] W (fun _:Unit=>str (Ak (f.velA z))) (fun _=>True) (fun _=>[]):=by
 have e:=RI h.ok z
 have zs:=sz2 (Zj) (Ww h z) (by decide)
 refine Ad (args:=[frV f,A5 b]) Tryz.func76 rfl rfl rfl ?_
 refine zA (zB ?_)
 (refine A0 rfl rfl rfl rfl ?_;intro)
 refine wP rfl (Aa (zE (zA (zB (wB 0 rfl rfl rfl ?_)))))
 refine Av rfl rfl rfl rfl (fun W hp=>Ae.load 0 tH rfl ((fun W1 hp=>hrow.hp hp) W hp) rfl) ?_
 refine Ab rfl rfl rfl rfl rfl rfl (by kernel_rfl) (fun W1 hp=>OS f h.ok z hz W1 (hv.hp hp) (ht.hp hp)) ?_
 iterate 5 refine wP rfl ?_
 refine Aa (zE (zA (zA (zB (wP rfl (wB 0 rfl rfl rfl (wP rfl (Aa (zE ?_)))))))))
 refine Al rfl (fun hc=> ?_) (fun hc=> ?_)
 ·have hc:f.hd<0:=of_decide_eq_true hc
  rw[if_pos hc] at e
  refine zB (wP rfl ?_)
  refine Ab rfl rfl rfl rfl rfl rfl (by kernel_rfl) (fun W1 hp=>Qn (f.speed z) zs W1 (hv.hp hp) (ht.hp hp)) ?_
  refine wP rfl (wP rfl (wP rfl (wP rfl (Aa (zE (zA (zB (wP rfl (wP rfl (Aa (zE (zO ?_))))))))))))
  exact Af tH rfl (.tmp rfl) () (by rw[e]) trivial fun W _=>Ag.nil _ _
 ·have hc: ¬f.hd<0:=of_decide_eq_false hc
  rw[if_neg hc] at e
  refine zI (zE (zA (zB (wP rfl (wP rfl (Aa (zE (zO ?_))))))))
  exact Af tH rfl (.tmp rfl) () (by rw[e]) trivial fun W _=>Ag.nil _ _
def or3 (a b c:Int):Int:=if a≠0 then a else if b≠0 then b else c
theorem aZ {z:Int} (h:z≠0):(!(z==0))=true:=by simp[h]
theorem W6 (g:Nat) (a b c:Int) (W:World) (hrow:Ae W g 0 [.int .i64 a, .int .i64 b, .int .i64 c]):
  Ai Tryz.prog 81 #[.slice (some ⟨g,0,none⟩) 3 3] W (fun _:Unit=> .int .i64 (or3 a b c)) (fun _=>True) (fun _=>[]):=by
 have at_: ∀(i:Nat) (v:Int),[a,b,c][i]? =some v→Ae W g (0+i*1) [.int .i64 v]:=fun i v hv=>by
  refine⟨hrow.lt,fun m u hu=> ?_⟩
  have hm:m=0:=by have:=(List.getElem?_eq_some_iff.1 hu).1;simpa using this
  subst hm
  have:=hrow.get i u (by
   match i,hv with
   |0,hv=>simp at hv hu⊢;rw[←hu,hv]
   |1,hv=>simp at hv hu⊢;rw[←hu,hv]
   |2,hv=>simp at hv hu⊢;rw[←hu,hv])
  rw[show 0+i*1+0=0+i by omega];exact this
 refine Ad (args:=[.slice (some ⟨g,0,none⟩) 3 3]) Tryz.func81 rfl rfl rfl ?_
 refine zA (zB (wP rfl (Aa (zE (zA (zB (wP rfl (Aa (zE (zA (zA (zB (wP rfl (wP rfl (wP rfl ?_)))))))))))))))
 refine Aa (zE (zH ?_))
 refine Az (X:=Nat) (fun i=>[(3, .int .i64 0),(6, .slice (some ⟨g,0,none⟩) 3 3),(7, .int .i64 ((3:Nat):Int)),(8, .int .i64 (i:Nat))]) (fun _=>[]) (fun i=>i≤3∧(0<i→a=0)∧(1<i→b=0)∧(2<i→c=0)) (fun i=>3-i) 0 ⟨by omega,fun h=>absurd h (by omega),fun h=>absurd h (by omega),fun h=>absurd h (by omega)⟩ ⟨rfl,rfl,rfl,rfl,trivial⟩ [] rfl ?_
 rintro i ⟨hi,h0,h1,h2⟩
 refine zA (zB (wP rfl ?_))
 by_cases hlt:i<3
 ·refine Ac 9 (.bool true) rfl (congrArg Value.bool (decide_eq_true (by omega))) ?_
  refine Aa (zE (zA (zR rfl (zI (zE (zA (zH (zA (zB ?_)))))))))
  obtain⟨v,hv⟩: ∃v,[a,b,c][i]? =some v:=⟨_,List.getElem?_eq_getElem (by simpa using hlt)⟩
  have hr:=at_ i v hv
  refine wJ ?_
  refine Av rfl rfl rfl rfl (fun W hp=>Ae.load 0 tH rfl ((fun W1 hp=>hr.hp hp) W hp) rfl) ?_
  refine wP rfl (Aa (zE (zA (zB (wP rfl (wP rfl (wP rfl ?_)))))))
  have hor:(v≠0→or3 a b c=v)∧(v=0→(i=0→a=0)∧(i=1→b=0)∧(i=2→c=0)):=by
   have:i=0∨i=1∨i=2:=by omega
   rcases this with rfl|rfl|rfl
   ·simp at hv;subst hv;exact⟨fun h=>by unfold or3;rw[if_pos h],fun h=>⟨fun _=>h,fun e=>by omega,fun e=>by omega⟩⟩
   ·simp at hv;subst hv;exact⟨fun h=>by unfold or3;rw[if_neg (fun hc=>hc (h0 (by omega))),if_pos h],fun h=>⟨fun e=>by omega,fun _=>h,fun e=>by omega⟩⟩
   ·simp at hv;subst hv;exact⟨fun h=>by unfold or3;rw[if_neg (fun hc=>hc (h0 (by omega))),if_neg (fun hc=>hc (h1 (by omega)))],fun h=>⟨fun e=>by omega,fun e=>by omega,fun _=>h⟩⟩
  by_cases hz:v=0
  ·refine Ac 14 (.bool false) rfl (congrArg Value.bool (by rw[hz];rfl)) ?_
   refine Aa (zE (zS rfl (zI (zN (zE (zB (wP rfl ?_)))))))
   refine Ac 16 (.int .i64 ((i+1:Nat):Int)) rfl (congrArg (Value.int .i64) (AM (by omega))) ?_
   refine wP rfl (Aa ?_)
   obtain⟨k0,k1,k2⟩:=hor.2 hz
   exact At (i+1) ⟨by show i+1≤3;omega,fun h=>by by_cases e:i=0;exact k0 e;exact h0 (by omega),fun h=>by have h:1<i+1:=h;by_cases e:i=1;exact k1 e;exact h1 (by omega),fun h=>by have h:2<i+1:=h;by_cases e:i=2;exact k2 e;exact h2 (by omega)⟩ (by show 3-(i+1)<3-i;omega) ⟨rfl,rfl,rfl,rfl,trivial⟩ [] rfl
  ·refine Ac 14 (.bool true) rfl (congrArg Value.bool (aZ hz)) ?_
   refine Aa (zE (zR rfl (zA (zB (wP rfl (wP rfl (Aa (zE (zO (zQ (zP (zP (zQ ?_)))))))))))))
   refine zP ?_
   exact Af tH rfl (.tmp rfl) () (by rw[hor.1 hz]) trivial fun W _=>Ag.nil _ _
 ·refine Ac 9 (.bool false) rfl (congrArg Value.bool (decide_eq_false (by omega))) ?_
  refine Aa (zE (zA (zS rfl (zJ (zK (zK (zL (zE (zA (zB (wP rfl (wP rfl (Aa ?_)))))))))))))
  refine zE (zO ?_)
  exact Af tH rfl (.tmp rfl) () (by unfold or3;rw[if_neg (fun hc=>hc (h0 (by omega))),if_neg (fun hc=>hc (h1 (by omega))),h2 (by omega)]) trivial fun W _=>Ag.nil _ _
abbrev XM (b:Nat):Value:= .func (.func 76) #[] #[A5 b]
structure Xb (F:List FrP) (z:Rat) (b4 b9 b10 b12 gF cF gP cP:Nat) (W:World):Prop where
 zz:Ae W b4 0 [str (Ak z)]
 f:Ae W b9 0 [.slice (some ⟨gF,0,none⟩) F.length cF]
 p:Ae W b10 0 [.slice (some ⟨gP,0,none⟩) F.length cP]
 v:Ae W b12 0 [XM b4]
 rf: ∀m,m<F.length→Ae W gF (0+m*5) (frV (fr F m)).cells.toList
 rp: ∀m,m<F.length→Ae W gP (0+m*1) [str (Ak ((fr F m).at z))]
 mv:BN W
 mt:Bd W
theorem Y2 {f:FrP} (h:f.Pl) {z:Rat} (hz:szQ z 20):szQ (f.at z) 60:=by
 unfold FrP.at
 have h1:=h.ok.posz.mono (show 5≤60 by decide)
 split
 ·exact h1
 ·exact(h.ok.posz.add (h.vz.mul (hz.sub h.szt))).mono (by decide)
theorem RW (F:List FrP) (hF: ∀f∈F,f.Pl) (hn:F.length≤24) (z:Rat) (hz:szQ z 20) (b4 b9 b10 b12 gF cF gP cP:Nat) (i k:Nat) (hi:i<F.length) (hk:k<F.length) (W:World) (hN:Xb F z b4 b9 b10 b12 gF cF gP cP W):
  Ai Tryz.prog 80 #[.int .i64 (i:Nat), .int .i64 (k:Nat),A5 b10,A5 b12,A5 b9] W (fun _:Unit=> .int .i64 (QC F z i k)) (fun _=>True) (fun _=>[]):=by
 have pi:=hF _ (Gz hi)
 have pk:=hF _ (Gz hk)
 refine Ad (args:=[.int .i64 (i:Nat), .int .i64 (k:Nat),A5 b10,A5 b12,A5 b9]) Tryz.func80 rfl rfl rfl ?_
 refine zA (zB (wP rfl (Aa (zE (zA ?_)))))
 refine zT Tryz.mixed (by kernel_rfl) ?_
 refine Ap rfl rfl rfl rfl (fun W hp=>Ae.load 0 tH rfl ((fun W1 hp=>hN.p.hp hp) W hp) rfl) ?_
 refine qP rfl ?_
 refine qJ ?_
 refine Ap rfl rfl rfl rfl (fun W hp=>Ae.load 0 tH rfl ((fun W1 hp=>(hN.rp i hi).hp hp) W hp) rfl) ?_
 refine Ap rfl rfl rfl rfl (fun W hp=>Ae.load 0 tH rfl ((fun W1 hp=>hN.p.hp hp) W hp) rfl) ?_
 refine qP rfl ?_
 refine qJ ?_
 refine Ap rfl rfl rfl rfl (fun W hp=>Ae.load 0 tH rfl ((fun W1 hp=>(hN.rp k hk).hp hp) W hp) rfl) ?_
 refine A8 rfl rfl rfl rfl rfl rfl (by kernel_rfl) (fun W1 hp=>Ej _ _ (sz2 (Y2 pi hz) (Y2 pk hz) (by decide)) W1 (hN.mv.hp hp) (hN.mt.hp hp)) ?_
 refine Ap rfl rfl rfl rfl (fun W hp=>Ae.load 0 tH rfl ((fun W1 hp=>hN.v.hp hp) W hp) rfl) ?_
 refine Ap rfl rfl rfl rfl (fun W hp=>Ae.load 0 tH rfl ((fun W1 hp=>hN.f.hp hp) W hp) rfl) ?_
 refine qP rfl ?_
 refine qJ ?_
 refine Ap rfl rfl rfl rfl (fun W hp=>Ae.load 0 tH rfl ((fun W1 hp=>(hN.rf i hi).hp hp) W hp) rfl) ?_
 refine A8 (capt:=[A5 b4]) rfl rfl rfl rfl rfl rfl (by kernel_rfl) (fun W1 hp=>LZ (fr F i) pi z (hz.mono (by decide)) b4 W1 (hN.zz.hp hp) (hN.mv.hp hp) (hN.mt.hp hp)) ?_
 refine Ap rfl rfl rfl rfl (fun W hp=>Ae.load 0 tH rfl ((fun W1 hp=>hN.v.hp hp) W hp) rfl) ?_
 refine Ap rfl rfl rfl rfl (fun W hp=>Ae.load 0 tH rfl ((fun W1 hp=>hN.f.hp hp) W hp) rfl) ?_
 refine qP rfl ?_
 refine qJ ?_
 refine Ap rfl rfl rfl rfl (fun W hp=>Ae.load 0 tH rfl ((fun W1 hp=>(hN.rf k hk).hp hp) W hp) rfl) ?_
 refine A8 (capt:=[A5 b4]) rfl rfl rfl rfl rfl rfl (by kernel_rfl) (fun W1 hp=>LZ (fr F k) pk z (hz.mono (by decide)) b4 W1 (hN.zz.hp hp) (hN.mv.hp hp) (hN.mt.hp hp)) ?_
 refine A8 rfl rfl rfl rfl rfl rfl (by kernel_rfl) (fun W1 hp=>Ej _ _ (sz2 (SI pi z) (SI pk z) (by decide)) W1 (hN.mv.hp hp) (hN.mt.hp hp)) ?_
 refine qP rfl (qP rfl (qP rfl ?_))
 refine AF 32 (.int .i64 ((i:Int)-(k:Int))) rfl (congrArg (Value.int .i64) (As (by omega) (by omega))) ?_
 refine AE ?_
 refine A4 Tryz.hZ tH rfl rfl rfl rfl rfl rfl rfl rfl rfl rfl rfl fun bS=> ?_
 refine Ab rfl rfl rfl rfl rfl rfl (by kernel_rfl) (fun W1 hp=>W6 bS _ _ _ W1 (Ae.of_bx hp 0 rfl rfl)) ?_
 refine wP rfl (Aa (zE (zO ?_)))
 exact Af tH rfl (.tmp rfl) () rfl trivial fun W _=>Ag.nil _ _
def EQ (F:List FrP) (ax:Bool) (k:Nat):List Nat:=(List.range k).filter fun i=>(fr F i).ax==ax
theorem WH (F:List FrP) (ax:Bool):EQ F ax F.length=upr F ax:=rfl
theorem TL (F:List FrP) (ax:Bool) (k:Nat):EQ F ax (k+1)=if ((fr F k).ax==ax)=true then EQ F ax k++[k] else EQ F ax k:=by
 unfold EQ
 rw[List.range_succ,List.filter_append]
 show _++List.filter _ [k]=_
 rw[List.filter_cons,List.filter_nil]
 split
 ·rfl
 ·rw[List.append_nil]
theorem PC (F:List FrP) (ax:Bool) (k:Nat):(EQ F ax k).length≤k:=by
 have:=List.length_filter_le (fun i=>(fr F i).ax==ax) (List.range k)
 rwa [List.length_range] at this
def JM (F:List FrP) (z:Rat) (ax:Bool):List Nat:=BR (QC F z) (upr F ax)
theorem Pa (cf:Nat) (capt:List Value) (W:World) (p:Option Addr) (cap:Nat):Ai Tryz.prog 79 #[.slice p 0 cap,fnM cf capt] W (fun _:Unit=> .tuple #[]) (fun _=>True) (fun _=>[]):=by
 refine Ad (args:=[.slice p 0 cap,fnM cf capt]) Tryz.func79 rfl rfl rfl ?_
 refine zA (zB (wP rfl (wP rfl (wP rfl (Aa (zE (zB (wP rfl (wP rfl (wP rfl ?_))))))))))
 refine Er (k:= .u64) (kt:= .i64) (by kernel_rfl) (by kernel_rfl) rfl rfl rfl rfl ?_
 refine Ac 10 (.int .u64 ((0:Nat):Int)) rfl rfl ?_
 refine Ab (capt:=[]) rfl rfl rfl rfl rfl rfl (by kernel_rfl) (fun W _=>EU 0 (by omega) W) ?_
 refine wP rfl ?_
 refine Ab (capt:=[]) rfl rfl rfl rfl rfl rfl (by kernel_rfl) (fun W _=>P7 cf capt W p cap _) ?_
 refine Aa ?_
 exact CW (X:=Unit) (val:=fun _=> .tuple #[]) (Φ:=fun _=>True) (nb:=fun _=>[]) (fn:=Tryz.f79) tH rfl () rfl trivial fun W _=>Ag.nil _ _
theorem Xb.keep {F:List FrP} {z:Rat} {b4 b9 b10 b12 gF cF gP cP g:Nat} {W W':World} (h:Xb F z b4 b9 b10 b12 gF cF gP cP W) (hk:GY W W' g) (h4:b4≠g) (h9:b9≠g) (h10:b10≠g) (h12:b12≠g) (hF:gF≠g) (hP:gP≠g) (hm:BN W') (ht:Bd W'):Xb F z b4 b9 b10 b12 gF cF gP cP W':=
 ⟨Ae.keep h.zz hk h4,Ae.keep h.f hk h9,Ae.keep h.p hk h10,Ae.keep h.v hk h12,fun m hm'=>Ae.keep (h.rf m hm') hk hF,fun m hm'=>Ae.keep (h.rp m hm') hk hP,hm,ht⟩
theorem Pt (W:World) (p:Option Addr) (cap:Nat) (rs:List (List Sd)) (h:EG W p rs) (h12:tot rs≤12) (z:Rat) (hz:szQ z 20) (ax:Bool):
  Ai Tryz.prog 32 #[AX p rs.length cap,str (Ak z), .bool ax] W (fun V:Vec=> .tuple #[V.val (JM (Aw rs) z ax).length, .int .i64 0]) (fun V=>V.OK 1 (JM (Aw rs) z ax).length (iC (JM (Aw rs) z ax))) (fun V=>[V.bx 3 (iC (JM (Aw rs) z ax))]):=by
 obtain⟨hne,hT24,hT0⟩:=Cf h.c
 obtain⟨hrg,_⟩:=By h.c
 have eF:=Ed rs
 have eP:=Fa (Aw rs) z
 have hpl: ∀f∈Aw rs,f.Pl:=fun f hf=>HL hrg hf
 obtain⟨T,hTe⟩: ∃T,T=tot rs:=⟨_,rfl⟩
 rw[←hTe] at eF hT24 hT0 h12
 rw[eF] at eP
 refine Ad (args:=[AX p rs.length cap,str (Ak z), .bool ax]) Tryz.func32 rfl rfl rfl ?_
 refine zA (zB ?_)
 (refine A0 rfl rfl rfl rfl ?_;intro)
 (refine A0 rfl rfl rfl rfl ?_;intro)
 refine wP rfl (wP rfl (Aa ?_))
 rename_i b3 b4
 refine zE (zA (zA (zB (wB 0 rfl rfl rfl (wB 1 rfl rfl rfl ?_)))))
 refine Ab rfl rfl rfl rfl rfl rfl (by kernel_rfl) (fun W1 hp=>IV W1 p cap rs (h.hp hp) z hz) ?_
 refine wP rfl (Aa (zE (zA (zB (wP rfl (wP rfl (Aa (zE (zS rfl (zI (zE (zA (zB ?_)))))))))))))
 refine wB 0 rfl rfl rfl (wB 1 rfl rfl rfl ?_)
 refine Ay (X:=Vec×Vec) rfl rfl rfl rfl rfl rfl (by kernel_rfl) (fun W1 hp=>GO W1 p cap rs (h.hp hp) z (hz.mono (by decide))) ?_
 rintro⟨F,P⟩ ⟨hF,hP⟩
 have hF:F.OK 5 (Aw rs).length (frC (Aw rs)):=hF
 have hP:P.OK 1 (Db (Aw rs) z).length (nS (Db (Aw rs) z)):=hP
 obtain⟨gF,cF,junkF,rfl⟩: ∃(gF cF:Nat) (junkF:List Value),F=⟨some gF,cF,junkF⟩:=by
  obtain⟨pF,cF,jF⟩:=F
  cases pF with
  |none=>have:=hF.nil rfl;omega
  |some g=>exact⟨g,cF,jF,rfl⟩
 obtain⟨gP,cP,junkP,rfl⟩: ∃(gP cP:Nat) (junkP:List Value),P=⟨some gP,cP,junkP⟩:=by
  obtain⟨pP,cP,jP⟩:=P
  cases pP with
  |none=>have:=hP.nil rfl;omega
  |some g=>exact⟨g,cP,jP,rfl⟩
 obtain⟨gF',cF',hFv,hFr⟩:=Vec.frs hF (by omega)
 have hFv:Value.slice (some ⟨gF,0,none⟩) (Aw rs).length cF=Value.slice (some ⟨gF',0,none⟩) (Aw rs).length cF':=hFv
 obtain⟨rfl,rfl⟩:gF=gF'∧cF=cF':=by injection hFv with a b c;injection a with a;injection a with a;exact⟨a,c⟩
 have hFr: ∀ {W0 W:World} {bxs:List Bx},Hp W0 bxs W→ ∀k,nth bxs k=some (⟨gF,39,frC (Aw rs)++junkF,true,none⟩:Bx)→ ∀m,m<(Aw rs).length→Ae W gF (0+m*5) (frV (fr (Aw rs) m)).cells.toList:=fun hp k hk m hm=>hFr hp k hk m _ (FO hm)
 have hPr: ∀ {W0 W:World} {bxs:List Bx},Hp W0 bxs W→ ∀k,nth bxs k=some (⟨gP,37,nS (Db (Aw rs) z)++junkP,true,none⟩:Bx)→ ∀m,m<(Aw rs).length→Ae W gP (0+m*1) [str (Ak ((fr (Aw rs) m).at z))]:=fun hp k hk m hm=>by
  have hq:=DC hp k (A:=nS ((Db (Aw rs) z).take m)) (B:=[str (Ak ((fr (Aw rs) m).at z))]) (C:=nS ((Db (Aw rs) z).drop (m+1))++junkP) (off:=0+m*1) hk (by rw[Jl (l:=Db (Aw rs) z) (i:=m) (by rw[Fa];exact hm),Tf];simp only[List.append_assoc]) (by rw[Dm,List.length_take,Fa];omega)
  exact hq
 dsimp only[Vec.val,Vec.bx]
 rw[eF,eP]
 refine wP rfl (wP rfl (wP rfl (wP rfl ?_)))
 (refine An Tryz.hZ rfl rfl rfl rfl ?_;intro)
 (refine An Tryz.hZ rfl rfl rfl rfl ?_;intro)
 refine wS 4 rfl rfl rfl (wS 5 rfl rfl rfl (wP rfl (Aa ?_)))
 rename_i b9 b10
 refine zE (zA (zA (zB (wP rfl (wP rfl (Aa (zE (zS rfl (zI (zE (zA (zB (wP rfl ?_)))))))))))))
 refine Bm (z:= .nilFunc) rfl rfl rfl (fun W=>by kernel_rfl) fun b12=> ?_
 refine wS 6 rfl rfl rfl (Aa (zE (zA (zB (wP rfl (Aa (zE (zA (zA (zB (wB 4 rfl rfl rfl (wP rfl (wP rfl ?_)))))))))))))
 refine Aa (zE (zH ?_))
 refine Cl ?_
 refine Az (X:=Nat×Vec) (fun s=>[(2, .bool ax),(9,A5 b9),(10,A5 b10),(12,A5 b12),(13,s.2.val (EQ (Aw rs) ax s.1).length),(33, .slice (some ⟨gF,0,none⟩) T cF),(34, .int .i64 (T:Nat)),(35, .int .i64 (s.1:Nat))])
  (fun s=>[bxE b3 24 (slv p rs.length cap),bxE b4 37 (str (Ak z)),⟨gF,39,frC (Aw rs)++junkF,true,none⟩,⟨gP,37,nS (Db (Aw rs) z)++junkP,true,none⟩,bxE b9 29 (.slice (some ⟨gF,0,none⟩) T cF),bxE b10 50 (.slice (some ⟨gP,0,none⟩) T cP),bxE b12 120 (XM b4),s.2.bx 3 (iC (EQ (Aw rs) ax s.1))]) (fun s=>s.1≤T∧s.2.OK 1 (EQ (Aw rs) ax s.1).length (iC (EQ (Aw rs) ax s.1))) (fun s=>T-s.1) (0,Vec.empty) ⟨Nat.zero_le _,Vec.OK.empty 1⟩ ⟨rfl,rfl,rfl,rfl,rfl,rfl,rfl,rfl,trivial⟩ [] rfl ?_
 rintro⟨i,V⟩ ⟨hi,hV⟩
 have hi:i≤T:=hi
 have hV:V.OK 1 (EQ (Aw rs) ax i).length (iC (EQ (Aw rs) ax i)):=hV
 have hul:=PC (Aw rs) ax i
 by_cases hlt:i<T
 ·have hsu:=TL (Aw rs) ax i
  have hul1:=PC (Aw rs) ax (i+1)
  refine zA (zB (wP rfl ?_))
  refine Ac 36 (.bool true) rfl (congrArg Value.bool (decide_eq_true (by omega))) ?_
  refine Aa (zE (zA (zR rfl (zI (zE (zA (zH (zA (zB (wP rfl ?_))))))))))
  refine wJ ?_
  refine Av rfl rfl rfl rfl (fun W hp=>Ae.load 0 tH rfl ((fun W1 hp=>hFr hp 2 rfl i (by omega)) W hp) rfl) ?_
  (refine An Tryz.hZ rfl rfl rfl rfl ?_;intro)
  refine wP rfl (wS 8 rfl rfl rfl (Aa ?_))
  rename_i b15
  refine zE (zA (zB (wP rfl ?_)))
  refine NB 8 (v:= .bool (fr (Aw rs) i).ax) tH rfl rfl rfl rfl rfl rfl rfl rfl ?_
  refine wP rfl ?_
  refine Fo Tryz.underlying4 rfl rfl rfl rfl rfl rfl ?_
  refine Aa (zE ?_)
  refine Al rfl (fun hc=> ?_) (fun hc=> ?_)
  ·have hc:((fr (Aw rs) i).ax==ax)=true:=hc
   rw[if_pos hc] at hsu
   refine zB (wP rfl (wP rfl ?_))
   refine A4 Tryz.hZ tH rfl rfl rfl rfl rfl rfl rfl rfl rfl rfl rfl fun bS=> ?_
   refine AO (V:=V) (len:=(EQ (Aw rs) ax i).length) (xs:=iC (EQ (Aw rs) ax i)) 7 9 Tryz.vec58 (EQ (Aw rs) ax (i+1)).length (iC (EQ (Aw rs) ax (i+1))) rfl rfl rfl rfl rfl rfl rfl rfl rfl rfl rfl hV rfl rfl (by rw[hsu,List.length_append];rfl) (by rw[hsu];show _=(EQ (Aw rs) ax i++[i]).map _;rw[List.map_append];rfl) (by simp only[maxLen];omega) (by omega) rfl ?_
   intro gV cV jV hV1
   refine wP rfl (Aa (zN (zE (zB (wP rfl ?_)))))
   refine Ac 48 (.int .i64 ((i+1:Nat):Int)) rfl (congrArg (Value.int .i64) (AM (by omega))) ?_
   refine wP rfl (Aa ?_)
   exact At (i+1,⟨some gV,cV,jV⟩) ⟨hlt,hV1⟩ (by show T-(i+1)<T-i;omega) ⟨rfl,rfl,rfl,rfl,rfl,rfl,rfl,rfl,trivial⟩ _ rfl
  ·have hc:((fr (Aw rs) i).ax==ax)=false:=hc
   rw[if_neg (by rw[hc];decide)] at hsu
   refine zI (zN (zE (zB (wP rfl ?_))))
   refine Ac 48 (.int .i64 ((i+1:Nat):Int)) rfl (congrArg (Value.int .i64) (AM (by omega))) ?_
   refine wP rfl (Aa ?_)
   exact At (i+1,V) ⟨hlt,by show V.OK 1 (EQ (Aw rs) ax (i+1)).length (iC (EQ (Aw rs) ax (i+1)));rw[hsu];exact hV⟩ (by show T-(i+1)<T-i;omega) ⟨rfl,rfl,rfl,rfl,by show some (V.val _)=some (V.val (EQ (Aw rs) ax (i+1)).length);rw[hsu],rfl,rfl,rfl,trivial⟩ [⟨b15,39,(frV (fr (Aw rs) i)).cells.toList,true,none⟩] (by show _=[_,_,_,_,_,_,_,V.bx 3 (iC (EQ (Aw rs) ax (i+1))),_];rw[hsu];rfl)
 have e:i=T:=by omega
 subst e
 obtain⟨U,hU⟩: ∃U,U=upr (Aw rs) ax:=⟨_,rfl⟩
 have hUe:EQ (Aw rs) ax i=U:=by rw[←eF,hU];exact WH _ _
 have hoe:JM (Aw rs) z ax=BR (QC (Aw rs) z) U:=by rw[hU];rfl
 rw[hUe] at hV hul
 have hUm: ∀x∈U,x<(Aw rs).length:=fun x hx=>(XG.1 (hU▸hx)).1
 have hsl:=NG (QC (Aw rs) z) U
 refine Nj (bxs':=[bxE b3 24 (slv p rs.length cap),bxE b4 37 (str (Ak z)),⟨gF,39,frC (Aw rs)++junkF,true,none⟩,⟨gP,37,nS (Db (Aw rs) z)++junkP,true,none⟩,bxE b9 29 (.slice (some ⟨gF,0,none⟩) i cF),bxE b10 50 (.slice (some ⟨gP,0,none⟩) i cP),bxE b12 120 (XM b4),V.bx 3 (iC U)]) (by rw[hUe]) ?_
 refine zA (zB (wP rfl ?_))
 refine Ac 36 (.bool false) rfl (congrArg Value.bool (decide_eq_false (by omega))) ?_
 refine Aa (zE (zA (zS rfl (zJ (zK (zK (zL (zE (zA (zB (wP rfl ?_)))))))))))
 refine Ac 49 (V.val U.length) rfl (by show V.val (EQ (Aw rs) ax i).length=_;rw[hUe]) ?_
 refine wP rfl ?_
 obtain⟨pV,cV,jk⟩:=V
 cases pV with
 |none=>
  have h0:=hV.nil rfl
  have h00:U=[]:=List.length_eq_zero_iff.1 h0
  have ho0:JM (Aw rs) z ax=[]:=by rw[hoe,h00];rfl
  refine Ab (capt:=[]) rfl rfl rfl rfl rfl rfl (by kernel_rfl) (fun W1 _=>Pa _ _ W1 none 0) ?_
  refine Aa (zE (zA (zB (wP rfl (wP rfl (wP rfl (Aa (zE (zO ?_)))))))))
  exact Au tH rfl (.tmp rfl) (.tmp rfl) Vec.empty rfl (by show Vec.empty.OK 1 (JM (Aw rs) z ax).length _;rw[ho0];exact Vec.OK.empty 1) fun W1 hp=>by
   show Ag W W1 [Vec.empty.bx 3 (iC (JM (Aw rs) z ax))]
   rw[ho0]
   exact Ag.of_hp (hp.pick (l:=[Vec.empty.bx 3 (iC [])]) [7] (by decide) rfl)
 |some gV=>
  refine BX (X:=Unit) (val:=fun _=> .tuple #[]) (Φ:=fun _=>True) (capt:=[]) 7 (B:=En gV U jk) (L1:=[]) (L2:=[]) (b:=gV) (ob:= .cells (iC U++jk).toArray 3 (0,0)) (fun _=>En gV (BR (QC (Aw rs) z) U) jk) (g':=fun _=>gV) (o':=fun _=> .cells (iC (BR (QC (Aw rs) z) U)++jk).toArray 3 (0,0))
   rfl rfl rfl rfl rfl rfl (by kernel_rfl) rfl rfl (fun _ _=>rfl) (fun W1 hp=> ?_) (fun _ _=> ?_)
  ·have hcell:=hp.own.cell 7 _ rfl (gV, .cells (iC U++jk).toArray 3 (0,0)) (List.mem_cons_self ..)
   have apart: ∀k B,([bxE b3 24 (slv p rs.length cap),bxE b4 37 (str (Ak z)),⟨gF,39,frC (Aw rs)++junkF,true,none⟩,⟨gP,37,nS (Db (Aw rs) z)++junkP,true,none⟩,bxE b9 29 (.slice (some ⟨gF,0,none⟩) i cF),bxE b10 50 (.slice (some ⟨gP,0,none⟩) i cP),bxE b12 120 (XM b4),En gV U jk]:List Bx)[k]? =some B→k≠7→ ∀q∈B.blk,q.1≠gV:=fun k B hk hne q hq=>hp.own.apart k 7 B (En gV U jk) hk rfl hne q hq (gV, .cells (iC U++jk).toArray 3 (0,0)) (List.mem_cons_self ..)
   have hN:Xb (Aw rs) z b4 b9 b10 b12 gF cF gP cP W1:=⟨Ae.of_bx hp 1 rfl rfl,by rw[eF];exact Ae.of_bx hp 4 rfl rfl,by rw[eF];exact Ae.of_bx hp 5 rfl rfl,Ae.of_bx hp 6 rfl rfl,fun m hm=>hFr hp 2 rfl m hm,fun m hm=>hPr hp 3 rfl m hm,h.v.hp hp,h.t.hp hp⟩
   refine QJ 80 [A5 b10,A5 b12,A5 b9] (by kernel_rfl) (QC (Aw rs) z) W1 gV cV U jk (by omega) hcell.1 fun W' hK x hx y hy=> ?_
   have hbel:=hK.below hp.below hcell.2
   exact RW (Aw rs) hpl (by omega) z hz b4 b9 b10 b12 gF cF gP cP x y (hUm x hx) (hUm y hy) W' (hN.keep hK (apart 1 _ rfl (by decide) _ (List.mem_cons_self ..)) (apart 4 _ rfl (by decide) _ (List.mem_cons_self ..)) (apart 5 _ rfl (by decide) _ (List.mem_cons_self ..)) (apart 6 _ rfl (by decide) _ (List.mem_cons_self ..)) (apart 2 _ rfl (by decide) _ (List.mem_cons_self ..)) (apart 3 _ rfl (by decide) _ (List.mem_cons_self ..)) (h.v.below hbel) (h.t.below hbel))
  refine Aa (zE (zA (zB (wP rfl (wP rfl (wP rfl (Aa (zE (zO ?_)))))))))
  have hOK:(⟨some gV,cV,jk⟩:Vec).OK 1 (JM (Aw rs) z ax).length (iC (JM (Aw rs) z ax)):=by
   rw[hoe,hsl]
   refine⟨by rw[List.length_map,hsl,Nat.mul_one],fun hc=>(by cases hc),fun hc=> ?_⟩
   obtain⟨k1,k2,k3⟩:=hV.cap hc
   refine⟨k1,k2, ?_⟩
   rw[List.length_map] at k3⊢
   rw[hsl]
   exact k3
  exact Au tH rfl (.tmp rfl) (.tmp rfl) ⟨some gV,cV,jk⟩ (by show Value.tuple #[.slice (some ⟨gV,0,none⟩) (EQ (Aw rs) ax i).length cV, .int .i64 0]= .tuple #[.slice (some ⟨gV,0,none⟩) (JM (Aw rs) z ax).length cV, .int .i64 0];rw[hUe,hoe,hsl]) hOK fun W1 hp=>by
   show Ag W W1 [En gV (JM (Aw rs) z ax) jk]
   rw[hoe]
   exact Ag.of_hp (hp.pick (l:=[En gV (BR (QC (Aw rs) z) U) jk]) [7] (by decide) rfl)
-- BOXES 10
-- CODE2
section
variable {r:Option Nat} {n:Nat} {P:Program} {W0:World} {N:Nat} {D:List Deferred} {ops:List Oper} {Q:Exit→Act→World→Prop} {l:List Oper} {env:Env} {bxs:List Bx}
theorem TE (h:WL r n P N D ops Q l env (Hp W0 (bxs++[AI []]))):WL r n P N D ops Q l env (Hp W0 bxs):= .mk fun a W ha hd hp=>h.out a W ha hd hp.newGrp
end
def H0 (f g:FrP):Bool:=decide (f.pos=g.pos)&&(decide (f.sp=g.sp)&&(decide (f.sp=0)||(decide (f.st=g.st)&&decide (f.hd=g.hd))))
theorem Rd {f g:FrP}:H0 f g=true↔alw f g:=by simp[H0,alw]
theorem OD (f g:FrP) (W:World):Ai Tryz.prog 84 #[frV f,frV g] W (fun _:Unit=> .bool (H0 f g)) (fun _=>True) (fun _=>[]):=by
 refine Ad (args:=[frV f,frV g]) Tryz.func84 rfl rfl rfl ?_
 refine zA (zB ?_)
 (refine A0 rfl rfl rfl rfl ?_;intro)
 (refine A0 rfl rfl rfl rfl ?_;intro)
 refine wP rfl (Aa (zE (zA (zB (wP rfl (wB 0 rfl rfl rfl (wP rfl (wB 1 rfl rfl rfl (wP rfl ?_)))))))))
 by_cases c1:f.pos=g.pos
 rotate_left
 ·have e:H0 f g=false:=by unfold H0;rw[decide_eq_false c1];rfl
  refine Ac 9 (.bool false) rfl (congrArg Value.bool (beq_eq_false_iff_ne.2 c1)) ?_
  refine wP rfl ?_
  iterate 5 refine Ao rfl rfl ?_
  refine wP rfl (wP rfl ?_)
  iterate 17 refine Ao rfl rfl ?_
  refine wP rfl (wP rfl (Aa (zE (zO ?_))))
  exact Af tH rfl (.tmp rfl) () (by rw[e]) trivial fun W _=>Ag.nil _ _
 refine Ac 9 (.bool true) rfl (congrArg Value.bool (beq_iff_eq.2 c1)) ?_
 refine wP rfl (wP rfl (wB 0 rfl rfl rfl (wP rfl (wB 1 rfl rfl rfl (wP rfl ?_)))))
 by_cases c2:f.sp=g.sp
 rotate_left
 ·have e:H0 f g=false:=by unfold H0;rw[decide_eq_false c2,Bool.false_and,Bool.and_false]
  refine Ac 15 (.bool false) rfl (congrArg Value.bool ((Bf _ _).trans (decide_eq_false fun h=>c2 (CQ.1 h)))) ?_
  refine wP rfl (wP rfl ?_)
  iterate 17 refine Ao rfl rfl ?_
  refine wP rfl (wP rfl (Aa (zE (zO ?_))))
  exact Af tH rfl (.tmp rfl) () (by rw[e]) trivial fun W _=>Ag.nil _ _
 refine Ac 15 (.bool true) rfl (congrArg Value.bool ((Bf _ _).trans (decide_eq_true (by rw[c2])))) ?_
 refine wP rfl (wP rfl (wP rfl (wB 0 rfl rfl rfl (wP rfl ?_))))
 by_cases c3:f.sp=0
 ·have e:H0 f g=true:=Rd.2 ⟨c1,c2, .inl c3⟩
  refine Ac 20 (.bool true) rfl (congrArg Value.bool ((Bf _ _).trans ((FT _).trans (decide_eq_true c3)))) ?_
  refine wP rfl ?_
  iterate 12 refine Ao rfl rfl ?_
  refine wP rfl (wP rfl (wP rfl (Aa (zE (zO ?_)))))
  exact Af tH rfl (.tmp rfl) () (by rw[e]) trivial fun W _=>Ag.nil _ _
 refine Ac 20 (.bool false) rfl (congrArg Value.bool ((Bf _ _).trans ((FT _).trans (decide_eq_false c3)))) ?_
 refine wP rfl (wP rfl (wB 0 rfl rfl rfl (wP rfl (wB 1 rfl rfl rfl (wP rfl ?_)))))
 by_cases c4:f.st=g.st
 rotate_left
 ·have e:H0 f g=false:=by unfold H0;rw[decide_eq_false c3,decide_eq_false c4];simp
  refine Ac 26 (.bool false) rfl (congrArg Value.bool ((Bf _ _).trans (decide_eq_false fun h=>c4 (CQ.1 h)))) ?_
  refine wP rfl ?_
  iterate 5 refine Ao rfl rfl ?_
  refine wP rfl (wP rfl (wP rfl (wP rfl (Aa (zE (zO ?_))))))
  exact Af tH rfl (.tmp rfl) () (by rw[e]) trivial fun W _=>Ag.nil _ _
 refine Ac 26 (.bool true) rfl (congrArg Value.bool ((Bf _ _).trans (decide_eq_true (by rw[c4])))) ?_
 refine wP rfl (wP rfl (wB 0 rfl rfl rfl (wP rfl (wB 1 rfl rfl rfl (wP rfl ?_)))))
 by_cases c5:f.hd=g.hd
 ·have e:H0 f g=true:=Rd.2 ⟨c1,c2, .inr ⟨c4,c5⟩⟩
  refine Ac 32 (.bool true) rfl (congrArg Value.bool (beq_iff_eq.2 c5)) ?_
  refine wP rfl (wP rfl (wP rfl (wP rfl (Aa (zE (zO ?_))))))
  exact Af tH rfl (.tmp rfl) () (by rw[e]) trivial fun W _=>Ag.nil _ _
 ·have e:H0 f g=false:=by unfold H0;rw[decide_eq_false c3,decide_eq_false c5];simp
  refine Ac 32 (.bool false) rfl (congrArg Value.bool (beq_eq_false_iff_ne.2 c5)) ?_
  refine wP rfl (wP rfl (wP rfl (wP rfl (Aa (zE (zO ?_))))))
  exact Af tH rfl (.tmp rfl) () (by rw[e]) trivial fun W _=>Ag.nil _ _
abbrev Mw:Type:=List (Nat×(Nat×Nat))
abbrev prC (q:Nat×Nat):List Value:=[.int .i64 (q.1:Nat), .int .i64 (q.2:Nat)]
def DM (mk:Mw):List Value:=mk.map fun p=> .slice (some ⟨p.1,0,none⟩) 2 2
def prL (mk:Mw):List (Nat×Obj):=mk.reverse.map fun p=>(p.1, .cells (prC p.2).toArray 3 (0,0))
def prB (mk:Mw):Bx:=AI (prL mk)
theorem Uk (mk:Mw):(DM mk).length=mk.length:=List.length_map _
theorem R0 (mk:Mw) (b:Nat) (q:Nat×Nat):DM (mk++[(b,q)])=DM mk++[.slice (some ⟨b,0,none⟩) 2 2]:=by unfold DM;rw[List.map_append];rfl
theorem WB (mk:Mw) (b:Nat) (q:Nat×Nat):(prB (mk++[(b,q)])).blk=(⟨b,3,prC q,true,none⟩:Bx).blk++(prB mk).blk:=by
 show prL (mk++[(b,q)])=_++prL mk
 unfold prL
 rw[List.reverse_append];rfl
def L4 (W:World) (p:Option Addr) (L:List (Nat×Nat)):Prop:=L=[]∨ ∃g off,p=some ⟨g,off,none⟩∧ ∀i (hi:i<L.length), ∃b,Ae W g (off+i*1) [.slice (some ⟨b,0,none⟩) 2 2]∧Ae W b 0 (prC L[i])
theorem L4.at_ {W:World} {p:Option Addr} {L:List (Nat×Nat)} (h:L4 W p L) {i:Nat} (hi:i<L.length): ∃g off,p=some ⟨g,off,none⟩∧ ∀i (hi:i<L.length), ∃b,Ae W g (off+i*1) [.slice (some ⟨b,0,none⟩) 2 2]∧Ae W b 0 (prC L[i]):=by
 rcases h with rfl|h
 ·exact absurd hi (Nat.not_lt_zero _)
 ·exact h
theorem Un {V:Vec} {mk:Mw} {L:List (Nat×Nat)} (hL:mk.map (·.2)=L) (hV:V.OK 1 mk.length (DM mk)): ∃p cap,V.val mk.length= .slice p L.length cap∧
  ∀ {W0 W:World} {bxs:List Bx},Hp W0 bxs W→ ∀k i,nth bxs k=some (V.bx 58 (DM mk))→nth bxs i=some (prB mk)→L4 W p L:=by
 have hl:L.length=mk.length:=by rw[←hL,List.length_map]
 obtain⟨p,cap,junk⟩:=V
 cases p with
 |none=>
  have h0:=hV.nil rfl
  refine⟨none,0,by rw[hl,h0];rfl,fun _ _ _ _ _=> .inl (List.length_eq_zero_iff.1 (by omega))⟩
 |some g=>
  refine⟨some ⟨g,0,none⟩,cap,by rw[hl];rfl,fun {W0 W bxs} hp k i hk hi=> .inr ⟨g,0,rfl,fun j hj=> ?_⟩⟩
  have hjm:j<mk.length:=by omega
  have e2:L[j]=mk[j].2:=by simp only[←hL,List.getElem_map]
  refine⟨mk[j].1,DC hp k (A:=DM (mk.take j)) (C:=DM (mk.drop (j+1))++junk) hk ?_ (by rw[Uk,List.length_take];omega), ?_⟩
  ·conv=>lhs;rw[←List.take_append_drop j mk,List.drop_eq_getElem_cons hjm]
   unfold DM
   rw[List.map_append,List.map_cons,List.append_assoc];rfl
  ·rw[e2]
   refine Xm (ty:=3) hp i hi (l:=prL mk) ?_
   exact List.mem_map.2 ⟨mk[j],List.mem_reverse.2 (List.getElem_mem hjm),rfl⟩
def OA (F:List FrP) (z:Rat) (q:Nat×Nat):Bool:=decide ((fr F q.1).at z=(fr F q.2).at z)&& !H0 (fr F q.1) (fr F q.2)
def prW (F:List FrP) (z:Rat):List (Nat×Nat):=(prs F).filter (OA F z)
def Ir (F:List FrP) (z:Rat) (j:Nat):List (Nat×Nat):=((prs F).take j).filter (OA F z)
theorem VY (F:List FrP) (z:Rat):Ir F z (prs F).length=prW F z:=by unfold Ir prW;rw[List.take_length]
theorem Uu {F:List FrP} {z:Rat} {j:Nat} (hj:j<(prs F).length):Ir F z (j+1)=if OA F z ((prs F).getD j (0,0))=true then Ir F z j++[(prs F).getD j (0,0)] else Ir F z j:=by
 unfold Ir
 rw[List.getD_eq_getElem?_getD,List.take_add_one,List.getElem?_eq_getElem hj,List.filter_append]
 show _++List.filter _ [_]=_
 rw[List.filter_cons,List.filter_nil]
 show _++_=if OA F z (prs F)[j]=true then _++[(prs F)[j]] else _
 split
 ·rfl
 ·rw[List.append_nil]
theorem UL (F:List FrP) (z:Rat) (j:Nat):(Ir F z j).length≤F.length*F.length:=by
 have h1:=List.length_filter_le (OA F z) ((prs F).take j)
 have h2:=OJ F
 rw[List.length_take] at h1
 unfold Ir
 omega
theorem Ol (W:World) (p:Option Addr) (cap:Nat) (rs:List (List Sd)) (h:EG W p rs) (z:Rat) (hz:szQ z 20):
  Ai Tryz.prog 33 #[AX p rs.length cap,str (Ak z)] W (fun x:Vec×Mw=> .tuple #[x.1.val x.2.length, .int .i64 0]) (fun x=>x.2.map (·.2)=prW (Aw rs) z∧x.1.OK 1 x.2.length (DM x.2))
   (fun x=>[x.1.bx 58 (DM x.2),prB x.2]):=by
 obtain⟨hne,hT24,hT0⟩:=Cf h.c
 obtain⟨hrg,_⟩:=By h.c
 have eF:=Ed rs
 have eP:=Fa (Aw rs) z
 obtain⟨T,hTe⟩: ∃T,T=tot rs:=⟨_,rfl⟩
 rw[←hTe] at eF hT24 hT0
 rw[eF] at eP
 have hwl: ∀j,(Ir (Aw rs) z j).length≤576:=fun j=>by
  have h1:=UL (Aw rs) z j
  rw[eF] at h1
  have:=Nat.mul_le_mul hT24 hT24
  omega
 refine Ad (args:=[AX p rs.length cap,str (Ak z)]) Tryz.func33 rfl rfl rfl ?_
 refine zA (zB ?_)
 (refine A0 rfl rfl rfl rfl ?_;intro)
 refine wP rfl (wP rfl (Aa ?_))
 rename_i b2
 refine zE (zA (zA (zB (wB 0 rfl rfl rfl (wP rfl ?_)))))
 refine Ab rfl rfl rfl rfl rfl rfl (by kernel_rfl) (fun W1 hp=>IV W1 p cap rs (h.hp hp) z hz) ?_
 refine wP rfl (Aa (zE (zA (zB (wP rfl (wP rfl (Aa (zE (zS rfl (zI (zE (zA (zB ?_)))))))))))))
 refine wB 0 rfl rfl rfl (wP rfl ?_)
 refine Ay (X:=Vec×Vec) rfl rfl rfl rfl rfl rfl (by kernel_rfl) (fun W1 hp=>GO W1 p cap rs (h.hp hp) z (hz.mono (by decide))) ?_
 rintro⟨F,P⟩ ⟨hF,hP⟩
 have hF:F.OK 5 (Aw rs).length (frC (Aw rs)):=hF
 have hP:P.OK 1 (Db (Aw rs) z).length (nS (Db (Aw rs) z)):=hP
 obtain⟨gF,cF,hFv,hFr⟩:=Vec.frs hF (by omega)
 have hFr: ∀ {W0 W:World} {bxs:List Bx},Hp W0 bxs W→ ∀k,nth bxs k=some (F.bx 39 (frC (Aw rs)))→ ∀m,m<T→Ae W gF (0+m*5) (frV (fr (Aw rs) m)).cells.toList:=fun hp k hk m hm=>hFr hp k hk m _ (FO (by omega))
 obtain⟨pP,cP,hPv,hPr⟩:=Vec.num hP
 obtain⟨gP,hpe,hPq⟩:=hPr (by omega)
 subst hpe
 have hPr: ∀ {W0 W:World} {bxs:List Bx},Hp W0 bxs W→ ∀k,nth bxs k=some (P.bx 37 (nS (Db (Aw rs) z)))→ ∀m,m<T→Ae W gP (0+m*1) [str (Ak ((fr (Aw rs) m).at z))]:=fun hp k hk m hm=>Tf (F:=Aw rs) (z:=z) (i:=m) (by omega)▸hPq hp k hk m (by omega)
 dsimp only
 rw[hFv,hPv,eF,eP]
 refine wP rfl (wP rfl (wP rfl (wP rfl ?_)))
 (refine An Tryz.hZ rfl rfl rfl rfl ?_;intro)
 (refine An Tryz.hZ rfl rfl rfl rfl ?_;intro)
 refine wS 3 rfl rfl rfl (wS 4 rfl rfl rfl (wP rfl (Aa ?_)))
 rename_i b7 b8
 refine zE (zA (zA (zB (wP rfl (wP rfl (Aa (zE (zS rfl (zI (zE (zA (zB ?_))))))))))))
 (refine An Tryz.hZ rfl rfl rfl rfl ?_;intro)
 refine Aa ?_
 rename_i b10
 refine zE (zA (zA (zB ?_)))
 refine E2 ?_
 refine TE ?_
 refine wB 3 rfl rfl rfl ?_
 refine Ay (X:=Nat) rfl rfl rfl rfl rfl rfl (by kernel_rfl) (fun W1 _=>Kp W1 _) ?_
 intro bp _
 refine Aa (zE (zH ?_))
 refine Nw (X:=Nat×Vec×Mw) (fun x=>[bxE b2 24 (slv p rs.length cap),F.bx 39 (frC (Aw rs)),P.bx 37 (nS (Db (Aw rs) z)),bxE b7 29 (.slice (some ⟨gF,0,none⟩) T cF),bxE b8 50 (.slice (some ⟨gP,0,none⟩) T cP),bxE b10 66 (x.2.1.val x.2.2.length),x.2.1.bx 58 (DM x.2.2),prB x.2.2,bxE bp 29 (.slice (some ⟨gF,0,none⟩) T cF)])
  (fun j x=>x.1=j∧x.2.2.map (·.2)=Ir (Aw rs) z x.1∧x.2.1.OK 1 x.2.2.length (DM x.2.2)) (fun _ _=>False) (0,Vec.empty,[]) rfl (by kernel_rfl) (KY (Aw rs) bp gF cF (by omega)) (fun _=>rfl)
  ⟨rfl,rfl,Vec.OK.empty 1⟩ [] rfl (fun k x W1 _ hp=>⟨by rw[eF];exact Ae.of_bx hp 8 rfl rfl,fun m hm=>hFr hp 1 rfl m (by omega)⟩) ?_ ?_ (fun _ _ _ _ _ h=>h.elim)
 ·rintro j' ⟨j,V,mk⟩ d l rec L hj ⟨e1,hmk,hV⟩ hrec
  obtain rfl:j=j':=e1
  have hmk:mk.map (·.2)=Ir (Aw rs) z j:=hmk
  have hV:V.OK 1 mk.length (DM mk):=hV
  obtain⟨q,hq⟩: ∃q,q=(prs (Aw rs)).getD j (0,0):=⟨_,rfl⟩
  have hqm:q∈prs (Aw rs):=by rw[hq,List.getD_eq_getElem?_getD,List.getElem?_eq_getElem hj];exact List.getElem_mem hj
  obtain⟨q1,q2,q3⟩:=HK.1 hqm
  have henc:Yu (Aw rs) j=[.int .i64 (q.1:Nat), .int .i64 (q.2:Nat)]:=by rw[hq]
  rw[henc]
  have hsu:=Uu (z:=z) hj
  rw[←hq] at hsu
  have hml:mk.length≤576:=by
   have:=congrArg List.length hmk
   rw[List.length_map] at this
   have:=hwl j
   omega
  refine zA (zB (wP rfl (Aa (zE (zB (wP rfl (Aa ?_)))))))
  refine CL 11 hrec rfl ?_
  refine B6 (zA ?_)
  refine zT Tryz.mixed (by kernel_rfl) ?_
  refine qB 5 rfl rfl rfl (qP rfl ?_)
  refine qJ ?_
  refine Ap rfl rfl rfl rfl (fun W hp=>Ae.load 0 tH rfl ((fun W1 hp=>hPr hp 3 rfl q.1 (by omega)) W hp) rfl) ?_
  refine qB 5 rfl rfl rfl (qP rfl ?_)
  refine qJ ?_
  refine Ap rfl rfl rfl rfl (fun W hp=>Ae.load 0 tH rfl ((fun W1 hp=>hPr hp 3 rfl q.2 (by omega)) W hp) rfl) ?_
  refine qP rfl ?_
  by_cases c1:(fr (Aw rs) q.1).at z=(fr (Aw rs) q.2).at z
  rotate_left
  ·have e:OA (Aw rs) z q=false:=by unfold OA;rw[decide_eq_false c1];rfl
   rw[e] at hsu
   have hsu:Ir (Aw rs) z (j+1)=Ir (Aw rs) z j:=hsu
   refine AF 41 (.bool false) rfl (congrArg Value.bool ((Bf _ _).trans (decide_eq_false fun h=>c1 (CQ.1 h)))) ?_
   refine qP rfl ?_
   iterate 10 refine BG rfl rfl ?_
   refine qP rfl (AE (Aa (zE (zS rfl (zI (zN ?_))))))
   exact B5 11 (j+1,V,mk) hrec rfl ⟨rfl,hmk.trans hsu.symm,hV⟩ [] rfl
  refine AF 41 (.bool true) rfl (congrArg Value.bool ((Bf _ _).trans (decide_eq_true (by rw[c1])))) ?_
  refine qP rfl (qB 4 rfl rfl rfl (qP rfl ?_))
  refine qJ ?_
  refine Ap rfl rfl rfl rfl (fun W hp=>Ae.load 0 tH rfl ((fun W1 hp=>hFr hp 2 rfl q.1 (by omega)) W hp) rfl) ?_
  refine qB 4 rfl rfl rfl (qP rfl ?_)
  refine qJ ?_
  refine Ap rfl rfl rfl rfl (fun W hp=>Ae.load 0 tH rfl ((fun W1 hp=>hFr hp 2 rfl q.2 (by omega)) W hp) rfl) ?_
  refine A8 rfl rfl rfl rfl rfl rfl (by kernel_rfl) (fun W1 _=>OD (fr (Aw rs) q.1) (fr (Aw rs) q.2) W1) ?_
  have e:OA (Aw rs) z q= !H0 (fr (Aw rs) q.1) (fr (Aw rs) q.2):=by unfold OA;rw[decide_eq_true c1];rfl
  refine qP rfl (qP rfl (AE (Aa (zE ?_))))
  refine Al rfl (fun hc=> ?_) (fun hc=> ?_)
  ·have hc:(!H0 (fr (Aw rs) q.1) (fr (Aw rs) q.2))=true:=hc
   rw[e,if_pos hc] at hsu
   refine zB (wB 6 rfl rfl rfl (wP rfl (wP rfl ?_)))
   refine A4 Tryz.hZ tH rfl rfl rfl rfl rfl rfl rfl rfl rfl rfl rfl fun bA=> ?_
   refine A4 Tryz.hZ tH rfl rfl rfl rfl rfl rfl rfl rfl rfl rfl rfl fun bB=> ?_
   refine AO (V:=V) (len:=mk.length) (xs:=DM mk) 7 13 Tryz.vec66 (mk.length+1) (DM (mk++[(bA,q)])) rfl rfl rfl rfl rfl rfl rfl rfl rfl rfl rfl hV rfl rfl rfl (by rw[R0];rfl) (by simp only[maxLen];omega) (by omega) rfl ?_
   intro gV cV jV hV1
   refine wS 6 rfl rfl rfl (Aa (zN ?_))
   refine KP 8 12 (prB (mk++[(bA,q)])) rfl rfl rfl (WB mk bA q) ?_
   have hl1:(mk++[(bA,q)]).length=mk.length+1:=by rw[List.length_append];rfl
   exact B5 11 (j+1,⟨some gV,cV,jV⟩,mk++[(bA,q)]) hrec rfl ⟨rfl,by show(mk++[(bA,q)]).map _=Ir (Aw rs) z (j+1);rw[hsu,List.map_append,hmk];rfl,by show(⟨some gV,cV,jV⟩:Vec).OK 1 (mk++[(bA,q)]).length _;rw[hl1];exact hV1⟩ [C9,_] (by show _=[_,_,_,_,_,_,bxE b10 66 (.slice (some ⟨gV,0,none⟩) (mk++[(bA,q)]).length cV),_,_,_,_,_,_,_];rw[hl1];rfl)
  ·have hc:(!H0 (fr (Aw rs) q.1) (fr (Aw rs) q.2))=false:=hc
   rw[e,if_neg (by rw[hc];decide)] at hsu
   refine zI (zN ?_)
   exact B5 11 (j+1,V,mk) hrec rfl ⟨rfl,hmk.trans hsu.symm,hV⟩ [] rfl
 ·rintro⟨j,V,mk⟩ d l rec ⟨e1,hmk,hV⟩
  obtain rfl:j=(prs (Aw rs)).length:=e1
  have hmk:mk.map (·.2)=Ir (Aw rs) z (prs (Aw rs)).length:=hmk
  rw[VY] at hmk
  have hV:V.OK 1 mk.length (DM mk):=hV
  refine zN (zE (zA (zB (wB 5 rfl rfl rfl (wP rfl (wP rfl (Aa (zE (zO ?_)))))))))
  refine Dp 9 rfl ?_
  exact Au tH rfl (.tmp rfl) (.tmp rfl) (V,mk) rfl ⟨hmk,hV⟩ fun W1 hp=>Ag.of_hp (hp.pick (l:=[V.bx 58 (DM mk),prB mk]) [6,7] (by decide) rfl)
end
end Go.Proofs.YtlagebbefnnnnaaGreatDoor
